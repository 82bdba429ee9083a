/-
  No cell of these rows narrows 'for every input' (looked for: loops, veiled, ifaces, maps, wideKeys, modest, calm, conditions, laid).
  DERIVED. THE GIVEN ROWS OF THIS SEAT. 5 by the template 'for every input the law returns true; each argument reads behind the call as it read before'; 0 by the template 'total and deterministic' (their statements: YtkbfldgebcpigaaTotals.lean).
  GIVEN WITH THE SEED: the statements are not yours to turn. If you find one false, say at which input.
  Laid BY PROGRAM, IN A SANDBOX (cutbox-rows.mjs): the forced cells as the released guide's own fill.sh prints them over the translation 8f532164dc537836… (all of the seat's roots in one cut). By AI agents, Wed Nov 11 2026. No macro, syntax, notation, axiom, sorry.
-/
import Derived.Test.YtkbfldgebcpigaaChecked
import GoSem.Claim
import GoSem.ClaimJoined
import GoSem.ClaimMapViews
import Derived.JoinedTies
import Derived.KernelRfl
namespace Go.Proofs.Ytkbfldgebcpigaa
/- THE CELL 'sum', in the pinned program and in every row, IS THE sha256 OF THE DUMP (.gsa) THAT YtkbfldgebcpigaaProg.lean LOADS. Nothing in Lean hashes anything: it is a label: what it is worth is what the hold of that sum in a sandbox is worth. -/
noncomputable def Try.pinned : Pinned := { name := "ytkbfldgebcpigaa", sum := "8f532164dc537836c78b15ae78138d51c13163d73eef195302b1aeac3b35fa1b", checked := Try.checked }
namespace Rows
def none {H : Type} : Left H := { results := [], args := [] }

/-- 'synopticlaw07.BitsPads': WHATEVER THE INPUT: true; the input reads as it did. -/
def bitsPadsSpec : ChangeSpec := { name := "bitsPads", fn := fun _ => fun
  | [d] => { results := [.lit (.bool true)], args := [d] }
  | _ => none }
def bitsPadsRow : OpenClaim := { program := "ytkbfldgebcpigaa", sum := "8f532164dc537836c78b15ae78138d51c13163d73eef195302b1aeac3b35fa1b", func := "synoptic/synopticlaw07.BitsPads", spec := "bitsPads", apart := false }
def BitsPadsSaid : Prop := bitsPadsRow.holds Try.pinned (OpenSpec.ofChange bitsPadsSpec)

/-- ITS FALSE NEIGHBOUR: 'it returns false'. Refute it at one input. -/
def bitsPadsWrong : ChangeSpec := { name := "bitsPads", fn := fun _ => fun
  | [d] => { results := [.lit (.bool false)], args := [d] }
  | _ => none }
def BitsPadsWrongFalsely : Prop := bitsPadsRow.holds Try.pinned (OpenSpec.ofChange bitsPadsWrong)

/-- 'synopticlaw07.BitsJoin': WHATEVER THE INPUT: true; the input reads as it did. -/
def bitsJoinSpec : ChangeSpec := { name := "bitsJoin", fn := fun _ => fun
  | [d] => { results := [.lit (.bool true)], args := [d] }
  | _ => none }
def bitsJoinRow : OpenClaim := { program := "ytkbfldgebcpigaa", sum := "8f532164dc537836c78b15ae78138d51c13163d73eef195302b1aeac3b35fa1b", func := "synoptic/synopticlaw07.BitsJoin", spec := "bitsJoin", apart := false }
def BitsJoinSaid : Prop := bitsJoinRow.holds Try.pinned (OpenSpec.ofChange bitsJoinSpec)

/-- ITS FALSE NEIGHBOUR: 'it returns false'. Refute it at one input. -/
def bitsJoinWrong : ChangeSpec := { name := "bitsJoin", fn := fun _ => fun
  | [d] => { results := [.lit (.bool false)], args := [d] }
  | _ => none }
def BitsJoinWrongFalsely : Prop := bitsJoinRow.holds Try.pinned (OpenSpec.ofChange bitsJoinWrong)

/-- 'synopticlaw07.BitsBack': WHATEVER THE INPUT: true; the input reads as it did. -/
def bitsBackSpec : ChangeSpec := { name := "bitsBack", fn := fun _ => fun
  | [d] => { results := [.lit (.bool true)], args := [d] }
  | _ => none }
def bitsBackRow : OpenClaim := { program := "ytkbfldgebcpigaa", sum := "8f532164dc537836c78b15ae78138d51c13163d73eef195302b1aeac3b35fa1b", func := "synoptic/synopticlaw07.BitsBack", spec := "bitsBack", apart := false }
def BitsBackSaid : Prop := bitsBackRow.holds Try.pinned (OpenSpec.ofChange bitsBackSpec)

/-- ITS FALSE NEIGHBOUR: 'it returns false'. Refute it at one input. -/
def bitsBackWrong : ChangeSpec := { name := "bitsBack", fn := fun _ => fun
  | [d] => { results := [.lit (.bool false)], args := [d] }
  | _ => none }
def BitsBackWrongFalsely : Prop := bitsBackRow.holds Try.pinned (OpenSpec.ofChange bitsBackWrong)

/-- 'synopticlaw07.BitsLimit': WHATEVER THE INPUT: true; the input reads as it did. -/
def bitsLimitSpec : ChangeSpec := { name := "bitsLimit", fn := fun _ => fun
  | [d1, d2] => { results := [.lit (.bool true)], args := [d1, d2] }
  | _ => none }
def bitsLimitRow : OpenClaim := { program := "ytkbfldgebcpigaa", sum := "8f532164dc537836c78b15ae78138d51c13163d73eef195302b1aeac3b35fa1b", func := "synoptic/synopticlaw07.BitsLimit", spec := "bitsLimit", apart := false }
def BitsLimitSaid : Prop := bitsLimitRow.holds Try.pinned (OpenSpec.ofChange bitsLimitSpec)

/-- ITS FALSE NEIGHBOUR: 'it returns false'. Refute it at one input. -/
def bitsLimitWrong : ChangeSpec := { name := "bitsLimit", fn := fun _ => fun
  | [d1, d2] => { results := [.lit (.bool false)], args := [d1, d2] }
  | _ => none }
def BitsLimitWrongFalsely : Prop := bitsLimitRow.holds Try.pinned (OpenSpec.ofChange bitsLimitWrong)

/-- 'synopticlaw07.BitsAnswers': WHATEVER THE INPUT: true; the input reads as it did. -/
def bitsAnswersSpec : ChangeSpec := { name := "bitsAnswers", fn := fun _ => fun
  | [d1, d2, d3, d4, d5] => { results := [.lit (.bool true)], args := [d1, d2, d3, d4, d5] }
  | _ => none }
def bitsAnswersRow : OpenClaim := { program := "ytkbfldgebcpigaa", sum := "8f532164dc537836c78b15ae78138d51c13163d73eef195302b1aeac3b35fa1b", func := "synoptic/synopticlaw07.BitsAnswers", spec := "bitsAnswers", apart := false }
def BitsAnswersSaid : Prop := bitsAnswersRow.holds Try.pinned (OpenSpec.ofChange bitsAnswersSpec)

/-- ITS FALSE NEIGHBOUR: 'it returns false'. Refute it at one input. -/
def bitsAnswersWrong : ChangeSpec := { name := "bitsAnswers", fn := fun _ => fun
  | [d1, d2, d3, d4, d5] => { results := [.lit (.bool false)], args := [d1, d2, d3, d4, d5] }
  | _ => none }
def BitsAnswersWrongFalsely : Prop := bitsAnswersRow.holds Try.pinned (OpenSpec.ofChange bitsAnswersWrong)

/- THE SECOND FORM. 'bulk': how many values and letters a reading holds, each counted each time it is reached (what is shared counts as often as it is met; a slice's spare places count too). A statement '..UptoSaid' is the law's where the arguments, and the package variables that the reading takes, are together of bulk at most 1048576: NARROWER than '..Said'. Prove '..Said' where nothing that the law and all that it calls make is longer than what came in: it says more and counts as full. Else prove '..UptoSaid'. A law counts once. -/
mutual
def uptoBulk {H : Type} : DataW H → Nat
  | .lit (.string bytes) => bytes.length + 1
  | .lit _ => 1
  | .nil => 1
  | .ptr d => uptoBulk d + 1
  | .slice elems spare => uptoBulkAll elems + uptoBulkAll spare + 1
  | .agg parts => uptoBulkAll parts + 1
  | .iface _ d => uptoBulk d + 1
  | .map entries => uptoBulkEntries entries + 1
  | .held _ => 1
def uptoBulkAll {H : Type} : List (DataW H) → Nat
  | [] => 0
  | d :: r => uptoBulk d + uptoBulkAll r
def uptoBulkEntries {H : Type} : List (Lit × DataW H) → Nat
  | [] => 0
  | x :: r => uptoBulkEntry x + uptoBulkEntries r
def uptoBulkEntry {H : Type} : Lit × DataW H → Nat
  | (.string bytes, d) => bytes.length + uptoBulk d + 1
  | (_, d) => uptoBulk d + 1
 end
def uptoSmall : (H : Type) → List (DataW H) → Bool := fun _ ds => decide (uptoBulkAll ds ≤ 1048576)
def OpenSpec.upto (s : _root_.Go.ChangeSpec) : _root_.Go.OpenSpec := { _root_.Go.OpenSpec.ofChange s with cond := some uptoSmall }

/-- 'synopticlaw07.BitsPads', WHERE WHAT IT READS IS OF BULK AT MOST 1048576: true; the input reads as it did. -/
def bitsPadsUptoRow : OpenClaim := { program := "ytkbfldgebcpigaa", sum := "8f532164dc537836c78b15ae78138d51c13163d73eef195302b1aeac3b35fa1b", func := "synoptic/synopticlaw07.BitsPads", spec := "bitsPads", apart := false, narrowed := true }
def BitsPadsUptoSaid : Prop := bitsPadsUptoRow.holds Try.pinned (OpenSpec.upto bitsPadsSpec)

/-- 'synopticlaw07.BitsJoin', WHERE WHAT IT READS IS OF BULK AT MOST 1048576: true; the input reads as it did. -/
def bitsJoinUptoRow : OpenClaim := { program := "ytkbfldgebcpigaa", sum := "8f532164dc537836c78b15ae78138d51c13163d73eef195302b1aeac3b35fa1b", func := "synoptic/synopticlaw07.BitsJoin", spec := "bitsJoin", apart := false, narrowed := true }
def BitsJoinUptoSaid : Prop := bitsJoinUptoRow.holds Try.pinned (OpenSpec.upto bitsJoinSpec)

/-- 'synopticlaw07.BitsBack', WHERE WHAT IT READS IS OF BULK AT MOST 1048576: true; the input reads as it did. -/
def bitsBackUptoRow : OpenClaim := { program := "ytkbfldgebcpigaa", sum := "8f532164dc537836c78b15ae78138d51c13163d73eef195302b1aeac3b35fa1b", func := "synoptic/synopticlaw07.BitsBack", spec := "bitsBack", apart := false, narrowed := true }
def BitsBackUptoSaid : Prop := bitsBackUptoRow.holds Try.pinned (OpenSpec.upto bitsBackSpec)

/-- 'synopticlaw07.BitsLimit', WHERE WHAT IT READS IS OF BULK AT MOST 1048576: true; the input reads as it did. -/
def bitsLimitUptoRow : OpenClaim := { program := "ytkbfldgebcpigaa", sum := "8f532164dc537836c78b15ae78138d51c13163d73eef195302b1aeac3b35fa1b", func := "synoptic/synopticlaw07.BitsLimit", spec := "bitsLimit", apart := false, narrowed := true }
def BitsLimitUptoSaid : Prop := bitsLimitUptoRow.holds Try.pinned (OpenSpec.upto bitsLimitSpec)

/-- 'synopticlaw07.BitsAnswers', WHERE WHAT IT READS IS OF BULK AT MOST 1048576: true; the input reads as it did. -/
def bitsAnswersUptoRow : OpenClaim := { program := "ytkbfldgebcpigaa", sum := "8f532164dc537836c78b15ae78138d51c13163d73eef195302b1aeac3b35fa1b", func := "synoptic/synopticlaw07.BitsAnswers", spec := "bitsAnswers", apart := false, narrowed := true }
def BitsAnswersUptoSaid : Prop := bitsAnswersUptoRow.holds Try.pinned (OpenSpec.upto bitsAnswersSpec)

end Rows
end Go.Proofs.Ytkbfldgebcpigaa
