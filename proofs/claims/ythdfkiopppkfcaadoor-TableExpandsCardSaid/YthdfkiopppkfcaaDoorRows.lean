/-
  NARROWER THAN 'FOR EVERY INPUT', by the rows' own cells (each row's printed sentence says how): TableNumbers: laid · TableJoins: laid · TableSequence: laid · TableLimits: laid · TableExpands: laid.
  DERIVED. THE GIVEN ROWS OF THIS SEAT. 5 by the template 'for every input the law returns true; each argument reads behind the call as it read before'; 0 by the template 'total and deterministic' (their statements: YthdfkiopppkfcaaDoorTotals.lean).
  GIVEN WITH THE SEED: the statements are not yours to turn. If you find one false, say at which input.
  Laid BY PROGRAM, IN A SANDBOX (cutbox-rows.mjs): the forced cells as the released guide's own fill.sh prints them over the translation fa096b6e8a63d45f… (all of the seat's roots in one cut). By AI agents, Wed Nov 11 2026. No macro, syntax, notation, axiom, sorry.
-/
import Derived.Test.YthdfkiopppkfcaaDoorChecked
import GoSem.Claim
import GoSem.ClaimJoined
import GoSem.ClaimMapViews
import Derived.JoinedTies
import Derived.KernelRfl
namespace Go.Proofs.YthdfkiopppkfcaaDoor
/- THE CELL 'sum', in the pinned program and in every row, IS THE sha256 OF THE DUMP (.gsa) THAT YthdfkiopppkfcaaDoorProg.lean LOADS. Nothing in Lean hashes anything: it is a label: what it is worth is what the hold of that sum in a sandbox is worth. -/
noncomputable def Tryd.pinned : Pinned := { name := "ythdfkiopppkfcaadoor", sum := "fa096b6e8a63d45f35db170eb3a1c9b13e4852947383ad8d68badc15a87e6d66", checked := Tryd.checked }
namespace Rows
def none {H : Type} : Left H := { results := [], args := [] }

/- WHAT THE LISTED PACKAGE-LEVEL VARIABLES READ AS WHEN THE CALL BEGINS. Each datum BY PROGRAM (the guide's laid-datum.mjs) off the statement by which the dump's own 'gosem.cut.vars' lays the variable. In a bare row this is a premise. The card (YthdfkiopppkfcaaDoorCards.lean) ties it to the program's text. -/
def laid_synoptic_element_bounds {H : Type} : DataW H := .agg [.agg [.lit (.int .i64 8000), .lit (.int .i64 11000)], .agg [.lit (.int .i64 1800), .lit (.int .i64 3300)], .agg [.lit (.int .i64 1800), .lit (.int .i64 3300)], .agg [.lit (.int .i64 (-1000)), .lit (.int .i64 1000)], .agg [.lit (.int .i64 (-1000)), .lit (.int .i64 1000)], .agg [.lit (.int .i64 900), .lit (.int .i64 1700)], .agg [.lit (.int .i64 2000), .lit (.int .i64 3200)], .agg [.lit (.int .i64 2400), .lit (.int .i64 3400)], .agg [.lit (.int .i64 2000), .lit (.int .i64 3000)], .agg [.lit (.int .i64 4400), .lit (.int .i64 6200)], .agg [.lit (.int .i64 2000), .lit (.int .i64 2900)]]

/-- 'synopticlaw08.TableNumbers': WHATEVER THE INPUT: true; the input reads as it did. -/
def tableNumbersSpec : ChangeSpec := { name := "tableNumbers", fn := fun _ => fun
  | [d1, d2, d3, d4] => { results := [.lit (.bool true)], args := [d1, d2, d3, d4] }
  | _ => none }
def tableNumbersRow : OpenClaim := { program := "ythdfkiopppkfcaadoor", sum := "fa096b6e8a63d45f35db170eb3a1c9b13e4852947383ad8d68badc15a87e6d66", func := "synoptic/synopticlaw08.TableNumbers", spec := "tableNumbers", unfollowed := true, recurses := true, named := ["synoptic/element.bounds"], apart := false, laid := [("synoptic/element.bounds", laid_synoptic_element_bounds)] }
def TableNumbersSaid : Prop := tableNumbersRow.holds Tryd.pinned (OpenSpec.ofChange tableNumbersSpec)

/-- ITS FALSE NEIGHBOUR: 'it returns false'. Refute it at one input. -/
def tableNumbersWrong : ChangeSpec := { name := "tableNumbers", fn := fun _ => fun
  | [d1, d2, d3, d4] => { results := [.lit (.bool false)], args := [d1, d2, d3, d4] }
  | _ => none }
def TableNumbersWrongFalsely : Prop := tableNumbersRow.holds Tryd.pinned (OpenSpec.ofChange tableNumbersWrong)

/-- 'synopticlaw08.TableJoins': WHATEVER THE INPUT: true; the input reads as it did. -/
def tableJoinsSpec : ChangeSpec := { name := "tableJoins", fn := fun _ => fun
  | [d] => { results := [.lit (.bool true)], args := [d] }
  | _ => none }
def tableJoinsRow : OpenClaim := { program := "ythdfkiopppkfcaadoor", sum := "fa096b6e8a63d45f35db170eb3a1c9b13e4852947383ad8d68badc15a87e6d66", func := "synoptic/synopticlaw08.TableJoins", spec := "tableJoins", unfollowed := true, recurses := true, named := ["synoptic/element.bounds"], apart := false, laid := [("synoptic/element.bounds", laid_synoptic_element_bounds)] }
def TableJoinsSaid : Prop := tableJoinsRow.holds Tryd.pinned (OpenSpec.ofChange tableJoinsSpec)

/-- ITS FALSE NEIGHBOUR: 'it returns false'. Refute it at one input. -/
def tableJoinsWrong : ChangeSpec := { name := "tableJoins", fn := fun _ => fun
  | [d] => { results := [.lit (.bool false)], args := [d] }
  | _ => none }
def TableJoinsWrongFalsely : Prop := tableJoinsRow.holds Tryd.pinned (OpenSpec.ofChange tableJoinsWrong)

/-- 'synopticlaw08.TableSequence': WHATEVER THE INPUT: true; the input reads as it did. -/
def tableSequenceSpec : ChangeSpec := { name := "tableSequence", fn := fun _ => fun
  | [d] => { results := [.lit (.bool true)], args := [d] }
  | _ => none }
def tableSequenceRow : OpenClaim := { program := "ythdfkiopppkfcaadoor", sum := "fa096b6e8a63d45f35db170eb3a1c9b13e4852947383ad8d68badc15a87e6d66", func := "synoptic/synopticlaw08.TableSequence", spec := "tableSequence", unfollowed := true, recurses := true, named := ["synoptic/element.bounds"], apart := false, laid := [("synoptic/element.bounds", laid_synoptic_element_bounds)] }
def TableSequenceSaid : Prop := tableSequenceRow.holds Tryd.pinned (OpenSpec.ofChange tableSequenceSpec)

/-- ITS FALSE NEIGHBOUR: 'it returns false'. Refute it at one input. -/
def tableSequenceWrong : ChangeSpec := { name := "tableSequence", fn := fun _ => fun
  | [d] => { results := [.lit (.bool false)], args := [d] }
  | _ => none }
def TableSequenceWrongFalsely : Prop := tableSequenceRow.holds Tryd.pinned (OpenSpec.ofChange tableSequenceWrong)

/-- 'synopticlaw08.TableLimits': WHATEVER THE INPUT: true; the input reads as it did. -/
def tableLimitsSpec : ChangeSpec := { name := "tableLimits", fn := fun _ => fun
  | [d] => { results := [.lit (.bool true)], args := [d] }
  | _ => none }
def tableLimitsRow : OpenClaim := { program := "ythdfkiopppkfcaadoor", sum := "fa096b6e8a63d45f35db170eb3a1c9b13e4852947383ad8d68badc15a87e6d66", func := "synoptic/synopticlaw08.TableLimits", spec := "tableLimits", unfollowed := true, recurses := true, named := ["synoptic/element.bounds"], apart := false, laid := [("synoptic/element.bounds", laid_synoptic_element_bounds)] }
def TableLimitsSaid : Prop := tableLimitsRow.holds Tryd.pinned (OpenSpec.ofChange tableLimitsSpec)

/-- ITS FALSE NEIGHBOUR: 'it returns false'. Refute it at one input. -/
def tableLimitsWrong : ChangeSpec := { name := "tableLimits", fn := fun _ => fun
  | [d] => { results := [.lit (.bool false)], args := [d] }
  | _ => none }
def TableLimitsWrongFalsely : Prop := tableLimitsRow.holds Tryd.pinned (OpenSpec.ofChange tableLimitsWrong)

/-- 'synopticlaw08.TableExpands': WHATEVER THE INPUT: true; the input reads as it did. -/
def tableExpandsSpec : ChangeSpec := { name := "tableExpands", fn := fun _ => fun
  | [d1, d2, d3, d4] => { results := [.lit (.bool true)], args := [d1, d2, d3, d4] }
  | _ => none }
def tableExpandsRow : OpenClaim := { program := "ythdfkiopppkfcaadoor", sum := "fa096b6e8a63d45f35db170eb3a1c9b13e4852947383ad8d68badc15a87e6d66", func := "synoptic/synopticlaw08.TableExpands", spec := "tableExpands", unfollowed := true, recurses := true, named := ["synoptic/element.bounds"], apart := false, laid := [("synoptic/element.bounds", laid_synoptic_element_bounds)] }
def TableExpandsSaid : Prop := tableExpandsRow.holds Tryd.pinned (OpenSpec.ofChange tableExpandsSpec)

/-- ITS FALSE NEIGHBOUR: 'it returns false'. Refute it at one input. -/
def tableExpandsWrong : ChangeSpec := { name := "tableExpands", fn := fun _ => fun
  | [d1, d2, d3, d4] => { results := [.lit (.bool false)], args := [d1, d2, d3, d4] }
  | _ => none }
def TableExpandsWrongFalsely : Prop := tableExpandsRow.holds Tryd.pinned (OpenSpec.ofChange tableExpandsWrong)

/- THE SECOND FORM. 'bulk': how many values and letters a reading holds, each counted each time it is reached (what is shared counts as often as it is met; a slice's spare places count too). A statement '..UptoSaid' is the law's where the arguments, and the package variables that the reading takes, are together of bulk at most 1048576: NARROWER than '..Said'. Prove '..Said' where nothing that the law and all that it calls make is longer than what came in: it says more and counts as full. Else prove '..UptoSaid'. A law counts once. -/
mutual
def uptoBulk {H : Type} : DataW H → Nat
  | .lit (.string bytes) => bytes.length + 1
  | .lit _ => 1
  | .nil => 1
  | .ptr d => uptoBulk d + 1
  | .slice elems spare => uptoBulkAll elems + uptoBulkAll spare + 1
  | .agg parts => uptoBulkAll parts + 1
  | .iface _ d => uptoBulk d + 1
  | .map entries => uptoBulkEntries entries + 1
  | .held _ => 1
def uptoBulkAll {H : Type} : List (DataW H) → Nat
  | [] => 0
  | d :: r => uptoBulk d + uptoBulkAll r
def uptoBulkEntries {H : Type} : List (Lit × DataW H) → Nat
  | [] => 0
  | x :: r => uptoBulkEntry x + uptoBulkEntries r
def uptoBulkEntry {H : Type} : Lit × DataW H → Nat
  | (.string bytes, d) => bytes.length + uptoBulk d + 1
  | (_, d) => uptoBulk d + 1
 end
def uptoSmall : (H : Type) → List (DataW H) → Bool := fun _ ds => decide (uptoBulkAll ds ≤ 1048576)
def OpenSpec.upto (s : _root_.Go.ChangeSpec) : _root_.Go.OpenSpec := { _root_.Go.OpenSpec.ofChange s with cond := some uptoSmall }

/-- 'synopticlaw08.TableNumbers', WHERE WHAT IT READS IS OF BULK AT MOST 1048576: true; the input reads as it did. -/
def tableNumbersUptoRow : OpenClaim := { program := "ythdfkiopppkfcaadoor", sum := "fa096b6e8a63d45f35db170eb3a1c9b13e4852947383ad8d68badc15a87e6d66", func := "synoptic/synopticlaw08.TableNumbers", spec := "tableNumbers", unfollowed := true, recurses := true, named := ["synoptic/element.bounds"], apart := false, laid := [("synoptic/element.bounds", laid_synoptic_element_bounds)], narrowed := true }
def TableNumbersUptoSaid : Prop := tableNumbersUptoRow.holds Tryd.pinned (OpenSpec.upto tableNumbersSpec)

/-- 'synopticlaw08.TableJoins', WHERE WHAT IT READS IS OF BULK AT MOST 1048576: true; the input reads as it did. -/
def tableJoinsUptoRow : OpenClaim := { program := "ythdfkiopppkfcaadoor", sum := "fa096b6e8a63d45f35db170eb3a1c9b13e4852947383ad8d68badc15a87e6d66", func := "synoptic/synopticlaw08.TableJoins", spec := "tableJoins", unfollowed := true, recurses := true, named := ["synoptic/element.bounds"], apart := false, laid := [("synoptic/element.bounds", laid_synoptic_element_bounds)], narrowed := true }
def TableJoinsUptoSaid : Prop := tableJoinsUptoRow.holds Tryd.pinned (OpenSpec.upto tableJoinsSpec)

/-- 'synopticlaw08.TableSequence', WHERE WHAT IT READS IS OF BULK AT MOST 1048576: true; the input reads as it did. -/
def tableSequenceUptoRow : OpenClaim := { program := "ythdfkiopppkfcaadoor", sum := "fa096b6e8a63d45f35db170eb3a1c9b13e4852947383ad8d68badc15a87e6d66", func := "synoptic/synopticlaw08.TableSequence", spec := "tableSequence", unfollowed := true, recurses := true, named := ["synoptic/element.bounds"], apart := false, laid := [("synoptic/element.bounds", laid_synoptic_element_bounds)], narrowed := true }
def TableSequenceUptoSaid : Prop := tableSequenceUptoRow.holds Tryd.pinned (OpenSpec.upto tableSequenceSpec)

/-- 'synopticlaw08.TableLimits', WHERE WHAT IT READS IS OF BULK AT MOST 1048576: true; the input reads as it did. -/
def tableLimitsUptoRow : OpenClaim := { program := "ythdfkiopppkfcaadoor", sum := "fa096b6e8a63d45f35db170eb3a1c9b13e4852947383ad8d68badc15a87e6d66", func := "synoptic/synopticlaw08.TableLimits", spec := "tableLimits", unfollowed := true, recurses := true, named := ["synoptic/element.bounds"], apart := false, laid := [("synoptic/element.bounds", laid_synoptic_element_bounds)], narrowed := true }
def TableLimitsUptoSaid : Prop := tableLimitsUptoRow.holds Tryd.pinned (OpenSpec.upto tableLimitsSpec)

/-- 'synopticlaw08.TableExpands', WHERE WHAT IT READS IS OF BULK AT MOST 1048576: true; the input reads as it did. -/
def tableExpandsUptoRow : OpenClaim := { program := "ythdfkiopppkfcaadoor", sum := "fa096b6e8a63d45f35db170eb3a1c9b13e4852947383ad8d68badc15a87e6d66", func := "synoptic/synopticlaw08.TableExpands", spec := "tableExpands", unfollowed := true, recurses := true, named := ["synoptic/element.bounds"], apart := false, laid := [("synoptic/element.bounds", laid_synoptic_element_bounds)], narrowed := true }
def TableExpandsUptoSaid : Prop := tableExpandsUptoRow.holds Tryd.pinned (OpenSpec.upto tableExpandsSpec)

end Rows
end Go.Proofs.YthdfkiopppkfcaaDoor
