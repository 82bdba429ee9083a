/-
  NARROWER THAN 'FOR EVERY INPUT', by the rows' own cells (each row's printed sentence says how): SeasonAnswers: laid · SeasonLearned: laid · SeasonWider: laid · SeasonNone: laid.
  DERIVED. THE GIVEN ROWS OF THIS SEAT. 4 by the template 'for every input the law returns true; each argument reads behind the call as it read before'; 0 by the template 'total and deterministic' (their statements: YtceknalhogbbnaaDoorTotals.lean).
  GIVEN WITH THE SEED: the statements are not yours to turn. If you find one false, say at which input.
  Laid BY PROGRAM, IN A SANDBOX (cutbox-rows.mjs): the forced cells as the released guide's own fill.sh prints them over the translation ae866390b75de6e0… (all of the seat's roots in one cut). By AI agents, Wed Nov 11 2026. No macro, syntax, notation, axiom, sorry.
-/
import Derived.Test.YtceknalhogbbnaaDoorChecked
import GoSem.Claim
import GoSem.ClaimJoined
import GoSem.ClaimMapViews
import Derived.JoinedTies
import Derived.KernelRfl
namespace Go.Proofs.YtceknalhogbbnaaDoor
/- THE CELL 'sum', in the pinned program and in every row, IS THE sha256 OF THE DUMP (.gsa) THAT YtceknalhogbbnaaDoorProg.lean LOADS. Nothing in Lean hashes anything: it is a label: what it is worth is what the hold of that sum in a sandbox is worth. -/
noncomputable def Tryd.pinned : Pinned := { name := "ytceknalhogbbnaadoor", sum := "ae866390b75de6e0be13c93f4c590550ce97831cb2ffcc0319c0c8a3ce0d6fa5", checked := Tryd.checked }
namespace Rows
def none {H : Type} : Left H := { results := [], args := [] }

/- WHAT THE LISTED PACKAGE-LEVEL VARIABLES READ AS WHEN THE CALL BEGINS. Each datum BY PROGRAM (the guide's laid-datum.mjs) off the statement by which the dump's own 'gosem.cut.vars' lays the variable. In a bare row this is a premise. The card (YtceknalhogbbnaaDoorCards.lean) ties it to the program's text. -/
def laid_synoptic_place_corners {H : Type} : DataW H := .agg [.agg [.lit (.int .i64 0), .lit (.int .i64 1), .lit (.int .i64 2)], .agg [.lit (.int .i64 0), .lit (.int .i64 2), .lit (.int .i64 3)], .agg [.lit (.int .i64 0), .lit (.int .i64 3), .lit (.int .i64 4)], .agg [.lit (.int .i64 0), .lit (.int .i64 4), .lit (.int .i64 5)], .agg [.lit (.int .i64 0), .lit (.int .i64 5), .lit (.int .i64 1)], .agg [.lit (.int .i64 1), .lit (.int .i64 6), .lit (.int .i64 2)], .agg [.lit (.int .i64 2), .lit (.int .i64 7), .lit (.int .i64 3)], .agg [.lit (.int .i64 3), .lit (.int .i64 8), .lit (.int .i64 4)], .agg [.lit (.int .i64 4), .lit (.int .i64 9), .lit (.int .i64 5)], .agg [.lit (.int .i64 5), .lit (.int .i64 10), .lit (.int .i64 1)], .agg [.lit (.int .i64 6), .lit (.int .i64 7), .lit (.int .i64 2)], .agg [.lit (.int .i64 7), .lit (.int .i64 8), .lit (.int .i64 3)], .agg [.lit (.int .i64 8), .lit (.int .i64 9), .lit (.int .i64 4)], .agg [.lit (.int .i64 9), .lit (.int .i64 10), .lit (.int .i64 5)], .agg [.lit (.int .i64 10), .lit (.int .i64 6), .lit (.int .i64 1)], .agg [.lit (.int .i64 11), .lit (.int .i64 7), .lit (.int .i64 6)], .agg [.lit (.int .i64 11), .lit (.int .i64 8), .lit (.int .i64 7)], .agg [.lit (.int .i64 11), .lit (.int .i64 9), .lit (.int .i64 8)], .agg [.lit (.int .i64 11), .lit (.int .i64 10), .lit (.int .i64 9)], .agg [.lit (.int .i64 11), .lit (.int .i64 6), .lit (.int .i64 10)]]
def laid_synoptic_element_bounds {H : Type} : DataW H := .agg [.agg [.lit (.int .i64 8000), .lit (.int .i64 11000)], .agg [.lit (.int .i64 1800), .lit (.int .i64 3300)], .agg [.lit (.int .i64 1800), .lit (.int .i64 3300)], .agg [.lit (.int .i64 (-1000)), .lit (.int .i64 1000)], .agg [.lit (.int .i64 (-1000)), .lit (.int .i64 1000)], .agg [.lit (.int .i64 900), .lit (.int .i64 1700)], .agg [.lit (.int .i64 2000), .lit (.int .i64 3200)], .agg [.lit (.int .i64 2400), .lit (.int .i64 3400)], .agg [.lit (.int .i64 2000), .lit (.int .i64 3000)], .agg [.lit (.int .i64 4400), .lit (.int .i64 6200)], .agg [.lit (.int .i64 2000), .lit (.int .i64 2900)]]

/-- 'synopticlaw15.SeasonAnswers': WHATEVER THE INPUT: true; the input reads as it did. -/
def seasonAnswersSpec : ChangeSpec := { name := "seasonAnswers", fn := fun _ => fun
  | [d1, d2, d3, d4] => { results := [.lit (.bool true)], args := [d1, d2, d3, d4] }
  | _ => none }
def seasonAnswersRow : OpenClaim := { program := "ytceknalhogbbnaadoor", sum := "ae866390b75de6e0be13c93f4c590550ce97831cb2ffcc0319c0c8a3ce0d6fa5", func := "synoptic/synopticlaw15.SeasonAnswers", spec := "seasonAnswers", unfollowed := true, recurses := true, named := ["synoptic/element.bounds", "synoptic/place.corners"], apart := false, laid := [("synoptic/place.corners", laid_synoptic_place_corners), ("synoptic/element.bounds", laid_synoptic_element_bounds)] }
def SeasonAnswersSaid : Prop := seasonAnswersRow.holds Tryd.pinned (OpenSpec.ofChange seasonAnswersSpec)

/-- ITS FALSE NEIGHBOUR: 'it returns false'. Refute it at one input. -/
def seasonAnswersWrong : ChangeSpec := { name := "seasonAnswers", fn := fun _ => fun
  | [d1, d2, d3, d4] => { results := [.lit (.bool false)], args := [d1, d2, d3, d4] }
  | _ => none }
def SeasonAnswersWrongFalsely : Prop := seasonAnswersRow.holds Tryd.pinned (OpenSpec.ofChange seasonAnswersWrong)

/-- 'synopticlaw15.SeasonLearned': WHATEVER THE INPUT: true; the input reads as it did. -/
def seasonLearnedSpec : ChangeSpec := { name := "seasonLearned", fn := fun _ => fun
  | [d] => { results := [.lit (.bool true)], args := [d] }
  | _ => none }
def seasonLearnedRow : OpenClaim := { program := "ytceknalhogbbnaadoor", sum := "ae866390b75de6e0be13c93f4c590550ce97831cb2ffcc0319c0c8a3ce0d6fa5", func := "synoptic/synopticlaw15.SeasonLearned", spec := "seasonLearned", unfollowed := true, recurses := true, named := ["synoptic/element.bounds", "synoptic/place.corners"], apart := false, laid := [("synoptic/place.corners", laid_synoptic_place_corners), ("synoptic/element.bounds", laid_synoptic_element_bounds)] }
def SeasonLearnedSaid : Prop := seasonLearnedRow.holds Tryd.pinned (OpenSpec.ofChange seasonLearnedSpec)

/-- ITS FALSE NEIGHBOUR: 'it returns false'. Refute it at one input. -/
def seasonLearnedWrong : ChangeSpec := { name := "seasonLearned", fn := fun _ => fun
  | [d] => { results := [.lit (.bool false)], args := [d] }
  | _ => none }
def SeasonLearnedWrongFalsely : Prop := seasonLearnedRow.holds Tryd.pinned (OpenSpec.ofChange seasonLearnedWrong)

/-- 'synopticlaw15.SeasonWider': WHATEVER THE INPUT: true; the input reads as it did. -/
def seasonWiderSpec : ChangeSpec := { name := "seasonWider", fn := fun _ => fun
  | [d] => { results := [.lit (.bool true)], args := [d] }
  | _ => none }
def seasonWiderRow : OpenClaim := { program := "ytceknalhogbbnaadoor", sum := "ae866390b75de6e0be13c93f4c590550ce97831cb2ffcc0319c0c8a3ce0d6fa5", func := "synoptic/synopticlaw15.SeasonWider", spec := "seasonWider", unfollowed := true, recurses := true, named := ["synoptic/element.bounds", "synoptic/place.corners"], apart := false, laid := [("synoptic/place.corners", laid_synoptic_place_corners), ("synoptic/element.bounds", laid_synoptic_element_bounds)] }
def SeasonWiderSaid : Prop := seasonWiderRow.holds Tryd.pinned (OpenSpec.ofChange seasonWiderSpec)

/-- ITS FALSE NEIGHBOUR: 'it returns false'. Refute it at one input. -/
def seasonWiderWrong : ChangeSpec := { name := "seasonWider", fn := fun _ => fun
  | [d] => { results := [.lit (.bool false)], args := [d] }
  | _ => none }
def SeasonWiderWrongFalsely : Prop := seasonWiderRow.holds Tryd.pinned (OpenSpec.ofChange seasonWiderWrong)

/-- 'synopticlaw15.SeasonNone': WHATEVER THE INPUT: true; the input reads as it did. -/
def seasonNoneSpec : ChangeSpec := { name := "seasonNone", fn := fun _ => fun
  | [d] => { results := [.lit (.bool true)], args := [d] }
  | _ => none }
def seasonNoneRow : OpenClaim := { program := "ytceknalhogbbnaadoor", sum := "ae866390b75de6e0be13c93f4c590550ce97831cb2ffcc0319c0c8a3ce0d6fa5", func := "synoptic/synopticlaw15.SeasonNone", spec := "seasonNone", unfollowed := true, recurses := true, named := ["synoptic/element.bounds", "synoptic/place.corners"], apart := false, laid := [("synoptic/place.corners", laid_synoptic_place_corners), ("synoptic/element.bounds", laid_synoptic_element_bounds)] }
def SeasonNoneSaid : Prop := seasonNoneRow.holds Tryd.pinned (OpenSpec.ofChange seasonNoneSpec)

/-- ITS FALSE NEIGHBOUR: 'it returns false'. Refute it at one input. -/
def seasonNoneWrong : ChangeSpec := { name := "seasonNone", fn := fun _ => fun
  | [d] => { results := [.lit (.bool false)], args := [d] }
  | _ => none }
def SeasonNoneWrongFalsely : Prop := seasonNoneRow.holds Tryd.pinned (OpenSpec.ofChange seasonNoneWrong)

/- THE SECOND FORM. 'bulk': how many values and letters a reading holds, each counted each time it is reached (what is shared counts as often as it is met; a slice's spare places count too). A statement '..UptoSaid' is the law's where the arguments, and the package variables that the reading takes, are together of bulk at most 1048576: NARROWER than '..Said'. Prove '..Said' where nothing that the law and all that it calls make is longer than what came in: it says more and counts as full. Else prove '..UptoSaid'. A law counts once. -/
mutual
def uptoBulk {H : Type} : DataW H → Nat
  | .lit (.string bytes) => bytes.length + 1
  | .lit _ => 1
  | .nil => 1
  | .ptr d => uptoBulk d + 1
  | .slice elems spare => uptoBulkAll elems + uptoBulkAll spare + 1
  | .agg parts => uptoBulkAll parts + 1
  | .iface _ d => uptoBulk d + 1
  | .map entries => uptoBulkEntries entries + 1
  | .held _ => 1
def uptoBulkAll {H : Type} : List (DataW H) → Nat
  | [] => 0
  | d :: r => uptoBulk d + uptoBulkAll r
def uptoBulkEntries {H : Type} : List (Lit × DataW H) → Nat
  | [] => 0
  | x :: r => uptoBulkEntry x + uptoBulkEntries r
def uptoBulkEntry {H : Type} : Lit × DataW H → Nat
  | (.string bytes, d) => bytes.length + uptoBulk d + 1
  | (_, d) => uptoBulk d + 1
 end
def uptoSmall : (H : Type) → List (DataW H) → Bool := fun _ ds => decide (uptoBulkAll ds ≤ 1048576)
def OpenSpec.upto (s : _root_.Go.ChangeSpec) : _root_.Go.OpenSpec := { _root_.Go.OpenSpec.ofChange s with cond := some uptoSmall }

/-- 'synopticlaw15.SeasonAnswers', WHERE WHAT IT READS IS OF BULK AT MOST 1048576: true; the input reads as it did. -/
def seasonAnswersUptoRow : OpenClaim := { program := "ytceknalhogbbnaadoor", sum := "ae866390b75de6e0be13c93f4c590550ce97831cb2ffcc0319c0c8a3ce0d6fa5", func := "synoptic/synopticlaw15.SeasonAnswers", spec := "seasonAnswers", unfollowed := true, recurses := true, named := ["synoptic/element.bounds", "synoptic/place.corners"], apart := false, laid := [("synoptic/place.corners", laid_synoptic_place_corners), ("synoptic/element.bounds", laid_synoptic_element_bounds)], narrowed := true }
def SeasonAnswersUptoSaid : Prop := seasonAnswersUptoRow.holds Tryd.pinned (OpenSpec.upto seasonAnswersSpec)

/-- 'synopticlaw15.SeasonLearned', WHERE WHAT IT READS IS OF BULK AT MOST 1048576: true; the input reads as it did. -/
def seasonLearnedUptoRow : OpenClaim := { program := "ytceknalhogbbnaadoor", sum := "ae866390b75de6e0be13c93f4c590550ce97831cb2ffcc0319c0c8a3ce0d6fa5", func := "synoptic/synopticlaw15.SeasonLearned", spec := "seasonLearned", unfollowed := true, recurses := true, named := ["synoptic/element.bounds", "synoptic/place.corners"], apart := false, laid := [("synoptic/place.corners", laid_synoptic_place_corners), ("synoptic/element.bounds", laid_synoptic_element_bounds)], narrowed := true }
def SeasonLearnedUptoSaid : Prop := seasonLearnedUptoRow.holds Tryd.pinned (OpenSpec.upto seasonLearnedSpec)

/-- 'synopticlaw15.SeasonWider', WHERE WHAT IT READS IS OF BULK AT MOST 1048576: true; the input reads as it did. -/
def seasonWiderUptoRow : OpenClaim := { program := "ytceknalhogbbnaadoor", sum := "ae866390b75de6e0be13c93f4c590550ce97831cb2ffcc0319c0c8a3ce0d6fa5", func := "synoptic/synopticlaw15.SeasonWider", spec := "seasonWider", unfollowed := true, recurses := true, named := ["synoptic/element.bounds", "synoptic/place.corners"], apart := false, laid := [("synoptic/place.corners", laid_synoptic_place_corners), ("synoptic/element.bounds", laid_synoptic_element_bounds)], narrowed := true }
def SeasonWiderUptoSaid : Prop := seasonWiderUptoRow.holds Tryd.pinned (OpenSpec.upto seasonWiderSpec)

/-- 'synopticlaw15.SeasonNone', WHERE WHAT IT READS IS OF BULK AT MOST 1048576: true; the input reads as it did. -/
def seasonNoneUptoRow : OpenClaim := { program := "ytceknalhogbbnaadoor", sum := "ae866390b75de6e0be13c93f4c590550ce97831cb2ffcc0319c0c8a3ce0d6fa5", func := "synoptic/synopticlaw15.SeasonNone", spec := "seasonNone", unfollowed := true, recurses := true, named := ["synoptic/element.bounds", "synoptic/place.corners"], apart := false, laid := [("synoptic/place.corners", laid_synoptic_place_corners), ("synoptic/element.bounds", laid_synoptic_element_bounds)], narrowed := true }
def SeasonNoneUptoSaid : Prop := seasonNoneUptoRow.holds Tryd.pinned (OpenSpec.upto seasonNoneSpec)

end Rows
end Go.Proofs.YtceknalhogbbnaaDoor
