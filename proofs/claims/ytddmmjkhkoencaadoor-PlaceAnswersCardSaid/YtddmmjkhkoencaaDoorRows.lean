/-
  NARROWER THAN 'FOR EVERY INPUT', by the rows' own cells (each row's printed sentence says how): PlaceNormal: laid · PlaceCorners: laid · PlaceTexts: laid · PlaceSolid: laid · PlaceAcross: laid · PlaceAnswers: laid.
  DERIVED. THE GIVEN ROWS OF THIS SEAT. 6 by the template 'for every input the law returns true; each argument reads behind the call as it read before'; 0 by the template 'total and deterministic' (their statements: YtddmmjkhkoencaaDoorTotals.lean).
  GIVEN WITH THE SEED: the statements are not yours to turn. If you find one false, say at which input.
  Laid BY PROGRAM, IN A SANDBOX (cutbox-rows.mjs): the forced cells as the released guide's own fill.sh prints them over the translation 5edc3c0a4705d27c… (all of the seat's roots in one cut). By AI agents, Wed Nov 11 2026. No macro, syntax, notation, axiom, sorry.
-/
import Derived.Test.YtddmmjkhkoencaaDoorChecked
import GoSem.Claim
import GoSem.ClaimJoined
import GoSem.ClaimMapViews
import Derived.JoinedTies
import Derived.KernelRfl
namespace Go.Proofs.YtddmmjkhkoencaaDoor
/- THE CELL 'sum', in the pinned program and in every row, IS THE sha256 OF THE DUMP (.gsa) THAT YtddmmjkhkoencaaDoorProg.lean LOADS. Nothing in Lean hashes anything: it is a label: what it is worth is what the hold of that sum in a sandbox is worth. -/
noncomputable def Tryd.pinned : Pinned := { name := "ytddmmjkhkoencaadoor", sum := "5edc3c0a4705d27c73774254b77fc6f428b4b1f3cb66f0285fd518e497bfc82b", checked := Tryd.checked }
namespace Rows
def none {H : Type} : Left H := { results := [], args := [] }

/- WHAT THE LISTED PACKAGE-LEVEL VARIABLES READ AS WHEN THE CALL BEGINS. Each datum BY PROGRAM (the guide's laid-datum.mjs) off the statement by which the dump's own 'gosem.cut.vars' lays the variable. In a bare row this is a premise. The card (YtddmmjkhkoencaaDoorCards.lean) ties it to the program's text. -/
def laid_synoptic_place_corners {H : Type} : DataW H := .agg [.agg [.lit (.int .i64 0), .lit (.int .i64 1), .lit (.int .i64 2)], .agg [.lit (.int .i64 0), .lit (.int .i64 2), .lit (.int .i64 3)], .agg [.lit (.int .i64 0), .lit (.int .i64 3), .lit (.int .i64 4)], .agg [.lit (.int .i64 0), .lit (.int .i64 4), .lit (.int .i64 5)], .agg [.lit (.int .i64 0), .lit (.int .i64 5), .lit (.int .i64 1)], .agg [.lit (.int .i64 1), .lit (.int .i64 6), .lit (.int .i64 2)], .agg [.lit (.int .i64 2), .lit (.int .i64 7), .lit (.int .i64 3)], .agg [.lit (.int .i64 3), .lit (.int .i64 8), .lit (.int .i64 4)], .agg [.lit (.int .i64 4), .lit (.int .i64 9), .lit (.int .i64 5)], .agg [.lit (.int .i64 5), .lit (.int .i64 10), .lit (.int .i64 1)], .agg [.lit (.int .i64 6), .lit (.int .i64 7), .lit (.int .i64 2)], .agg [.lit (.int .i64 7), .lit (.int .i64 8), .lit (.int .i64 3)], .agg [.lit (.int .i64 8), .lit (.int .i64 9), .lit (.int .i64 4)], .agg [.lit (.int .i64 9), .lit (.int .i64 10), .lit (.int .i64 5)], .agg [.lit (.int .i64 10), .lit (.int .i64 6), .lit (.int .i64 1)], .agg [.lit (.int .i64 11), .lit (.int .i64 7), .lit (.int .i64 6)], .agg [.lit (.int .i64 11), .lit (.int .i64 8), .lit (.int .i64 7)], .agg [.lit (.int .i64 11), .lit (.int .i64 9), .lit (.int .i64 8)], .agg [.lit (.int .i64 11), .lit (.int .i64 10), .lit (.int .i64 9)], .agg [.lit (.int .i64 11), .lit (.int .i64 6), .lit (.int .i64 10)]]

/-- 'synopticlaw02.PlaceNormal': WHATEVER THE INPUT: true; the input reads as it did. -/
def placeNormalSpec : ChangeSpec := { name := "placeNormal", fn := fun _ => fun
  | [d] => { results := [.lit (.bool true)], args := [d] }
  | _ => none }
def placeNormalRow : OpenClaim := { program := "ytddmmjkhkoencaadoor", sum := "5edc3c0a4705d27c73774254b77fc6f428b4b1f3cb66f0285fd518e497bfc82b", func := "synoptic/synopticlaw02.PlaceNormal", spec := "placeNormal", named := ["synoptic/place.corners"], apart := false, laid := [("synoptic/place.corners", laid_synoptic_place_corners)] }
def PlaceNormalSaid : Prop := placeNormalRow.holds Tryd.pinned (OpenSpec.ofChange placeNormalSpec)

/-- ITS FALSE NEIGHBOUR: 'it returns false'. Refute it at one input. -/
def placeNormalWrong : ChangeSpec := { name := "placeNormal", fn := fun _ => fun
  | [d] => { results := [.lit (.bool false)], args := [d] }
  | _ => none }
def PlaceNormalWrongFalsely : Prop := placeNormalRow.holds Tryd.pinned (OpenSpec.ofChange placeNormalWrong)

/-- 'synopticlaw02.PlaceCorners': WHATEVER THE INPUT: true; the input reads as it did. -/
def placeCornersSpec : ChangeSpec := { name := "placeCorners", fn := fun _ => fun
  | [d] => { results := [.lit (.bool true)], args := [d] }
  | _ => none }
def placeCornersRow : OpenClaim := { program := "ytddmmjkhkoencaadoor", sum := "5edc3c0a4705d27c73774254b77fc6f428b4b1f3cb66f0285fd518e497bfc82b", func := "synoptic/synopticlaw02.PlaceCorners", spec := "placeCorners", named := ["synoptic/place.corners"], apart := false, laid := [("synoptic/place.corners", laid_synoptic_place_corners)] }
def PlaceCornersSaid : Prop := placeCornersRow.holds Tryd.pinned (OpenSpec.ofChange placeCornersSpec)

/-- ITS FALSE NEIGHBOUR: 'it returns false'. Refute it at one input. -/
def placeCornersWrong : ChangeSpec := { name := "placeCorners", fn := fun _ => fun
  | [d] => { results := [.lit (.bool false)], args := [d] }
  | _ => none }
def PlaceCornersWrongFalsely : Prop := placeCornersRow.holds Tryd.pinned (OpenSpec.ofChange placeCornersWrong)

/-- 'synopticlaw02.PlaceTexts': WHATEVER THE INPUT: true; the input reads as it did. -/
def placeTextsSpec : ChangeSpec := { name := "placeTexts", fn := fun _ => fun
  | [d1, d2, d3, d4] => { results := [.lit (.bool true)], args := [d1, d2, d3, d4] }
  | _ => none }
def placeTextsRow : OpenClaim := { program := "ytddmmjkhkoencaadoor", sum := "5edc3c0a4705d27c73774254b77fc6f428b4b1f3cb66f0285fd518e497bfc82b", func := "synoptic/synopticlaw02.PlaceTexts", spec := "placeTexts", named := ["synoptic/place.corners"], apart := false, laid := [("synoptic/place.corners", laid_synoptic_place_corners)] }
def PlaceTextsSaid : Prop := placeTextsRow.holds Tryd.pinned (OpenSpec.ofChange placeTextsSpec)

/-- ITS FALSE NEIGHBOUR: 'it returns false'. Refute it at one input. -/
def placeTextsWrong : ChangeSpec := { name := "placeTexts", fn := fun _ => fun
  | [d1, d2, d3, d4] => { results := [.lit (.bool false)], args := [d1, d2, d3, d4] }
  | _ => none }
def PlaceTextsWrongFalsely : Prop := placeTextsRow.holds Tryd.pinned (OpenSpec.ofChange placeTextsWrong)

/-- 'synopticlaw02.PlaceSolid': WHATEVER THE INPUT: true; the input reads as it did. -/
def placeSolidSpec : ChangeSpec := { name := "placeSolid", fn := fun _ => fun
  | [d] => { results := [.lit (.bool true)], args := [d] }
  | _ => none }
def placeSolidRow : OpenClaim := { program := "ytddmmjkhkoencaadoor", sum := "5edc3c0a4705d27c73774254b77fc6f428b4b1f3cb66f0285fd518e497bfc82b", func := "synoptic/synopticlaw02.PlaceSolid", spec := "placeSolid", named := ["synoptic/place.corners"], apart := false, laid := [("synoptic/place.corners", laid_synoptic_place_corners)] }
def PlaceSolidSaid : Prop := placeSolidRow.holds Tryd.pinned (OpenSpec.ofChange placeSolidSpec)

/-- ITS FALSE NEIGHBOUR: 'it returns false'. Refute it at one input. -/
def placeSolidWrong : ChangeSpec := { name := "placeSolid", fn := fun _ => fun
  | [d] => { results := [.lit (.bool false)], args := [d] }
  | _ => none }
def PlaceSolidWrongFalsely : Prop := placeSolidRow.holds Tryd.pinned (OpenSpec.ofChange placeSolidWrong)

/-- 'synopticlaw02.PlaceAcross': WHATEVER THE INPUT: true; the input reads as it did. -/
def placeAcrossSpec : ChangeSpec := { name := "placeAcross", fn := fun _ => fun
  | [d] => { results := [.lit (.bool true)], args := [d] }
  | _ => none }
def placeAcrossRow : OpenClaim := { program := "ytddmmjkhkoencaadoor", sum := "5edc3c0a4705d27c73774254b77fc6f428b4b1f3cb66f0285fd518e497bfc82b", func := "synoptic/synopticlaw02.PlaceAcross", spec := "placeAcross", named := ["synoptic/place.corners"], apart := false, laid := [("synoptic/place.corners", laid_synoptic_place_corners)] }
def PlaceAcrossSaid : Prop := placeAcrossRow.holds Tryd.pinned (OpenSpec.ofChange placeAcrossSpec)

/-- ITS FALSE NEIGHBOUR: 'it returns false'. Refute it at one input. -/
def placeAcrossWrong : ChangeSpec := { name := "placeAcross", fn := fun _ => fun
  | [d] => { results := [.lit (.bool false)], args := [d] }
  | _ => none }
def PlaceAcrossWrongFalsely : Prop := placeAcrossRow.holds Tryd.pinned (OpenSpec.ofChange placeAcrossWrong)

/-- 'synopticlaw02.PlaceAnswers': WHATEVER THE INPUT: true; the input reads as it did. -/
def placeAnswersSpec : ChangeSpec := { name := "placeAnswers", fn := fun _ => fun
  | [d1, d2, d3, d4, d5] => { results := [.lit (.bool true)], args := [d1, d2, d3, d4, d5] }
  | _ => none }
def placeAnswersRow : OpenClaim := { program := "ytddmmjkhkoencaadoor", sum := "5edc3c0a4705d27c73774254b77fc6f428b4b1f3cb66f0285fd518e497bfc82b", func := "synoptic/synopticlaw02.PlaceAnswers", spec := "placeAnswers", named := ["synoptic/place.corners"], apart := false, laid := [("synoptic/place.corners", laid_synoptic_place_corners)] }
def PlaceAnswersSaid : Prop := placeAnswersRow.holds Tryd.pinned (OpenSpec.ofChange placeAnswersSpec)

/-- ITS FALSE NEIGHBOUR: 'it returns false'. Refute it at one input. -/
def placeAnswersWrong : ChangeSpec := { name := "placeAnswers", fn := fun _ => fun
  | [d1, d2, d3, d4, d5] => { results := [.lit (.bool false)], args := [d1, d2, d3, d4, d5] }
  | _ => none }
def PlaceAnswersWrongFalsely : Prop := placeAnswersRow.holds Tryd.pinned (OpenSpec.ofChange placeAnswersWrong)

/- THE SECOND FORM. 'bulk': how many values and letters a reading holds, each counted each time it is reached (what is shared counts as often as it is met; a slice's spare places count too). A statement '..UptoSaid' is the law's where the arguments, and the package variables that the reading takes, are together of bulk at most 1048576: NARROWER than '..Said'. Prove '..Said' where nothing that the law and all that it calls make is longer than what came in: it says more and counts as full. Else prove '..UptoSaid'. A law counts once. -/
mutual
def uptoBulk {H : Type} : DataW H → Nat
  | .lit (.string bytes) => bytes.length + 1
  | .lit _ => 1
  | .nil => 1
  | .ptr d => uptoBulk d + 1
  | .slice elems spare => uptoBulkAll elems + uptoBulkAll spare + 1
  | .agg parts => uptoBulkAll parts + 1
  | .iface _ d => uptoBulk d + 1
  | .map entries => uptoBulkEntries entries + 1
  | .held _ => 1
def uptoBulkAll {H : Type} : List (DataW H) → Nat
  | [] => 0
  | d :: r => uptoBulk d + uptoBulkAll r
def uptoBulkEntries {H : Type} : List (Lit × DataW H) → Nat
  | [] => 0
  | x :: r => uptoBulkEntry x + uptoBulkEntries r
def uptoBulkEntry {H : Type} : Lit × DataW H → Nat
  | (.string bytes, d) => bytes.length + uptoBulk d + 1
  | (_, d) => uptoBulk d + 1
 end
def uptoSmall : (H : Type) → List (DataW H) → Bool := fun _ ds => decide (uptoBulkAll ds ≤ 1048576)
def OpenSpec.upto (s : _root_.Go.ChangeSpec) : _root_.Go.OpenSpec := { _root_.Go.OpenSpec.ofChange s with cond := some uptoSmall }

/-- 'synopticlaw02.PlaceNormal', WHERE WHAT IT READS IS OF BULK AT MOST 1048576: true; the input reads as it did. -/
def placeNormalUptoRow : OpenClaim := { program := "ytddmmjkhkoencaadoor", sum := "5edc3c0a4705d27c73774254b77fc6f428b4b1f3cb66f0285fd518e497bfc82b", func := "synoptic/synopticlaw02.PlaceNormal", spec := "placeNormal", named := ["synoptic/place.corners"], apart := false, laid := [("synoptic/place.corners", laid_synoptic_place_corners)], narrowed := true }
def PlaceNormalUptoSaid : Prop := placeNormalUptoRow.holds Tryd.pinned (OpenSpec.upto placeNormalSpec)

/-- 'synopticlaw02.PlaceCorners', WHERE WHAT IT READS IS OF BULK AT MOST 1048576: true; the input reads as it did. -/
def placeCornersUptoRow : OpenClaim := { program := "ytddmmjkhkoencaadoor", sum := "5edc3c0a4705d27c73774254b77fc6f428b4b1f3cb66f0285fd518e497bfc82b", func := "synoptic/synopticlaw02.PlaceCorners", spec := "placeCorners", named := ["synoptic/place.corners"], apart := false, laid := [("synoptic/place.corners", laid_synoptic_place_corners)], narrowed := true }
def PlaceCornersUptoSaid : Prop := placeCornersUptoRow.holds Tryd.pinned (OpenSpec.upto placeCornersSpec)

/-- 'synopticlaw02.PlaceTexts', WHERE WHAT IT READS IS OF BULK AT MOST 1048576: true; the input reads as it did. -/
def placeTextsUptoRow : OpenClaim := { program := "ytddmmjkhkoencaadoor", sum := "5edc3c0a4705d27c73774254b77fc6f428b4b1f3cb66f0285fd518e497bfc82b", func := "synoptic/synopticlaw02.PlaceTexts", spec := "placeTexts", named := ["synoptic/place.corners"], apart := false, laid := [("synoptic/place.corners", laid_synoptic_place_corners)], narrowed := true }
def PlaceTextsUptoSaid : Prop := placeTextsUptoRow.holds Tryd.pinned (OpenSpec.upto placeTextsSpec)

/-- 'synopticlaw02.PlaceSolid', WHERE WHAT IT READS IS OF BULK AT MOST 1048576: true; the input reads as it did. -/
def placeSolidUptoRow : OpenClaim := { program := "ytddmmjkhkoencaadoor", sum := "5edc3c0a4705d27c73774254b77fc6f428b4b1f3cb66f0285fd518e497bfc82b", func := "synoptic/synopticlaw02.PlaceSolid", spec := "placeSolid", named := ["synoptic/place.corners"], apart := false, laid := [("synoptic/place.corners", laid_synoptic_place_corners)], narrowed := true }
def PlaceSolidUptoSaid : Prop := placeSolidUptoRow.holds Tryd.pinned (OpenSpec.upto placeSolidSpec)

/-- 'synopticlaw02.PlaceAcross', WHERE WHAT IT READS IS OF BULK AT MOST 1048576: true; the input reads as it did. -/
def placeAcrossUptoRow : OpenClaim := { program := "ytddmmjkhkoencaadoor", sum := "5edc3c0a4705d27c73774254b77fc6f428b4b1f3cb66f0285fd518e497bfc82b", func := "synoptic/synopticlaw02.PlaceAcross", spec := "placeAcross", named := ["synoptic/place.corners"], apart := false, laid := [("synoptic/place.corners", laid_synoptic_place_corners)], narrowed := true }
def PlaceAcrossUptoSaid : Prop := placeAcrossUptoRow.holds Tryd.pinned (OpenSpec.upto placeAcrossSpec)

/-- 'synopticlaw02.PlaceAnswers', WHERE WHAT IT READS IS OF BULK AT MOST 1048576: true; the input reads as it did. -/
def placeAnswersUptoRow : OpenClaim := { program := "ytddmmjkhkoencaadoor", sum := "5edc3c0a4705d27c73774254b77fc6f428b4b1f3cb66f0285fd518e497bfc82b", func := "synoptic/synopticlaw02.PlaceAnswers", spec := "placeAnswers", named := ["synoptic/place.corners"], apart := false, laid := [("synoptic/place.corners", laid_synoptic_place_corners)], narrowed := true }
def PlaceAnswersUptoSaid : Prop := placeAnswersUptoRow.holds Tryd.pinned (OpenSpec.upto placeAnswersSpec)

end Rows
end Go.Proofs.YtddmmjkhkoencaaDoor
