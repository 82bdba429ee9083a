/-
  NARROWER THAN 'FOR EVERY INPUT', by the rows' own cells (each row's printed sentence says how): RegistryApplies: laid · RegistryBias: laid · RegistrySets: laid · RegistryAnswers: laid.
  DERIVED. THE GIVEN ROWS OF THIS SEAT. 4 by the template 'for every input the law returns true; each argument reads behind the call as it read before'; 0 by the template 'total and deterministic' (their statements: YtldiagnbagpliaaGreatDoorTotals.lean).
  GIVEN WITH THE SEED: the statements are not yours to turn. If you find one false, say at which input.
  Laid BY PROGRAM, IN A SANDBOX (cutbox-rows.mjs): the forced cells as the released guide's own fill.sh prints them over the translation ea9f90a51f8ea38b… (all of the seat's roots in one cut). By AI agents, Wed Nov 11 2026. No macro, syntax, notation, axiom, sorry.
-/
import Derived.Test.YtldiagnbagpliaaGreatDoorChecked
import GoSem.Claim
import GoSem.ClaimJoined
import GoSem.ClaimMapViews
import Derived.JoinedTies
import Derived.KernelRfl
namespace Go.Proofs.YtldiagnbagpliaaGreatDoor
/- THE CELL 'sum', in the pinned program and in every row, IS THE sha256 OF THE DUMP (.gsa) THAT YtldiagnbagpliaaGreatDoorProg.lean LOADS. Nothing in Lean hashes anything: it is a label: what it is worth is what the hold of that sum in a sandbox is worth. -/
noncomputable def Tryz.pinned : Pinned := { name := "ytldiagnbagpliaagreatdoor", sum := "ea9f90a51f8ea38bd45ea3479ef58e1dbf93d83a868d9568206f530391ec42cc", checked := Tryz.checked }
namespace Rows
def none {H : Type} : Left H := { results := [], args := [] }

/- WHAT THE LISTED PACKAGE-LEVEL VARIABLES READ AS WHEN THE CALL BEGINS. Each datum BY PROGRAM (the guide's laid-datum.mjs) off the statement by which the dump's own 'gosem.cut.vars' lays the variable. In a bare row this is a premise. The card (YtldiagnbagpliaaGreatDoorCards.lean) ties it to the program's text. -/
def laid_synoptic_place_corners {H : Type} : DataW H := .agg [.agg [.lit (.int .i64 0), .lit (.int .i64 1), .lit (.int .i64 2)], .agg [.lit (.int .i64 0), .lit (.int .i64 2), .lit (.int .i64 3)], .agg [.lit (.int .i64 0), .lit (.int .i64 3), .lit (.int .i64 4)], .agg [.lit (.int .i64 0), .lit (.int .i64 4), .lit (.int .i64 5)], .agg [.lit (.int .i64 0), .lit (.int .i64 5), .lit (.int .i64 1)], .agg [.lit (.int .i64 1), .lit (.int .i64 6), .lit (.int .i64 2)], .agg [.lit (.int .i64 2), .lit (.int .i64 7), .lit (.int .i64 3)], .agg [.lit (.int .i64 3), .lit (.int .i64 8), .lit (.int .i64 4)], .agg [.lit (.int .i64 4), .lit (.int .i64 9), .lit (.int .i64 5)], .agg [.lit (.int .i64 5), .lit (.int .i64 10), .lit (.int .i64 1)], .agg [.lit (.int .i64 6), .lit (.int .i64 7), .lit (.int .i64 2)], .agg [.lit (.int .i64 7), .lit (.int .i64 8), .lit (.int .i64 3)], .agg [.lit (.int .i64 8), .lit (.int .i64 9), .lit (.int .i64 4)], .agg [.lit (.int .i64 9), .lit (.int .i64 10), .lit (.int .i64 5)], .agg [.lit (.int .i64 10), .lit (.int .i64 6), .lit (.int .i64 1)], .agg [.lit (.int .i64 11), .lit (.int .i64 7), .lit (.int .i64 6)], .agg [.lit (.int .i64 11), .lit (.int .i64 8), .lit (.int .i64 7)], .agg [.lit (.int .i64 11), .lit (.int .i64 9), .lit (.int .i64 8)], .agg [.lit (.int .i64 11), .lit (.int .i64 10), .lit (.int .i64 9)], .agg [.lit (.int .i64 11), .lit (.int .i64 6), .lit (.int .i64 10)]]
def laid_synoptic_element_bounds {H : Type} : DataW H := .agg [.agg [.lit (.int .i64 8000), .lit (.int .i64 11000)], .agg [.lit (.int .i64 1800), .lit (.int .i64 3300)], .agg [.lit (.int .i64 1800), .lit (.int .i64 3300)], .agg [.lit (.int .i64 (-1000)), .lit (.int .i64 1000)], .agg [.lit (.int .i64 (-1000)), .lit (.int .i64 1000)], .agg [.lit (.int .i64 900), .lit (.int .i64 1700)], .agg [.lit (.int .i64 2000), .lit (.int .i64 3200)], .agg [.lit (.int .i64 2400), .lit (.int .i64 3400)], .agg [.lit (.int .i64 2000), .lit (.int .i64 3000)], .agg [.lit (.int .i64 4400), .lit (.int .i64 6200)], .agg [.lit (.int .i64 2000), .lit (.int .i64 2900)]]

/-- 'synopticlaw11.RegistryApplies': WHATEVER THE INPUT: true; the input reads as it did. -/
def registryAppliesSpec : ChangeSpec := { name := "registryApplies", fn := fun _ => fun
  | [d1, d2, d3] => { results := [.lit (.bool true)], args := [d1, d2, d3] }
  | _ => none }
def registryAppliesRow : OpenClaim := { program := "ytldiagnbagpliaagreatdoor", sum := "ea9f90a51f8ea38bd45ea3479ef58e1dbf93d83a868d9568206f530391ec42cc", func := "synoptic/synopticlaw11.RegistryApplies", spec := "registryApplies", inPlace := ["slices.overlaps[synoptic/api.Station]", "slices.overlaps[synoptic/api.Period]"], unfollowed := true, recurses := true, named := ["synoptic/element.bounds", "synoptic/place.corners"], apart := false, laid := [("synoptic/place.corners", laid_synoptic_place_corners), ("synoptic/element.bounds", laid_synoptic_element_bounds)] }
def RegistryAppliesSaid : Prop := registryAppliesRow.holds Tryz.pinned (OpenSpec.ofChange registryAppliesSpec)

/-- ITS FALSE NEIGHBOUR: 'it returns false'. Refute it at one input. -/
def registryAppliesWrong : ChangeSpec := { name := "registryApplies", fn := fun _ => fun
  | [d1, d2, d3] => { results := [.lit (.bool false)], args := [d1, d2, d3] }
  | _ => none }
def RegistryAppliesWrongFalsely : Prop := registryAppliesRow.holds Tryz.pinned (OpenSpec.ofChange registryAppliesWrong)

/-- 'synopticlaw11.RegistryBias': WHATEVER THE INPUT: true; the input reads as it did. -/
def registryBiasSpec : ChangeSpec := { name := "registryBias", fn := fun _ => fun
  | [d] => { results := [.lit (.bool true)], args := [d] }
  | _ => none }
def registryBiasRow : OpenClaim := { program := "ytldiagnbagpliaagreatdoor", sum := "ea9f90a51f8ea38bd45ea3479ef58e1dbf93d83a868d9568206f530391ec42cc", func := "synoptic/synopticlaw11.RegistryBias", spec := "registryBias", inPlace := ["slices.overlaps[synoptic/api.Station]", "slices.overlaps[synoptic/api.Period]"], unfollowed := true, recurses := true, named := ["synoptic/element.bounds", "synoptic/place.corners"], apart := false, laid := [("synoptic/place.corners", laid_synoptic_place_corners), ("synoptic/element.bounds", laid_synoptic_element_bounds)] }
def RegistryBiasSaid : Prop := registryBiasRow.holds Tryz.pinned (OpenSpec.ofChange registryBiasSpec)

/-- ITS FALSE NEIGHBOUR: 'it returns false'. Refute it at one input. -/
def registryBiasWrong : ChangeSpec := { name := "registryBias", fn := fun _ => fun
  | [d] => { results := [.lit (.bool false)], args := [d] }
  | _ => none }
def RegistryBiasWrongFalsely : Prop := registryBiasRow.holds Tryz.pinned (OpenSpec.ofChange registryBiasWrong)

/-- 'synopticlaw11.RegistrySets': WHATEVER THE INPUT: true; the input reads as it did. -/
def registrySetsSpec : ChangeSpec := { name := "registrySets", fn := fun _ => fun
  | [d] => { results := [.lit (.bool true)], args := [d] }
  | _ => none }
def registrySetsRow : OpenClaim := { program := "ytldiagnbagpliaagreatdoor", sum := "ea9f90a51f8ea38bd45ea3479ef58e1dbf93d83a868d9568206f530391ec42cc", func := "synoptic/synopticlaw11.RegistrySets", spec := "registrySets", inPlace := ["slices.overlaps[synoptic/api.Station]", "slices.overlaps[synoptic/api.Period]"], unfollowed := true, recurses := true, named := ["synoptic/element.bounds", "synoptic/place.corners"], apart := false, laid := [("synoptic/place.corners", laid_synoptic_place_corners), ("synoptic/element.bounds", laid_synoptic_element_bounds)] }
def RegistrySetsSaid : Prop := registrySetsRow.holds Tryz.pinned (OpenSpec.ofChange registrySetsSpec)

/-- ITS FALSE NEIGHBOUR: 'it returns false'. Refute it at one input. -/
def registrySetsWrong : ChangeSpec := { name := "registrySets", fn := fun _ => fun
  | [d] => { results := [.lit (.bool false)], args := [d] }
  | _ => none }
def RegistrySetsWrongFalsely : Prop := registrySetsRow.holds Tryz.pinned (OpenSpec.ofChange registrySetsWrong)

/-- 'synopticlaw11.RegistryAnswers': WHATEVER THE INPUT: true; the input reads as it did. -/
def registryAnswersSpec : ChangeSpec := { name := "registryAnswers", fn := fun _ => fun
  | [d1, d2, d3, d4, d5, d6] => { results := [.lit (.bool true)], args := [d1, d2, d3, d4, d5, d6] }
  | _ => none }
def registryAnswersRow : OpenClaim := { program := "ytldiagnbagpliaagreatdoor", sum := "ea9f90a51f8ea38bd45ea3479ef58e1dbf93d83a868d9568206f530391ec42cc", func := "synoptic/synopticlaw11.RegistryAnswers", spec := "registryAnswers", inPlace := ["slices.overlaps[synoptic/api.Station]", "slices.overlaps[synoptic/api.Period]"], unfollowed := true, recurses := true, named := ["synoptic/element.bounds", "synoptic/place.corners"], apart := false, laid := [("synoptic/place.corners", laid_synoptic_place_corners), ("synoptic/element.bounds", laid_synoptic_element_bounds)] }
def RegistryAnswersSaid : Prop := registryAnswersRow.holds Tryz.pinned (OpenSpec.ofChange registryAnswersSpec)

/-- ITS FALSE NEIGHBOUR: 'it returns false'. Refute it at one input. -/
def registryAnswersWrong : ChangeSpec := { name := "registryAnswers", fn := fun _ => fun
  | [d1, d2, d3, d4, d5, d6] => { results := [.lit (.bool false)], args := [d1, d2, d3, d4, d5, d6] }
  | _ => none }
def RegistryAnswersWrongFalsely : Prop := registryAnswersRow.holds Tryz.pinned (OpenSpec.ofChange registryAnswersWrong)

/- THE SECOND FORM. 'bulk': how many values and letters a reading holds, each counted each time it is reached (what is shared counts as often as it is met; a slice's spare places count too). A statement '..UptoSaid' is the law's where the arguments, and the package variables that the reading takes, are together of bulk at most 1048576: NARROWER than '..Said'. Prove '..Said' where nothing that the law and all that it calls make is longer than what came in: it says more and counts as full. Else prove '..UptoSaid'. A law counts once. -/
mutual
def uptoBulk {H : Type} : DataW H → Nat
  | .lit (.string bytes) => bytes.length + 1
  | .lit _ => 1
  | .nil => 1
  | .ptr d => uptoBulk d + 1
  | .slice elems spare => uptoBulkAll elems + uptoBulkAll spare + 1
  | .agg parts => uptoBulkAll parts + 1
  | .iface _ d => uptoBulk d + 1
  | .map entries => uptoBulkEntries entries + 1
  | .held _ => 1
def uptoBulkAll {H : Type} : List (DataW H) → Nat
  | [] => 0
  | d :: r => uptoBulk d + uptoBulkAll r
def uptoBulkEntries {H : Type} : List (Lit × DataW H) → Nat
  | [] => 0
  | x :: r => uptoBulkEntry x + uptoBulkEntries r
def uptoBulkEntry {H : Type} : Lit × DataW H → Nat
  | (.string bytes, d) => bytes.length + uptoBulk d + 1
  | (_, d) => uptoBulk d + 1
 end
def uptoSmall : (H : Type) → List (DataW H) → Bool := fun _ ds => decide (uptoBulkAll ds ≤ 1048576)
def OpenSpec.upto (s : _root_.Go.ChangeSpec) : _root_.Go.OpenSpec := { _root_.Go.OpenSpec.ofChange s with cond := some uptoSmall }

/-- 'synopticlaw11.RegistryApplies', WHERE WHAT IT READS IS OF BULK AT MOST 1048576: true; the input reads as it did. -/
def registryAppliesUptoRow : OpenClaim := { program := "ytldiagnbagpliaagreatdoor", sum := "ea9f90a51f8ea38bd45ea3479ef58e1dbf93d83a868d9568206f530391ec42cc", func := "synoptic/synopticlaw11.RegistryApplies", spec := "registryApplies", inPlace := ["slices.overlaps[synoptic/api.Station]", "slices.overlaps[synoptic/api.Period]"], unfollowed := true, recurses := true, named := ["synoptic/element.bounds", "synoptic/place.corners"], apart := false, laid := [("synoptic/place.corners", laid_synoptic_place_corners), ("synoptic/element.bounds", laid_synoptic_element_bounds)], narrowed := true }
def RegistryAppliesUptoSaid : Prop := registryAppliesUptoRow.holds Tryz.pinned (OpenSpec.upto registryAppliesSpec)

/-- 'synopticlaw11.RegistryBias', WHERE WHAT IT READS IS OF BULK AT MOST 1048576: true; the input reads as it did. -/
def registryBiasUptoRow : OpenClaim := { program := "ytldiagnbagpliaagreatdoor", sum := "ea9f90a51f8ea38bd45ea3479ef58e1dbf93d83a868d9568206f530391ec42cc", func := "synoptic/synopticlaw11.RegistryBias", spec := "registryBias", inPlace := ["slices.overlaps[synoptic/api.Station]", "slices.overlaps[synoptic/api.Period]"], unfollowed := true, recurses := true, named := ["synoptic/element.bounds", "synoptic/place.corners"], apart := false, laid := [("synoptic/place.corners", laid_synoptic_place_corners), ("synoptic/element.bounds", laid_synoptic_element_bounds)], narrowed := true }
def RegistryBiasUptoSaid : Prop := registryBiasUptoRow.holds Tryz.pinned (OpenSpec.upto registryBiasSpec)

/-- 'synopticlaw11.RegistrySets', WHERE WHAT IT READS IS OF BULK AT MOST 1048576: true; the input reads as it did. -/
def registrySetsUptoRow : OpenClaim := { program := "ytldiagnbagpliaagreatdoor", sum := "ea9f90a51f8ea38bd45ea3479ef58e1dbf93d83a868d9568206f530391ec42cc", func := "synoptic/synopticlaw11.RegistrySets", spec := "registrySets", inPlace := ["slices.overlaps[synoptic/api.Station]", "slices.overlaps[synoptic/api.Period]"], unfollowed := true, recurses := true, named := ["synoptic/element.bounds", "synoptic/place.corners"], apart := false, laid := [("synoptic/place.corners", laid_synoptic_place_corners), ("synoptic/element.bounds", laid_synoptic_element_bounds)], narrowed := true }
def RegistrySetsUptoSaid : Prop := registrySetsUptoRow.holds Tryz.pinned (OpenSpec.upto registrySetsSpec)

/-- 'synopticlaw11.RegistryAnswers', WHERE WHAT IT READS IS OF BULK AT MOST 1048576: true; the input reads as it did. -/
def registryAnswersUptoRow : OpenClaim := { program := "ytldiagnbagpliaagreatdoor", sum := "ea9f90a51f8ea38bd45ea3479ef58e1dbf93d83a868d9568206f530391ec42cc", func := "synoptic/synopticlaw11.RegistryAnswers", spec := "registryAnswers", inPlace := ["slices.overlaps[synoptic/api.Station]", "slices.overlaps[synoptic/api.Period]"], unfollowed := true, recurses := true, named := ["synoptic/element.bounds", "synoptic/place.corners"], apart := false, laid := [("synoptic/place.corners", laid_synoptic_place_corners), ("synoptic/element.bounds", laid_synoptic_element_bounds)], narrowed := true }
def RegistryAnswersUptoSaid : Prop := registryAnswersUptoRow.holds Tryz.pinned (OpenSpec.upto registryAnswersSpec)

end Rows
end Go.Proofs.YtldiagnbagpliaaGreatDoor
