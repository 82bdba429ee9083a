/-
  NARROWER THAN 'FOR EVERY INPUT', by the rows' own cells (each row's printed sentence says how): TopNear: laid · TopSensitivity: laid · TopAdjoint: laid.
  DERIVED. THE GIVEN ROWS OF THIS SEAT. 3 by the template 'for every input the law returns true; each argument reads behind the call as it read before'; 0 by the template 'total and deterministic' (their statements: YtgbbmadjdaphnaaGreatDoorTotals.lean).
  GIVEN WITH THE SEED: the statements are not yours to turn. If you find one false, say at which input.
  Laid BY PROGRAM, IN A SANDBOX (cutbox-rows.mjs): the forced cells as the released guide's own fill.sh prints them over the translation 4556722437d0c116… (all of the seat's roots in one cut). By AI agents, Wed Nov 11 2026. No macro, syntax, notation, axiom, sorry.
-/
import Derived.Test.YtgbbmadjdaphnaaGreatDoorChecked
import GoSem.Claim
import GoSem.ClaimJoined
import GoSem.ClaimMapViews
import Derived.JoinedTies
import Derived.KernelRfl
namespace Go.Proofs.YtgbbmadjdaphnaaGreatDoor
/- THE CELL 'sum', in the pinned program and in every row, IS THE sha256 OF THE DUMP (.gsa) THAT YtgbbmadjdaphnaaGreatDoorProg.lean LOADS. Nothing in Lean hashes anything: it is a label: what it is worth is what the hold of that sum in a sandbox is worth. -/
noncomputable def Tryz.pinned : Pinned := { name := "ytgbbmadjdaphnaagreatdoor", sum := "4556722437d0c11610057040c82ecb6df416a56c8dcad7335259e108a98b880f", checked := Tryz.checked }
namespace Rows
def none {H : Type} : Left H := { results := [], args := [] }

/- WHAT THE LISTED PACKAGE-LEVEL VARIABLES READ AS WHEN THE CALL BEGINS. Each datum BY PROGRAM (the guide's laid-datum.mjs) off the statement by which the dump's own 'gosem.cut.vars' lays the variable. In a bare row this is a premise. The card (YtgbbmadjdaphnaaGreatDoorCards.lean) ties it to the program's text. -/
def laid_synoptic_place_corners {H : Type} : DataW H := .agg [.agg [.lit (.int .i64 0), .lit (.int .i64 1), .lit (.int .i64 2)], .agg [.lit (.int .i64 0), .lit (.int .i64 2), .lit (.int .i64 3)], .agg [.lit (.int .i64 0), .lit (.int .i64 3), .lit (.int .i64 4)], .agg [.lit (.int .i64 0), .lit (.int .i64 4), .lit (.int .i64 5)], .agg [.lit (.int .i64 0), .lit (.int .i64 5), .lit (.int .i64 1)], .agg [.lit (.int .i64 1), .lit (.int .i64 6), .lit (.int .i64 2)], .agg [.lit (.int .i64 2), .lit (.int .i64 7), .lit (.int .i64 3)], .agg [.lit (.int .i64 3), .lit (.int .i64 8), .lit (.int .i64 4)], .agg [.lit (.int .i64 4), .lit (.int .i64 9), .lit (.int .i64 5)], .agg [.lit (.int .i64 5), .lit (.int .i64 10), .lit (.int .i64 1)], .agg [.lit (.int .i64 6), .lit (.int .i64 7), .lit (.int .i64 2)], .agg [.lit (.int .i64 7), .lit (.int .i64 8), .lit (.int .i64 3)], .agg [.lit (.int .i64 8), .lit (.int .i64 9), .lit (.int .i64 4)], .agg [.lit (.int .i64 9), .lit (.int .i64 10), .lit (.int .i64 5)], .agg [.lit (.int .i64 10), .lit (.int .i64 6), .lit (.int .i64 1)], .agg [.lit (.int .i64 11), .lit (.int .i64 7), .lit (.int .i64 6)], .agg [.lit (.int .i64 11), .lit (.int .i64 8), .lit (.int .i64 7)], .agg [.lit (.int .i64 11), .lit (.int .i64 9), .lit (.int .i64 8)], .agg [.lit (.int .i64 11), .lit (.int .i64 10), .lit (.int .i64 9)], .agg [.lit (.int .i64 11), .lit (.int .i64 6), .lit (.int .i64 10)]]
def laid_synoptic_element_bounds {H : Type} : DataW H := .agg [.agg [.lit (.int .i64 8000), .lit (.int .i64 11000)], .agg [.lit (.int .i64 1800), .lit (.int .i64 3300)], .agg [.lit (.int .i64 1800), .lit (.int .i64 3300)], .agg [.lit (.int .i64 (-1000)), .lit (.int .i64 1000)], .agg [.lit (.int .i64 (-1000)), .lit (.int .i64 1000)], .agg [.lit (.int .i64 900), .lit (.int .i64 1700)], .agg [.lit (.int .i64 2000), .lit (.int .i64 3200)], .agg [.lit (.int .i64 2400), .lit (.int .i64 3400)], .agg [.lit (.int .i64 2000), .lit (.int .i64 3000)], .agg [.lit (.int .i64 4400), .lit (.int .i64 6200)], .agg [.lit (.int .i64 2000), .lit (.int .i64 2900)]]

/-- 'synoptictop.TopNear': WHATEVER THE INPUT: true; the input reads as it did. -/
def topNearSpec : ChangeSpec := { name := "topNear", fn := fun _ => fun
  | [d] => { results := [.lit (.bool true)], args := [d] }
  | _ => none }
def topNearRow : OpenClaim := { program := "ytgbbmadjdaphnaagreatdoor", sum := "4556722437d0c11610057040c82ecb6df416a56c8dcad7335259e108a98b880f", func := "synoptic/synoptictop.TopNear", spec := "topNear", unfollowed := true, recurses := true, named := ["synoptic/place.corners", "synoptic/element.bounds"], plainKeys := false, apart := false, laid := [("synoptic/place.corners", laid_synoptic_place_corners), ("synoptic/element.bounds", laid_synoptic_element_bounds)] }
def TopNearSaid : Prop := topNearRow.holds Tryz.pinned (OpenSpec.ofChange topNearSpec)

/-- ITS FALSE NEIGHBOUR: 'it returns false'. Refute it at one input. -/
def topNearWrong : ChangeSpec := { name := "topNear", fn := fun _ => fun
  | [d] => { results := [.lit (.bool false)], args := [d] }
  | _ => none }
def TopNearWrongFalsely : Prop := topNearRow.holds Tryz.pinned (OpenSpec.ofChange topNearWrong)

/-- 'synoptictop.TopSensitivity': WHATEVER THE INPUT: true; the input reads as it did. -/
def topSensitivitySpec : ChangeSpec := { name := "topSensitivity", fn := fun _ => fun
  | [d1, d2] => { results := [.lit (.bool true)], args := [d1, d2] }
  | _ => none }
def topSensitivityRow : OpenClaim := { program := "ytgbbmadjdaphnaagreatdoor", sum := "4556722437d0c11610057040c82ecb6df416a56c8dcad7335259e108a98b880f", func := "synoptic/synoptictop.TopSensitivity", spec := "topSensitivity", inPlace := ["math/bits.Add64"], unfollowed := true, recurses := true, named := ["synoptic/place.corners"], plainKeys := false, apart := false, laid := [("synoptic/place.corners", laid_synoptic_place_corners)] }
def TopSensitivitySaid : Prop := topSensitivityRow.holds Tryz.pinned (OpenSpec.ofChange topSensitivitySpec)

/-- ITS FALSE NEIGHBOUR: 'it returns false'. Refute it at one input. -/
def topSensitivityWrong : ChangeSpec := { name := "topSensitivity", fn := fun _ => fun
  | [d1, d2] => { results := [.lit (.bool false)], args := [d1, d2] }
  | _ => none }
def TopSensitivityWrongFalsely : Prop := topSensitivityRow.holds Tryz.pinned (OpenSpec.ofChange topSensitivityWrong)

/-- 'synoptictop.TopAdjoint': WHATEVER THE INPUT: true; the input reads as it did. -/
def topAdjointSpec : ChangeSpec := { name := "topAdjoint", fn := fun _ => fun
  | [d] => { results := [.lit (.bool true)], args := [d] }
  | _ => none }
def topAdjointRow : OpenClaim := { program := "ytgbbmadjdaphnaagreatdoor", sum := "4556722437d0c11610057040c82ecb6df416a56c8dcad7335259e108a98b880f", func := "synoptic/synoptictop.TopAdjoint", spec := "topAdjoint", inPlace := ["math/bits.Add64"], unfollowed := true, recurses := true, named := ["synoptic/place.corners"], plainKeys := false, apart := false, laid := [("synoptic/place.corners", laid_synoptic_place_corners)] }
def TopAdjointSaid : Prop := topAdjointRow.holds Tryz.pinned (OpenSpec.ofChange topAdjointSpec)

/-- ITS FALSE NEIGHBOUR: 'it returns false'. Refute it at one input. -/
def topAdjointWrong : ChangeSpec := { name := "topAdjoint", fn := fun _ => fun
  | [d] => { results := [.lit (.bool false)], args := [d] }
  | _ => none }
def TopAdjointWrongFalsely : Prop := topAdjointRow.holds Tryz.pinned (OpenSpec.ofChange topAdjointWrong)

/- THE SECOND FORM. 'bulk': how many values and letters a reading holds, each counted each time it is reached (what is shared counts as often as it is met; a slice's spare places count too). A statement '..UptoSaid' is the law's where the arguments, and the package variables that the reading takes, are together of bulk at most 1048576: NARROWER than '..Said'. Prove '..Said' where nothing that the law and all that it calls make is longer than what came in: it says more and counts as full. Else prove '..UptoSaid'. A law counts once. -/
mutual
def uptoBulk {H : Type} : DataW H → Nat
  | .lit (.string bytes) => bytes.length + 1
  | .lit _ => 1
  | .nil => 1
  | .ptr d => uptoBulk d + 1
  | .slice elems spare => uptoBulkAll elems + uptoBulkAll spare + 1
  | .agg parts => uptoBulkAll parts + 1
  | .iface _ d => uptoBulk d + 1
  | .map entries => uptoBulkEntries entries + 1
  | .held _ => 1
def uptoBulkAll {H : Type} : List (DataW H) → Nat
  | [] => 0
  | d :: r => uptoBulk d + uptoBulkAll r
def uptoBulkEntries {H : Type} : List (Lit × DataW H) → Nat
  | [] => 0
  | x :: r => uptoBulkEntry x + uptoBulkEntries r
def uptoBulkEntry {H : Type} : Lit × DataW H → Nat
  | (.string bytes, d) => bytes.length + uptoBulk d + 1
  | (_, d) => uptoBulk d + 1
 end
def uptoSmall : (H : Type) → List (DataW H) → Bool := fun _ ds => decide (uptoBulkAll ds ≤ 1048576)
def OpenSpec.upto (s : _root_.Go.ChangeSpec) : _root_.Go.OpenSpec := { _root_.Go.OpenSpec.ofChange s with cond := some uptoSmall }

/-- 'synoptictop.TopNear', WHERE WHAT IT READS IS OF BULK AT MOST 1048576: true; the input reads as it did. -/
def topNearUptoRow : OpenClaim := { program := "ytgbbmadjdaphnaagreatdoor", sum := "4556722437d0c11610057040c82ecb6df416a56c8dcad7335259e108a98b880f", func := "synoptic/synoptictop.TopNear", spec := "topNear", unfollowed := true, recurses := true, named := ["synoptic/place.corners", "synoptic/element.bounds"], plainKeys := false, apart := false, laid := [("synoptic/place.corners", laid_synoptic_place_corners), ("synoptic/element.bounds", laid_synoptic_element_bounds)], narrowed := true }
def TopNearUptoSaid : Prop := topNearUptoRow.holds Tryz.pinned (OpenSpec.upto topNearSpec)

/-- 'synoptictop.TopSensitivity', WHERE WHAT IT READS IS OF BULK AT MOST 1048576: true; the input reads as it did. -/
def topSensitivityUptoRow : OpenClaim := { program := "ytgbbmadjdaphnaagreatdoor", sum := "4556722437d0c11610057040c82ecb6df416a56c8dcad7335259e108a98b880f", func := "synoptic/synoptictop.TopSensitivity", spec := "topSensitivity", inPlace := ["math/bits.Add64"], unfollowed := true, recurses := true, named := ["synoptic/place.corners"], plainKeys := false, apart := false, laid := [("synoptic/place.corners", laid_synoptic_place_corners)], narrowed := true }
def TopSensitivityUptoSaid : Prop := topSensitivityUptoRow.holds Tryz.pinned (OpenSpec.upto topSensitivitySpec)

/-- 'synoptictop.TopAdjoint', WHERE WHAT IT READS IS OF BULK AT MOST 1048576: true; the input reads as it did. -/
def topAdjointUptoRow : OpenClaim := { program := "ytgbbmadjdaphnaagreatdoor", sum := "4556722437d0c11610057040c82ecb6df416a56c8dcad7335259e108a98b880f", func := "synoptic/synoptictop.TopAdjoint", spec := "topAdjoint", inPlace := ["math/bits.Add64"], unfollowed := true, recurses := true, named := ["synoptic/place.corners"], plainKeys := false, apart := false, laid := [("synoptic/place.corners", laid_synoptic_place_corners)], narrowed := true }
def TopAdjointUptoSaid : Prop := topAdjointUptoRow.holds Tryz.pinned (OpenSpec.upto topAdjointSpec)

end Rows
end Go.Proofs.YtgbbmadjdaphnaaGreatDoor
