/-
  DERIVED. GIVEN WITH THE SEED: THE CARDS: each row of YtgbbmadjdaphnaaGreatDoorRows.lean that lists a variable, with what it lists TIED to the program's text (the seventh form; the later family's looks); each row that meets fmt, with fmt's text TOLD by the authors' own Lean function (tested against real Go, not proved from fmt's source: count such statements apart). THE CARD IS WHAT COUNTS. Prove the row's statement (the work); the ties are given (YtgbbmadjdaphnaaGreatDoorTie.lean); close each card by the builder's one call (the guide's Derived/Test/ToyasCard.lean, 'card_holds'). Laid BY PROGRAM, IN A SANDBOX (cutbox-door.mjs). By AI agents, Wed Nov 11 2026. No macro, syntax, notation, axiom, sorry.
-/
import Derived.Test.YtgbbmadjdaphnaaGreatDoorRows
import GoSem.ClaimSeven
namespace Go.Proofs.YtgbbmadjdaphnaaGreatDoor
namespace Rows

/-- THE TIED CARD OF 'synoptictop.TopNear'. -/
def topNearCard : Claim7 := { stood := { row := topNearRow, standIns := [], harness := (true, "4f31e86629764e64f4f6f9876acf2cc182cf1d73a66e806118e4e90bbb75bf73"), looks := false }, kinds := [], alts := [], laidByText := true, laidKinds := [.data, .data], laidTests := true, laidLooks := .later }
def TopNearCardSaid : Prop := Claim7.holds Tryz.pinned (.plain (OpenSpec.ofChange topNearSpec)) topNearCard

/-- THE TIED CARD OF 'synoptictop.TopSensitivity'. -/
def topSensitivityCard : Claim7 := { stood := { row := topSensitivityRow, standIns := [], harness := (true, "4f31e86629764e64f4f6f9876acf2cc182cf1d73a66e806118e4e90bbb75bf73"), looks := false }, kinds := [], alts := [], laidByText := true, laidKinds := [.data], laidTests := true, laidLooks := .later }
def TopSensitivityCardSaid : Prop := Claim7.holds Tryz.pinned (.plain (OpenSpec.ofChange topSensitivitySpec)) topSensitivityCard

/-- THE TIED CARD OF 'synoptictop.TopAdjoint'. -/
def topAdjointCard : Claim7 := { stood := { row := topAdjointRow, standIns := [], harness := (true, "4f31e86629764e64f4f6f9876acf2cc182cf1d73a66e806118e4e90bbb75bf73"), looks := false }, kinds := [], alts := [], laidByText := true, laidKinds := [.data], laidTests := true, laidLooks := .later }
def TopAdjointCardSaid : Prop := Claim7.holds Tryz.pinned (.plain (OpenSpec.ofChange topAdjointSpec)) topAdjointCard

/-- THE SECOND FORM's CARD OF 'synoptictop.TopNear'. -/
def topNearUptoCard : Claim7 := { stood := { row := topNearUptoRow, standIns := [], harness := (true, "4f31e86629764e64f4f6f9876acf2cc182cf1d73a66e806118e4e90bbb75bf73"), looks := false }, kinds := [], alts := [], laidByText := true, laidKinds := [.data, .data], laidTests := true, laidLooks := .later }
def TopNearUptoCardSaid : Prop := Claim7.holds Tryz.pinned (.plain (OpenSpec.upto topNearSpec)) topNearUptoCard

/-- THE SECOND FORM's CARD OF 'synoptictop.TopSensitivity'. -/
def topSensitivityUptoCard : Claim7 := { stood := { row := topSensitivityUptoRow, standIns := [], harness := (true, "4f31e86629764e64f4f6f9876acf2cc182cf1d73a66e806118e4e90bbb75bf73"), looks := false }, kinds := [], alts := [], laidByText := true, laidKinds := [.data], laidTests := true, laidLooks := .later }
def TopSensitivityUptoCardSaid : Prop := Claim7.holds Tryz.pinned (.plain (OpenSpec.upto topSensitivitySpec)) topSensitivityUptoCard

/-- THE SECOND FORM's CARD OF 'synoptictop.TopAdjoint'. -/
def topAdjointUptoCard : Claim7 := { stood := { row := topAdjointUptoRow, standIns := [], harness := (true, "4f31e86629764e64f4f6f9876acf2cc182cf1d73a66e806118e4e90bbb75bf73"), looks := false }, kinds := [], alts := [], laidByText := true, laidKinds := [.data], laidTests := true, laidLooks := .later }
def TopAdjointUptoCardSaid : Prop := Claim7.holds Tryz.pinned (.plain (OpenSpec.upto topAdjointSpec)) topAdjointUptoCard
end Rows
end Go.Proofs.YtgbbmadjdaphnaaGreatDoor
