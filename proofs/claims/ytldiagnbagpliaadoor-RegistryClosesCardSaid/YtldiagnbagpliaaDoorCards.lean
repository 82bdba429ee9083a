/-
  DERIVED. GIVEN WITH THE SEED: THE CARDS: each row of YtldiagnbagpliaaDoorRows.lean that lists a variable, with what it lists TIED to the program's text (the seventh form; the later family's looks); each row that meets fmt, with fmt's text TOLD by the authors' own Lean function (tested against real Go, not proved from fmt's source: count such statements apart). THE CARD IS WHAT COUNTS. Prove the row's statement (the work); the ties are given (YtldiagnbagpliaaDoorTie.lean); close each card by the builder's one call (the guide's Derived/Test/ToyasCard.lean, 'card_holds'). Laid BY PROGRAM, IN A SANDBOX (cutbox-door.mjs). By AI agents, Wed Nov 11 2026. No macro, syntax, notation, axiom, sorry.
-/
import Derived.Test.YtldiagnbagpliaaDoorRows
import GoSem.ClaimSeven
namespace Go.Proofs.YtldiagnbagpliaaDoor
namespace Rows

/-- THE TIED CARD OF 'synopticlaw11.RegistryCloses'. -/
def registryClosesCard : Claim7 := { stood := { row := registryClosesRow, standIns := [], harness := (true, "0edd5c91501f606a6fd698cac64726b11d9d8e50284be5966092e9fdd79bc8ee"), looks := false }, kinds := [], alts := [], laidByText := true, laidKinds := [.data, .data], laidTests := true, laidLooks := .later }
def RegistryClosesCardSaid : Prop := Claim7.holds Tryd.pinned (.plain (OpenSpec.ofChange registryClosesSpec)) registryClosesCard

/-- THE SECOND FORM's CARD OF 'synopticlaw11.RegistryCloses'. -/
def registryClosesUptoCard : Claim7 := { stood := { row := registryClosesUptoRow, standIns := [], harness := (true, "0edd5c91501f606a6fd698cac64726b11d9d8e50284be5966092e9fdd79bc8ee"), looks := false }, kinds := [], alts := [], laidByText := true, laidKinds := [.data, .data], laidTests := true, laidLooks := .later }
def RegistryClosesUptoCardSaid : Prop := Claim7.holds Tryd.pinned (.plain (OpenSpec.upto registryClosesSpec)) registryClosesUptoCard
end Rows
end Go.Proofs.YtldiagnbagpliaaDoor
