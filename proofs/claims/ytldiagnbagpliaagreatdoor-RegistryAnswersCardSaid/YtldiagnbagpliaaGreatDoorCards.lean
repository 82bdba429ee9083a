/-
  DERIVED. GIVEN WITH THE SEED: THE CARDS: each row of YtldiagnbagpliaaGreatDoorRows.lean that lists a variable, with what it lists TIED to the program's text (the seventh form; the later family's looks); each row that meets fmt, with fmt's text TOLD by the authors' own Lean function (tested against real Go, not proved from fmt's source: count such statements apart). THE CARD IS WHAT COUNTS. Prove the row's statement (the work); the ties are given (YtldiagnbagpliaaGreatDoorTie.lean); close each card by the builder's one call (the guide's Derived/Test/ToyasCard.lean, 'card_holds'). Laid BY PROGRAM, IN A SANDBOX (cutbox-door.mjs). By AI agents, Wed Nov 11 2026. No macro, syntax, notation, axiom, sorry.
-/
import Derived.Test.YtldiagnbagpliaaGreatDoorRows
import GoSem.ClaimSeven
namespace Go.Proofs.YtldiagnbagpliaaGreatDoor
namespace Rows

/-- THE TIED CARD OF 'synopticlaw11.RegistryApplies'. -/
def registryAppliesCard : Claim7 := { stood := { row := registryAppliesRow, standIns := [], harness := (true, "02ce36c2e50ad3106e7d05f1eff0183688bfe0ac972139819ed3da9bdf23355c"), looks := false }, kinds := [], alts := [], laidByText := true, laidKinds := [.data, .data], laidTests := true, laidLooks := .later }
def RegistryAppliesCardSaid : Prop := Claim7.holds Tryz.pinned (.plain (OpenSpec.ofChange registryAppliesSpec)) registryAppliesCard

/-- THE TIED CARD OF 'synopticlaw11.RegistryBias'. -/
def registryBiasCard : Claim7 := { stood := { row := registryBiasRow, standIns := [], harness := (true, "02ce36c2e50ad3106e7d05f1eff0183688bfe0ac972139819ed3da9bdf23355c"), looks := false }, kinds := [], alts := [], laidByText := true, laidKinds := [.data, .data], laidTests := true, laidLooks := .later }
def RegistryBiasCardSaid : Prop := Claim7.holds Tryz.pinned (.plain (OpenSpec.ofChange registryBiasSpec)) registryBiasCard

/-- THE TIED CARD OF 'synopticlaw11.RegistrySets'. -/
def registrySetsCard : Claim7 := { stood := { row := registrySetsRow, standIns := [], harness := (true, "02ce36c2e50ad3106e7d05f1eff0183688bfe0ac972139819ed3da9bdf23355c"), looks := false }, kinds := [], alts := [], laidByText := true, laidKinds := [.data, .data], laidTests := true, laidLooks := .later }
def RegistrySetsCardSaid : Prop := Claim7.holds Tryz.pinned (.plain (OpenSpec.ofChange registrySetsSpec)) registrySetsCard

/-- THE TIED CARD OF 'synopticlaw11.RegistryAnswers'. -/
def registryAnswersCard : Claim7 := { stood := { row := registryAnswersRow, standIns := [], harness := (true, "02ce36c2e50ad3106e7d05f1eff0183688bfe0ac972139819ed3da9bdf23355c"), looks := false }, kinds := [], alts := [], laidByText := true, laidKinds := [.data, .data], laidTests := true, laidLooks := .later }
def RegistryAnswersCardSaid : Prop := Claim7.holds Tryz.pinned (.plain (OpenSpec.ofChange registryAnswersSpec)) registryAnswersCard

/-- THE SECOND FORM's CARD OF 'synopticlaw11.RegistryApplies'. -/
def registryAppliesUptoCard : Claim7 := { stood := { row := registryAppliesUptoRow, standIns := [], harness := (true, "02ce36c2e50ad3106e7d05f1eff0183688bfe0ac972139819ed3da9bdf23355c"), looks := false }, kinds := [], alts := [], laidByText := true, laidKinds := [.data, .data], laidTests := true, laidLooks := .later }
def RegistryAppliesUptoCardSaid : Prop := Claim7.holds Tryz.pinned (.plain (OpenSpec.upto registryAppliesSpec)) registryAppliesUptoCard

/-- THE SECOND FORM's CARD OF 'synopticlaw11.RegistryBias'. -/
def registryBiasUptoCard : Claim7 := { stood := { row := registryBiasUptoRow, standIns := [], harness := (true, "02ce36c2e50ad3106e7d05f1eff0183688bfe0ac972139819ed3da9bdf23355c"), looks := false }, kinds := [], alts := [], laidByText := true, laidKinds := [.data, .data], laidTests := true, laidLooks := .later }
def RegistryBiasUptoCardSaid : Prop := Claim7.holds Tryz.pinned (.plain (OpenSpec.upto registryBiasSpec)) registryBiasUptoCard

/-- THE SECOND FORM's CARD OF 'synopticlaw11.RegistrySets'. -/
def registrySetsUptoCard : Claim7 := { stood := { row := registrySetsUptoRow, standIns := [], harness := (true, "02ce36c2e50ad3106e7d05f1eff0183688bfe0ac972139819ed3da9bdf23355c"), looks := false }, kinds := [], alts := [], laidByText := true, laidKinds := [.data, .data], laidTests := true, laidLooks := .later }
def RegistrySetsUptoCardSaid : Prop := Claim7.holds Tryz.pinned (.plain (OpenSpec.upto registrySetsSpec)) registrySetsUptoCard

/-- THE SECOND FORM's CARD OF 'synopticlaw11.RegistryAnswers'. -/
def registryAnswersUptoCard : Claim7 := { stood := { row := registryAnswersUptoRow, standIns := [], harness := (true, "02ce36c2e50ad3106e7d05f1eff0183688bfe0ac972139819ed3da9bdf23355c"), looks := false }, kinds := [], alts := [], laidByText := true, laidKinds := [.data, .data], laidTests := true, laidLooks := .later }
def RegistryAnswersUptoCardSaid : Prop := Claim7.holds Tryz.pinned (.plain (OpenSpec.upto registryAnswersSpec)) registryAnswersUptoCard
end Rows
end Go.Proofs.YtldiagnbagpliaaGreatDoor
