/-
  DERIVED. GIVEN WITH THE SEED: THE CARDS: each row of YtboknhifjhjkdaaDoorRows.lean that lists a variable, with what it lists TIED to the program's text (the seventh form; the later family's looks); each row that meets fmt, with fmt's text TOLD by the authors' own Lean function (tested against real Go, not proved from fmt's source: count such statements apart). THE CARD IS WHAT COUNTS. Prove the row's statement (the work); the ties are given (YtboknhifjhjkdaaDoorTie.lean); close each card by the builder's one call (the guide's Derived/Test/ToyasCard.lean, 'card_holds'). Laid BY PROGRAM, IN A SANDBOX (cutbox-door.mjs). By AI agents, Wed Nov 11 2026. No macro, syntax, notation, axiom, sorry.
-/
import Derived.Test.YtboknhifjhjkdaaDoorRows
import GoSem.ClaimSeven
namespace Go.Proofs.YtboknhifjhjkdaaDoor
namespace Rows

/-- THE TIED CARD OF 'synopticlaw17.HydrostaticFinds'. -/
def hydrostaticFindsCard : Claim7 := { stood := { row := hydrostaticFindsRow, standIns := [], harness := (true, "a8de321de141ff0614bfdd1add21aa5a1744fefc70f23b111a321b4a111c7f6f"), looks := false }, kinds := [], alts := [], laidByText := true, laidKinds := [.data], laidTests := true, laidLooks := .later }
def HydrostaticFindsCardSaid : Prop := Claim7.holds Tryd.pinned (.plain (OpenSpec.ofChange hydrostaticFindsSpec)) hydrostaticFindsCard

/-- THE TIED CARD OF 'synopticlaw17.HydrostaticEnds'. -/
def hydrostaticEndsCard : Claim7 := { stood := { row := hydrostaticEndsRow, standIns := [], harness := (true, "a8de321de141ff0614bfdd1add21aa5a1744fefc70f23b111a321b4a111c7f6f"), looks := false }, kinds := [], alts := [], laidByText := true, laidKinds := [.data], laidTests := true, laidLooks := .later }
def HydrostaticEndsCardSaid : Prop := Claim7.holds Tryd.pinned (.plain (OpenSpec.ofChange hydrostaticEndsSpec)) hydrostaticEndsCard

/-- THE TIED CARD OF 'synopticlaw17.HydrostaticWider'. -/
def hydrostaticWiderCard : Claim7 := { stood := { row := hydrostaticWiderRow, standIns := [], harness := (true, "a8de321de141ff0614bfdd1add21aa5a1744fefc70f23b111a321b4a111c7f6f"), looks := false }, kinds := [], alts := [], laidByText := true, laidKinds := [.data], laidTests := true, laidLooks := .later }
def HydrostaticWiderCardSaid : Prop := Claim7.holds Tryd.pinned (.plain (OpenSpec.ofChange hydrostaticWiderSpec)) hydrostaticWiderCard

/-- THE TIED CARD OF 'synopticlaw17.HydrostaticShifted'. -/
def hydrostaticShiftedCard : Claim7 := { stood := { row := hydrostaticShiftedRow, standIns := [], harness := (true, "a8de321de141ff0614bfdd1add21aa5a1744fefc70f23b111a321b4a111c7f6f"), looks := false }, kinds := [], alts := [], laidByText := true, laidKinds := [.data], laidTests := true, laidLooks := .later }
def HydrostaticShiftedCardSaid : Prop := Claim7.holds Tryd.pinned (.plain (OpenSpec.ofChange hydrostaticShiftedSpec)) hydrostaticShiftedCard

/-- THE SECOND FORM's CARD OF 'synopticlaw17.HydrostaticFinds'. -/
def hydrostaticFindsUptoCard : Claim7 := { stood := { row := hydrostaticFindsUptoRow, standIns := [], harness := (true, "a8de321de141ff0614bfdd1add21aa5a1744fefc70f23b111a321b4a111c7f6f"), looks := false }, kinds := [], alts := [], laidByText := true, laidKinds := [.data], laidTests := true, laidLooks := .later }
def HydrostaticFindsUptoCardSaid : Prop := Claim7.holds Tryd.pinned (.plain (OpenSpec.upto hydrostaticFindsSpec)) hydrostaticFindsUptoCard

/-- THE SECOND FORM's CARD OF 'synopticlaw17.HydrostaticEnds'. -/
def hydrostaticEndsUptoCard : Claim7 := { stood := { row := hydrostaticEndsUptoRow, standIns := [], harness := (true, "a8de321de141ff0614bfdd1add21aa5a1744fefc70f23b111a321b4a111c7f6f"), looks := false }, kinds := [], alts := [], laidByText := true, laidKinds := [.data], laidTests := true, laidLooks := .later }
def HydrostaticEndsUptoCardSaid : Prop := Claim7.holds Tryd.pinned (.plain (OpenSpec.upto hydrostaticEndsSpec)) hydrostaticEndsUptoCard

/-- THE SECOND FORM's CARD OF 'synopticlaw17.HydrostaticWider'. -/
def hydrostaticWiderUptoCard : Claim7 := { stood := { row := hydrostaticWiderUptoRow, standIns := [], harness := (true, "a8de321de141ff0614bfdd1add21aa5a1744fefc70f23b111a321b4a111c7f6f"), looks := false }, kinds := [], alts := [], laidByText := true, laidKinds := [.data], laidTests := true, laidLooks := .later }
def HydrostaticWiderUptoCardSaid : Prop := Claim7.holds Tryd.pinned (.plain (OpenSpec.upto hydrostaticWiderSpec)) hydrostaticWiderUptoCard

/-- THE SECOND FORM's CARD OF 'synopticlaw17.HydrostaticShifted'. -/
def hydrostaticShiftedUptoCard : Claim7 := { stood := { row := hydrostaticShiftedUptoRow, standIns := [], harness := (true, "a8de321de141ff0614bfdd1add21aa5a1744fefc70f23b111a321b4a111c7f6f"), looks := false }, kinds := [], alts := [], laidByText := true, laidKinds := [.data], laidTests := true, laidLooks := .later }
def HydrostaticShiftedUptoCardSaid : Prop := Claim7.holds Tryd.pinned (.plain (OpenSpec.upto hydrostaticShiftedSpec)) hydrostaticShiftedUptoCard
end Rows
end Go.Proofs.YtboknhifjhjkdaaDoor
