/-
  DERIVED. GIVEN WITH THE SEED: THE CARDS: each row of YtgnnafneglannaaDoorRows.lean that lists a variable, with what it lists TIED to the program's text (the seventh form; the later family's looks); each row that meets fmt, with fmt's text TOLD by the authors' own Lean function (tested against real Go, not proved from fmt's source: count such statements apart). THE CARD IS WHAT COUNTS. Prove the row's statement (the work); the ties are given (YtgnnafneglannaaDoorTie.lean); close each card by the builder's one call (the guide's Derived/Test/ToyasCard.lean, 'card_holds'). Laid BY PROGRAM, IN A SANDBOX (cutbox-door.mjs). By AI agents, Wed Nov 11 2026. No macro, syntax, notation, axiom, sorry.
-/
import Derived.Test.YtgnnafneglannaaDoorRows
import GoSem.ClaimSeven
namespace Go.Proofs.YtgnnafneglannaaDoor
namespace Rows

/-- THE TIED CARD OF 'synopticlaw10.InboxTakes'. -/
def inboxTakesCard : Claim7 := { stood := { row := inboxTakesRow, standIns := [], harness := (true, "55ef55d088c39461bf9a063f06dbbec343e0f6deec170e45d09de48e036e44cc"), looks := false }, kinds := [], alts := [], laidByText := true, laidKinds := [.data, .data], laidTests := true, laidLooks := .later }
def InboxTakesCardSaid : Prop := Claim7.holds Tryd.pinned (.plain (OpenSpec.ofChange inboxTakesSpec)) inboxTakesCard

/-- THE TIED CARD OF 'synopticlaw10.InboxOrder'. -/
def inboxOrderCard : Claim7 := { stood := { row := inboxOrderRow, standIns := [], harness := (true, "55ef55d088c39461bf9a063f06dbbec343e0f6deec170e45d09de48e036e44cc"), looks := false }, kinds := [], alts := [], laidByText := true, laidKinds := [.data, .data], laidTests := true, laidLooks := .later }
def InboxOrderCardSaid : Prop := Claim7.holds Tryd.pinned (.plain (OpenSpec.ofChange inboxOrderSpec)) inboxOrderCard

/-- THE TIED CARD OF 'synopticlaw10.InboxCutoff'. -/
def inboxCutoffCard : Claim7 := { stood := { row := inboxCutoffRow, standIns := [], harness := (true, "55ef55d088c39461bf9a063f06dbbec343e0f6deec170e45d09de48e036e44cc"), looks := false }, kinds := [], alts := [], laidByText := true, laidKinds := [.data, .data], laidTests := true, laidLooks := .later }
def InboxCutoffCardSaid : Prop := Claim7.holds Tryd.pinned (.plain (OpenSpec.ofChange inboxCutoffSpec)) inboxCutoffCard

/-- THE TIED CARD OF 'synopticlaw10.InboxMerges'. -/
def inboxMergesCard : Claim7 := { stood := { row := inboxMergesRow, standIns := [], harness := (true, "55ef55d088c39461bf9a063f06dbbec343e0f6deec170e45d09de48e036e44cc"), looks := false }, kinds := [], alts := [], laidByText := true, laidKinds := [.data, .data], laidTests := true, laidLooks := .later }
def InboxMergesCardSaid : Prop := Claim7.holds Tryd.pinned (.plain (OpenSpec.ofChange inboxMergesSpec)) inboxMergesCard

/-- THE TIED CARD OF 'synopticlaw10.InboxWindows'. -/
def inboxWindowsCard : Claim7 := { stood := { row := inboxWindowsRow, standIns := [], harness := (true, "55ef55d088c39461bf9a063f06dbbec343e0f6deec170e45d09de48e036e44cc"), looks := false }, kinds := [], alts := [], laidByText := true, laidKinds := [.data, .data], laidTests := true, laidLooks := .later }
def InboxWindowsCardSaid : Prop := Claim7.holds Tryd.pinned (.plain (OpenSpec.ofChange inboxWindowsSpec)) inboxWindowsCard

/-- THE SECOND FORM's CARD OF 'synopticlaw10.InboxTakes'. -/
def inboxTakesUptoCard : Claim7 := { stood := { row := inboxTakesUptoRow, standIns := [], harness := (true, "55ef55d088c39461bf9a063f06dbbec343e0f6deec170e45d09de48e036e44cc"), looks := false }, kinds := [], alts := [], laidByText := true, laidKinds := [.data, .data], laidTests := true, laidLooks := .later }
def InboxTakesUptoCardSaid : Prop := Claim7.holds Tryd.pinned (.plain (OpenSpec.upto inboxTakesSpec)) inboxTakesUptoCard

/-- THE SECOND FORM's CARD OF 'synopticlaw10.InboxOrder'. -/
def inboxOrderUptoCard : Claim7 := { stood := { row := inboxOrderUptoRow, standIns := [], harness := (true, "55ef55d088c39461bf9a063f06dbbec343e0f6deec170e45d09de48e036e44cc"), looks := false }, kinds := [], alts := [], laidByText := true, laidKinds := [.data, .data], laidTests := true, laidLooks := .later }
def InboxOrderUptoCardSaid : Prop := Claim7.holds Tryd.pinned (.plain (OpenSpec.upto inboxOrderSpec)) inboxOrderUptoCard

/-- THE SECOND FORM's CARD OF 'synopticlaw10.InboxCutoff'. -/
def inboxCutoffUptoCard : Claim7 := { stood := { row := inboxCutoffUptoRow, standIns := [], harness := (true, "55ef55d088c39461bf9a063f06dbbec343e0f6deec170e45d09de48e036e44cc"), looks := false }, kinds := [], alts := [], laidByText := true, laidKinds := [.data, .data], laidTests := true, laidLooks := .later }
def InboxCutoffUptoCardSaid : Prop := Claim7.holds Tryd.pinned (.plain (OpenSpec.upto inboxCutoffSpec)) inboxCutoffUptoCard

/-- THE SECOND FORM's CARD OF 'synopticlaw10.InboxMerges'. -/
def inboxMergesUptoCard : Claim7 := { stood := { row := inboxMergesUptoRow, standIns := [], harness := (true, "55ef55d088c39461bf9a063f06dbbec343e0f6deec170e45d09de48e036e44cc"), looks := false }, kinds := [], alts := [], laidByText := true, laidKinds := [.data, .data], laidTests := true, laidLooks := .later }
def InboxMergesUptoCardSaid : Prop := Claim7.holds Tryd.pinned (.plain (OpenSpec.upto inboxMergesSpec)) inboxMergesUptoCard

/-- THE SECOND FORM's CARD OF 'synopticlaw10.InboxWindows'. -/
def inboxWindowsUptoCard : Claim7 := { stood := { row := inboxWindowsUptoRow, standIns := [], harness := (true, "55ef55d088c39461bf9a063f06dbbec343e0f6deec170e45d09de48e036e44cc"), looks := false }, kinds := [], alts := [], laidByText := true, laidKinds := [.data, .data], laidTests := true, laidLooks := .later }
def InboxWindowsUptoCardSaid : Prop := Claim7.holds Tryd.pinned (.plain (OpenSpec.upto inboxWindowsSpec)) inboxWindowsUptoCard
end Rows
end Go.Proofs.YtgnnafneglannaaDoor
