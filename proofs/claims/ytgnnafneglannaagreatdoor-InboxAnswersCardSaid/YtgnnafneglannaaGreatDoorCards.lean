/-
  DERIVED. GIVEN WITH THE SEED: THE CARDS: each row of YtgnnafneglannaaGreatDoorRows.lean that lists a variable, with what it lists TIED to the program's text (the seventh form; the later family's looks); each row that meets fmt, with fmt's text TOLD by the authors' own Lean function (tested against real Go, not proved from fmt's source: count such statements apart). THE CARD IS WHAT COUNTS. Prove the row's statement (the work); the ties are given (YtgnnafneglannaaGreatDoorTie.lean); close each card by the builder's one call (the guide's Derived/Test/ToyasCard.lean, 'card_holds'). Laid BY PROGRAM, IN A SANDBOX (cutbox-door.mjs). By AI agents, Wed Nov 11 2026. No macro, syntax, notation, axiom, sorry.
-/
import Derived.Test.YtgnnafneglannaaGreatDoorRows
import GoSem.ClaimSeven
namespace Go.Proofs.YtgnnafneglannaaGreatDoor
namespace Rows

/-- THE TIED CARD OF 'synopticlaw10.InboxAnswers'. -/
def inboxAnswersCard : Claim7 := { stood := { row := inboxAnswersRow, standIns := [], harness := (true, "343e7904c7ae2a70b84855f5021800182def06e6e823945bb4e039c9d8b1b922"), looks := false }, kinds := [], alts := [], laidByText := true, laidKinds := [.data, .data], laidTests := true, laidLooks := .later }
def InboxAnswersCardSaid : Prop := Claim7.holds Tryz.pinned (.plain (OpenSpec.ofChange inboxAnswersSpec)) inboxAnswersCard

/-- THE SECOND FORM's CARD OF 'synopticlaw10.InboxAnswers'. -/
def inboxAnswersUptoCard : Claim7 := { stood := { row := inboxAnswersUptoRow, standIns := [], harness := (true, "343e7904c7ae2a70b84855f5021800182def06e6e823945bb4e039c9d8b1b922"), looks := false }, kinds := [], alts := [], laidByText := true, laidKinds := [.data, .data], laidTests := true, laidLooks := .later }
def InboxAnswersUptoCardSaid : Prop := Claim7.holds Tryz.pinned (.plain (OpenSpec.upto inboxAnswersSpec)) inboxAnswersUptoCard
end Rows
end Go.Proofs.YtgnnafneglannaaGreatDoor
