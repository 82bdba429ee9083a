/-
  DERIVED. GIVEN WITH THE SEED: THE CARDS: each row of YtceknalhogbbnaaDoorRows.lean that lists a variable, with what it lists TIED to the program's text (the seventh form; the later family's looks); each row that meets fmt, with fmt's text TOLD by the authors' own Lean function (tested against real Go, not proved from fmt's source: count such statements apart). THE CARD IS WHAT COUNTS. Prove the row's statement (the work); the ties are given (YtceknalhogbbnaaDoorTie.lean); close each card by the builder's one call (the guide's Derived/Test/ToyasCard.lean, 'card_holds'). Laid BY PROGRAM, IN A SANDBOX (cutbox-door.mjs). By AI agents, Wed Nov 11 2026. No macro, syntax, notation, axiom, sorry.
-/
import Derived.Test.YtceknalhogbbnaaDoorRows
import GoSem.ClaimSeven
namespace Go.Proofs.YtceknalhogbbnaaDoor
namespace Rows

/-- THE TIED CARD OF 'synopticlaw15.SeasonAnswers'. -/
def seasonAnswersCard : Claim7 := { stood := { row := seasonAnswersRow, standIns := [], harness := (true, "d12bd0577ea355f82cf0a97eada2f1c1ea38018c86b20206d27b763171d80a80"), looks := false }, kinds := [], alts := [], laidByText := true, laidKinds := [.data, .data], laidTests := true, laidLooks := .later }
def SeasonAnswersCardSaid : Prop := Claim7.holds Tryd.pinned (.plain (OpenSpec.ofChange seasonAnswersSpec)) seasonAnswersCard

/-- THE TIED CARD OF 'synopticlaw15.SeasonLearned'. -/
def seasonLearnedCard : Claim7 := { stood := { row := seasonLearnedRow, standIns := [], harness := (true, "d12bd0577ea355f82cf0a97eada2f1c1ea38018c86b20206d27b763171d80a80"), looks := false }, kinds := [], alts := [], laidByText := true, laidKinds := [.data, .data], laidTests := true, laidLooks := .later }
def SeasonLearnedCardSaid : Prop := Claim7.holds Tryd.pinned (.plain (OpenSpec.ofChange seasonLearnedSpec)) seasonLearnedCard

/-- THE TIED CARD OF 'synopticlaw15.SeasonWider'. -/
def seasonWiderCard : Claim7 := { stood := { row := seasonWiderRow, standIns := [], harness := (true, "d12bd0577ea355f82cf0a97eada2f1c1ea38018c86b20206d27b763171d80a80"), looks := false }, kinds := [], alts := [], laidByText := true, laidKinds := [.data, .data], laidTests := true, laidLooks := .later }
def SeasonWiderCardSaid : Prop := Claim7.holds Tryd.pinned (.plain (OpenSpec.ofChange seasonWiderSpec)) seasonWiderCard

/-- THE TIED CARD OF 'synopticlaw15.SeasonNone'. -/
def seasonNoneCard : Claim7 := { stood := { row := seasonNoneRow, standIns := [], harness := (true, "d12bd0577ea355f82cf0a97eada2f1c1ea38018c86b20206d27b763171d80a80"), looks := false }, kinds := [], alts := [], laidByText := true, laidKinds := [.data, .data], laidTests := true, laidLooks := .later }
def SeasonNoneCardSaid : Prop := Claim7.holds Tryd.pinned (.plain (OpenSpec.ofChange seasonNoneSpec)) seasonNoneCard

/-- THE SECOND FORM's CARD OF 'synopticlaw15.SeasonAnswers'. -/
def seasonAnswersUptoCard : Claim7 := { stood := { row := seasonAnswersUptoRow, standIns := [], harness := (true, "d12bd0577ea355f82cf0a97eada2f1c1ea38018c86b20206d27b763171d80a80"), looks := false }, kinds := [], alts := [], laidByText := true, laidKinds := [.data, .data], laidTests := true, laidLooks := .later }
def SeasonAnswersUptoCardSaid : Prop := Claim7.holds Tryd.pinned (.plain (OpenSpec.upto seasonAnswersSpec)) seasonAnswersUptoCard

/-- THE SECOND FORM's CARD OF 'synopticlaw15.SeasonLearned'. -/
def seasonLearnedUptoCard : Claim7 := { stood := { row := seasonLearnedUptoRow, standIns := [], harness := (true, "d12bd0577ea355f82cf0a97eada2f1c1ea38018c86b20206d27b763171d80a80"), looks := false }, kinds := [], alts := [], laidByText := true, laidKinds := [.data, .data], laidTests := true, laidLooks := .later }
def SeasonLearnedUptoCardSaid : Prop := Claim7.holds Tryd.pinned (.plain (OpenSpec.upto seasonLearnedSpec)) seasonLearnedUptoCard

/-- THE SECOND FORM's CARD OF 'synopticlaw15.SeasonWider'. -/
def seasonWiderUptoCard : Claim7 := { stood := { row := seasonWiderUptoRow, standIns := [], harness := (true, "d12bd0577ea355f82cf0a97eada2f1c1ea38018c86b20206d27b763171d80a80"), looks := false }, kinds := [], alts := [], laidByText := true, laidKinds := [.data, .data], laidTests := true, laidLooks := .later }
def SeasonWiderUptoCardSaid : Prop := Claim7.holds Tryd.pinned (.plain (OpenSpec.upto seasonWiderSpec)) seasonWiderUptoCard

/-- THE SECOND FORM's CARD OF 'synopticlaw15.SeasonNone'. -/
def seasonNoneUptoCard : Claim7 := { stood := { row := seasonNoneUptoRow, standIns := [], harness := (true, "d12bd0577ea355f82cf0a97eada2f1c1ea38018c86b20206d27b763171d80a80"), looks := false }, kinds := [], alts := [], laidByText := true, laidKinds := [.data, .data], laidTests := true, laidLooks := .later }
def SeasonNoneUptoCardSaid : Prop := Claim7.holds Tryd.pinned (.plain (OpenSpec.upto seasonNoneSpec)) seasonNoneUptoCard
end Rows
end Go.Proofs.YtceknalhogbbnaaDoor
