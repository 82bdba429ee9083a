/-
  DERIVED. GIVEN WITH THE SEED: THE CARDS: each row of YtddmmjkhkoencaaDoorRows.lean that lists a variable, with what it lists TIED to the program's text (the seventh form; the later family's looks); each row that meets fmt, with fmt's text TOLD by the authors' own Lean function (tested against real Go, not proved from fmt's source: count such statements apart). THE CARD IS WHAT COUNTS. Prove the row's statement (the work); the ties are given (YtddmmjkhkoencaaDoorTie.lean); close each card by the builder's one call (the guide's Derived/Test/ToyasCard.lean, 'card_holds'). Laid BY PROGRAM, IN A SANDBOX (cutbox-door.mjs). By AI agents, Wed Nov 11 2026. No macro, syntax, notation, axiom, sorry.
-/
import Derived.Test.YtddmmjkhkoencaaDoorRows
import GoSem.ClaimSeven
namespace Go.Proofs.YtddmmjkhkoencaaDoor
namespace Rows

/-- THE TIED CARD OF 'synopticlaw02.PlaceNormal'. -/
def placeNormalCard : Claim7 := { stood := { row := placeNormalRow, standIns := [], harness := (true, "817a4ab13da3f86dff8edc1e91831a3e93e2e4d694c7e35ab8dab5e3f10e8eb7"), looks := false }, kinds := [], alts := [], laidByText := true, laidKinds := [.data], laidTests := true, laidLooks := .later }
def PlaceNormalCardSaid : Prop := Claim7.holds Tryd.pinned (.plain (OpenSpec.ofChange placeNormalSpec)) placeNormalCard

/-- THE TIED CARD OF 'synopticlaw02.PlaceCorners'. -/
def placeCornersCard : Claim7 := { stood := { row := placeCornersRow, standIns := [], harness := (true, "817a4ab13da3f86dff8edc1e91831a3e93e2e4d694c7e35ab8dab5e3f10e8eb7"), looks := false }, kinds := [], alts := [], laidByText := true, laidKinds := [.data], laidTests := true, laidLooks := .later }
def PlaceCornersCardSaid : Prop := Claim7.holds Tryd.pinned (.plain (OpenSpec.ofChange placeCornersSpec)) placeCornersCard

/-- THE TIED CARD OF 'synopticlaw02.PlaceTexts'. -/
def placeTextsCard : Claim7 := { stood := { row := placeTextsRow, standIns := [], harness := (true, "817a4ab13da3f86dff8edc1e91831a3e93e2e4d694c7e35ab8dab5e3f10e8eb7"), looks := false }, kinds := [], alts := [], laidByText := true, laidKinds := [.data], laidTests := true, laidLooks := .later }
def PlaceTextsCardSaid : Prop := Claim7.holds Tryd.pinned (.plain (OpenSpec.ofChange placeTextsSpec)) placeTextsCard

/-- THE TIED CARD OF 'synopticlaw02.PlaceSolid'. -/
def placeSolidCard : Claim7 := { stood := { row := placeSolidRow, standIns := [], harness := (true, "817a4ab13da3f86dff8edc1e91831a3e93e2e4d694c7e35ab8dab5e3f10e8eb7"), looks := false }, kinds := [], alts := [], laidByText := true, laidKinds := [.data], laidTests := true, laidLooks := .later }
def PlaceSolidCardSaid : Prop := Claim7.holds Tryd.pinned (.plain (OpenSpec.ofChange placeSolidSpec)) placeSolidCard

/-- THE TIED CARD OF 'synopticlaw02.PlaceAcross'. -/
def placeAcrossCard : Claim7 := { stood := { row := placeAcrossRow, standIns := [], harness := (true, "817a4ab13da3f86dff8edc1e91831a3e93e2e4d694c7e35ab8dab5e3f10e8eb7"), looks := false }, kinds := [], alts := [], laidByText := true, laidKinds := [.data], laidTests := true, laidLooks := .later }
def PlaceAcrossCardSaid : Prop := Claim7.holds Tryd.pinned (.plain (OpenSpec.ofChange placeAcrossSpec)) placeAcrossCard

/-- THE TIED CARD OF 'synopticlaw02.PlaceAnswers'. -/
def placeAnswersCard : Claim7 := { stood := { row := placeAnswersRow, standIns := [], harness := (true, "817a4ab13da3f86dff8edc1e91831a3e93e2e4d694c7e35ab8dab5e3f10e8eb7"), looks := false }, kinds := [], alts := [], laidByText := true, laidKinds := [.data], laidTests := true, laidLooks := .later }
def PlaceAnswersCardSaid : Prop := Claim7.holds Tryd.pinned (.plain (OpenSpec.ofChange placeAnswersSpec)) placeAnswersCard

/-- THE SECOND FORM's CARD OF 'synopticlaw02.PlaceNormal'. -/
def placeNormalUptoCard : Claim7 := { stood := { row := placeNormalUptoRow, standIns := [], harness := (true, "817a4ab13da3f86dff8edc1e91831a3e93e2e4d694c7e35ab8dab5e3f10e8eb7"), looks := false }, kinds := [], alts := [], laidByText := true, laidKinds := [.data], laidTests := true, laidLooks := .later }
def PlaceNormalUptoCardSaid : Prop := Claim7.holds Tryd.pinned (.plain (OpenSpec.upto placeNormalSpec)) placeNormalUptoCard

/-- THE SECOND FORM's CARD OF 'synopticlaw02.PlaceCorners'. -/
def placeCornersUptoCard : Claim7 := { stood := { row := placeCornersUptoRow, standIns := [], harness := (true, "817a4ab13da3f86dff8edc1e91831a3e93e2e4d694c7e35ab8dab5e3f10e8eb7"), looks := false }, kinds := [], alts := [], laidByText := true, laidKinds := [.data], laidTests := true, laidLooks := .later }
def PlaceCornersUptoCardSaid : Prop := Claim7.holds Tryd.pinned (.plain (OpenSpec.upto placeCornersSpec)) placeCornersUptoCard

/-- THE SECOND FORM's CARD OF 'synopticlaw02.PlaceTexts'. -/
def placeTextsUptoCard : Claim7 := { stood := { row := placeTextsUptoRow, standIns := [], harness := (true, "817a4ab13da3f86dff8edc1e91831a3e93e2e4d694c7e35ab8dab5e3f10e8eb7"), looks := false }, kinds := [], alts := [], laidByText := true, laidKinds := [.data], laidTests := true, laidLooks := .later }
def PlaceTextsUptoCardSaid : Prop := Claim7.holds Tryd.pinned (.plain (OpenSpec.upto placeTextsSpec)) placeTextsUptoCard

/-- THE SECOND FORM's CARD OF 'synopticlaw02.PlaceSolid'. -/
def placeSolidUptoCard : Claim7 := { stood := { row := placeSolidUptoRow, standIns := [], harness := (true, "817a4ab13da3f86dff8edc1e91831a3e93e2e4d694c7e35ab8dab5e3f10e8eb7"), looks := false }, kinds := [], alts := [], laidByText := true, laidKinds := [.data], laidTests := true, laidLooks := .later }
def PlaceSolidUptoCardSaid : Prop := Claim7.holds Tryd.pinned (.plain (OpenSpec.upto placeSolidSpec)) placeSolidUptoCard

/-- THE SECOND FORM's CARD OF 'synopticlaw02.PlaceAcross'. -/
def placeAcrossUptoCard : Claim7 := { stood := { row := placeAcrossUptoRow, standIns := [], harness := (true, "817a4ab13da3f86dff8edc1e91831a3e93e2e4d694c7e35ab8dab5e3f10e8eb7"), looks := false }, kinds := [], alts := [], laidByText := true, laidKinds := [.data], laidTests := true, laidLooks := .later }
def PlaceAcrossUptoCardSaid : Prop := Claim7.holds Tryd.pinned (.plain (OpenSpec.upto placeAcrossSpec)) placeAcrossUptoCard

/-- THE SECOND FORM's CARD OF 'synopticlaw02.PlaceAnswers'. -/
def placeAnswersUptoCard : Claim7 := { stood := { row := placeAnswersUptoRow, standIns := [], harness := (true, "817a4ab13da3f86dff8edc1e91831a3e93e2e4d694c7e35ab8dab5e3f10e8eb7"), looks := false }, kinds := [], alts := [], laidByText := true, laidKinds := [.data], laidTests := true, laidLooks := .later }
def PlaceAnswersUptoCardSaid : Prop := Claim7.holds Tryd.pinned (.plain (OpenSpec.upto placeAnswersSpec)) placeAnswersUptoCard
end Rows
end Go.Proofs.YtddmmjkhkoencaaDoor
