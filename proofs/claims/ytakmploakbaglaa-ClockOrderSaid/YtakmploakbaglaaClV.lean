/- The clock: the order of dates, plain law. -/
import Derived.Test.YtakmploakbaglaaClL
namespace Go.Proofs.Ytakmploakbaglaa
open Go
set_option linter.unusedVariables false

def Lex (y m d h i y' m' d' h' i' : Int) : Prop := y < y' ∨ (y = y' ∧ (m < m' ∨ (m = m' ∧ (d < d' ∨ (d = d' ∧ (h < h' ∨ (h = h' ∧ i < i')))))))
theorem lex_lt {y m d h i y' m' d' h' i' : Int} (v : VldC y m d h i) (v' : VldC y' m' d' h' i') (l : Lex y m d h i y' m' d' h' i') : mns y m d h i < mns y' m' d' h' i' := by
  have b := mns_bd v
  have b' := mns_bd v'
  obtain ⟨⟨y1, y2⟩, ⟨m1, m2⟩, ⟨d1, d2⟩, ⟨h1, h2⟩, ⟨i1, i2⟩⟩ := v
  obtain ⟨⟨y1', y2'⟩, ⟨m1', m2'⟩, ⟨d1', d2'⟩, ⟨h1', h2'⟩, ⟨i1', i2'⟩⟩ := v'
  rcases l with l | ⟨rfl, l⟩
  · have := fst_mono (y := y + 1) (z := y') (by omega) (by omega)
    omega
  · rcases l with l | ⟨rfl, l⟩
    · have c := cum_mono y (j := (m - 1).toNat + 1) (k := (m' - 1).toNat) (by omega) (by omega)
      have c2 : cum y ((m - 1).toNat + 1) = cum y (m - 1).toNat + (len12 y).getD (m - 1).toNat 0 := rfl
      unfold mns
      omega
    · unfold mns
      omega
theorem lex_iff {y m d h i y' m' d' h' i' : Int} (v : VldC y m d h i) (v' : VldC y' m' d' h' i') : mns y m d h i < mns y' m' d' h' i' ↔ Lex y m d h i y' m' d' h' i' := by
  refine ⟨fun hq => ?_, lex_lt v v'⟩
  have r : ¬ Lex y' m' d' h' i' y m d h i := fun l => by have := lex_lt v' v l; omega
  have e : ¬ (y = y' ∧ m = m' ∧ d = d' ∧ h = h' ∧ i = i') := by rintro ⟨rfl, rfl, rfl, rfl, rfl⟩; omega
  unfold Lex at r ⊢
  omega
end Go.Proofs.Ytakmploakbaglaa
