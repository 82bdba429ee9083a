/- Code: rows of regions, tests, blocks, loops; and a whole function. (Regions that draw their order: Vm.) -/
import Derived.Test.YthdfkiopppkfcaaDoorVk
namespace Go.Proofs.YthdfkiopppkfcaaDoor
open Go
open Go.RowKit (Below)
set_option linter.unusedVariables false
set_option linter.unusedSimpArgs false

mutual
/-- What is x is also y. -/
def le : AV → AV → Prop
  | _, .dead => True
  | .int k a, .int k' b => cond (decide (k = k')) (a = b) False
  | .bool a, .bool b => a = b
  | .str a, .str b => a = b
  | .agg xs, .agg ys => leL xs ys
  | .tup xs, .tup ys => leL xs ys
  | .fn f xs, .fn g ys => cond (Nat.beq f g) (leL xs ys) False
  | .nils, .nils => True
  | .nils, .sl _ _ xs => xs = []
  | .sl s f xs, .sl s' f' ys => cond (Nat.beq s s') (cond f' (f = true) True ∧ xs = ys) False
  | .acc _ s xs, .sl s' f' ys => cond (Nat.beq s s' && !f') (xs = ys) False
  | .acc k s xs, .acc k' s' ys => cond (Nat.beq k k' && Nat.beq s s') (xs = ys) False
  | .ro xs, .ro ys => xs = ys
  | .nilp, .nilp => True
  | .ptr k a, .ptr k' b => cond (Nat.beq k k') (a = b) False
  | .ms k a b c d, .ms k' a' b' c' d' => cond (Nat.beq k k' && Nat.beq d d') (a = a' ∧ b = b' ∧ c = c') False
  | .rw k s n, .rw k' s' n' => cond (Nat.beq k k' && Nat.beq s s') (n = n') False
  | .mw k s q o n f, .mw k' s' q' o' n' f' => cond (Nat.beq k k' && Nat.beq s s') (q = q' ∧ o = o' ∧ n = n' ∧ cond f' (f = true) True) False
  | .prw k s q j o, .prw k' s' q' j' o' => cond (Nat.beq k k' && Nat.beq s s') (q = q' ∧ j = j' ∧ o = o') False
  | .frz k s n xs, .frz k' s' n' ys => cond (Nat.beq k k' && Nat.beq s s') (n = n' ∧ xs = ys) False
  | .frz _ s n xs, .sl s' f' ys => cond (Nat.beq s s' && !f') (n = xs.length ∧ xs = ys) False
  | .mpv k, .mpv k' => cond (Nat.beq k k') True False
  | .undef, .undef => True
  | _, _ => False
def leL : List AV → List AV → Prop
  | [], [] => True
  | x :: xs, y :: ys => le x y ∧ leL xs ys
  | _, _ => False
end
mutual
theorem le_sound {S : Pin} : ∀ (x y : AV) (m : Nm) (v : Value), le x y → CV S x m v → CV S y m v := by
  intro x y m v h hv
  unfold le at h
  split at h
  · simp only [CV]
  · obtain ⟨hk, h2⟩ := cond_F h
    have hk := of_decide_eq_true hk
    subst hk; subst h2; exact hv
  · subst h; exact hv
  · subst h; exact hv
  · simp only [CV] at hv ⊢
    obtain ⟨us, e, hu⟩ := hv
    exact ⟨us, e, leL_sound _ _ m _ h hu⟩
  · simp only [CV] at hv ⊢
    obtain ⟨us, e, hu⟩ := hv
    exact ⟨us, e, leL_sound _ _ m _ h hu⟩
  · obtain ⟨hf, h2⟩ := cond_F h
    have hf := Nat.eq_of_beq_eq_true hf
    subst hf
    simp only [CV] at hv ⊢
    obtain ⟨us, e, hu⟩ := hv
    exact ⟨us, e, leL_sound _ _ m _ h2 hu⟩
  · exact hv
  · subst h
    simp only [CV] at hv ⊢
    subst hv
    exact ⟨none, 0, rfl, Nat.le_refl _, by unfold maxLen; omega, fun _ => rfl, fun _ => rfl, fun a e => by cases e⟩
  · rename_i s f xs s' f' ys
    obtain ⟨hs, h2⟩ := cond_F h
    have hs := Nat.eq_of_beq_eq_true hs
    obtain ⟨hf, h3⟩ := h2
    subst hs; subst h3
    simp only [CV] at hv ⊢
    obtain ⟨A, c, e, p1, p2, p3, p4, p5⟩ := hv
    exact ⟨A, c, e, p1, p2, (fun q => by subst q; exact p3 hf), p4, p5⟩
  · rename_i k s xs s' f' ys
    obtain ⟨hs, h2⟩ := cond_F h
    simp only [Bool.and_eq_true, Bool.not_eq_true'] at hs
    have hs1 := Nat.eq_of_beq_eq_true hs.1
    subst hs1; subst h2
    simp only [CV] at hv ⊢
    obtain ⟨⟨A, c, e, p1, p2, p3, p4⟩, _⟩ := hv
    exact ⟨A, c, e, p1, p2, (fun q => by rw [hs.2] at q; cases q), p3, p4⟩
  · rename_i k s xs k' s' ys
    obtain ⟨hs, h2⟩ := cond_F h
    simp only [Bool.and_eq_true] at hs
    have hs1 := Nat.eq_of_beq_eq_true hs.1
    have hs2 := Nat.eq_of_beq_eq_true hs.2
    subst hs1; subst hs2; subst h2; exact hv
  · subst h; exact hv
  · exact hv
  · rename_i k a k' b
    obtain ⟨hk, h2⟩ := cond_F h
    have hk := Nat.eq_of_beq_eq_true hk
    subst hk; subst h2; exact hv
  · rename_i k a b c d k' a' b' c' d'
    obtain ⟨hs, h2⟩ := cond_F h
    simp only [Bool.and_eq_true] at hs
    have hs1 := Nat.eq_of_beq_eq_true hs.1
    have hs2 := Nat.eq_of_beq_eq_true hs.2
    obtain ⟨e1, e2, e3⟩ := h2
    subst hs1; subst hs2; subst e1; subst e2; subst e3; exact hv
  · obtain ⟨hs, h2⟩ := cond_F h
    simp only [Bool.and_eq_true] at hs
    have hs1 := Nat.eq_of_beq_eq_true hs.1
    have hs2 := Nat.eq_of_beq_eq_true hs.2
    subst hs1; subst hs2; subst h2; exact hv
  · rename_i k s q o n f k' s' q' o' n' f'
    obtain ⟨hs, h2⟩ := cond_F h
    simp only [Bool.and_eq_true] at hs
    have hs1 := Nat.eq_of_beq_eq_true hs.1
    have hs2 := Nat.eq_of_beq_eq_true hs.2
    obtain ⟨e0, e1, e2, e3⟩ := h2
    subst hs1; subst hs2; subst e0; subst e1; subst e2
    simp only [CV] at hv ⊢
    obtain ⟨A, c, p1, p2, p3, p4, p5, p6, p7⟩ := hv
    exact ⟨A, c, p1, p2, p3, p4, p5, (fun q => by subst q; exact p6 e3), p7⟩
  · obtain ⟨hs, h2⟩ := cond_F h
    simp only [Bool.and_eq_true] at hs
    have hs1 := Nat.eq_of_beq_eq_true hs.1
    have hs2 := Nat.eq_of_beq_eq_true hs.2
    obtain ⟨e0, e1, e2⟩ := h2
    subst hs1; subst hs2; subst e0; subst e1; subst e2; exact hv
  · obtain ⟨hs, h2⟩ := cond_F h
    simp only [Bool.and_eq_true] at hs
    have hs1 := Nat.eq_of_beq_eq_true hs.1
    have hs2 := Nat.eq_of_beq_eq_true hs.2
    obtain ⟨e1, e2⟩ := h2
    subst hs1; subst hs2; subst e1; subst e2; exact hv
  · obtain ⟨hs, h2⟩ := cond_F h
    simp only [Bool.and_eq_true, Bool.not_eq_true'] at hs
    have hs1 := Nat.eq_of_beq_eq_true hs.1
    obtain ⟨e1, e2⟩ := h2
    subst hs1; subst e2
    simp only [CV] at hv ⊢
    obtain ⟨⟨A, c, e, p1, p2, p3, p4⟩, _⟩ := hv.2 e1
    exact ⟨A, c, e, p1, p2, (fun q => by rw [hs.2] at q; cases q), p3, p4⟩
  · obtain ⟨hk, _⟩ := cond_F h
    have hk := Nat.eq_of_beq_eq_true hk
    subst hk; exact hv
  · exact hv
  · exact h.elim
theorem leL_sound {S : Pin} : ∀ (xs ys : List AV) (m : Nm) (vs : List Value), leL xs ys → CVl S xs m vs → CVl S ys m vs
  | [], [], m, vs, h, hv => hv
  | x :: xs, y :: ys, m, vs, h, hv => by
    simp only [leL] at h
    simp only [CVl] at hv ⊢
    obtain ⟨u, us, e, h1, h2⟩ := hv
    exact ⟨u, us, e, le_sound x y m u h.1 h1, leL_sound xs ys m us h.2 h2⟩
  | [], _ :: _, m, vs, h, hv => by simp [leL] at h
  | _ :: _, [], m, vs, h, hv => by simp [leL] at h
end
end Go.Proofs.YthdfkiopppkfcaaDoor
