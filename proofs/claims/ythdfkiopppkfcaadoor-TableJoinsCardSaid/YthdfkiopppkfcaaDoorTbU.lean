/- Tables: expansions one after the other; replications. -/
import Derived.Test.YthdfkiopppkfcaaDoorTbM
namespace Go.Proofs.YthdfkiopppkfcaaDoor
open Go
set_option linter.unusedVariables false
set_option linter.unusedSimpArgs false

/-- hi began with P ahead of the entries and D more codes taken. -/
structure Uq (P : LLA) (D k : Int) (hi lo : Rs) : Prop where
  f : hi.1 = 2 ∨ (lo.1 = hi.1 ∧ hi.2.1 = P ++ lo.2.1 ∧ lo.2.2 = hi.2.2 - D ∧ (hi.1 = 0 → k ≤ hi.2.2 ∧ hi.2.2 ≤ 500))
structure UqF (P : LLA) (D k : Int) (hi lo : LLA × Rs) : Prop where
  f : hi.2.1 = 2 ∨ (lo.1 = hi.1 ∧ lo.2.1 = hi.2.1 ∧ hi.2.2.1 = P ++ lo.2.2.1 ∧ lo.2.2.2 = hi.2.2.2 - D ∧ (hi.2.1 = 0 → k ≤ hi.2.2.2 ∧ hi.2.2.2 ≤ 500))
theorem Uq.le {P : LLA} {D k k' : Int} {hi lo : Rs} (h : Uq P D k' hi lo) (hk : k ≤ k') : Uq P D k hi lo := by
  refine ⟨h.f.imp id fun ⟨a, b, c, d⟩ => ⟨a, b, c, fun z => ?_⟩⟩
  have := d z
  omega
def UB (P : LLA) (D m m' : Int) (A A' : LLA → Int → LLA → Int → Rs) : Prop := ∀ cs d d' out k, d' ≤ d → k ≤ 500 → 500 - k < m → 500 - (k - D) < m' → Uq P D k (A cs d (P ++ out) k) (A' cs d' out (k - D))
section
variable {P : LLA} {D m m' : Int} {A A' : LLA → Int → LLA → Int → Rs} {es ss : LLA}
theorem uq_sq (hA : UB P D m m' A A') {c d d' k : Int} {out : LLA} (hd : d' ≤ d) (hk : k ≤ 500) (h1 : 500 - k < m) (h2 : 500 - (k - D) < m') : Uq P D k (sqR A ss c d (P ++ out) k) (sqR A' ss c d' out (k - D)) := by
  unfold sqR
  split
  · exact ⟨.inr ⟨rfl, rfl, rfl, fun z => by cases z⟩⟩
  · split
    · exact ⟨.inl rfl⟩
    · rw [if_neg (by omega)]
      exact hA _ _ _ _ _ (by omega) hk h1 h2
theorem uq_rp (hD : 0 ≤ D) (hA : UB P D m m' A A') {cs : LLA} {d d' : Int} (hd : d' ≤ d) : ∀ (t : Nat) (out : LLA) (k : Int), k ≤ 500 → 500 - k < m → 500 - (k - D) < m' → Uq P D k (rpR A cs d t (P ++ out) k) (rpR A' cs d' t out (k - D))
  | 0, out, k, hk, h1, h2 => ⟨.inr ⟨rfl, rfl, rfl, fun _ => ⟨Int.le_refl _, hk⟩⟩⟩
  | t + 1, out, k, hk, h1, h2 => by
    have h := hA cs d d' out k hd hk h1 h2
    unfold rpR
    rcases h.f with e | ⟨e1, e2, e3, e4⟩
    · rw [if_neg (by omega)]; exact ⟨.inl e⟩
    · rw [e1]
      by_cases z : (A cs d (P ++ out) k).1 = 0
      · rw [if_pos z, if_pos z, e2, e3]
        obtain ⟨z1, z2⟩ := e4 z
        exact (uq_rp hD hA hd t _ _ z2 (by omega) (by omega)).le z1
      · rw [if_neg z, if_neg z]; exact h
theorem uq_en (hD : 0 ≤ D) {c k : Int} {l out : LLA} (hk : k + 1 ≤ 500) : UqF P D k (l, enErr es c (P ++ out).length, enOut es c (P ++ out), k + 1) (l, enErr es c out.length, enOut es c out, k - D + 1) := by
  by_cases hi : idxP (hcP c) es < 0
  · have e : ∀ n : Int, enErr es c n = 6 := fun n => by unfold enErr; rw [if_pos hi]
    refine ⟨.inr ⟨rfl, by simp only [e], ?_, by simp only; omega, fun z => by simp only [e] at z; cases z⟩⟩
    unfold enOut; simp only [e]; rfl
  · by_cases h60 : 60 ≤ ((P ++ out).length : Int)
    · exact ⟨.inl (by unfold enErr; simp only [if_neg hi, if_pos h60])⟩
    · have e1 : enErr es c (P ++ out).length = 0 := by unfold enErr; rw [if_neg hi, if_neg h60]
      have e2 : enErr es c out.length = 0 := by unfold enErr; rw [if_neg hi, if_neg (by rw [List.length_append] at h60; omega)]
      refine ⟨.inr ⟨rfl, by simp only [e1, e2], ?_, by simp only; omega, fun _ => by simp only; omega⟩⟩
      unfold enOut; simp only [e1, e2, if_true, List.append_assoc]
theorem uq_fi (hD : 0 ≤ D) (hA : UB P D m m' A A') {cs out : LLA} {d d' k : Int} (hd : d' ≤ d) (hk : k ≤ 500) (h1 : 500 - k < m + 1) (h2 : 500 - (k - D) < m' + 1) : UqF P D k (fiR A es ss cs d (P ++ out) k) (fiR A' es ss cs d' out (k - D)) := by
  by_cases hb : 500 < k + 1
  · rw [fi_big hb]; exact ⟨.inl rfl⟩
  have hb' : ¬ 500 < k - D + 1 := by omega
  have ek : k - D + 1 = (k + 1) - D := by omega
  have up : ∀ {a : LLA} {hi lo : Rs}, Uq P D (k + 1) hi lo → UqF P D k (a, hi) (a, lo) := fun {a hi lo} h => ⟨(h.le (show k ≤ k + 1 by omega)).f.imp id fun ⟨p, q, r, s⟩ => ⟨rfl, p, q, r, s⟩⟩
  by_cases k1 : knd (cellI (cs.getD 0 [])) = 1
  · rw [fi_1 hb k1, fi_1 hb' k1]
    exact uq_en hD (by omega)
  by_cases k2 : knd (cellI (cs.getD 0 [])) = 2
  · rw [fi_2 hb k2, fi_2 hb' k2, ek]
    exact up (uq_sq hA hd (by omega) (by omega) (by omega))
  by_cases k3 : knd (cellI (cs.getD 0 [])) = 3
  · by_cases k4 : ((cs.drop 1).length : Int) < rpX (cellI (cs.getD 0 []))
    · rw [fi_3s hb k3 k4, fi_3s hb' k3 k4]
      exact ⟨.inr ⟨rfl, rfl, rfl, by simp only; omega, fun z => by cases z⟩⟩
    · rw [fi_3 hb k3 k4, fi_3 hb' k3 k4, ek]
      have h := uq_rp hD hA (cs := (cs.drop 1).take (rpX (cellI (cs.getD 0 []))).toNat) hd (rpY (cellI (cs.getD 0 []))).toNat out (k + 1) (by omega) (by omega) (by omega)
      rcases h.f with e | ⟨e1, e2, e3, e4⟩
      · rw [if_neg (by omega)]; exact ⟨.inl e⟩
      · rw [e1]
        by_cases z : (rpR A ((cs.drop 1).take (rpX (cellI (cs.getD 0 []))).toNat) d (rpY (cellI (cs.getD 0 []))).toNat (P ++ out) (k + 1)).1 = 0
        · rw [if_pos z, if_pos z]; exact up h
        · rw [if_neg z, if_neg z]; exact up h
  · rw [fi_0 hb k1 k2 k3, fi_0 hb' k1 k2 k3]
    exact ⟨.inr ⟨rfl, rfl, rfl, by simp only; omega, fun z => by cases z⟩⟩
end
theorem uq_al {P : LLA} {D m m' : Int} (hD : 0 ≤ D) {F F' : LLA → LLA → Int → LLA × Rs} (hF : ∀ cs out k, k ≤ 500 → 500 - k < m → 500 - (k - D) < m' → UqF P D k (F cs (P ++ out) k) (F' cs out (k - D))) : ∀ (n : Nat) (cs out : LLA) (k : Int), k ≤ 500 → 500 - k < m → 500 - (k - D) < m' → Uq P D k (alL F n cs (P ++ out) k) (alL F' n cs out (k - D))
  | 0, cs, out, k, hk, h1, h2 => ⟨.inr ⟨rfl, rfl, rfl, fun _ => ⟨Int.le_refl _, hk⟩⟩⟩
  | n + 1, cs, out, k, hk, h1, h2 => by
    unfold alL
    by_cases e : cs.length = 0
    · rw [if_pos e, if_pos e]; exact ⟨.inr ⟨rfl, rfl, rfl, fun _ => ⟨Int.le_refl _, hk⟩⟩⟩
    rw [if_neg e, if_neg e]
    have h := hF cs out k hk h1 h2
    rcases h.f with e | ⟨e0, e1, e2, e3, e4⟩
    · rw [if_neg (by omega)]; exact ⟨.inl e⟩
    · rw [e1]
      by_cases z : (F cs (P ++ out) k).2.1 = 0
      · rw [if_pos z, if_pos z, e0, e2, e3]
        obtain ⟨z1, z2⟩ := e4 z
        exact (uq_al hD hF n _ _ _ z2 (by omega) (by omega)).le z1
      · rw [if_neg z, if_neg z]
        exact ⟨.inr ⟨e1, e2, e3, fun q => absurd q z⟩⟩
theorem uq_all {D : Int} (hD : 0 ≤ D) (P es ss : LLA) : ∀ (m m' : Nat), UB P D m m' (alR es ss m) (alR es ss m')
  | 0, m', cs, d, d', out, k, hd, hk, h1, h2 => by simp only [Int.natCast_zero] at h1; omega
  | m + 1, 0, cs, d, d', out, k, hd, hk, h1, h2 => by simp only [Int.natCast_zero] at h2; omega
  | m + 1, m' + 1, cs, d, d', out, k, hd, hk, h1, h2 => by
    have ih := uq_all hD P es ss m m'
    exact uq_al hD (F := fun cs out k => fiR (alR es ss m) es ss cs d out k) (F' := fun cs out k => fiR (alR es ss m') es ss cs d' out k) (fun cs out k hk h1 h2 => uq_fi hD ih hd hk (by simp only [Int.natCast_add, Int.natCast_one] at h1; omega) (by simp only [Int.natCast_add, Int.natCast_one] at h2; omega)) cs.length cs out k hk h1 h2
/-- Codes whose replications end within them. -/
inductive SC : LLA → Prop
  | nil : SC []
  | one {c : List AV} {cs : LLA} : ¬ knd (cellI c) = 3 → SC cs → SC (c :: cs)
  | rep {c : List AV} {cs : LLA} : knd (cellI c) = 3 → rpX (cellI c) ≤ (cs.length : Int) → SC (cs.drop (rpX (cellI c)).toNat) → SC (c :: cs)
section
variable {A : LLA → Int → LLA → Int → Rs} {es ss : LLA} {d : Int}
theorem fi_rest {c : List AV} {cs out : LLA} {k : Int} (h : (fiR A es ss (c :: cs) d out k).2.1 = 0) : (¬ knd (cellI c) = 3 ∧ (fiR A es ss (c :: cs) d out k).1 = cs) ∨ (knd (cellI c) = 3 ∧ rpX (cellI c) ≤ (cs.length : Int) ∧ (fiR A es ss (c :: cs) d out k).1 = cs.drop (rpX (cellI c)).toNat) := by
  have e0 : cellI ((c :: cs : LLA).getD 0 []) = cellI c := rfl
  have e1 : (c :: cs : LLA).drop 1 = cs := rfl
  by_cases hb : 500 < k + 1
  · rw [fi_big hb] at h; cases h
  by_cases k1 : knd (cellI c) = 1
  · left; rw [fi_1 hb (by rw [e0]; exact k1)]; exact ⟨by omega, rfl⟩
  by_cases k2 : knd (cellI c) = 2
  · left; rw [fi_2 hb (by rw [e0]; exact k2)]; exact ⟨by omega, rfl⟩
  by_cases k3 : knd (cellI c) = 3
  · by_cases k4 : (cs.length : Int) < rpX (cellI c)
    · rw [fi_3s hb (by rw [e0]; exact k3) (by rw [e0, e1]; exact k4)] at h; cases h
    · right
      rw [fi_3 hb (by rw [e0]; exact k3) (by rw [e0, e1]; exact k4)] at h ⊢
      refine ⟨k3, by omega, ?_⟩
      split at h
      · rename_i q; rw [if_pos q, e0, e1]
      · rename_i q; exact absurd h q
  · rw [fi_0 hb (by rw [e0]; exact k1) (by rw [e0]; exact k2) (by rw [e0]; exact k3)] at h; cases h
theorem sc_of : ∀ (n : Nat) (cs out : LLA) (k : Int), cs.length ≤ n → (alL (fun cs out k => fiR A es ss cs d out k) n cs out k).1 = 0 → SC cs
  | 0, cs, out, k, hn, h => by
    have : cs = [] := List.eq_nil_of_length_eq_zero (by omega)
    rw [this]; exact .nil
  | n + 1, [], out, k, hn, h => .nil
  | n + 1, c :: cs, out, k, hn, h => by
    unfold alL at h
    rw [if_neg (by simp)] at h
    by_cases z : (fiR A es ss (c :: cs) d out k).2.1 = 0
    · rw [if_pos z] at h
      simp only [List.length_cons] at hn
      rcases fi_rest z with ⟨q1, q2⟩ | ⟨q1, q2, q3⟩
      · rw [q2] at h
        exact .one q1 (sc_of n _ _ _ (by omega) h)
      · rw [q3] at h
        exact .rep q1 q2 (sc_of n _ _ _ (by rw [List.length_drop]; omega) h)
    · rw [if_neg z] at h; exact absurd h z
theorem fi_len {cs out : LLA} {k : Int} (hl : 0 < cs.length) : (fiR A es ss cs d out k).1.length < cs.length := by
  unfold fiR
  repeat' split
  all_goals (simp only [List.length_drop, List.length_nil]; omega)
theorem al_fuel : ∀ (n n' : Nat) (cs out : LLA) (k : Int), cs.length ≤ n → cs.length ≤ n' → alL (fun cs out k => fiR A es ss cs d out k) n cs out k = alL (fun cs out k => fiR A es ss cs d out k) n' cs out k
  | 0, n', cs, out, k, h1, h2 => by rw [alL_end (by omega), alL_end (by omega)]
  | n + 1, 0, cs, out, k, h1, h2 => by rw [alL_end (by omega), alL_end (by omega)]
  | n + 1, n' + 1, cs, out, k, h1, h2 => by
    by_cases e : cs.length = 0
    · rw [alL_end e, alL_end e]
    · have := fi_len (A := A) (es := es) (ss := ss) (d := d) (cs := cs) (out := out) (k := k) (by omega)
      unfold alL
      rw [if_neg e, if_neg e]
      split
      · exact al_fuel n n' _ _ _ (by omega) (by omega)
      · rfl
/-- The first code of a list that goes on. -/
theorem fi_app {c : List AV} {cs r out : LLA} {k : Int} (hs : ¬ knd (cellI c) = 3 ∨ rpX (cellI c) ≤ (cs.length : Int)) (hx : 0 ≤ rpX (cellI c) ∨ ¬ knd (cellI c) = 3) : (fiR A es ss (c :: (cs ++ r)) d out k).2 = (fiR A es ss (c :: cs) d out k).2 ∧ ((fiR A es ss (c :: cs) d out k).2.1 = 0 → (fiR A es ss (c :: (cs ++ r)) d out k).1 = (fiR A es ss (c :: cs) d out k).1 ++ r) := by
  have e0 : ∀ l : LLA, cellI ((c :: l : LLA).getD 0 []) = cellI c := fun _ => rfl
  have e1 : ∀ l : LLA, (c :: l : LLA).drop 1 = l := fun _ => rfl
  by_cases hb : 500 < k + 1
  · rw [fi_big hb, fi_big hb]; exact ⟨rfl, fun z => by cases z⟩
  by_cases k1 : knd (cellI c) = 1
  · rw [fi_1 hb (by rw [e0]; exact k1), fi_1 hb (by rw [e0]; exact k1)]; exact ⟨rfl, fun _ => rfl⟩
  by_cases k2 : knd (cellI c) = 2
  · rw [fi_2 hb (by rw [e0]; exact k2), fi_2 hb (by rw [e0]; exact k2)]; exact ⟨rfl, fun _ => rfl⟩
  by_cases k3 : knd (cellI c) = 3
  · have hs := hs.resolve_left (fun q => q k3)
    have hx := hx.resolve_right (fun q => q k3)
    rw [fi_3 hb (by rw [e0]; exact k3) (by rw [e0, e1, List.length_append]; omega), fi_3 hb (by rw [e0]; exact k3) (by rw [e0, e1]; omega)]
    simp only [e0, e1]
    rw [List.take_append_of_le_length (by omega), List.drop_append_of_le_length (by omega)]
    split
    · exact ⟨rfl, fun _ => rfl⟩
    · rename_i q; exact ⟨rfl, fun z => absurd z q⟩
  · rw [fi_0 hb (by rw [e0]; exact k1) (by rw [e0]; exact k2) (by rw [e0]; exact k3), fi_0 hb (by rw [e0]; exact k1) (by rw [e0]; exact k2) (by rw [e0]; exact k3)]; exact ⟨rfl, fun z => by cases z⟩
theorem knd3_x {c : Int} (h : knd c = 3) : 0 ≤ rpX c := by
  unfold knd at h
  repeat' split at h
  all_goals omega
theorem al_app {cs : LLA} (h : SC cs) : ∀ (r out : LLA) (k : Int) (n n' n2 : Nat), cs.length ≤ n → (cs ++ r).length ≤ n' → r.length ≤ n2 →
    alL (fun cs out k => fiR A es ss cs d out k) n' (cs ++ r) out k = if (alL (fun cs out k => fiR A es ss cs d out k) n cs out k).1 = 0 then alL (fun cs out k => fiR A es ss cs d out k) n2 r (alL (fun cs out k => fiR A es ss cs d out k) n cs out k).2.1 (alL (fun cs out k => fiR A es ss cs d out k) n cs out k).2.2 else alL (fun cs out k => fiR A es ss cs d out k) n cs out k := by
  have step : ∀ {c : List AV} {cs : LLA}, (¬ knd (cellI c) = 3 ∨ rpX (cellI c) ≤ (cs.length : Int)) → (∀ (out : LLA) (k : Int), (fiR A es ss (c :: cs) d out k).2.1 = 0 → ∀ (r : LLA) (n n' n2 : Nat), (fiR A es ss (c :: cs) d out k).1.length ≤ n → ((fiR A es ss (c :: cs) d out k).1 ++ r).length ≤ n' → r.length ≤ n2 → ∀ (o2 : LLA) (k2 : Int),
      alL (fun cs out k => fiR A es ss cs d out k) n' ((fiR A es ss (c :: cs) d out k).1 ++ r) o2 k2 = if (alL (fun cs out k => fiR A es ss cs d out k) n (fiR A es ss (c :: cs) d out k).1 o2 k2).1 = 0 then alL (fun cs out k => fiR A es ss cs d out k) n2 r (alL (fun cs out k => fiR A es ss cs d out k) n (fiR A es ss (c :: cs) d out k).1 o2 k2).2.1 (alL (fun cs out k => fiR A es ss cs d out k) n (fiR A es ss (c :: cs) d out k).1 o2 k2).2.2 else alL (fun cs out k => fiR A es ss cs d out k) n (fiR A es ss (c :: cs) d out k).1 o2 k2) →
      ∀ (r out : LLA) (k : Int) (n n' n2 : Nat), (c :: cs).length ≤ n → ((c :: cs) ++ r).length ≤ n' → r.length ≤ n2 →
    alL (fun cs out k => fiR A es ss cs d out k) n' ((c :: cs) ++ r) out k = if (alL (fun cs out k => fiR A es ss cs d out k) n (c :: cs) out k).1 = 0 then alL (fun cs out k => fiR A es ss cs d out k) n2 r (alL (fun cs out k => fiR A es ss cs d out k) n (c :: cs) out k).2.1 (alL (fun cs out k => fiR A es ss cs d out k) n (c :: cs) out k).2.2 else alL (fun cs out k => fiR A es ss cs d out k) n (c :: cs) out k := by
    intro c cs hs ih r out k n n' n2 h1 h2 h3
    obtain ⟨n, rfl⟩ : ∃ q, n = q + 1 := ⟨n - 1, by simp only [List.length_cons] at h1; omega⟩
    obtain ⟨n', rfl⟩ : ∃ q, n' = q + 1 := ⟨n' - 1, by simp only [List.length_cons, List.length_append] at h2; omega⟩
    have hx : 0 ≤ rpX (cellI c) ∨ ¬ knd (cellI c) = 3 := by
      by_cases q : knd (cellI c) = 3
      · exact .inl (knd3_x q)
      · exact .inr q
    obtain ⟨f1, f2⟩ := fi_app (A := A) (es := es) (ss := ss) (d := d) (r := r) (out := out) (k := k) hs hx
    have hl := fi_len (A := A) (es := es) (ss := ss) (d := d) (cs := c :: cs) (out := out) (k := k) (by simp)
    have un : ∀ (q : Nat) (l : LLA), alL (fun cs out k => fiR A es ss cs d out k) (q + 1) (c :: l) out k = if (fiR A es ss (c :: l) d out k).2.1 = 0 then alL (fun cs out k => fiR A es ss cs d out k) q (fiR A es ss (c :: l) d out k).1 (fiR A es ss (c :: l) d out k).2.2.1 (fiR A es ss (c :: l) d out k).2.2.2 else (fiR A es ss (c :: l) d out k).2 := fun q l => by rw [alL, if_neg (by simp)]
    rw [List.cons_append, un, un]
    simp only [f1]
    by_cases z : (fiR A es ss (c :: cs) d out k).2.1 = 0
    · simp only [if_pos z]
      rw [f2 z]
      simp only [List.length_cons, List.length_append] at h1 h2 hl
      exact ih out k z r n n' n2 (by omega) (by rw [List.length_append]; omega) h3 _ _
    · simp only [if_neg z]
  induction h with
  | nil =>
    intro r out k n n' n2 h1 h2 h3
    rw [alL_end (cs := []) rfl, List.nil_append, if_pos rfl]
    exact al_fuel _ _ _ _ _ h2 h3
  | @one c cs hk hs ih =>
    refine step (.inl hk) fun out k z r n n' n2 h1 h2 h3 o2 k2 => ?_
    rcases fi_rest z with ⟨q1, q2⟩ | ⟨q1, _⟩
    · rw [q2] at h1 h2 ⊢; exact ih r o2 k2 n n' n2 h1 h2 h3
    · exact absurd q1 hk
  | @rep c cs hk hx hs ih =>
    refine step (.inr hx) fun out k z r n n' n2 h1 h2 h3 o2 k2 => ?_
    rcases fi_rest z with ⟨q1, q2⟩ | ⟨_, _, q3⟩
    · exact absurd hk q1
    · rw [q3] at h1 h2 ⊢; exact ih r o2 k2 n n' n2 h1 h2 h3
end
/-- The codes c, n times. -/
def repC : Nat → LLA → LLA
  | 0, _ => []
  | n + 1, c => c ++ repC n c
theorem repC_snoc (c : LLA) : ∀ n, repC n c ++ c = repC (n + 1) c
  | 0 => by simp [repC]
  | n + 1 => by
    show c ++ repC n c ++ c = c ++ repC (n + 1) c
    rw [List.append_assoc, repC_snoc c n]
theorem repC_len (c : LLA) : ∀ n, (repC n c).length = n * c.length
  | 0 => by simp [repC]
  | n + 1 => by rw [repC, List.length_append, repC_len c n, Nat.succ_mul]; omega
theorem al_rep {es ss c : LLA} {m : Nat} {d : Int} (h : SC c) : ∀ (n : Nat) (out : LLA) (k : Int) (q : Nat), (repC n c).length ≤ q → alL (fun cs out k => fiR (alR es ss m) es ss cs d out k) q (repC n c) out k = rpR (alR es ss (m + 1)) c d n out k
  | 0, out, k, q, hq => by rw [alL_end rfl]; rfl
  | n + 1, out, k, q, hq => by
    have e : ∀ (out : LLA) (k : Int), alR es ss (m + 1) c d out k = alL (fun cs out k => fiR (alR es ss m) es ss cs d out k) c.length c out k := fun _ _ => rfl
    show alL _ q (c ++ repC n c) out k = _
    rw [al_app h (repC n c) out k c.length q (repC n c).length (Nat.le_refl _) hq (Nat.le_refl _), rpR, ← e]
    split
    · exact al_rep h n _ _ _ (Nat.le_refl _)
    · rfl
/-- What a law over lists of codes needs. -/
theorem join_rel {es ss a b : LLA} (hv : vaE es ss 1 = 0) (he : EnsP es) (hs : SqsP ss) (ha : CdsP a) (hl : (a ++ b).length ≤ 20) (h1 : exE es ss 1 a = 0) (h3 : exE es ss 1 (a ++ b) = 0) : exE es ss 1 b = 0 ∧ exO es ss 1 (a ++ b) = exO es ss 1 a ++ exO es ss 1 b := by
  rw [List.length_append] at hl
  have eE : ∀ l : LLA, l.length ≤ 20 → exE es ss 1 l = (exR es ss l).1 := fun l h => by unfold exE; rw [if_pos hv, if_neg (by omega)]
  have e1 := eE a (by omega)
  have e2 := eE b (by omega)
  have e3 := eE (a ++ b) (by rw [List.length_append]; omega)
  rw [e1] at h1
  rw [e3] at h3
  have sc : SC a := sc_of (A := alR es ss 500) (es := es) (ss := ss) (d := 0) a.length a [] 0 (Nat.le_refl _) h1
  have ok : OkR 0 (exR es ss a) := alR_ok es ss 501 a 0 [] 0 ⟨he, hs, by simp, by decide, by decide, by decide, by decide⟩ ha
  have ap := al_app (A := alR es ss 500) (es := es) (ss := ss) (d := 0) sc b [] 0 a.length (a ++ b).length b.length (Nat.le_refl _) (Nat.le_refl _) (Nat.le_refl _)
  have ap : exR es ss (a ++ b) = if (exR es ss a).1 = 0 then alR es ss 501 b 0 (exR es ss a).2.1 (exR es ss a).2.2 else exR es ss a := ap
  rw [if_pos h1] at ap
  have k0 := ok.fk
  have k5 := ok.fz h1
  have up := uq_all (D := (exR es ss a).2.2) k0 (exR es ss a).2.1 es ss 501 501 b 0 0 [] (exR es ss a).2.2 (Int.le_refl _) k5 (by omega) (by omega)
  rw [List.append_nil, Int.sub_self] at up
  rw [ap] at h3
  have up2 : (alR es ss 501 b 0 (exR es ss a).2.1 (exR es ss a).2.2).1 = 2 ∨ ((exR es ss b).1 = (alR es ss 501 b 0 (exR es ss a).2.1 (exR es ss a).2.2).1 ∧ (alR es ss 501 b 0 (exR es ss a).2.1 (exR es ss a).2.2).2.1 = (exR es ss a).2.1 ++ (exR es ss b).2.1) := up.f.imp id fun ⟨p, q, _⟩ => ⟨p, q⟩
  rcases up2 with q | ⟨q1, q2⟩
  · omega
  · have hb : exE es ss 1 b = 0 := by rw [e2, q1, h3]
    refine ⟨hb, ?_⟩
    unfold exO
    rw [hb, e1, h1, e3, ap, h3, if_pos rfl, if_pos rfl, if_pos rfl, q2]
structure RepR (es ss c : LLA) (code : Int) (n : Nat) : Prop where
  bad : exE es ss 1 c ≠ 0 → exE es ss 1 ([[.int .i64 code]] ++ c) ≠ 0
  ok : exE es ss 1 c = 0 → exE es ss 1 ([[.int .i64 code]] ++ c) = 2 ∨ (exE es ss 1 (repC n c) = exE es ss 1 ([[.int .i64 code]] ++ c) ∧ exO es ss 1 ([[.int .i64 code]] ++ c) = exO es ss 1 (repC n c))
theorem rep_rel {es ss c : LLA} {n : Nat} (hv : vaE es ss 1 = 0) (h0 : 1 ≤ c.length) (hl : c.length ≤ 3) (n1 : 1 ≤ n) (n3 : n ≤ 3) : RepR es ss c (20000 + 100 * (c.length : Int) + n) n := by
  have eE : ∀ l : LLA, l.length ≤ 20 → exE es ss 1 l = (exR es ss l).1 := fun l h => by unfold exE; rw [if_pos hv, if_neg (by omega)]
  have eX : rpX (20000 + 100 * (c.length : Int) + (n : Int)) = c.length := by unfold rpX; omega
  have eY : rpY (20000 + 100 * (c.length : Int) + (n : Int)) = n := by unfold rpY; omega
  have eK : knd (20000 + 100 * (c.length : Int) + (n : Int)) = 3 := by unfold knd; rw [eX, eY, if_neg (by omega), if_neg (by omega), if_neg (by omega), if_pos (by omega)]
  have hrl : (repC n c).length ≤ 9 := by rw [repC_len]; exact Nat.le_trans (Nat.mul_le_mul n3 hl) (by decide)
  have e1 := eE c (by omega)
  have e2 := eE ([[.int .i64 (20000 + 100 * (c.length : Int) + (n : Int))]] ++ c) (by simp; omega)
  have e3 := eE (repC n c) (by omega)
  have e0 : cellI ((([.int .i64 (20000 + 100 * (c.length : Int) + (n : Int))] :: c) : LLA).getD 0 []) = 20000 + 100 * (c.length : Int) + (n : Int) := rfl
  let H : Rs := rpR (alR es ss 500) c 0 n [] 1
  have r1 : exR es ss ([[.int .i64 (20000 + 100 * (c.length : Int) + (n : Int))]] ++ c) = H := by
    show alL (fun cs out k => fiR (alR es ss 500) es ss cs 0 out k) (c.length + 1) ([.int .i64 (20000 + 100 * (c.length : Int) + n)] :: c) [] 0 = H
    unfold alL
    rw [if_neg (by simp), fi_3 (by decide) (by rw [e0]; exact eK) (by rw [e0, eX]; simp), e0, eX, eY]
    have d1 : List.drop 1 (([.int .i64 (20000 + 100 * (c.length : Int) + (n : Int))] :: c) : LLA) = c := rfl
    have tk : c.take (c.length : Int).toNat = c := List.take_of_length_le (by omega)
    have dr : c.drop (c.length : Int).toNat = [] := List.drop_of_length_le (by omega)
    rw [d1, tk, dr, show ((n : Int)).toNat = n by omega, show (0 : Int) + 1 = 1 by rfl]
    by_cases z : (rpR (alR es ss 500) c 0 n [] 1).1 = 0
    · rw [if_pos z]
      simp only [z, if_true]
      rw [alL_end rfl]
      exact Prod.ext z.symm rfl
    · rw [if_neg z]
      simp only [z, if_false]
      rfl
  have u5 := uq_all (D := 1) (by decide) [] es ss 500 501
  refine ⟨fun z => ?_, fun z => ?_⟩
  · rw [e1] at z
    rw [e2, r1]
    obtain ⟨n, rfl⟩ : ∃ q, n = q + 1 := ⟨n - 1, by omega⟩
    have up := u5 c 0 0 [] 1 (Int.le_refl _) (by decide) (by decide) (by decide)
    have hz : ¬ (alR es ss 500 c 0 [] 1).1 = 0 := by
      have up2 : (alR es ss 500 c 0 [] 1).1 = 2 ∨ (exR es ss c).1 = (alR es ss 500 c 0 [] 1).1 := up.f.imp id fun ⟨p, _⟩ => p
      rcases up2 with q | q
      · omega
      · rw [← q]; exact z
    show (rpR (alR es ss 500) c 0 (n + 1) [] 1).1 ≠ 0
    rw [rpR, if_neg hz]; exact hz
  · rw [e1] at z
    have sc : SC c := sc_of (A := alR es ss 500) (es := es) (ss := ss) (d := 0) c.length c [] 0 (Nat.le_refl _) z
    have r3 : exR es ss (repC n c) = rpR (alR es ss 501) c 0 n [] 0 := al_rep sc n [] 0 (repC n c).length (Nat.le_refl _)
    have up := uq_rp (P := []) (D := 1) (by decide) u5 (cs := c) (d := 0) (d' := 0) (Int.le_refl _) n [] 1 (by decide) (by decide) (by decide)
    have up2 : H.1 = 2 ∨ ((exR es ss (repC n c)).1 = H.1 ∧ H.2.1 = (exR es ss (repC n c)).2.1) := by rw [r3]; exact up.f.imp id fun ⟨p, q, _⟩ => ⟨p, q⟩
    rcases up2 with q | ⟨q1, q2⟩
    · left; rw [e2, r1]; exact q
    · right
      have q3 : exE es ss 1 (repC n c) = exE es ss 1 ([[.int .i64 (20000 + 100 * (c.length : Int) + (n : Int))]] ++ c) := by rw [e3, e2, r1, q1]
      refine ⟨q3, ?_⟩
      unfold exO
      rw [q3, r1, q2]
end Go.Proofs.YthdfkiopppkfcaaDoor
