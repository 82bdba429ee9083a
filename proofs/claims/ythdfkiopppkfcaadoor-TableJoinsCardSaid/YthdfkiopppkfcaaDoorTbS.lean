/- Tables: an expansion begun deeper and later is the same, unless it ends with a limit. -/
import Derived.Test.YthdfkiopppkfcaaDoorTbM
namespace Go.Proofs.YthdfkiopppkfcaaDoor
open Go
set_option linter.unusedVariables false
set_option linter.unusedSimpArgs false

structure Up (D k : Int) (hi lo : Rs) : Prop where
  f : hi.1 = 2 ∨ (lo.1 = hi.1 ∧ lo.2.1 = hi.2.1 ∧ lo.2.2 = hi.2.2 - D ∧ (hi.1 = 0 → k ≤ hi.2.2 ∧ hi.2.2 ≤ 500))
structure UpF (D k : Int) (hi lo : LLA × Rs) : Prop where
  f : hi.2.1 = 2 ∨ (lo.1 = hi.1 ∧ lo.2.1 = hi.2.1 ∧ lo.2.2.1 = hi.2.2.1 ∧ lo.2.2.2 = hi.2.2.2 - D ∧ (hi.2.1 = 0 → k ≤ hi.2.2.2 ∧ hi.2.2.2 ≤ 500))
theorem Up.le {D k k' : Int} {hi lo : Rs} (h : Up D k' hi lo) (hk : k ≤ k') : Up D k hi lo := by
  refine ⟨h.f.imp id fun ⟨a, b, c, d⟩ => ⟨a, b, c, fun z => ?_⟩⟩
  have := d z
  omega
def UA (D m m' : Int) (A A' : LLA → Int → LLA → Int → Rs) : Prop := ∀ cs d d' out k, d' ≤ d → k ≤ 500 → 500 - k < m → 500 - (k - D) < m' → Up D k (A cs d out k) (A' cs d' out (k - D))
section
variable {D m m' : Int} {A A' : LLA → Int → LLA → Int → Rs} {es ss : LLA}
theorem up_sq (hA : UA D m m' A A') {c d d' k : Int} {out : LLA} (hd : d' ≤ d) (hk : k ≤ 500) (h1 : 500 - k < m) (h2 : 500 - (k - D) < m') : Up D k (sqR A ss c d out k) (sqR A' ss c d' out (k - D)) := by
  unfold sqR
  split
  · exact ⟨.inr ⟨rfl, rfl, rfl, fun z => by cases z⟩⟩
  · split
    · exact ⟨.inl rfl⟩
    · rw [if_neg (by omega)]
      exact hA _ _ _ _ _ (by omega) hk h1 h2
theorem up_rp (hD : 0 ≤ D) (hA : UA D m m' A A') {cs : LLA} {d d' : Int} (hd : d' ≤ d) : ∀ (t : Nat) (out : LLA) (k : Int), k ≤ 500 → 500 - k < m → 500 - (k - D) < m' → Up D k (rpR A cs d t out k) (rpR A' cs d' t out (k - D))
  | 0, out, k, hk, h1, h2 => ⟨.inr ⟨rfl, rfl, rfl, fun _ => ⟨Int.le_refl _, hk⟩⟩⟩
  | t + 1, out, k, hk, h1, h2 => by
    have h := hA cs d d' out k hd hk h1 h2
    unfold rpR
    rcases h.f with e | ⟨e1, e2, e3, e4⟩
    · rw [if_neg (by omega)]; exact ⟨.inl e⟩
    · rw [e1]
      by_cases z : (A cs d out k).1 = 0
      · rw [if_pos z, if_pos z, e2, e3]
        obtain ⟨z1, z2⟩ := e4 z
        exact (up_rp hD hA hd t _ _ z2 (by omega) (by omega)).le z1
      · rw [if_neg z, if_neg z]; exact h
theorem up_fi (hD : 0 ≤ D) (hA : UA D m m' A A') {cs out : LLA} {d d' k : Int} (hd : d' ≤ d) (hk : k ≤ 500) (h1 : 500 - k < m + 1) (h2 : 500 - (k - D) < m' + 1) : UpF D k (fiR A es ss cs d out k) (fiR A' es ss cs d' out (k - D)) := by
  by_cases hb : 500 < k + 1
  · rw [fi_big hb]; exact ⟨.inl rfl⟩
  have hb' : ¬ 500 < k - D + 1 := by omega
  have ek : k - D + 1 = (k + 1) - D := by omega
  have up : ∀ {a : LLA} {hi lo : Rs}, Up D (k + 1) hi lo → UpF D k (a, hi) (a, lo) := fun {a hi lo} h => ⟨(h.le (show k ≤ k + 1 by omega)).f.imp id fun ⟨p, q, r, s⟩ => ⟨rfl, p, q, r, s⟩⟩
  by_cases k1 : knd (cellI (cs.getD 0 [])) = 1
  · rw [fi_1 hb k1, fi_1 hb' k1]
    exact ⟨.inr ⟨rfl, rfl, rfl, by simp only; omega, fun _ => by simp only; omega⟩⟩
  by_cases k2 : knd (cellI (cs.getD 0 [])) = 2
  · rw [fi_2 hb k2, fi_2 hb' k2, ek]
    exact up (up_sq hA hd (by omega) (by omega) (by omega))
  by_cases k3 : knd (cellI (cs.getD 0 [])) = 3
  · by_cases k4 : ((cs.drop 1).length : Int) < rpX (cellI (cs.getD 0 []))
    · rw [fi_3s hb k3 k4, fi_3s hb' k3 k4]
      exact ⟨.inr ⟨rfl, rfl, rfl, by simp only; omega, fun z => by cases z⟩⟩
    · rw [fi_3 hb k3 k4, fi_3 hb' k3 k4, ek]
      have h := up_rp hD hA (cs := (cs.drop 1).take (rpX (cellI (cs.getD 0 []))).toNat) hd (rpY (cellI (cs.getD 0 []))).toNat out (k + 1) (by omega) (by omega) (by omega)
      rcases h.f with e | ⟨e1, e2, e3, e4⟩
      · rw [if_neg (by omega)]; exact ⟨.inl e⟩
      · rw [e1]
        by_cases z : (rpR A ((cs.drop 1).take (rpX (cellI (cs.getD 0 []))).toNat) d (rpY (cellI (cs.getD 0 []))).toNat out (k + 1)).1 = 0
        · rw [if_pos z, if_pos z]; exact up h
        · rw [if_neg z, if_neg z]; exact up h
  · rw [fi_0 hb k1 k2 k3, fi_0 hb' k1 k2 k3]
    exact ⟨.inr ⟨rfl, rfl, rfl, by simp only; omega, fun z => by cases z⟩⟩
end
theorem up_al {D m m' : Int} (hD : 0 ≤ D) {F F' : LLA → LLA → Int → LLA × Rs} (hF : ∀ cs out k, k ≤ 500 → 500 - k < m → 500 - (k - D) < m' → UpF D k (F cs out k) (F' cs out (k - D))) : ∀ (n : Nat) (cs out : LLA) (k : Int), k ≤ 500 → 500 - k < m → 500 - (k - D) < m' → Up D k (alL F n cs out k) (alL F' n cs out (k - D))
  | 0, cs, out, k, hk, h1, h2 => ⟨.inr ⟨rfl, rfl, rfl, fun _ => ⟨Int.le_refl _, hk⟩⟩⟩
  | n + 1, cs, out, k, hk, h1, h2 => by
    unfold alL
    by_cases e : cs.length = 0
    · rw [if_pos e, if_pos e]; exact ⟨.inr ⟨rfl, rfl, rfl, fun _ => ⟨Int.le_refl _, hk⟩⟩⟩
    rw [if_neg e, if_neg e]
    have h := hF cs out k hk h1 h2
    rcases h.f with e | ⟨e0, e1, e2, e3, e4⟩
    · rw [if_neg (by omega)]; exact ⟨.inl e⟩
    · rw [e1]
      by_cases z : (F cs out k).2.1 = 0
      · rw [if_pos z, if_pos z, e0, e2, e3]
        obtain ⟨z1, z2⟩ := e4 z
        exact (up_al hD hF n _ _ _ z2 (by omega) (by omega)).le z1
      · rw [if_neg z, if_neg z]
        exact ⟨.inr ⟨e1, e2, e3, fun q => absurd q z⟩⟩
theorem up_all {D : Int} (hD : 0 ≤ D) (es ss : LLA) : ∀ (m m' : Nat), UA D m m' (alR es ss m) (alR es ss m')
  | 0, m', cs, d, d', out, k, hd, hk, h1, h2 => by simp only [Int.natCast_zero] at h1; omega
  | m + 1, 0, cs, d, d', out, k, hd, hk, h1, h2 => by simp only [Int.natCast_zero] at h2; omega
  | m + 1, m' + 1, cs, d, d', out, k, hd, hk, h1, h2 => by
    have ih := up_all hD es ss m m'
    exact up_al hD (F := fun cs out k => fiR (alR es ss m) es ss cs d out k) (F' := fun cs out k => fiR (alR es ss m') es ss cs d' out k) (fun cs out k hk h1 h2 => up_fi hD ih hd hk (by simp only [Int.natCast_add, Int.natCast_one] at h1; omega) (by simp only [Int.natCast_add, Int.natCast_one] at h2; omega)) cs.length cs out k hk h1 h2
theorem al_nil (F : LLA → LLA → Int → LLA × Rs) (n : Nat) (out : LLA) (k : Int) : alL F n [] out k = (0, out, k) := by cases n <;> simp [alL]
/-- A sequence and its codes. -/
structure SeqR (es ss cs : LLA) (c : Int) : Prop where
  e : exE es ss 1 [[.int .i64 c]] ≠ 0 → exE es ss 1 cs ≠ 0 ∨ exE es ss 1 [[.int .i64 c]] = 2
  o : exE es ss 1 [[.int .i64 c]] = 0 → exE es ss 1 cs = 0 ∧ exO es ss 1 cs = exO es ss 1 [[.int .i64 c]] ∧ (exO es ss 1 [[.int .i64 c]]).length ≤ 60 ∧
    ((exE es ss 1 [[.int .i64 c], [.int .i64 100]] = 0 ∧ (exO es ss 1 [[.int .i64 c], [.int .i64 100]]).length = (exO es ss 1 [[.int .i64 c]]).length + 1) ∨ exE es ss 1 [[.int .i64 c], [.int .i64 100]] = 2)
theorem seq_rel {es ss cs : LLA} {c : Int} (hv : vaE es ss 1 = 0) (he : EnsP es) (hs : SqsP ss) (hcs : CdsP cs) (hl : cs.length ≤ 20) (hc : knd c = 2) (hi : ¬ idxP (hcP c) ss < 0) (hq : sqC (ss.getD (idxP (hcP c) ss).toNat []) = cs) (h100 : ¬ idxP (hcP 100) es < 0) : SeqR es ss cs c := by
  let H : Rs := alR es ss 500 cs 1 [] 1
  let F : LLA → LLA → Int → LLA × Rs := fun cs out k => fiR (alR es ss 500) es ss cs 0 out k
  have f1 : ∀ l : LLA, F ([.int .i64 c] :: l) [] 0 = (l, H) := by
    intro l
    show fiR (alR es ss 500) es ss ([.int .i64 c] :: l) 0 [] 0 = _
    rw [fi_2 (by decide) (show knd (cellI (([.int .i64 c] :: l : LLA).getD 0 [])) = 2 from hc)]
    show (l, sqR (alR es ss 500) ss c 0 [] (0 + 1)) = _
    unfold sqR
    rw [if_neg hi, if_neg (by decide), hq]; rfl
  have r1 : exR es ss [[.int .i64 c]] = H := by
    show alL F 1 [[.int .i64 c]] [] 0 = H
    unfold alL
    rw [if_neg (by simp), f1]
    by_cases z : H.1 = 0
    · rw [if_pos z]
      show ((0 : Int), H.2.1, H.2.2) = H
      rw [← z]
    · rw [if_neg z]
  have ok : OkR 1 H := alR_ok es ss 500 cs 1 [] 1 ⟨he, hs, by simp, by decide, by decide, by decide, by decide⟩ hcs
  have up := up_all (D := 1) (by decide) es ss 500 501 cs 1 0 [] 1 (by decide) (by decide) (by decide) (by decide)
  have eE : ∀ l : LLA, l.length ≤ 20 → exE es ss 1 l = (exR es ss l).1 := fun l h => by unfold exE; rw [if_pos hv, if_neg (by omega)]
  have e1 := eE [[.int .i64 c]] (by simp)
  have e2 := eE cs hl
  have e3 := eE [[.int .i64 c], [.int .i64 100]] (by simp)
  have r2 : exR es ss cs = alR es ss 501 cs 0 [] (1 - 1) := rfl
  rw [r1] at e1
  refine ⟨fun z => ?_, fun z => ?_⟩
  · rw [e1] at z ⊢
    rw [e2, r2]
    rcases up.f with h | ⟨h, _⟩
    · exact .inr h
    · exact .inl (fun q => z (h ▸ q))
  · have oc : exO es ss 1 [[.int .i64 c]] = H.2.1 := by unfold exO; rw [if_pos z, r1]
    rw [e1] at z
    rcases up.f with h | ⟨h, h2, h3, h4⟩
    · have h : H.1 = 2 := h
      omega
    · have h : (exR es ss cs).1 = 0 := h.trans z
      refine ⟨e2.trans h, ?_, by rw [oc]; exact ok.fo, ?_⟩
      · rw [oc]; unfold exO; rw [e2, if_pos h]; exact h2
      · have r3 : exR es ss [[.int .i64 c], [.int .i64 100]] = alL F 1 [[.int .i64 100]] H.2.1 H.2.2 := by
          show alL F 2 [[.int .i64 c], [.int .i64 100]] [] 0 = _
          rw [show alL F 2 [[.int .i64 c], [.int .i64 100]] [] 0 = if (F [[.int .i64 c], [.int .i64 100]] [] 0).2.1 = 0 then alL F 1 (F [[.int .i64 c], [.int .i64 100]] [] 0).1 (F [[.int .i64 c], [.int .i64 100]] [] 0).2.2.1 (F [[.int .i64 c], [.int .i64 100]] [] 0).2.2.2 else (F [[.int .i64 c], [.int .i64 100]] [] 0).2 from rfl, f1]
          show (if H.1 = 0 then alL F 1 [[.int .i64 100]] H.2.1 H.2.2 else H) = _
          rw [if_pos z]
        have r4 : alL F 1 [[.int .i64 100]] H.2.1 H.2.2 = if (F [[.int .i64 100]] H.2.1 H.2.2).2.1 = 0 then alL F 0 (F [[.int .i64 100]] H.2.1 H.2.2).1 (F [[.int .i64 100]] H.2.1 H.2.2).2.2.1 (F [[.int .i64 100]] H.2.1 H.2.2).2.2.2 else (F [[.int .i64 100]] H.2.1 H.2.2).2 := rfl
        by_cases hb : 500 < H.2.2 + 1
        · have f2 : F [[.int .i64 100]] H.2.1 H.2.2 = ([], 2, H.2.1, H.2.2 + 1) := fi_big hb
          rw [f2, if_neg (show ¬ (2 : Int) = 0 by decide)] at r4
          right; rw [e3, r3, r4]
        · have f2 : F [[.int .i64 100]] H.2.1 H.2.2 = ([], enErr es 100 H.2.1.length, enOut es 100 H.2.1, H.2.2 + 1) := fi_1 hb (by decide)
          rw [f2] at r4
          by_cases h60 : 60 ≤ (H.2.1.length : Int)
          · have er : enErr es 100 H.2.1.length = 2 := by unfold enErr; rw [if_neg h100, if_pos h60]
            simp only [er] at r4
            rw [if_neg (by decide)] at r4
            right; rw [e3, r3, r4]
          · have er : enErr es 100 H.2.1.length = 0 := by unfold enErr; rw [if_neg h100, if_neg h60]
            have eo : (enOut es 100 H.2.1).length = H.2.1.length + 1 := by unfold enOut; rw [if_pos er]; simp
            simp only [er, if_true] at r4
            have r5 : exR es ss [[.int .i64 c], [.int .i64 100]] = (0, enOut es 100 H.2.1, H.2.2 + 1) := by rw [r3, r4]; rfl
            left
            have q : exE es ss 1 [[.int .i64 c], [.int .i64 100]] = 0 := by rw [e3, r5]
            refine ⟨q, ?_⟩
            rw [oc, ← eo]
            unfold exO; rw [if_pos q, r5]
end Go.Proofs.YthdfkiopppkfcaaDoor
