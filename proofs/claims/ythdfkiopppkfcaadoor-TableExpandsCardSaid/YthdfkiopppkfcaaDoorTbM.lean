/- Tables: what is drawn is valid; replications of plain codes. -/
import Derived.Test.YthdfkiopppkfcaaDoorTbE
import Derived.Test.YthdfkiopppkfcaaDoorTbT
namespace Go.Proofs.YthdfkiopppkfcaaDoor
open Go
set_option linter.unusedVariables false
set_option linter.unusedSimpArgs false

theorem inLo_rng (i : Nat) (h : i < 11) : -100000 ≤ inLo ((i : Int) + 1) ∧ inLo ((i : Int) + 1) ≤ 100000 := by
  have : ∀ i : Fin 11, -100000 ≤ inLo (((i : Nat) : Int) + 1) ∧ inLo (((i : Nat) : Int) + 1) ≤ 100000 := by decide
  exact this ⟨i, h⟩
theorem any_no {p : List AV → Bool} {xs : LLA} (h : ∀ i, i < xs.length → p (xs.getD i []) = false) : xs.any p = false := by
  rw [List.any_eq_false]
  intro x hx
  obtain ⟨i, hi, e⟩ := List.mem_iff_getElem.1 hx
  have := h i hi
  rw [List.getD_eq_getElem?_getD, List.getElem?_eq_getElem hi] at this
  simp only [Option.getD_some] at this
  rw [e] at this
  rw [this]; decide
theorem CodV.bd {v : Int} (h : CodV v) : -1 ≤ v ∧ v ≤ 30000 := by
  rcases h.f with h | ⟨a, b, h⟩ | h | ⟨k, h⟩
  · omega
  · omega
  · simp only [List.mem_cons, List.not_mem_nil, or_false] at h; omega
  · omega
theorem CoP.cds {k : Nat} {cs : LLA} (h : CoP k cs) : CdsP cs := ⟨fun i hi => by
  obtain ⟨c, e, hc, _⟩ := h.fr i hi
  have := hc.bd
  exact ⟨c, e, by show _ ∧ _; omega⟩, by have := h.fl; omega⟩
theorem SqP.sqs {ss : LLA} (h : SqP ss) : SqsP ss := ⟨fun i hi => by
  obtain ⟨cs, e, hc⟩ := h.fr i hi
  have := h.fl
  exact ⟨_, cs, e, by show _ ∧ _; omega, hc.cds⟩, by have := h.fl; omega⟩
theorem EnP.ens {es : LLA} (h : EnP es) (hl : es.length = 11) : EnsP es := ⟨fun i hi => by
  obtain ⟨w, sc, e, h1, h2, h3, h4⟩ := h.fr i hi
  have := inLo_rng i (by omega)
  exact ⟨_, _, _, _, _, e, by show _ ∧ _; omega, by show _ ∧ _; omega, by show _ ∧ _; omega, by show _ ∧ _; omega, by show _ ∧ _; omega⟩, by omega⟩
theorem CodV.knd {v : Int} (h : CodV v) (hg : 1 ≤ v ∧ v < 30000 ∧ v ≠ 20000 ∧ v ≠ 20100 ∧ v ≠ 20021 ∧ v ≠ 22121) : knd v ≠ 0 := by
  unfold Go.Proofs.YthdfkiopppkfcaaDoor.knd rpX rpY
  rcases h.f with h | ⟨a, b, h⟩ | h | ⟨k, h⟩
  · (repeat' split) <;> omega
  · (repeat' split) <;> omega
  · simp only [List.mem_cons, List.not_mem_nil, or_false] at h
    (repeat' split) <;> omega
  · (repeat' split) <;> omega
theorem hd_at {es ss : LLA} (he : EnP es) (hs : SqP ss) (i : Nat) (hi : i < es.length + ss.length) : hdI ((es ++ ss).getD i []) = if i < es.length then 100 * ((i : Int) + 1) else 10000 + ((i - es.length : Nat) : Int) := by
  by_cases h : i < es.length
  · obtain ⟨w, sc, e, _⟩ := he.fr i h
    rw [if_pos h, List.getD_eq_getElem?_getD, List.getElem?_append_left h, ← List.getD_eq_getElem?_getD, e]; rfl
  · obtain ⟨cs, e, _⟩ := hs.fr (i - es.length) (by omega)
    rw [if_neg h, List.getD_eq_getElem?_getD, List.getElem?_append_right (by omega), ← List.getD_eq_getElem?_getD, e]; rfl
theorem tab_nd {es ss : LLA} (he : EnP es) (hl : es.length ≤ 11) (hs : SqP ss) : (hds es ++ hds ss).Nodup := by
  have e : hds es ++ hds ss = hds (es ++ ss) := by simp [hds]
  rw [e]
  unfold hds List.Nodup
  rw [List.pairwise_iff_getElem]
  intro i j hi hj hij
  simp only [List.length_map, List.length_append] at hi hj
  have hk : ∀ k (h : k < (es ++ ss).length), (es ++ ss)[k] = (es ++ ss).getD k [] := fun k h => by rw [List.getD_eq_getElem?_getD, List.getElem?_eq_getElem h]; rfl
  rw [List.getElem_map, List.getElem_map, hk, hk, hd_at he hs i hi, hd_at he hs j hj]
  split <;> split <;> omega
theorem tab_va {es ss : LLA} (he : EnP es) (hl : es.length = 11) (hs : SqP ss) {v : Int} (h1 : 1 ≤ v) (h2 : v ≤ 99) : vaE es ss v = 0 := by
  have hsl := hs.fl
  have e1 : ¬ (v < 1 ∨ 99 < v) := by omega
  have a1 : ss.any lgP = false := any_no fun i hi => by
    obtain ⟨cs, e, hc⟩ := hs.fr i hi
    rw [e]
    have := hc.fl
    exact decide_eq_false (by show ¬ (20 < (cs.length : Int)); omega)
  have e2 : ¬ ((40 < (es.length : Int) ∨ 40 < (ss.length : Int)) ∨ ss.any lgP = true) := by rw [a1]; simp; omega
  have a2 : es.any neP = false := any_no fun i hi => by
    obtain ⟨w, sc, e, _⟩ := he.fr i hi
    rw [e]
    have : okC ((i : Int) + 1) = true := decide_eq_true (by omega)
    show (!(okC ((i : Int) + 1))) = false
    rw [this]; rfl
  have a3 : es.any ivP = false := any_no fun i hi => by
    obtain ⟨w, sc, e, h1, h2, h3, h4⟩ := he.fr i hi
    rw [e]
    have q1 : okC ((i : Int) + 1) = true := decide_eq_true (by omega)
    have lo := inLo_rng i (by omega)
    have q2 : enV (100 * ((i : Int) + 1)) w sc (inLo ((i : Int) + 1)) = true := enV_iff.2 ⟨by unfold knd; rw [if_neg (by omega), if_pos (by omega)], by omega, by omega, lo⟩
    show (!(okC ((i : Int) + 1) && enV (100 * ((i : Int) + 1)) w sc (inLo ((i : Int) + 1)))) = false
    rw [q1, q2]; rfl
  have a4 : ss.any ipP = false := any_no fun i hi => by
    obtain ⟨cs, e, hc⟩ := hs.fr i hi
    rw [e]
    have q1 : knd (10000 + (i : Int)) = 2 := by unfold knd; rw [if_neg (by omega), if_neg (by omega), if_pos (by omega)]
    have q2 : cs.any k0P = false := any_no fun q hq => by
      obtain ⟨c, e, hv, hg⟩ := hc.fr q hq
      rw [e]
      exact decide_eq_false (hv.knd (hg (by have := hc.fl; omega)))
    show (!(decide (knd (10000 + (i : Int)) = 2) && !(cs.any k0P))) = false
    rw [q1, q2]; rfl
  have a5 : twB es ss = false := by
    cases h : twB es ss with
    | false => rfl
    | true => exact absurd (tab_nd he (by omega) hs) ((twB_iff es ss).1 h)
  unfold vaE
  rw [if_neg e1, if_neg e2, if_neg (by rw [a2]; simp), if_neg (by rw [a3, a4]; simp), if_neg (by rw [a5]; simp)]
theorem TabQ.va {es ss : LLA} {j : Int} (t : TabQ es ss j) {v : Int} (h1 : 1 ≤ v) (h2 : v ≤ 99) : vaE es ss v = 0 := tab_va t.fe t.fl t.fs h1 h2
/-- Codes of entries that are there. -/
def PlC (es cs : LLA) : Prop := ∀ i, i < cs.length → knd (cellI (cs.getD i [])) = 1 ∧ ¬ idxP (hcP (cellI (cs.getD i []))) es < 0
theorem PlC.drop {es cs : LLA} (h : PlC es cs) (a : Nat) : PlC es (cs.drop a) := fun i hi => by
  rw [List.length_drop] at hi
  have := h (a + i) (by omega)
  rw [List.getD_eq_getElem?_getD, List.getElem?_drop, ← List.getD_eq_getElem?_getD]; exact this
/-- What comes of n entries more. -/
structure Lm (n : Nat) (out : LLA) (k : Int) (r : Rs) : Prop where
  ok : out.length + n ≤ 60 → r.1 = 0 ∧ r.2.1.length = out.length + n ∧ r.2.2 = k + n
  no : 60 < out.length + n → r.1 = 2
theorem al_pl {ss : LLA} {A : LLA → Int → LLA → Int → Rs} {es : LLA} {d : Int} : ∀ (n : Nat) (cs out : LLA) (k : Int), PlC es cs → cs.length ≤ n → k + cs.length ≤ 500 → out.length ≤ 60 → Lm cs.length out k (alL (fun cs out k => fiR A es ss cs d out k) n cs out k)
  | 0, cs, out, k, h, hn, hk, ho => by
    have e : cs.length = 0 := by omega
    rw [e]
    exact ⟨fun _ => ⟨rfl, rfl, by simp [alL]⟩, fun q => absurd q (by omega)⟩
  | n + 1, cs, out, k, h, hn, hk, ho => by
    unfold alL
    by_cases e : cs.length = 0
    · rw [if_pos e, e]
      exact ⟨fun _ => ⟨rfl, rfl, by simp⟩, fun q => absurd q (by omega)⟩
    · obtain ⟨h1, h2⟩ := h 0 (by omega)
      rw [if_neg e, fi_1 (by omega) h1]
      by_cases hf : 60 ≤ (out.length : Int)
      · have er : enErr es (cellI (cs.getD 0 [])) out.length = 2 := by unfold enErr; rw [if_neg h2, if_pos hf]
        simp only [er]
        rw [if_neg (by decide)]
        exact ⟨fun q => absurd q (by omega), fun _ => rfl⟩
      · have er : enErr es (cellI (cs.getD 0 [])) out.length = 0 := by unfold enErr; rw [if_neg h2, if_neg hf]
        have eo : (enOut es (cellI (cs.getD 0 [])) out).length = out.length + 1 := by unfold enOut; rw [if_pos er]; simp
        simp only [er, if_true]
        have ld : (cs.drop 1).length = cs.length - 1 := List.length_drop
        have r := al_pl (ss := ss) (A := A) (d := d) n (cs.drop 1) (enOut es (cellI (cs.getD 0 [])) out) (k + 1) (h.drop 1) (by omega) (by omega) (by omega)
        have rk := r.ok
        have rn := r.no
        rw [ld, eo] at rk rn
        exact ⟨fun q => by have := rk (by omega); exact ⟨this.1, by omega, by omega⟩, fun q => rn (by omega)⟩
theorem rp_pl {A : LLA → Int → LLA → Int → Rs} {cs : LLA} {d : Int} (hA : ∀ (out : LLA) (k : Int), k + cs.length ≤ 500 → out.length ≤ 60 → Lm cs.length out k (A cs d out k)) : ∀ (t : Nat) (out : LLA) (k : Int), k + (t * cs.length : Nat) ≤ 500 → out.length ≤ 60 → Lm (t * cs.length) out k (rpR A cs d t out k)
  | 0, out, k, hk, ho => by
    rw [Nat.zero_mul]
    exact ⟨fun _ => ⟨rfl, rfl, by simp [rpR]⟩, fun q => absurd q (by omega)⟩
  | t + 1, out, k, hk, ho => by
    rw [Nat.succ_mul] at hk ⊢
    have h1 := hA out k (by omega) ho
    unfold rpR
    by_cases hq : out.length + cs.length ≤ 60
    · obtain ⟨a1, a2, a3⟩ := h1.ok hq
      rw [if_pos a1]
      have r := rp_pl hA t (A cs d out k).2.1 (A cs d out k).2.2 (by omega) (by omega)
      exact ⟨fun q => by have := r.ok (by omega); exact ⟨this.1, by omega, by omega⟩, fun q => r.no (by omega)⟩
    · have a1 := h1.no (by omega)
      rw [if_neg (by omega)]
      exact ⟨fun q => absurd q (by omega), fun _ => a1⟩
theorem lim_R {es ss cs : LLA} {x y : Nat} (hc : PlC es cs) (hx : cs.length = x) (x1 : 1 ≤ x) (x2 : x ≤ 20) (y1 : 1 ≤ y) (y2 : y ≤ 20) : Lm (y * x) [] 1 (exR es ss ([.int .i64 (20000 + 100 * (x : Int) + (y : Int))] :: cs)) := by
  have hxy : y * x ≤ 400 := Nat.le_trans (Nat.mul_le_mul y2 x2) (by decide)
  have eX : rpX (20000 + 100 * (x : Int) + (y : Int)) = x := by unfold rpX; omega
  have eY : rpY (20000 + 100 * (x : Int) + (y : Int)) = y := by unfold rpY; omega
  have eK : knd (20000 + 100 * (x : Int) + (y : Int)) = 3 := by unfold knd; rw [eX, eY, if_neg (by omega), if_neg (by omega), if_neg (by omega), if_pos (by omega)]
  have e0 : cellI ((([.int .i64 (20000 + 100 * (x : Int) + (y : Int))] :: cs) : LLA).getD 0 []) = 20000 + 100 * (x : Int) + (y : Int) := rfl
  have r := rp_pl (A := alR es ss 500) (cs := cs) (d := 0) (fun out k hk ho => al_pl (ss := ss) (A := alR es ss 499) (d := 0) cs.length cs out k hc (Nat.le_refl _) hk ho) y [] 1 (by rw [hx]; omega) (by simp)
  rw [hx] at r
  have e1 : exR es ss ([.int .i64 (20000 + 100 * (x : Int) + (y : Int))] :: cs) = alL (fun cs out k => fiR (alR es ss 500) es ss cs 0 out k) (cs.length + 1) ([.int .i64 (20000 + 100 * (x : Int) + (y : Int))] :: cs) [] 0 := rfl
  rw [e1]
  unfold alL
  rw [if_neg (by simp), fi_3 (by decide) (by rw [e0]; exact eK) (by rw [e0, eX]; simp; omega), e0, eX, eY]
  have d1 : List.drop 1 (([.int .i64 (20000 + 100 * (x : Int) + (y : Int))] :: cs) : LLA) = cs := rfl
  have tk : cs.take (x : Int).toNat = cs := List.take_of_length_le (by omega)
  have dr : cs.drop (x : Int).toNat = [] := List.drop_of_length_le (by omega)
  rw [d1, tk, dr, show ((y : Int)).toNat = y by omega, show (0 : Int) + 1 = 1 by rfl]
  by_cases hz : (rpR (alR es ss 500) cs 0 y [] 1).1 = 0
  · rw [if_pos hz]
    simp only [hz, if_true]
    have en : ∀ n (out : LLA) (k : Int), alL (fun cs out k => fiR (alR es ss 500) es ss cs 0 out k) n [] out k = (0, out, k) := by
      intro n out k
      cases n <;> simp [alL]
    rw [en]
    exact ⟨fun q => by have := r.ok q; exact ⟨rfl, this.2.1, this.2.2⟩, fun q => by have := r.no q; omega⟩
  · rw [if_neg hz]
    simp only [hz, if_false]
    exact r
theorem lim {es ss cs : LLA} {v : Int} {x y : Nat} (hv : vaE es ss v = 0) (hc : PlC es cs) (hx : cs.length = x) (x1 : 1 ≤ x) (x2 : x ≤ 19) (y1 : 1 ≤ y) (y2 : y ≤ 20) :
    (y * x ≤ 60 → exE es ss v ([.int .i64 (20000 + 100 * (x : Int) + (y : Int))] :: cs) = 0 ∧ (exO es ss v ([.int .i64 (20000 + 100 * (x : Int) + (y : Int))] :: cs)).length = y * x) ∧
    (60 < y * x → exE es ss v ([.int .i64 (20000 + 100 * (x : Int) + (y : Int))] :: cs) = 2 ∧ exO es ss v ([.int .i64 (20000 + 100 * (x : Int) + (y : Int))] :: cs) = []) := by
  have r := lim_R (ss := ss) hc hx x1 (by omega) y1 y2
  have e : exE es ss v ([.int .i64 (20000 + 100 * (x : Int) + (y : Int))] :: cs) = (exR es ss ([.int .i64 (20000 + 100 * (x : Int) + (y : Int))] :: cs)).1 := by
    unfold exE
    rw [if_pos hv, if_neg (by simp; omega)]
  constructor
  · intro q
    have := r.ok (by simpa using q)
    unfold exO
    rw [e, if_pos this.1]
    exact ⟨this.1, by simpa using this.2.1⟩
  · intro q
    have := r.no (by simpa using q)
    unfold exO
    rw [e, if_neg (by omega)]
    exact ⟨this, rfl⟩
end Go.Proofs.YthdfkiopppkfcaaDoor
