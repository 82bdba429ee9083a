/- Plain laws: lists of pairs that are right, or wrong by a constant; their summaries, means, skill and tables. -/
import Derived.Test.YtjllgdpnbllnjaaScP
import Derived.Test.YtjllgdpnbllnjaaScR
namespace Go.Proofs.Ytjllgdpnbllnjaa
open Go.RowKit

def rightL (l : List (Int × Int)) : List (Int × Int) := l.map fun p => (p.1, p.1)
def shiftL (b : Int) (l : List (Int × Int)) : List (Int × Int) := l.map fun p => (p.1 + b, p.1)
theorem pOk_of {p : Int × Int} (h : (-1000000 ≤ p.1 ∧ p.1 ≤ 1000000) ∧ (-1000000 ≤ p.2 ∧ p.2 ≤ 1000000)) : pOk p = true := by
  unfold pOk; rw [inB_iff.2 h.1, inB_iff.2 h.2]; rfl
theorem checkS_ok {l : List (Int × Int)} (hlen : l.length ≤ 10000) (h : ∀ p ∈ l, pOk p = true) : checkS l = 0 := by
  unfold checkS; rw [if_neg (by omega), if_pos (List.all_eq_true.2 h)]
theorem checkS_in {l : List (Int × Int)} (hlen : l.length ≤ 10000) (h : ∀ p ∈ l, PIn p) : checkS l = 0 :=
  checkS_ok hlen fun p hp => pOk_of (by have := h p hp; unfold PIn at this; omega)
theorem checkS_shift (b : Int) {l : List (Int × Int)} (hb : -32768 ≤ b ∧ b ≤ 32767) (hlen : l.length ≤ 10000) (h : ∀ p ∈ l, PIn p) : checkS (shiftL b l) = 0 := by
  refine checkS_ok (by simpa [shiftL] using hlen) fun p hp => ?_
  obtain ⟨q, hq, rfl⟩ := List.mem_map.1 hp
  have := h q hq
  unfold PIn at this
  exact pOk_of (by show (-1000000 ≤ q.1 + b ∧ q.1 + b ≤ 1000000) ∧ (-1000000 ≤ q.1 ∧ q.1 ≤ 1000000); omega)
theorem right_shift (l : List (Int × Int)) : rightL l = shiftL 0 l := by unfold rightL shiftL; simp
theorem sumUp_shift (f : Int → Int) (b : Int) (l : List (Int × Int)) : sumUp f (shiftL b l) = l.length * f b := by
  induction l with
  | nil => simp [shiftL, sumUp]
  | cons p l ih =>
    have e : shiftL b (p :: l) = (p.1 + b, p.1) :: shiftL b l := rfl
    rw [e, sumUp, ih, show (p.1 + b, p.1).1 - (p.1 + b, p.1).2 = b by show p.1 + b - p.1 = b; omega, List.length_cons]
    push_cast
    rw [Int.add_mul, Int.one_mul]; omega
theorem ofP_shift (b : Int) {l : List (Int × Int)} (hb : -32768 ≤ b ∧ b ≤ 32767) (hlen : l.length ≤ 10000) (h : ∀ p ∈ l, PIn p) :
    ofP (shiftL b l) = (0, (l.length : Int), (l.length : Int) * b, (l.length : Int) * absI b, (l.length : Int) * (b * b)) := by
  unfold ofP
  rw [if_pos (checkS_shift b hb hlen h), sumUp_shift, sumUp_shift, sumUp_shift]
  simp [shiftL]
theorem ofP_right {l : List (Int × Int)} (hlen : l.length ≤ 10000) (h : ∀ p ∈ l, PIn p) : ofP (rightL l) = (0, (l.length : Int), 0, 0, 0) := by
  rw [right_shift, ofP_shift 0 (by omega) hlen h]; simp [absI]
theorem cnt_zero {f : Int × Int → Bool} {l : List (Int × Int)} (h : ∀ p ∈ l, f p = false) : cnt f l = 0 := by
  induction l with
  | nil => rfl
  | cons p l ih => rw [cnt, h p (by simp), ih (fun q hq => h q (by simp [hq]))]; simp
theorem tabS_right {l : List (Int × Int)} (t : Int) (hlen : l.length ≤ 10000) (h : ∀ p ∈ l, PIn p) : ∃ x y, tabS (rightL l) t = (0, x, 0, 0, y) := by
  refine ⟨cnt (fHit t) (rightL l), cnt (fRest t) (rightL l), ?_⟩
  unfold tabS
  rw [if_pos (by rw [right_shift]; exact checkS_shift 0 (by omega) hlen h), cnt_zero (f := fAlarm t), cnt_zero (f := fMiss t)]
  all_goals
    intro p hp
    obtain ⟨q, _, rfl⟩ := List.mem_map.1 hp
    simp [fAlarm, fMiss]
theorem redS_mul (m : Nat) (b : Int) (hm : 1 ≤ m) (hm2 : m ≤ 100000) (hb : -4000000000000 ≤ b ∧ b ≤ 4000000000000) : redS ((m : Int) * b) m = (0, b, 1) := by
  have hb1 : (m : Int) * b ≤ 100000 * 4000000000000 := by
    have h1 := Int.mul_le_mul_of_nonneg_left hb.2 (show (0 : Int) ≤ m by omega)
    have h2 := Int.mul_le_mul_of_nonneg_right (show (m : Int) ≤ 100000 by omega) (show (0 : Int) ≤ 4000000000000 by omega)
    omega
  have hb2 : -(100000 * 4000000000000) ≤ (m : Int) * b := by
    have h1 := Int.mul_le_mul_of_nonneg_left hb.1 (show (0 : Int) ≤ m by omega)
    have h2 := Int.mul_le_mul_of_nonneg_right (show (m : Int) ≤ 100000 by omega) (show (0 : Int) ≤ 4000000000000 by omega)
    omega
  have hg : Nat.gcd ((m : Int) * b).natAbs ((m : Int)).natAbs = m := by
    rw [Int.natAbs_mul]; simp
  unfold redS
  rw [if_neg, if_neg (by omega), hg, Int.mul_tdiv_cancel_left b (by omega), Int.ediv_self (by omega)]
  rw [inB_iff.2 (by unfold bigL; omega), inB_iff.2 (by unfold bigL; omega)]
  simp; omega
theorem meanS_mul (m : Nat) (b : Int) (hm : 1 ≤ m) (hm2 : m ≤ 100000) (hb : -4000000000000 ≤ b ∧ b ≤ 4000000000000) : meanS ((m : Int) * b) m = (0, b, 1) := by
  unfold meanS; rw [if_neg (by omega), redS_mul m b hm hm2 hb]
theorem redS_self (q : Int) (h : 1 ≤ q ∧ q ≤ 288230376151711744) : redS (q - 0) q = (0, 1, 1) := by
  obtain ⟨k, rfl⟩ := Int.eq_ofNat_of_zero_le (show 0 ≤ q by omega)
  have hg : Nat.gcd ((k : Int)).natAbs ((k : Int)).natAbs = k := by simp
  unfold redS
  rw [Int.sub_zero, if_neg, if_neg (by omega), hg, Int.tdiv_self (by omega), Int.ediv_self (by omega)]
  rw [inB_iff.2 (by unfold bigL; omega)]
  simp; omega
theorem skillS_right (n : Int) (q : Int) (hn : 1 ≤ n) (hq : 0 ≤ q ∧ q ≤ 288230376151711744) : skillS n 0 n q = if q = 0 then (9, 0, 0) else (0, 1, 1) := by
  unfold skillS
  by_cases h : q = 0
  · rw [if_pos (by omega), if_pos h]
  · rw [if_neg (by omega), if_neg, if_neg h, redS_self q (by omega)]
    rw [show inB (0 : Int) 0 bigS = true by decide, inB_iff.2 (by unfold bigS; omega)]
    simp
theorem sumSq_nonneg (l : List (Int × Int)) : 0 ≤ sumUp (fun d => d * d) l := by
  induction l with
  | nil => simp [sumUp]
  | cons p l ih =>
    have h : 0 ≤ (p.1 - p.2) * (p.1 - p.2) := by
      rcases Int.le_total 0 (p.1 - p.2) with h | h
      · exact Int.mul_nonneg h h
      · have := Int.mul_nonneg (show 0 ≤ -(p.1 - p.2) by omega) (show 0 ≤ -(p.1 - p.2) by omega)
        rwa [Int.neg_mul_neg] at this
    simp only [sumUp]; omega
/-- The summary of pairs that choices make. -/
theorem ofP_in {l : List (Int × Int)} (hlen : l.length ≤ 10000) (h : ∀ p ∈ l, PIn p) :
    ∃ s x q, ofP l = (0, (l.length : Int), s, x, q) ∧ s = sumUp id l ∧ x = sumUp absI l ∧ q = sumUp (fun d => d * d) l ∧ 0 ≤ q ∧ q ≤ 40000000000000000 ∧ (-20000000000 ≤ s ∧ s ≤ 20000000000) ∧ (-20000000000 ≤ x ∧ x ≤ 20000000000) := by
  have hc := checkS_in hlen h
  have b := sums_bd l l.length hlen (Nat.le_refl _) (fun j hj => by
    rw [getD_get _ _ hj]
    exact pOk_of (by have := h _ (List.getElem_mem hj); unfold PIn at this; omega))
  rw [List.take_length] at b
  refine ⟨_, _, _, by unfold ofP; rw [if_pos hc], rfl, rfl, rfl, sumSq_nonneg l, b.2.2.2, b.1, b.2.1⟩
theorem right_take (l : List (Int × Int)) (k : Nat) (hk : k < l.length) : rightL (l.take (k + 1)) = rightL (l.take k) ++ [((l.getD k (0, 0)).1, (l.getD k (0, 0)).1)] := by
  unfold rightL
  rw [getD_get _ _ hk, List.take_succ_eq_append_getElem hk, List.map_append]; rfl
theorem shift_take (b : Int) (l : List (Int × Int)) (k : Nat) (hk : k < l.length) : shiftL b (l.take (k + 1)) = shiftL b (l.take k) ++ [((l.getD k (0, 0)).1 + b, (l.getD k (0, 0)).1)] := by
  unfold shiftL
  rw [getD_get _ _ hk, List.take_succ_eq_append_getElem hk, List.map_append]; rfl
theorem pcells_take (l : List (Int × Int)) (k : Nat) : (pcells l).take (2 * k) = pcells (l.take k) := by
  induction l generalizing k with
  | nil => simp [pcells]
  | cons p l ih =>
    cases k with
    | zero => rfl
    | succ k =>
      have hc : pcells (p :: l) = .int .i64 p.1 :: .int .i64 p.2 :: pcells l := rfl
      have hc' : pcells ((p :: l).take (k + 1)) = .int .i64 p.1 :: .int .i64 p.2 :: pcells (l.take k) := rfl
      rw [hc, hc', show 2 * (k + 1) = 2 * k + 1 + 1 by omega, List.take_succ_cons, List.take_succ_cons, ih]
end Go.Proofs.Ytjllgdpnbllnjaa
