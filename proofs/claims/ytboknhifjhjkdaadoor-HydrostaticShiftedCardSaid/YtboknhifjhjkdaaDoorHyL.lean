/- Hydrostatic: plain laws of six readings. -/
import Derived.Test.YtboknhifjhjkdaaDoorHyB
namespace Go.Proofs.YtboknhifjhjkdaaDoor
open Go
set_option linter.unusedVariables false
set_option linter.unusedSimpArgs false

theorem ck_ok {e v : Int} (h : okC e = true) : ck e v = if v < inLo e ∨ inHi e < v then 1 else 0 := by unfold ck; rw [h]; rfl
theorem cc (lo hi v : Int) : decide ((if v < lo ∨ hi < v then (1 : Int) else 0) = 4) = false := by split <;> rfl
theorem cc1 (lo hi v : Int) : decide ((if v < lo ∨ hi < v then (1 : Int) else 0) = 1) = !(decide (lo ≤ v) && decide (v ≤ hi)) := by
  split
  · next h =>
    rcases h with h | h
    · rw [decide_eq_false (by omega : ¬ lo ≤ v)]; rfl
    · rw [decide_eq_false (by omega : ¬ v ≤ hi), Bool.and_false]; rfl
  · next h => rw [decide_eq_true (by omega : lo ≤ v), decide_eq_true (by omega : v ≤ hi)]; rfl
def In6 (a b c d e g : Int) : Prop := (900 ≤ a ∧ a ≤ 1700) ∧ (2000 ≤ b ∧ b ≤ 3200) ∧ (2400 ≤ c ∧ c ≤ 3400) ∧ (2000 ≤ d ∧ d ≤ 3000) ∧ (4400 ≤ e ∧ e ≤ 6200) ∧ (2000 ≤ g ∧ g ≤ 2900)
theorem asc6 (a b c d e g : Int) : ascB (row6 a b c d e g) = true := rfl
theorem vd6 {a b c d e g : Int} : vdE (row6 a b c d e g) = 0 ↔ In6 a b c d e g := by
  have k4 : ckA 4 (row6 a b c d e g) = (decide (ck 6 a = 4) || (decide (ck 7 b = 4) || (decide (ck 8 c = 4) || (decide (ck 9 d = 4) || (decide (ck 10 e = 4) || (decide (ck 11 g = 4) || false)))))) := rfl
  have k1 : ckA 1 (row6 a b c d e g) = (decide (ck 6 a = 1) || (decide (ck 7 b = 1) || (decide (ck 8 c = 1) || (decide (ck 9 d = 1) || (decide (ck 10 e = 1) || (decide (ck 11 g = 1) || false)))))) := rfl
  rw [ck_ok (e := 6) rfl, ck_ok (e := 7) rfl, ck_ok (e := 8) rfl, ck_ok (e := 9) rfl, ck_ok (e := 10) rfl, ck_ok (e := 11) rfl] at k4 k1
  rw [cc, cc, cc, cc, cc, cc] at k4
  rw [cc1, cc1, cc1, cc1, cc1, cc1] at k1
  have l6 : inLo 6 = 900 ∧ inHi 6 = 1700 := ⟨rfl, rfl⟩
  have l7 : inLo 7 = 2000 ∧ inHi 7 = 3200 := ⟨rfl, rfl⟩
  have l8 : inLo 8 = 2400 ∧ inHi 8 = 3400 := ⟨rfl, rfl⟩
  have l9 : inLo 9 = 2000 ∧ inHi 9 = 3000 := ⟨rfl, rfl⟩
  have l10 : inLo 10 = 4400 ∧ inHi 10 = 6200 := ⟨rfl, rfl⟩
  have l11 : inLo 11 = 2000 ∧ inHi 11 = 2900 := ⟨rfl, rfl⟩
  unfold vdE
  rw [k4, k1, asc6]
  unfold In6
  rw [l6.1, l6.2, l7.1, l7.2, l8.1, l8.2, l9.1, l9.2, l10.1, l10.2, l11.1, l11.2]
  constructor
  · intro h
    by_cases q : (!(decide (900 ≤ a) && decide (a ≤ 1700)) || (!(decide (2000 ≤ b) && decide (b ≤ 3200)) || (!(decide (2400 ≤ c) && decide (c ≤ 3400)) || (!(decide (2000 ≤ d) && decide (d ≤ 3000)) || (!(decide (4400 ≤ e) && decide (e ≤ 6200)) || (!(decide (2000 ≤ g) && decide (g ≤ 2900)) || false)))))) = true
    · rw [if_neg (by decide), if_pos q] at h; cases h
    · simp only [Bool.not_eq_true, Bool.or_eq_false_iff, Bool.not_eq_false', Bool.and_eq_true, decide_eq_true_eq] at q
      exact ⟨q.1, q.2.1, q.2.2.1, q.2.2.2.1, q.2.2.2.2.1, q.2.2.2.2.2.1⟩
  · rintro ⟨⟨h1, h2⟩, ⟨h3, h4⟩, ⟨h5, h6⟩, ⟨h7, h8⟩, ⟨h9, h10⟩, h11, h12⟩
    simp only [decide_eq_true h1, decide_eq_true h2, decide_eq_true h3, decide_eq_true h4, decide_eq_true h5, decide_eq_true h6, decide_eq_true h7, decide_eq_true h8, decide_eq_true h9, decide_eq_true h10, decide_eq_true h11, decide_eq_true h12]
    rfl
structure Sm6 (a b c d e g : Int) : Prop where
  a : -100000 ≤ a ∧ a ≤ 100000
  b : -100000 ≤ b ∧ b ≤ 100000
  c : -100000 ≤ c ∧ c ≤ 100000
  d : -100000 ≤ d ∧ d ≤ 100000
  e : -100000 ≤ e ∧ e ≤ 100000
  g : -100000 ≤ g ∧ g ≤ 100000
theorem sm6 {a b c d e g : Int} (h : In6 a b c d e g) : Sm6 a b c d e g := by
  obtain ⟨h1, h2, h3, h4, h5, h6⟩ := h
  exact ⟨by omega, by omega, by omega, by omega, by omega, by omega⟩
theorem fn6 {a b c d e g : Int} (h : Sm6 a b c d e g) : fnd (row6 a b c d e g) 6 = true ∧ fnd (row6 a b c d e g) 7 = true ∧ fnd (row6 a b c d e g) 8 = true ∧ fnd (row6 a b c d e g) 9 = true ∧ fnd (row6 a b c d e g) 10 = true ∧ fnd (row6 a b c d e g) 11 = true :=
  ⟨fnd_iff.2 ⟨rfl, h.a⟩, fnd_iff.2 ⟨rfl, h.b⟩, fnd_iff.2 ⟨rfl, h.c⟩, fnd_iff.2 ⟨rfl, h.d⟩, fnd_iff.2 ⟨rfl, h.e⟩, fnd_iff.2 ⟨rfl, h.g⟩⟩
theorem rs6 {a b c d e g : Int} (h : Sm6 a b c d e g) : rL (row6 a b c d e g) = 20000 * (c - a) - 5683 * (b + d) ∧ bL (row6 a b c d e g) = true ∧ rU (row6 a b c d e g) = 20000 * (e - c) - 9848 * (d + g) ∧ bU (row6 a b c d e g) = true := by
  obtain ⟨f6, f7, f8, f9, f10, f11⟩ := fn6 h
  have e1 : rsB (row6 a b c d e g) 6 7 8 9 = true := rsB_iff.2 ⟨f6, f7, f8, f9⟩
  have e2 : rsB (row6 a b c d e g) 8 9 10 11 = true := rsB_iff.2 ⟨f8, f9, f10, f11⟩
  refine ⟨?_, e1, ?_, e2⟩
  · unfold rL rsV
    rw [if_pos e1]; rfl
  · unfold rU rsV
    rw [if_pos e2]; rfl
theorem ch6 {a b c d e g m : Int} (h : In6 a b c d e g) (hm : 0 ≤ m ∧ m ≤ 1000) : chE (row6 a b c d e g) m = 0 ∧ chL (row6 a b c d e g) m = chR (20000 * (c - a) - 5683 * (b + d)) true (20000 * (e - c) - 9848 * (d + g)) true m := by
  have e0 : chE (row6 a b c d e g) m = 0 := by unfold chE; rw [if_neg (by omega), vd6.2 h]
  obtain ⟨r1, r2, r3, r4⟩ := rs6 (sm6 h)
  refine ⟨e0, ?_⟩
  unfold chL
  rw [if_pos e0, r1, r2, r3, r4]
theorem ch6e {a b c d e g m : Int} (h : vdE (row6 a b c d e g) = 0) (hm : 0 ≤ m ∧ m ≤ 1000) : chE (row6 a b c d e g) m = 0 ∧ chL (row6 a b c d e g) m = chR (20000 * (c - a) - 5683 * (b + d)) true (20000 * (e - c) - 9848 * (d + g)) true m := ch6 (vd6.1 h) hm
structure Fit (h1 t1 h2 t2 h3 t3 : Int) : Prop where
  p1 : 1200 ≤ h1 ∧ h1 ≤ 1500
  p2 : 2500 ≤ t1 ∧ t1 ≤ 3000
  p3 : 2450 ≤ t2 ∧ t2 ≤ 2850
  p4 : 2200 ≤ t3 ∧ t3 ≤ 2600
  lo : -10000 ≤ 20000 * (h2 - h1) - 5683 * (t1 + t2) ∧ 20000 * (h2 - h1) - 5683 * (t1 + t2) ≤ 10000
  up : -10000 ≤ 20000 * (h3 - h2) - 9848 * (t2 + t3) ∧ 20000 * (h3 - h2) - 9848 * (t2 + t3) ≤ 10000
theorem fit_ok (X : List (List AV)) (i : Int) : Fit (fH1 X i) (fT1 X i) (fH2 X i) (fT2 X i) (fH3 X i) (fT3 X i) := by
  have m1 := srcN_lt (xs := X) (i := i) (n := 501) (by decide)
  have m2 := srcN_lt (xs := X) (i := rawA X i) (n := 401) (by decide)
  have m3 := srcN_lt (xs := X) (i := rawA X (rawA X i)) (n := 401) (by decide)
  have m4 := srcN_lt (xs := X) (i := rawA X (rawA X (rawA X i))) (n := 301) (by decide)
  unfold fH3 fH2 fH1 fT1 fT2 fT3
  generalize srcN X i 501 = a at *
  generalize srcN X (rawA X i) 401 = b at *
  generalize srcN X (rawA X (rawA X i)) 401 = c at *
  generalize srcN X (rawA X (rawA X (rawA X i))) 301 = d at *
  have t1 : (5683 * (2500 + a + (2450 + b)) + 10000).tdiv 20000 = (5683 * (2500 + a + (2450 + b)) + 10000) / 20000 := Int.tdiv_eq_ediv_of_nonneg (by omega)
  have t2 : (9848 * (2450 + b + (2200 + c)) + 10000).tdiv 20000 = (9848 * (2450 + b + (2200 + c)) + 10000) / 20000 := Int.tdiv_eq_ediv_of_nonneg (by omega)
  rw [t1, t2]
  exact ⟨by omega, by omega, by omega, by omega, by omega, by omega⟩
theorem Fit.in6 {h1 t1 h2 t2 h3 t3 : Int} (f : Fit h1 t1 h2 t2 h3 t3) : In6 h1 t1 h2 t2 h3 t3 := by
  obtain ⟨a, b, c, d, e, g⟩ := f
  exact ⟨by omega, by omega, by omega, by omega, by omega, by omega⟩
theorem Fit.rds {h1 t1 h2 t2 h3 t3 : Int} (f : Fit h1 t1 h2 t2 h3 t3) : (1000 ≤ h1 ∧ h1 ≤ 10000) ∧ (1000 ≤ t1 ∧ t1 ≤ 10000) ∧ (1000 ≤ h2 ∧ h2 ≤ 10000) ∧ (1000 ≤ t2 ∧ t2 ≤ 10000) ∧ (1000 ≤ h3 ∧ h3 ≤ 10000) ∧ (1000 ≤ t3 ∧ t3 ≤ 10000) := by
  obtain ⟨a, b, c, d, e, g⟩ := f
  exact ⟨by omega, by omega, by omega, by omega, by omega, by omega⟩
def R64 (n : Int) : Prop := -9223372036854775808 ≤ n ∧ n ≤ 9223372036854775807
theorem rds6 {a b c d e g : Int} (h1 : R64 a) (h2 : R64 b) (h3 : R64 c) (h4 : R64 d) (h5 : R64 e) (h6 : R64 g) : RdsP (row6 a b c d e g) := by
  refine rds_of (l := [(6, a), (7, b), (8, c), (9, d), (10, e), (11, g)]) ?_ (by simp)
  intro p hp
  simp only [List.mem_cons, List.not_mem_nil, or_false] at hp
  rcases hp with rfl | rfl | rfl | rfl | rfl | rfl
  · exact ⟨show rng .i64 6 by decide, h1⟩
  · exact ⟨show rng .i64 7 by decide, h2⟩
  · exact ⟨show rng .i64 8 by decide, h3⟩
  · exact ⟨show rng .i64 9 by decide, h4⟩
  · exact ⟨show rng .i64 10 by decide, h5⟩
  · exact ⟨show rng .i64 11 by decide, h6⟩
theorem sz_lt {n m : Int} : decide (m < sz n) = (decide (m < n) || decide (n < -m)) := by
  rw [Bool.eq_iff_iff]; simp only [Bool.or_eq_true, decide_eq_true_eq]; unfold sz; omega
theorem sz_le {n m : Int} : decide (sz n ≤ m) = (decide (n ≤ m) && decide (-m ≤ n)) := by
  rw [Bool.eq_iff_iff]; simp only [Bool.and_eq_true, decide_eq_true_eq]; unfold sz; omega
theorem wrg_t {a m : Int} (h : 20000 * m < a ∨ a < -(20000 * m)) : wrg a m = true := by unfold wrg; exact decide_eq_true (by unfold sz; omega)
theorem wrg_f {a m : Int} (h : a ≤ 20000 * m ∧ -(20000 * m) ≤ a) : wrg a m = false := by unfold wrg; exact decide_eq_false (by unfold sz; omega)
theorem hgt_t {a b m : Int} (h : a + b ≤ 20000 * m ∧ -(20000 * m) ≤ a + b) : hgt a b m = true := by unfold hgt; exact decide_eq_true (by unfold sz; omega)
theorem hgt_f {a b m : Int} (h : 20000 * m < a + b ∨ a + b < -(20000 * m)) : hgt a b m = false := by unfold hgt; exact decide_eq_false (by unfold sz; omega)
theorem wrm_t {a b m : Int} (h : 9848 * a - 5683 * b ≤ 196960000 * m ∧ -(196960000 * m) ≤ 9848 * a - 5683 * b) : wrm a b m = true := by unfold wrm; exact decide_eq_true (by unfold sz; omega)
theorem wrm_f {a b m : Int} (h : 196960000 * m < 9848 * a - 5683 * b ∨ 9848 * a - 5683 * b < -(196960000 * m)) : wrm a b m = false := by unfold wrm; exact decide_eq_false (by unfold sz; omega)
theorem chR_h {a b m : Int} {x y : Bool} (h1 : wrg a m = true) (h2 : wrg b m = true) (h3 : hgt a b m = true) (h4 : wrm a b m = false) : chR a x b y m = [8] := by unfold chR botL; rw [h1, h2, h3, h4]; rfl
theorem chR_t {a b m : Int} {x y : Bool} (h1 : wrg a m = true) (h2 : wrg b m = true) (h3 : hgt a b m = false) (h4 : wrm a b m = true) : chR a x b y m = [9] := by unfold chR botL; rw [h1, h2, h3, h4]; rfl
theorem chR_n {a b m : Int} {x y : Bool} (h1 : wrg a m = false) (h2 : wrg b m = false) : chR a x b y m = [] := by unfold chR; rw [h1, h2]; rfl
theorem chR_lo {a b m : Int} {x : Bool} (h1 : wrg a m = true) (h2 : wrg b m = false) : chR a x b true m = [6, 7] := by unfold chR; rw [h1, h2]; rfl
theorem chR_up {a b m : Int} {y : Bool} (h1 : wrg a m = false) (h2 : wrg b m = true) : chR a true b y m = [10, 11] := by unfold chR; rw [h1, h2]; rfl
theorem iro_ints {l : List Int} (h : ∀ n ∈ l, R64 n) : IntsA (iro l) := by
  intro x hx
  obtain ⟨n, hn, rfl⟩ := List.mem_map.1 hx
  exact ⟨n, rfl, h n hn⟩
theorem eqR_iro (l : List Int) : eqR (iro l) (iro l) = true := decide_eq_true rfl
theorem Fit.none {h1 t1 h2 t2 h3 t3 : Int} (f : Fit h1 t1 h2 t2 h3 t3) : chE (row6 h1 t1 h2 t2 h3 t3) 10 = 0 ∧ chL (row6 h1 t1 h2 t2 h3 t3) 10 = [] := by
  obtain ⟨e1, e2⟩ := ch6 (m := 10) f.in6 (by decide)
  have := f.lo
  have := f.up
  exact ⟨e1, by rw [e2]; exact chR_n (wrg_f (by omega)) (wrg_f (by omega))⟩
theorem Fit.height {h1 t1 h2 t2 h3 t3 d : Int} (f : Fit h1 t1 h2 t2 h3 t3) (hd : 40 ≤ d ∨ d ≤ -40) (hv : vdE (row6 h1 t1 (h2 + d) t2 h3 t3) = 0) : chE (row6 h1 t1 (h2 + d) t2 h3 t3) 10 = 0 ∧ chL (row6 h1 t1 (h2 + d) t2 h3 t3) 10 = [8] := by
  obtain ⟨e1, e2⟩ := ch6e (m := 10) hv (by decide)
  have := f.lo
  have := f.up
  exact ⟨e1, by rw [e2]; exact chR_h (wrg_t (by omega)) (wrg_t (by omega)) (hgt_t (by omega)) (wrm_f (by omega))⟩
theorem Fit.warm {h1 t1 h2 t2 h3 t3 d : Int} (f : Fit h1 t1 h2 t2 h3 t3) (hd : 100 ≤ d ∨ d ≤ -100) (hv : vdE (row6 h1 t1 h2 (t2 + d) h3 t3) = 0) : chE (row6 h1 t1 h2 (t2 + d) h3 t3) 10 = 0 ∧ chL (row6 h1 t1 h2 (t2 + d) h3 t3) 10 = [9] := by
  obtain ⟨e1, e2⟩ := ch6e (m := 10) hv (by decide)
  have := f.lo
  have := f.up
  exact ⟨e1, by rw [e2]; exact chR_t (wrg_t (by omega)) (wrg_t (by omega)) (hgt_f (by omega)) (wrm_t (by omega))⟩
end Go.Proofs.YtboknhifjhjkdaaDoor
