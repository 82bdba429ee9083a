/- The calendar, plain laws. -/
import Derived.Test.YtceknalhogbbnaaDoorKv
namespace Go.Proofs.YtceknalhogbbnaaDoor
open Go
set_option linter.unusedVariables false
set_option linter.unusedSimpArgs false

def lp (y : Int) : Int := if y % 4 = 0 then 1 else 0
theorem lp01 (y : Int) : 0 ≤ lp y ∧ lp y ≤ 1 := by unfold lp; split <;> omega
def len12 (y : Int) : List Int := [31, 28 + lp y, 31, 30, 31, 30, 31, 31, 30, 31, 30, 31]
def dim (y m : Int) : Int := if 2000 ≤ y ∧ y ≤ 2099 ∧ 1 ≤ m ∧ m ≤ 12 then (len12 y).getD (m - 1).toNat 0 else 0
def tmB (h i : Int) : Bool := decide (0 ≤ h ∧ h < 24 ∧ 0 ≤ i ∧ i < 60)
def vldB (y m d h i : Int) : Bool := decide (1 ≤ d ∧ d ≤ dim y m) && tmB h i
def inB (t : Int) : Bool := decide (0 ≤ t ∧ t ≤ 52595999)
/-- Days of a year before the month of number k from 0 on. -/
def cum (y : Int) : Nat → Int
  | 0 => 0
  | k + 1 => cum y k + (len12 y).getD k 0
/-- Minutes before a year. -/
def fst' (y : Int) : Int := 1440 * (365 * (y - 2000) + (y - 2000 + 3) / 4)
def mns (y m d h i : Int) : Int := fst' y + 1440 * (d - 1 + cum y (m - 1).toNat) + 60 * h + i
theorem k12 {k : Nat} (h : k < 12) : k = 0 ∨ k = 1 ∨ k = 2 ∨ k = 3 ∨ k = 4 ∨ k = 5 ∨ k = 6 ∨ k = 7 ∨ k = 8 ∨ k = 9 ∨ k = 10 ∨ k = 11 := by omega
theorem len12_bd (y : Int) {k : Nat} (h : k < 12) : 28 ≤ (len12 y).getD k 0 ∧ (len12 y).getD k 0 ≤ 31 := by
  have := lp01 y
  rcases k12 h with rfl | rfl | rfl | rfl | rfl | rfl | rfl | rfl | rfl | rfl | rfl | rfl <;> simp [len12] <;> omega
theorem cum_bd (y : Int) : ∀ {k : Nat}, k ≤ 12 → 28 * (k : Int) ≤ cum y k ∧ cum y k ≤ 31 * (k : Int)
  | 0, _ => by simp [cum]
  | k + 1, h => by
    have h1 := cum_bd y (k := k) (by omega)
    have h2 := len12_bd y (k := k) (by omega)
    simp only [cum]
    omega
theorem cum12 (y : Int) : cum y 12 = 365 + lp y := by simp [cum, len12]; omega
theorem cum_mono (y : Int) {j k : Nat} (h : j ≤ k) (hk : k ≤ 12) : cum y j + 28 * ((k : Int) - j) ≤ cum y k := by
  induction k with
  | zero => have : j = 0 := by omega
            subst this; simp
  | succ k ih =>
    rcases Nat.lt_or_ge j (k + 1) with hj | hj
    · have h1 := ih (by omega) (by omega)
      have h2 := len12_bd y (k := k) (by omega)
      simp only [cum]; omega
    · have : j = k + 1 := by omega
      subst this; omega
theorem dim_bd (y m : Int) : 0 ≤ dim y m ∧ dim y m ≤ 31 := by
  unfold dim
  split
  · have := len12_bd y (k := (m - 1).toNat) (by omega); omega
  · omega
theorem dim_pos {y m : Int} (h : 1 ≤ dim y m) : 2000 ≤ y ∧ y ≤ 2099 ∧ 1 ≤ m ∧ m ≤ 12 := by
  unfold dim at h
  split at h
  · assumption
  · omega
theorem dim_in {y m : Int} (h : 2000 ≤ y ∧ y ≤ 2099 ∧ 1 ≤ m ∧ m ≤ 12) : dim y m = (len12 y).getD (m - 1).toNat 0 := by unfold dim; rw [if_pos h]
structure VldC (y m d h i : Int) : Prop where
  yr : 2000 ≤ y ∧ y ≤ 2099
  mo : 1 ≤ m ∧ m ≤ 12
  dy : 1 ≤ d ∧ d ≤ (len12 y).getD (m - 1).toNat 0
  hr : 0 ≤ h ∧ h < 24
  mi : 0 ≤ i ∧ i < 60
theorem vldB_iff (y m d h i : Int) : vldB y m d h i = true ↔ VldC y m d h i := by
  unfold vldB tmB
  simp only [Bool.and_eq_true, decide_eq_true_eq]
  constructor
  · rintro ⟨⟨h1, h2⟩, h3, h4, h5, h6⟩
    have hd := dim_pos (y := y) (m := m) (by omega)
    rw [dim_in hd] at h2
    exact ⟨⟨hd.1, hd.2.1⟩, hd.2.2, ⟨h1, h2⟩, ⟨h3, h4⟩, ⟨h5, h6⟩⟩
  · intro v
    rw [dim_in ⟨v.yr.1, v.yr.2, v.mo⟩]
    exact ⟨v.dy, v.hr.1, v.hr.2, v.mi⟩
theorem fst_step {y : Int} (h : 2000 ≤ y) : fst' (y + 1) = fst' y + 1440 * (365 + lp y) := by
  unfold fst' lp
  split <;> omega
theorem fst_mono {y z : Int} (h : 2000 ≤ y) (hz : y ≤ z) : fst' y ≤ fst' z := by unfold fst'; omega
theorem fst_lt {y z : Int} (h : 2000 ≤ y) (hz : y < z) : fst' y + 525600 ≤ fst' z := by unfold fst'; omega
theorem fst_2000 : fst' 2000 = 0 := by decide
theorem fst_2100 : fst' 2100 = 52596000 := by decide
theorem mns_bd {y m d h i : Int} (v : VldC y m d h i) : fst' y ≤ mns y m d h i ∧ mns y m d h i < fst' (y + 1) := by
  obtain ⟨⟨y1, y2⟩, ⟨m1, m2⟩, ⟨d1, d2⟩, ⟨h1, h2⟩, ⟨i1, i2⟩⟩ := v
  have hk : (m - 1).toNat < 12 := by omega
  have c0 := cum_bd y (k := (m - 1).toNat) (by omega)
  have c1 := cum_mono y (j := (m - 1).toNat + 1) (k := 12) (by omega) (Nat.le_refl _)
  have c2 : cum y ((m - 1).toNat + 1) = cum y (m - 1).toNat + (len12 y).getD (m - 1).toNat 0 := rfl
  rw [fst_step y1, ← cum12 y]
  unfold mns
  omega
theorem mns_in {y m d h i : Int} (v : VldC y m d h i) : 0 ≤ mns y m d h i ∧ mns y m d h i ≤ 52595999 := by
  have h1 := mns_bd v
  have h2 := fst_mono (y := 2000) (z := y) (by decide) v.yr.1
  have h3 := fst_mono (y := y + 1) (z := 2100) (by have := v.yr; omega) (by have := v.yr; omega)
  rw [fst_2000] at h2
  rw [fst_2100] at h3
  omega
/-- Of a minute, the greatest year of the first n + 1 that begins no later. -/
def yrR (t : Int) : Nat → Int
  | 0 => 2000
  | n + 1 => if fst' (2000 + (n + 1 : Nat)) ≤ t then 2000 + (n + 1 : Nat) else yrR t n
def yrF (t : Int) : Int := yrR t 99
def moR (y r : Int) : Nat → Nat
  | 0 => 0
  | n + 1 => if cum y (n + 1) ≤ r then n + 1 else moR y r n
/-- The month of a year in which a day lies: from 0 on. -/
def moF (y r : Int) : Nat := moR y r 11
theorem yrR_spec {t : Int} (h0 : 0 ≤ t) : ∀ n : Nat, 2000 ≤ yrR t n ∧ yrR t n ≤ 2000 + n ∧ fst' (yrR t n) ≤ t ∧ ∀ y, yrR t n < y → y ≤ 2000 + n → t < fst' y
  | 0 => ⟨by simp [yrR], by simp [yrR], by simpa [yrR, fst_2000] using h0, by intro y h1 h2; simp [yrR] at h1; simp at h2; omega⟩
  | n + 1 => by
    obtain ⟨h1, h2, h3, h4⟩ := yrR_spec h0 n
    simp only [yrR]
    split
    · next h => exact ⟨by omega, by omega, h, by intro y k1 k2; omega⟩
    · next h =>
      refine ⟨h1, by omega, h3, fun y k1 k2 => ?_⟩
      rcases Int.lt_or_le (2000 + (n : Int)) y with k | k
      · have : y = 2000 + ((n + 1 : Nat) : Int) := by omega
        rw [this]; omega
      · exact h4 y k1 (by omega)
theorem moR_spec {y r : Int} (h0 : 0 ≤ r) : ∀ n : Nat, moR y r n ≤ n ∧ cum y (moR y r n) ≤ r ∧ ∀ k, moR y r n < k → k ≤ n → r < cum y k
  | 0 => ⟨by simp [moR], by simpa [moR, cum] using h0, by intro k h1 h2; simp [moR] at h1; omega⟩
  | n + 1 => by
    obtain ⟨h2, h3, h4⟩ := moR_spec (y := y) h0 n
    simp only [moR]
    split
    · next h => exact ⟨Nat.le_refl _, h, by intro k k1 k2; omega⟩
    · next h =>
      refine ⟨by omega, h3, fun k k1 k2 => ?_⟩
      rcases Nat.lt_or_ge n k with q | q
      · have : k = n + 1 := by omega
        rw [this]; omega
      · exact h4 k k1 q
theorem yr_uniq {t y : Int} (ht : 0 ≤ t ∧ t ≤ 52595999) (h0 : 2000 ≤ y) (h1 : fst' y ≤ t) (h2 : t < fst' (y + 1)) : y = yrF t := by
  obtain ⟨k1, k2, k3, k4⟩ := yrR_spec ht.1 99
  change yrF t ≤ 2000 + (99 : Nat) at k2
  change 2000 ≤ yrF t at k1
  change fst' (yrF t) ≤ t at k3
  have hy : y ≤ 2099 := by
    rcases Int.lt_or_le 2099 y with h | h
    · have := fst_mono (y := 2100) (z := y) (by decide) (by omega)
      rw [fst_2100] at this; omega
    · exact h
  rcases Int.lt_trichotomy y (yrF t) with h | h | h
  · have := fst_mono (y := y + 1) (z := yrF t) (by omega) (by omega)
    omega
  · exact h
  · have := k4 y h (by omega); omega
theorem mo_uniq {y r : Int} {k : Nat} (hr : 0 ≤ r) (hk : k ≤ 11) (h1 : cum y k ≤ r) (h2 : r < cum y (k + 1)) : k = moF y r := by
  obtain ⟨k2, k3, k4⟩ := moR_spec (y := y) hr 11
  change moF y r ≤ 11 at k2
  change cum y (moF y r) ≤ r at k3
  rcases Nat.lt_trichotomy k (moF y r) with h | h | h
  · have := cum_mono y (j := k + 1) (k := moF y r) (by omega) (by omega)
    omega
  · exact h
  · have := k4 k h hk; omega
/-- The date of a minute. -/
structure DateP (t y m d h i : Int) : Prop where
  vld : VldC y m d h i
  eq : mns y m d h i = t
def dtY (t : Int) : Int := yrF t
def dtR (t : Int) : Int := t - fst' (yrF t)
def dtM (t : Int) : Int := (moF (yrF t) (dtR t / 1440) : Nat) + 1
def dtD (t : Int) : Int := dtR t / 1440 - cum (yrF t) (moF (yrF t) (dtR t / 1440)) + 1
def dtH (t : Int) : Int := dtR t % 1440 / 60
def dtI (t : Int) : Int := dtR t % 60
theorem yrF_spec {t : Int} (ht : 0 ≤ t ∧ t ≤ 52595999) : 2000 ≤ yrF t ∧ yrF t ≤ 2099 ∧ fst' (yrF t) ≤ t ∧ t < fst' (yrF t + 1) := by
  obtain ⟨k1, k2, k3, k4⟩ := yrR_spec ht.1 99
  refine ⟨k1, by change yrF t ≤ 2000 + (99 : Nat) at k2; omega, k3, ?_⟩
  change yrF t ≤ 2000 + (99 : Nat) at k2
  rcases Int.lt_or_le (yrF t) 2099 with h | h
  · exact k4 _ (by change yrF t < yrF t + 1; omega) (by omega)
  · have : yrF t = 2099 := by omega
    rw [this]; show t < fst' 2100; rw [fst_2100]; omega
theorem dtR_bd {t : Int} (ht : 0 ≤ t ∧ t ≤ 52595999) : 0 ≤ dtR t ∧ dtR t / 1440 < 365 + lp (yrF t) := by
  obtain ⟨h1, h2, h3, h4⟩ := yrF_spec ht
  rw [fst_step h1] at h4
  unfold dtR
  omega
theorem moF_spec {t : Int} (ht : 0 ≤ t ∧ t ≤ 52595999) : moF (yrF t) (dtR t / 1440) ≤ 11 ∧ cum (yrF t) (moF (yrF t) (dtR t / 1440)) ≤ dtR t / 1440 ∧ dtR t / 1440 < cum (yrF t) (moF (yrF t) (dtR t / 1440) + 1) := by
  obtain ⟨h0, h1⟩ := dtR_bd ht
  obtain ⟨k2, k3, k4⟩ := moR_spec (y := yrF t) (r := dtR t / 1440) (by omega) 11
  refine ⟨k2, k3, ?_⟩
  change moF (yrF t) (dtR t / 1440) ≤ 11 at k2
  rcases Nat.lt_or_ge (moF (yrF t) (dtR t / 1440)) 11 with h | h
  · exact k4 _ (by change moF (yrF t) (dtR t / 1440) < _; omega) (by omega)
  · have : moF (yrF t) (dtR t / 1440) = 11 := by omega
    rw [this, cum12]; exact h1
theorem date_ok {t : Int} (ht : 0 ≤ t ∧ t ≤ 52595999) : DateP t (dtY t) (dtM t) (dtD t) (dtH t) (dtI t) := by
  obtain ⟨h1, h2, h3, h4⟩ := yrF_spec ht
  obtain ⟨r0, r1⟩ := dtR_bd ht
  obtain ⟨m1, m2, m3⟩ := moF_spec ht
  have hc : cum (yrF t) (moF (yrF t) (dtR t / 1440) + 1) = cum (yrF t) (moF (yrF t) (dtR t / 1440)) + (len12 (yrF t)).getD (moF (yrF t) (dtR t / 1440)) 0 := rfl
  have hm : (dtM t - 1).toNat = moF (yrF t) (dtR t / 1440) := by unfold dtM; omega
  refine ⟨⟨⟨h1, h2⟩, by unfold dtM; omega, ?_, by unfold dtH; omega, by unfold dtI; omega⟩, ?_⟩
  · show 1 ≤ dtD t ∧ dtD t ≤ (len12 (yrF t)).getD (dtM t - 1).toNat 0
    rw [hm]; unfold dtD; omega
  · unfold mns
    rw [hm]
    show fst' (yrF t) + 1440 * (dtD t - 1 + cum (yrF t) (moF (yrF t) (dtR t / 1440))) + 60 * dtH t + dtI t = t
    unfold dtD dtH dtI
    have : t = fst' (yrF t) + dtR t := by unfold dtR; omega
    omega
theorem date_uniq {t y m d h i : Int} (hd : DateP t y m d h i) : (0 ≤ t ∧ t ≤ 52595999) ∧ y = dtY t ∧ m = dtM t ∧ d = dtD t ∧ h = dtH t ∧ i = dtI t := by
  obtain ⟨v, e⟩ := hd
  have ht : 0 ≤ t ∧ t ≤ 52595999 := by rw [← e]; exact mns_in v
  have hb := mns_bd v
  rw [e] at hb
  have hy := yr_uniq ht v.yr.1 hb.1 hb.2
  obtain ⟨⟨y1, y2⟩, ⟨m1, m2⟩, ⟨d1, d2⟩, ⟨h1, h2⟩, ⟨i1, i2⟩⟩ := v
  have hr : dtR t = 1440 * (d - 1 + cum y (m - 1).toNat) + 60 * h + i := by unfold dtR; rw [← hy]; unfold mns at e; omega
  have hq : dtR t / 1440 = d - 1 + cum y (m - 1).toNat := by omega
  have c0 := cum_bd y (k := (m - 1).toNat) (by omega)
  have hm : (m - 1).toNat = moF y (dtR t / 1440) := mo_uniq (by omega) (by omega) (by omega) (by
    have : cum y ((m - 1).toNat + 1) = cum y (m - 1).toNat + (len12 y).getD (m - 1).toNat 0 := rfl
    omega)
  refine ⟨ht, hy, ?_, ?_, ?_, ?_⟩
  · unfold dtM; rw [← hy, ← hm]; omega
  · unfold dtD; rw [← hy, ← hm, hq]; omega
  · unfold dtH; rw [hr]; omega
  · unfold dtI; rw [hr]; omega
end Go.Proofs.YtceknalhogbbnaaDoor
