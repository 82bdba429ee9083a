/- Walks: synopticfield.Mod; the check of a list of pairs. -/
import Derived.Test.YtjllgdpnbllnjaaScG
namespace Go.Proofs.Ytjllgdpnbllnjaa
open Go.RowKit

def kmod (x n : Int) : Int := if n < 1 then 0 else if x.tmod n < 0 then x.tmod n + n else x.tmod n
theorem kmod_range (x n : Int) (h : 1 ≤ n) : 0 ≤ kmod x n ∧ kmod x n < n := by
  unfold kmod
  rw [if_neg (by omega)]
  have h1 := Int.tmod_lt_of_pos x (show 0 < n by omega)
  have h2 := Int.lt_tmod_of_pos x (show 0 < n by omega)
  split <;> omega

set_option maxHeartbeats 400000 in
theorem mod_any (x n : Int) (w : World) (hx : -9223372036854775808 ≤ x ∧ x ≤ 9223372036854775807) (hn : -9223372036854775808 ≤ n ∧ n ≤ 9223372036854775807) :
    Calls Try.prog 10 #[.int .i64 x, .int .i64 n] w fun e w' => e = .returned (.int .i64 (kmod x n)) ∧ w = w' := by
  obtain ⟨hx1, hx2⟩ := hx
  obtain ⟨hn1, hn2⟩ := hn
  by_cases h1 : n < 1
  · go_enter Try.func10, Try.ntmps10
    go_wp2
    go_ret
    exact ⟨ret_int (by simp [kmod, h1]), rfl⟩
  · have h1' : 1 ≤ n := by omega
    have hb1 := Int.tmod_lt_of_pos x (show 0 < n by omega)
    have hb2 := Int.lt_tmod_of_pos x (show 0 < n by omega)
    by_cases h2 : x.tmod n < 0
    · go_enter Try.func10, Try.ntmps10
      go_wp2
      go_ret
      exact ⟨ret_int (by simp [kmod, h2]; omega), rfl⟩
    · have h2' : 0 ≤ x.tmod n := by omega
      go_enter Try.func10, Try.ntmps10
      go_wp2
      go_ret
      exact ⟨ret_int (by unfold kmod; rw [if_neg (by omega), if_neg (by omega)]), rfl⟩


/-- The cells of a list of pairs. -/
def pcells (l : List (Int × Int)) : List Value := l.flatMap fun p => [.int .i64 p.1, .int .i64 p.2]
/-- A pair is within the limits. -/
def pOk (p : Int × Int) : Bool := inB p.1 (-1000000) 1000000 && inB p.2 (-1000000) 1000000

theorem getD_get {α : Type} (l : List α) (d : α) {j : Nat} (h : j < l.length) : l.getD j d = l[j] := by
  simp [List.getD, h]
theorem pcells_get (l : List (Int × Int)) (k : Nat) (hk : k < l.length) : (pcells l)[2 * k]? = some (.int .i64 (l.getD k (0, 0)).1) ∧ (pcells l)[2 * k + 1]? = some (.int .i64 (l.getD k (0, 0)).2) := by
  induction l generalizing k with
  | nil => simp at hk
  | cons p l ih =>
    have hc : pcells (p :: l) = .int .i64 p.1 :: .int .i64 p.2 :: pcells l := rfl
    cases k with
    | zero => rw [hc]; exact ⟨rfl, rfl⟩
    | succ k =>
      have hk' : k < l.length := by simp at hk; omega
      have h := ih k hk'
      rw [hc, show 2 * (k + 1) = 2 * k + 1 + 1 by omega]
      simpa using h
theorem pcells_len (l : List (Int × Int)) : (pcells l).length = 2 * l.length := by
  induction l with
  | nil => rfl
  | cons p l ih =>
    have hc : pcells (p :: l) = .int .i64 p.1 :: .int .i64 p.2 :: pcells l := rfl
    rw [hc]; simp [ih]; omega

def checkS (l : List (Int × Int)) : Int := if 10000 < l.length then 2 else if l.all pOk then 0 else 1

set_option maxHeartbeats 1000000 in
theorem check_any (A : Option Addr) (l : List (Int × Int)) (c : Nat) (w : World) (hR : Rd w w.heap.size A (pcells l)) (hlen : l.length ≤ 4611686018427387904) :
    Calls Try.prog 44 #[.slice A l.length c] w fun e w' => e = .returned (.int .i64 (checkS l)) ∧ Below w.heap.size w w' := by
  go_enter Try.func44, Try.ntmps44
  by_cases h1 : (10000 : Int) < l.length
  · go_wp2
    go_ret
    exact ⟨ret_int (by unfold checkS; rw [if_pos (by omega)]), Below.refl _ _⟩
  replace hR := Lib.hid hR
  go_wp2
  go_loopw [10] (fun i W => ∃ k : Nat, k ≤ l.length ∧ i = .int .i64 k ∧ Hid (Below w.heap.size w W) ∧ Hid (∀ j, j < k → pOk (l.getD j (0, 0)) = true)) (fun i _ => l.length - (intOf i).toNat)
  case atStart => exact ⟨0, by omega, rfl, hidI (Below.refl _ _), hidI (fun j hj => absurd hj (by omega))⟩
  case round =>
    obtain ⟨k, hk, rfl, HB, HK⟩ := hrel
    by_cases hk1 : k < l.length
    · have q := rd_ext hR.out HB.out
      obtain ⟨b, o, rfl, hbl, hq⟩ := q.at_ (k := 2 * k) (by rw [pcells_len]; omega)
      have x0 := hq _ _ (pcells_get l k hk1).1
      have x1 := hq _ _ (pcells_get l k hk1).2
      rw [show o + (2 * k + 1) = o + k * 2 + 1 by omega] at x1
      rw [show o + 2 * k = o + k * 2 by omega] at x0
      have HN : Hid (pOk (l.getD k (0, 0)) = false → checkS l = 1) := hidI (fun hh => by
        unfold checkS
        rw [if_neg (by omega), if_neg]
        intro h
        rw [List.all_eq_true] at h
        have := h (l.getD k (0, 0)) (by rw [getD_get _ _ hk1]; exact List.getElem_mem hk1)
        rw [this] at hh
        exact absurd hh (by simp))
      have HY : Hid (pOk (l.getD k (0, 0)) = true → ∀ j, j < k + 1 → pOk (l.getD j (0, 0)) = true) := hidI (fun hh j hj => by
        rcases Nat.lt_or_ge j k with h1 | h1
        · exact HK.out j h1
        · have : j = k := by omega
          subst this; exact hh)
      clear q hq
      generalize l.getD k (0, 0) = p at x0 x1 HN HY
      obtain ⟨p1, p2⟩ := p
      cases hb1 : inB p1 (-1000000) 1000000 with
      | false =>
        have HN' := Lib.hid (HN.out (by simp [pOk, hb1]))
        clear HN HY
        go_wp2_with (go_at_call 46; refine (within_any _ _ _ _).mono ?_; rintro e w' ⟨rfl, rfl⟩)
        go_ret
        exact ⟨ret_int (HN'.out.symm), ext_alloc HB.out _⟩
      | true =>
        cases hb2 : inB p2 (-1000000) 1000000 with
        | false =>
          have HN' := Lib.hid (HN.out (by simp [pOk, hb1, hb2]))
          clear HN HY
          go_wp2_with (go_at_call 46; refine (within_any _ _ _ _).mono ?_; rintro e w' ⟨rfl, rfl⟩)
          go_ret
          exact ⟨ret_int (HN'.out.symm), ext_alloc HB.out _⟩
        | true =>
          have HY' := Lib.hid (HY.out (by simp [pOk, hb1, hb2]))
          clear HN HY
          have HB' := Lib.hid (ext_alloc HB.out (.cells #[.int .i64 p1, .int .i64 p2] 40))
          go_wp2_with (go_at_call 46; refine (within_any _ _ _ _).mono ?_; rintro e w' ⟨rfl, rfl⟩)
          go_round
          case rel => exact ⟨k + 1, by omega, by go_num, HB', HY'⟩
          case measure => simp [intOf]; omega
    · have hk' : k = l.length := by omega
      subst hk'
      have HD : Hid (checkS l = 0) := hidI (by
        unfold checkS
        rw [if_neg (by omega), if_pos]
        rw [List.all_eq_true]
        intro x hx
        obtain ⟨j, hj, rfl⟩ := List.getElem_of_mem hx
        have := HK.out j hj
        rw [getD_get _ _ hj] at this
        exact this)
      go_wp2
      go_ret
      exact ⟨ret_int HD.out.symm, HB.out⟩
end Go.Proofs.Ytjllgdpnbllnjaa
