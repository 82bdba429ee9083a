/- Walks of score.within, Reduce and of the reference's Reduce. -/
import Derived.Test.YtjllgdpnbllnjaaRows
import Derived.Test.YtjllgdpnbllnjaaMem
import Derived.Outline
import Derived.BigRegion
namespace Go.Proofs.Ytjllgdpnbllnjaa
open Go.RowKit

def I64 (v : Int) : Prop := -9223372036854775808 ≤ v ∧ v ≤ 9223372036854775807
theorem below_box (w : World) (o : Obj) : Below w.heap.size w (w.alloc o) := (Below.refl _ _).alloc (Nat.le_refl _) _
def inB (n lo hi : Int) : Bool := decide (lo ≤ n) && decide (n ≤ hi)
theorem inB_iff {n lo hi : Int} : inB n lo hi = true ↔ lo ≤ n ∧ n ≤ hi := by unfold inB; simp
set_option maxHeartbeats 400000 in
theorem within_any (n lo hi : Int) (w : World) :
    Calls Try.prog 46 #[.int .i64 n, .int .i64 lo, .int .i64 hi] w fun e w' => e = .returned (.bool (inB n lo hi)) ∧ w = w' := by
  by_cases h1 : lo ≤ n
  · by_cases h2 : n ≤ hi
    · go_enter Try.func46, Try.ntmps46
      go_wp2
      go_ret
      exact ⟨ret_bool (by simp [inB, h1, h2]), rfl⟩
    · go_enter Try.func46, Try.ntmps46
      go_wp2
      go_ret
      exact ⟨ret_bool (by simp [inB]; omega), rfl⟩
  · go_enter Try.func46, Try.ntmps46
    go_wp2
    go_ret
    exact ⟨ret_bool (by simp [inB]; omega), rfl⟩

def bigL : Int := 1152921504606846976
/-- What Reduce gives: the error code, the numerator, the denominator. -/
def redS (num den : Int) : Int × Int × Int :=
  if den = 0 ∨ inB num (-bigL) bigL = false ∨ inB den (-bigL) bigL = false then (1, 0, 0)
  else if den < 0 then (0, (-num).tdiv (Nat.gcd num.natAbs den.natAbs : Nat), (-den) / (Nat.gcd num.natAbs den.natAbs : Nat))
  else (0, num.tdiv (Nat.gcd num.natAbs den.natAbs : Nat), den / (Nat.gcd num.natAbs den.natAbs : Nat))
def FRes (w w' : World) (e : Ending) (r : Int × Int × Int) : Prop := e = .returned (.tuple #[.agg #[.int .i64 r.2.1, .int .i64 r.2.2], .int .i64 r.1]) ∧ Below w.heap.size w w'

theorem quo_pos (N a : Nat) (hN : N ≤ 1152921504606846976) (_ : 0 < a) : wrap64 ((N : Int) / (a : Nat)) = ((N : Nat) : Int).tdiv (a : Nat) := by
  rw [Int.tdiv_eq_ediv_of_nonneg (by omega)]
  have h1 : N / a ≤ N := Nat.div_le_self _ _
  have h2 : ((N : Int) / (a : Nat)) = ((N / a : Nat) : Int) := by push_cast; rfl
  rw [h2]
  generalize N / a = q at h1 ⊢
  exact IntWalk.wrap64_in _ ⟨by omega, by omega⟩
theorem quo_neg (N a : Nat) (hN : N ≤ 1152921504606846976) (_ : 0 < a) : wrap64 (-((N : Int) / (a : Nat))) = (-((N : Nat) : Int)).tdiv (a : Nat) := by
  have h1 : N / a ≤ N := Nat.div_le_self _ _
  have h2 : ((N : Nat) : Int).tdiv (a : Nat) = ((N / a : Nat) : Int) := by rw [Int.tdiv_eq_ediv_of_nonneg (by omega)]; push_cast; rfl
  have h3 : ((N : Nat) : Int) / (a : Nat) = ((N / a : Nat) : Int) := by push_cast; rfl
  rw [Int.neg_tdiv, h2, h3]
  clear h2 h3
  generalize N / a = q at h1 ⊢
  exact IntWalk.wrap64_in _ ⟨by omega, by omega⟩
set_option maxHeartbeats 1000000 in
theorem red_pp (N D : Nat) (w : World) (hN1 : 1 ≤ N) (hN : N ≤ 1152921504606846976) (hD : 1 ≤ D) (hD2 : D ≤ 1152921504606846976) :
    Calls Try.prog 36 #[.int .i64 ((N : Int)), .int .i64 ((D : Int))] w fun e w' => FRes w w' e (0, ((N : Int)).tdiv (Nat.gcd N D : Nat), (D : Int) / (Nat.gcd N D : Nat)) := by
  have b1 : (((D : Int) : Int) == 0) = false := by simp; omega
  have c2 : inB ((N : Int)) (-1152921504606846976) 1152921504606846976 = true := inB_iff.2 ⟨by omega, by omega⟩
  have c3 : inB ((D : Int)) (-1152921504606846976) 1152921504606846976 = true := inB_iff.2 ⟨by omega, by omega⟩
  have hG : 0 < Nat.gcd N D := Nat.gcd_pos_of_pos_right _ (by omega)
  obtain ⟨G, hGe⟩ : ∃ G, G = Nat.gcd N D := ⟨_, rfl⟩
  rw [← hGe] at hG ⊢
  have HG := Lib.hid hGe
  clear hGe
  go_enter Try.func36, Try.ntmps36
  go_wp2_with (go_at_call 46; refine (within_any _ _ _ _).mono ?_; rintro e w' ⟨rfl, rfl⟩)
  go_loopw [6, 7] (fun x y wr => ∃ a b : Nat, x = .int .i64 a ∧ y = .int .i64 b ∧ Hid (Nat.gcd a b = G) ∧ a ≤ 1152921504606846976 ∧ b ≤ 1152921504606846976 ∧ ∃ d, wr = (w.alloc (.cells #[.int .i64 0, .int .i64 0] 28)).drewN d) (fun _ y _ => (intOf y).toNat)
  case atStart => exact ⟨N, D, by simp, by simp, hidI HG.out.symm, hN, hD2, 0, rfl⟩
  case round =>
    obtain ⟨a, b, rfl, rfl, HGG, ha, hb, d, rfl⟩ := hrel
    by_cases hb0 : b = 0
    · subst hb0
      have hag : a = G := by have := HGG.out; rwa [Nat.gcd_zero_right] at this
      subst hag
      have ha0 : (0 : Int) < a := by omega
      have Q1 := Lib.hid (quo_pos N a hN hG)
      have Q2 := Lib.hid (quo_pos D a hD2 hG)
      have Q3 : Hid (((D : Nat) : Int).tdiv (a : Nat) = (D : Int) / (a : Nat)) := hidI (Int.tdiv_eq_ediv_of_nonneg (by omega))
      go_wp2
      go_region
      all_goals
        rw [Q1.out, Q2.out, Q3.out]
        go_wp2
        refine bodyPost_ret (v := .tuple #[.agg #[.int .i64 (((N : Int)).tdiv (a : Nat)), .int .i64 ((D : Int) / (a : Nat))], .int .i64 0]) (by simp [results, Try.results36, go_sem]) rfl ?_
        exact ⟨rfl, ((ext_drewN (below_box w _) _).setCell (by simp) _).setCell (by simp) _⟩
    · have hb1 : 1 ≤ b := by omega
      have hbb : (((b : Nat) : Int) != 0) = true := by simp; omega
      have hm : ((a : Int) % (b : Int)) = ((a % b : Nat) : Int) := by omega
      have HM := Lib.hid hm
      have hlt := Nat.mod_lt a (show 0 < b by omega)
      have h0a : (0 : Int) ≤ a := by omega
      have h0b : (1 : Int) ≤ b := by omega
      clear hm
      go_wp2
      go_quiet (fail)
      go_wp2
      go_roundw
      case rel => exact ⟨b, a % b, rfl, by rw [HM.out], hidI (by rw [← HGG.out, Nat.gcd_comm a b, Nat.gcd_rec b a, Nat.gcd_comm]), hb, by omega, _, World.drewN_drewN _ _ _⟩
      case measure => simp [intOf]; omega

set_option maxHeartbeats 1000000 in
theorem red_np (N D : Nat) (w : World) (hN1 : 1 ≤ N) (hN : N ≤ 1152921504606846976) (hD : 1 ≤ D) (hD2 : D ≤ 1152921504606846976) :
    Calls Try.prog 36 #[.int .i64 (-(N : Int)), .int .i64 ((D : Int))] w fun e w' => FRes w w' e (0, (-(N : Int)).tdiv (Nat.gcd N D : Nat), (D : Int) / (Nat.gcd N D : Nat)) := by
  have b1 : (((D : Int) : Int) == 0) = false := by simp; omega
  have c2 : inB (-(N : Int)) (-1152921504606846976) 1152921504606846976 = true := inB_iff.2 ⟨by omega, by omega⟩
  have c3 : inB ((D : Int)) (-1152921504606846976) 1152921504606846976 = true := inB_iff.2 ⟨by omega, by omega⟩
  have hG : 0 < Nat.gcd N D := Nat.gcd_pos_of_pos_right _ (by omega)
  obtain ⟨G, hGe⟩ : ∃ G, G = Nat.gcd N D := ⟨_, rfl⟩
  rw [← hGe] at hG ⊢
  have HG := Lib.hid hGe
  clear hGe
  go_enter Try.func36, Try.ntmps36
  go_wp2_with (go_at_call 46; refine (within_any _ _ _ _).mono ?_; rintro e w' ⟨rfl, rfl⟩)
  go_loopw [6, 7] (fun x y wr => ∃ a b : Nat, x = .int .i64 a ∧ y = .int .i64 b ∧ Hid (Nat.gcd a b = G) ∧ a ≤ 1152921504606846976 ∧ b ≤ 1152921504606846976 ∧ ∃ d, wr = (w.alloc (.cells #[.int .i64 0, .int .i64 0] 28)).drewN d) (fun _ y _ => (intOf y).toNat)
  case atStart => exact ⟨N, D, by simp, by simp, hidI HG.out.symm, hN, hD2, 0, rfl⟩
  case round =>
    obtain ⟨a, b, rfl, rfl, HGG, ha, hb, d, rfl⟩ := hrel
    by_cases hb0 : b = 0
    · subst hb0
      have hag : a = G := by have := HGG.out; rwa [Nat.gcd_zero_right] at this
      subst hag
      have ha0 : (0 : Int) < a := by omega
      have Q1 := Lib.hid (quo_neg N a hN hG)
      have Q2 := Lib.hid (quo_pos D a hD2 hG)
      have Q3 : Hid (((D : Nat) : Int).tdiv (a : Nat) = (D : Int) / (a : Nat)) := hidI (Int.tdiv_eq_ediv_of_nonneg (by omega))
      go_wp2
      go_region
      all_goals
        rw [Q1.out, Q2.out, Q3.out]
        go_wp2
        refine bodyPost_ret (v := .tuple #[.agg #[.int .i64 ((-(N : Int)).tdiv (a : Nat)), .int .i64 ((D : Int) / (a : Nat))], .int .i64 0]) (by simp [results, Try.results36, go_sem]) rfl ?_
        exact ⟨rfl, ((ext_drewN (below_box w _) _).setCell (by simp) _).setCell (by simp) _⟩
    · have hb1 : 1 ≤ b := by omega
      have hbb : (((b : Nat) : Int) != 0) = true := by simp; omega
      have hm : ((a : Int) % (b : Int)) = ((a % b : Nat) : Int) := by omega
      have HM := Lib.hid hm
      have hlt := Nat.mod_lt a (show 0 < b by omega)
      have h0a : (0 : Int) ≤ a := by omega
      have h0b : (1 : Int) ≤ b := by omega
      clear hm
      go_wp2
      go_quiet (fail)
      go_wp2
      go_roundw
      case rel => exact ⟨b, a % b, rfl, by rw [HM.out], hidI (by rw [← HGG.out, Nat.gcd_comm a b, Nat.gcd_rec b a, Nat.gcd_comm]), hb, by omega, _, World.drewN_drewN _ _ _⟩
      case measure => simp [intOf]; omega

set_option maxHeartbeats 1000000 in
theorem red_pn (N D : Nat) (w : World) (hN1 : 1 ≤ N) (hN : N ≤ 1152921504606846976) (hD : 1 ≤ D) (hD2 : D ≤ 1152921504606846976) :
    Calls Try.prog 36 #[.int .i64 ((N : Int)), .int .i64 (-(D : Int))] w fun e w' => FRes w w' e (0, (-(N : Int)).tdiv (Nat.gcd N D : Nat), (D : Int) / (Nat.gcd N D : Nat)) := by
  have b1 : ((-(D : Int) : Int) == 0) = false := by simp; omega
  have c2 : inB ((N : Int)) (-1152921504606846976) 1152921504606846976 = true := inB_iff.2 ⟨by omega, by omega⟩
  have c3 : inB (-(D : Int)) (-1152921504606846976) 1152921504606846976 = true := inB_iff.2 ⟨by omega, by omega⟩
  have hG : 0 < Nat.gcd N D := Nat.gcd_pos_of_pos_right _ (by omega)
  obtain ⟨G, hGe⟩ : ∃ G, G = Nat.gcd N D := ⟨_, rfl⟩
  rw [← hGe] at hG ⊢
  have HG := Lib.hid hGe
  clear hGe
  go_enter Try.func36, Try.ntmps36
  go_wp2_with (go_at_call 46; refine (within_any _ _ _ _).mono ?_; rintro e w' ⟨rfl, rfl⟩)
  go_loopw [6, 7] (fun x y wr => ∃ a b : Nat, x = .int .i64 a ∧ y = .int .i64 b ∧ Hid (Nat.gcd a b = G) ∧ a ≤ 1152921504606846976 ∧ b ≤ 1152921504606846976 ∧ ∃ d, wr = (w.alloc (.cells #[.int .i64 0, .int .i64 0] 28)).drewN d) (fun _ y _ => (intOf y).toNat)
  case atStart => exact ⟨N, D, by simp, by simp, hidI HG.out.symm, hN, hD2, 0, rfl⟩
  case round =>
    obtain ⟨a, b, rfl, rfl, HGG, ha, hb, d, rfl⟩ := hrel
    by_cases hb0 : b = 0
    · subst hb0
      have hag : a = G := by have := HGG.out; rwa [Nat.gcd_zero_right] at this
      subst hag
      have ha0 : (0 : Int) < a := by omega
      have Q1 := Lib.hid (quo_neg N a hN hG)
      have Q2 := Lib.hid (quo_pos D a hD2 hG)
      have Q3 : Hid (((D : Nat) : Int).tdiv (a : Nat) = (D : Int) / (a : Nat)) := hidI (Int.tdiv_eq_ediv_of_nonneg (by omega))
      go_wp2
      go_region
      all_goals
        rw [Q1.out, Q2.out, Q3.out]
        go_wp2
        refine bodyPost_ret (v := .tuple #[.agg #[.int .i64 ((-(N : Int)).tdiv (a : Nat)), .int .i64 ((D : Int) / (a : Nat))], .int .i64 0]) (by simp [results, Try.results36, go_sem]) rfl ?_
        exact ⟨rfl, ((ext_drewN (below_box w _) _).setCell (by simp) _).setCell (by simp) _⟩
    · have hb1 : 1 ≤ b := by omega
      have hbb : (((b : Nat) : Int) != 0) = true := by simp; omega
      have hm : ((a : Int) % (b : Int)) = ((a % b : Nat) : Int) := by omega
      have HM := Lib.hid hm
      have hlt := Nat.mod_lt a (show 0 < b by omega)
      have h0a : (0 : Int) ≤ a := by omega
      have h0b : (1 : Int) ≤ b := by omega
      clear hm
      go_wp2
      go_quiet (fail)
      go_wp2
      go_roundw
      case rel => exact ⟨b, a % b, rfl, by rw [HM.out], hidI (by rw [← HGG.out, Nat.gcd_comm a b, Nat.gcd_rec b a, Nat.gcd_comm]), hb, by omega, _, World.drewN_drewN _ _ _⟩
      case measure => simp [intOf]; omega

set_option maxHeartbeats 1000000 in
theorem red_nn (N D : Nat) (w : World) (hN1 : 1 ≤ N) (hN : N ≤ 1152921504606846976) (hD : 1 ≤ D) (hD2 : D ≤ 1152921504606846976) :
    Calls Try.prog 36 #[.int .i64 (-(N : Int)), .int .i64 (-(D : Int))] w fun e w' => FRes w w' e (0, ((N : Int)).tdiv (Nat.gcd N D : Nat), (D : Int) / (Nat.gcd N D : Nat)) := by
  have b1 : ((-(D : Int) : Int) == 0) = false := by simp; omega
  have c2 : inB (-(N : Int)) (-1152921504606846976) 1152921504606846976 = true := inB_iff.2 ⟨by omega, by omega⟩
  have c3 : inB (-(D : Int)) (-1152921504606846976) 1152921504606846976 = true := inB_iff.2 ⟨by omega, by omega⟩
  have hG : 0 < Nat.gcd N D := Nat.gcd_pos_of_pos_right _ (by omega)
  obtain ⟨G, hGe⟩ : ∃ G, G = Nat.gcd N D := ⟨_, rfl⟩
  rw [← hGe] at hG ⊢
  have HG := Lib.hid hGe
  clear hGe
  go_enter Try.func36, Try.ntmps36
  go_wp2_with (go_at_call 46; refine (within_any _ _ _ _).mono ?_; rintro e w' ⟨rfl, rfl⟩)
  go_loopw [6, 7] (fun x y wr => ∃ a b : Nat, x = .int .i64 a ∧ y = .int .i64 b ∧ Hid (Nat.gcd a b = G) ∧ a ≤ 1152921504606846976 ∧ b ≤ 1152921504606846976 ∧ ∃ d, wr = (w.alloc (.cells #[.int .i64 0, .int .i64 0] 28)).drewN d) (fun _ y _ => (intOf y).toNat)
  case atStart => exact ⟨N, D, by simp, by simp, hidI HG.out.symm, hN, hD2, 0, rfl⟩
  case round =>
    obtain ⟨a, b, rfl, rfl, HGG, ha, hb, d, rfl⟩ := hrel
    by_cases hb0 : b = 0
    · subst hb0
      have hag : a = G := by have := HGG.out; rwa [Nat.gcd_zero_right] at this
      subst hag
      have ha0 : (0 : Int) < a := by omega
      have Q1 := Lib.hid (quo_pos N a hN hG)
      have Q2 := Lib.hid (quo_pos D a hD2 hG)
      have Q3 : Hid (((D : Nat) : Int).tdiv (a : Nat) = (D : Int) / (a : Nat)) := hidI (Int.tdiv_eq_ediv_of_nonneg (by omega))
      go_wp2
      go_region
      all_goals
        rw [Q1.out, Q2.out, Q3.out]
        go_wp2
        refine bodyPost_ret (v := .tuple #[.agg #[.int .i64 (((N : Int)).tdiv (a : Nat)), .int .i64 ((D : Int) / (a : Nat))], .int .i64 0]) (by simp [results, Try.results36, go_sem]) rfl ?_
        exact ⟨rfl, ((ext_drewN (below_box w _) _).setCell (by simp) _).setCell (by simp) _⟩
    · have hb1 : 1 ≤ b := by omega
      have hbb : (((b : Nat) : Int) != 0) = true := by simp; omega
      have hm : ((a : Int) % (b : Int)) = ((a % b : Nat) : Int) := by omega
      have HM := Lib.hid hm
      have hlt := Nat.mod_lt a (show 0 < b by omega)
      have h0a : (0 : Int) ≤ a := by omega
      have h0b : (1 : Int) ≤ b := by omega
      clear hm
      go_wp2
      go_quiet (fail)
      go_wp2
      go_roundw
      case rel => exact ⟨b, a % b, rfl, by rw [HM.out], hidI (by rw [← HGG.out, Nat.gcd_comm a b, Nat.gcd_rec b a, Nat.gcd_comm]), hb, by omega, _, World.drewN_drewN _ _ _⟩
      case measure => simp [intOf]; omega

set_option maxHeartbeats 1000000 in
theorem rred_pp (N D : Nat) (w : World) (hN1 : 1 ≤ N) (hN : N ≤ 1152921504606846976) (hD : 1 ≤ D) (hD2 : D ≤ 1152921504606846976) :
    Calls Try.prog 37 #[.int .i64 ((N : Int)), .int .i64 ((D : Int))] w fun e w' => FRes w w' e (0, ((N : Int)).tdiv (Nat.gcd N D : Nat), (D : Int) / (Nat.gcd N D : Nat)) := by
  have b1 : (((D : Int) : Int) == 0) = false := by simp; omega
  have c2 : inB ((N : Int)) (-1152921504606846976) 1152921504606846976 = true := inB_iff.2 ⟨by omega, by omega⟩
  have c3 : inB ((D : Int)) (-1152921504606846976) 1152921504606846976 = true := inB_iff.2 ⟨by omega, by omega⟩
  have hG : 0 < Nat.gcd N D := Nat.gcd_pos_of_pos_right _ (by omega)
  obtain ⟨G, hGe⟩ : ∃ G, G = Nat.gcd N D := ⟨_, rfl⟩
  rw [← hGe] at hG ⊢
  have HG := Lib.hid hGe
  clear hGe
  go_enter Try.func37, Try.ntmps37
  go_wp2
  go_loopw [6, 7] (fun x y wr => ∃ a b : Nat, x = .int .i64 a ∧ y = .int .i64 b ∧ Hid (Nat.gcd a b = G) ∧ a ≤ 1152921504606846976 ∧ b ≤ 1152921504606846976 ∧ ∃ d, wr = (w.alloc (.cells #[.int .i64 0, .int .i64 0] 28)).drewN d) (fun _ y _ => (intOf y).toNat)
  case atStart => exact ⟨N, D, by simp, by simp, hidI HG.out.symm, hN, hD2, 0, rfl⟩
  case round =>
    obtain ⟨a, b, rfl, rfl, HGG, ha, hb, d, rfl⟩ := hrel
    by_cases hb0 : b = 0
    · subst hb0
      have hag : a = G := by have := HGG.out; rwa [Nat.gcd_zero_right] at this
      subst hag
      have ha0 : (0 : Int) < a := by omega
      have Q1 := Lib.hid (quo_pos N a hN hG)
      have Q2 := Lib.hid (quo_pos D a hD2 hG)
      have Q3 : Hid (((D : Nat) : Int).tdiv (a : Nat) = (D : Int) / (a : Nat)) := hidI (Int.tdiv_eq_ediv_of_nonneg (by omega))
      go_wp2
      go_region
      all_goals
        rw [Q1.out, Q2.out, Q3.out]
        go_wp2
        refine bodyPost_ret (v := .tuple #[.agg #[.int .i64 (((N : Int)).tdiv (a : Nat)), .int .i64 ((D : Int) / (a : Nat))], .int .i64 0]) (by simp [results, Try.results37, go_sem]) rfl ?_
        exact ⟨rfl, ((ext_drewN (below_box w _) _).setCell (by simp) _).setCell (by simp) _⟩
    · have hb1 : 1 ≤ b := by omega
      have hbb : (((b : Nat) : Int) != 0) = true := by simp; omega
      have hm : ((a : Int) % (b : Int)) = ((a % b : Nat) : Int) := by omega
      have HM := Lib.hid hm
      have hlt := Nat.mod_lt a (show 0 < b by omega)
      have h0a : (0 : Int) ≤ a := by omega
      have h0b : (1 : Int) ≤ b := by omega
      clear hm
      go_wp2
      go_quiet (fail)
      go_wp2
      go_roundw
      case rel => exact ⟨b, a % b, rfl, by rw [HM.out], hidI (by rw [← HGG.out, Nat.gcd_comm a b, Nat.gcd_rec b a, Nat.gcd_comm]), hb, by omega, _, World.drewN_drewN _ _ _⟩
      case measure => simp [intOf]; omega

set_option maxHeartbeats 1000000 in
theorem rred_np (N D : Nat) (w : World) (hN1 : 1 ≤ N) (hN : N ≤ 1152921504606846976) (hD : 1 ≤ D) (hD2 : D ≤ 1152921504606846976) :
    Calls Try.prog 37 #[.int .i64 (-(N : Int)), .int .i64 ((D : Int))] w fun e w' => FRes w w' e (0, (-(N : Int)).tdiv (Nat.gcd N D : Nat), (D : Int) / (Nat.gcd N D : Nat)) := by
  have b1 : (((D : Int) : Int) == 0) = false := by simp; omega
  have c2 : inB (-(N : Int)) (-1152921504606846976) 1152921504606846976 = true := inB_iff.2 ⟨by omega, by omega⟩
  have c3 : inB ((D : Int)) (-1152921504606846976) 1152921504606846976 = true := inB_iff.2 ⟨by omega, by omega⟩
  have hG : 0 < Nat.gcd N D := Nat.gcd_pos_of_pos_right _ (by omega)
  obtain ⟨G, hGe⟩ : ∃ G, G = Nat.gcd N D := ⟨_, rfl⟩
  rw [← hGe] at hG ⊢
  have HG := Lib.hid hGe
  clear hGe
  go_enter Try.func37, Try.ntmps37
  go_wp2
  go_loopw [6, 7] (fun x y wr => ∃ a b : Nat, x = .int .i64 a ∧ y = .int .i64 b ∧ Hid (Nat.gcd a b = G) ∧ a ≤ 1152921504606846976 ∧ b ≤ 1152921504606846976 ∧ ∃ d, wr = (w.alloc (.cells #[.int .i64 0, .int .i64 0] 28)).drewN d) (fun _ y _ => (intOf y).toNat)
  case atStart => exact ⟨N, D, by simp, by simp, hidI HG.out.symm, hN, hD2, 0, rfl⟩
  case round =>
    obtain ⟨a, b, rfl, rfl, HGG, ha, hb, d, rfl⟩ := hrel
    by_cases hb0 : b = 0
    · subst hb0
      have hag : a = G := by have := HGG.out; rwa [Nat.gcd_zero_right] at this
      subst hag
      have ha0 : (0 : Int) < a := by omega
      have Q1 := Lib.hid (quo_neg N a hN hG)
      have Q2 := Lib.hid (quo_pos D a hD2 hG)
      have Q3 : Hid (((D : Nat) : Int).tdiv (a : Nat) = (D : Int) / (a : Nat)) := hidI (Int.tdiv_eq_ediv_of_nonneg (by omega))
      go_wp2
      go_region
      all_goals
        rw [Q1.out, Q2.out, Q3.out]
        go_wp2
        refine bodyPost_ret (v := .tuple #[.agg #[.int .i64 ((-(N : Int)).tdiv (a : Nat)), .int .i64 ((D : Int) / (a : Nat))], .int .i64 0]) (by simp [results, Try.results37, go_sem]) rfl ?_
        exact ⟨rfl, ((ext_drewN (below_box w _) _).setCell (by simp) _).setCell (by simp) _⟩
    · have hb1 : 1 ≤ b := by omega
      have hbb : (((b : Nat) : Int) != 0) = true := by simp; omega
      have hm : ((a : Int) % (b : Int)) = ((a % b : Nat) : Int) := by omega
      have HM := Lib.hid hm
      have hlt := Nat.mod_lt a (show 0 < b by omega)
      have h0a : (0 : Int) ≤ a := by omega
      have h0b : (1 : Int) ≤ b := by omega
      clear hm
      go_wp2
      go_quiet (fail)
      go_wp2
      go_roundw
      case rel => exact ⟨b, a % b, rfl, by rw [HM.out], hidI (by rw [← HGG.out, Nat.gcd_comm a b, Nat.gcd_rec b a, Nat.gcd_comm]), hb, by omega, _, World.drewN_drewN _ _ _⟩
      case measure => simp [intOf]; omega

set_option maxHeartbeats 1000000 in
theorem rred_pn (N D : Nat) (w : World) (hN1 : 1 ≤ N) (hN : N ≤ 1152921504606846976) (hD : 1 ≤ D) (hD2 : D ≤ 1152921504606846976) :
    Calls Try.prog 37 #[.int .i64 ((N : Int)), .int .i64 (-(D : Int))] w fun e w' => FRes w w' e (0, (-(N : Int)).tdiv (Nat.gcd N D : Nat), (D : Int) / (Nat.gcd N D : Nat)) := by
  have b1 : ((-(D : Int) : Int) == 0) = false := by simp; omega
  have c2 : inB ((N : Int)) (-1152921504606846976) 1152921504606846976 = true := inB_iff.2 ⟨by omega, by omega⟩
  have c3 : inB (-(D : Int)) (-1152921504606846976) 1152921504606846976 = true := inB_iff.2 ⟨by omega, by omega⟩
  have hG : 0 < Nat.gcd N D := Nat.gcd_pos_of_pos_right _ (by omega)
  obtain ⟨G, hGe⟩ : ∃ G, G = Nat.gcd N D := ⟨_, rfl⟩
  rw [← hGe] at hG ⊢
  have HG := Lib.hid hGe
  clear hGe
  go_enter Try.func37, Try.ntmps37
  go_wp2
  go_loopw [6, 7] (fun x y wr => ∃ a b : Nat, x = .int .i64 a ∧ y = .int .i64 b ∧ Hid (Nat.gcd a b = G) ∧ a ≤ 1152921504606846976 ∧ b ≤ 1152921504606846976 ∧ ∃ d, wr = (w.alloc (.cells #[.int .i64 0, .int .i64 0] 28)).drewN d) (fun _ y _ => (intOf y).toNat)
  case atStart => exact ⟨N, D, by simp, by simp, hidI HG.out.symm, hN, hD2, 0, rfl⟩
  case round =>
    obtain ⟨a, b, rfl, rfl, HGG, ha, hb, d, rfl⟩ := hrel
    by_cases hb0 : b = 0
    · subst hb0
      have hag : a = G := by have := HGG.out; rwa [Nat.gcd_zero_right] at this
      subst hag
      have ha0 : (0 : Int) < a := by omega
      have Q1 := Lib.hid (quo_neg N a hN hG)
      have Q2 := Lib.hid (quo_pos D a hD2 hG)
      have Q3 : Hid (((D : Nat) : Int).tdiv (a : Nat) = (D : Int) / (a : Nat)) := hidI (Int.tdiv_eq_ediv_of_nonneg (by omega))
      go_wp2
      go_region
      all_goals
        rw [Q1.out, Q2.out, Q3.out]
        go_wp2
        refine bodyPost_ret (v := .tuple #[.agg #[.int .i64 ((-(N : Int)).tdiv (a : Nat)), .int .i64 ((D : Int) / (a : Nat))], .int .i64 0]) (by simp [results, Try.results37, go_sem]) rfl ?_
        exact ⟨rfl, ((ext_drewN (below_box w _) _).setCell (by simp) _).setCell (by simp) _⟩
    · have hb1 : 1 ≤ b := by omega
      have hbb : (((b : Nat) : Int) != 0) = true := by simp; omega
      have hm : ((a : Int) % (b : Int)) = ((a % b : Nat) : Int) := by omega
      have HM := Lib.hid hm
      have hlt := Nat.mod_lt a (show 0 < b by omega)
      have h0a : (0 : Int) ≤ a := by omega
      have h0b : (1 : Int) ≤ b := by omega
      clear hm
      go_wp2
      go_quiet (fail)
      go_wp2
      go_roundw
      case rel => exact ⟨b, a % b, rfl, by rw [HM.out], hidI (by rw [← HGG.out, Nat.gcd_comm a b, Nat.gcd_rec b a, Nat.gcd_comm]), hb, by omega, _, World.drewN_drewN _ _ _⟩
      case measure => simp [intOf]; omega

set_option maxHeartbeats 1000000 in
theorem rred_nn (N D : Nat) (w : World) (hN1 : 1 ≤ N) (hN : N ≤ 1152921504606846976) (hD : 1 ≤ D) (hD2 : D ≤ 1152921504606846976) :
    Calls Try.prog 37 #[.int .i64 (-(N : Int)), .int .i64 (-(D : Int))] w fun e w' => FRes w w' e (0, ((N : Int)).tdiv (Nat.gcd N D : Nat), (D : Int) / (Nat.gcd N D : Nat)) := by
  have b1 : ((-(D : Int) : Int) == 0) = false := by simp; omega
  have c2 : inB (-(N : Int)) (-1152921504606846976) 1152921504606846976 = true := inB_iff.2 ⟨by omega, by omega⟩
  have c3 : inB (-(D : Int)) (-1152921504606846976) 1152921504606846976 = true := inB_iff.2 ⟨by omega, by omega⟩
  have hG : 0 < Nat.gcd N D := Nat.gcd_pos_of_pos_right _ (by omega)
  obtain ⟨G, hGe⟩ : ∃ G, G = Nat.gcd N D := ⟨_, rfl⟩
  rw [← hGe] at hG ⊢
  have HG := Lib.hid hGe
  clear hGe
  go_enter Try.func37, Try.ntmps37
  go_wp2
  go_loopw [6, 7] (fun x y wr => ∃ a b : Nat, x = .int .i64 a ∧ y = .int .i64 b ∧ Hid (Nat.gcd a b = G) ∧ a ≤ 1152921504606846976 ∧ b ≤ 1152921504606846976 ∧ ∃ d, wr = (w.alloc (.cells #[.int .i64 0, .int .i64 0] 28)).drewN d) (fun _ y _ => (intOf y).toNat)
  case atStart => exact ⟨N, D, by simp, by simp, hidI HG.out.symm, hN, hD2, 0, rfl⟩
  case round =>
    obtain ⟨a, b, rfl, rfl, HGG, ha, hb, d, rfl⟩ := hrel
    by_cases hb0 : b = 0
    · subst hb0
      have hag : a = G := by have := HGG.out; rwa [Nat.gcd_zero_right] at this
      subst hag
      have ha0 : (0 : Int) < a := by omega
      have Q1 := Lib.hid (quo_pos N a hN hG)
      have Q2 := Lib.hid (quo_pos D a hD2 hG)
      have Q3 : Hid (((D : Nat) : Int).tdiv (a : Nat) = (D : Int) / (a : Nat)) := hidI (Int.tdiv_eq_ediv_of_nonneg (by omega))
      go_wp2
      go_region
      all_goals
        rw [Q1.out, Q2.out, Q3.out]
        go_wp2
        refine bodyPost_ret (v := .tuple #[.agg #[.int .i64 (((N : Int)).tdiv (a : Nat)), .int .i64 ((D : Int) / (a : Nat))], .int .i64 0]) (by simp [results, Try.results37, go_sem]) rfl ?_
        exact ⟨rfl, ((ext_drewN (below_box w _) _).setCell (by simp) _).setCell (by simp) _⟩
    · have hb1 : 1 ≤ b := by omega
      have hbb : (((b : Nat) : Int) != 0) = true := by simp; omega
      have hm : ((a : Int) % (b : Int)) = ((a % b : Nat) : Int) := by omega
      have HM := Lib.hid hm
      have hlt := Nat.mod_lt a (show 0 < b by omega)
      have h0a : (0 : Int) ≤ a := by omega
      have h0b : (1 : Int) ≤ b := by omega
      clear hm
      go_wp2
      go_quiet (fail)
      go_wp2
      go_roundw
      case rel => exact ⟨b, a % b, rfl, by rw [HM.out], hidI (by rw [← HGG.out, Nat.gcd_comm a b, Nat.gcd_rec b a, Nat.gcd_comm]), hb, by omega, _, World.drewN_drewN _ _ _⟩
      case measure => simp [intOf]; omega

set_option maxHeartbeats 1000000 in
theorem red_zp (D : Nat) (w : World) (hD : 1 ≤ D) (hD2 : D ≤ 1152921504606846976) :
    Calls Try.prog 36 #[.int .i64 ((0 : Int)), .int .i64 ((D : Int))] w fun e w' => FRes w w' e (0, ((0 : Int)).tdiv (Nat.gcd 0 D : Nat), (D : Int) / (Nat.gcd 0 D : Nat)) := by
  have b1 : (((D : Int) : Int) == 0) = false := by simp; omega
  have c2 : inB ((0 : Int)) (-1152921504606846976) 1152921504606846976 = true := inB_iff.2 ⟨by omega, by omega⟩
  have c3 : inB ((D : Int)) (-1152921504606846976) 1152921504606846976 = true := inB_iff.2 ⟨by omega, by omega⟩
  have hG : 0 < Nat.gcd 0 D := Nat.gcd_pos_of_pos_right _ (by omega)
  obtain ⟨G, hGe⟩ : ∃ G, G = Nat.gcd 0 D := ⟨_, rfl⟩
  rw [← hGe] at hG ⊢
  have HG := Lib.hid hGe
  clear hGe
  go_enter Try.func36, Try.ntmps36
  go_wp2_with (go_at_call 46; refine (within_any _ _ _ _).mono ?_; rintro e w' ⟨rfl, rfl⟩)
  go_loopw [6, 7] (fun x y wr => ∃ a b : Nat, x = .int .i64 a ∧ y = .int .i64 b ∧ Hid (Nat.gcd a b = G) ∧ a ≤ 1152921504606846976 ∧ b ≤ 1152921504606846976 ∧ ∃ d, wr = (w.alloc (.cells #[.int .i64 0, .int .i64 0] 28)).drewN d) (fun _ y _ => (intOf y).toNat)
  case atStart => exact ⟨0, D, by simp, by simp, hidI HG.out.symm, by omega, hD2, 0, rfl⟩
  case round =>
    obtain ⟨a, b, rfl, rfl, HGG, ha, hb, d, rfl⟩ := hrel
    by_cases hb0 : b = 0
    · subst hb0
      have hag : a = G := by have := HGG.out; rwa [Nat.gcd_zero_right] at this
      subst hag
      have ha0 : (0 : Int) < a := by omega
      have Q2 := Lib.hid (quo_pos D a hD2 hG)
      have Q3 : Hid (((D : Nat) : Int).tdiv (a : Nat) = (D : Int) / (a : Nat)) := hidI (Int.tdiv_eq_ediv_of_nonneg (by omega))
      go_wp2
      go_region
      all_goals
        rw [Q2.out, Q3.out]
        go_wp2
        refine bodyPost_ret (v := .tuple #[.agg #[.int .i64 0, .int .i64 ((D : Int) / (a : Nat))], .int .i64 0]) (by simp [results, Try.results36, go_sem]) rfl ?_
        exact ⟨by simp, ((ext_drewN (below_box w _) _).setCell (by simp) _).setCell (by simp) _⟩
    · have hb1 : 1 ≤ b := by omega
      have hbb : (((b : Nat) : Int) != 0) = true := by simp; omega
      have hm : ((a : Int) % (b : Int)) = ((a % b : Nat) : Int) := by omega
      have HM := Lib.hid hm
      have hlt := Nat.mod_lt a (show 0 < b by omega)
      have h0a : (0 : Int) ≤ a := by omega
      have h0b : (1 : Int) ≤ b := by omega
      clear hm
      go_wp2
      go_quiet (fail)
      go_wp2
      go_roundw
      case rel => exact ⟨b, a % b, rfl, by rw [HM.out], hidI (by rw [← HGG.out, Nat.gcd_comm a b, Nat.gcd_rec b a, Nat.gcd_comm]), hb, by omega, _, World.drewN_drewN _ _ _⟩
      case measure => simp [intOf]; omega

set_option maxHeartbeats 1000000 in
theorem red_zn (D : Nat) (w : World) (hD : 1 ≤ D) (hD2 : D ≤ 1152921504606846976) :
    Calls Try.prog 36 #[.int .i64 ((0 : Int)), .int .i64 (-(D : Int))] w fun e w' => FRes w w' e (0, ((0 : Int)).tdiv (Nat.gcd 0 D : Nat), (D : Int) / (Nat.gcd 0 D : Nat)) := by
  have b1 : ((-(D : Int) : Int) == 0) = false := by simp; omega
  have c2 : inB ((0 : Int)) (-1152921504606846976) 1152921504606846976 = true := inB_iff.2 ⟨by omega, by omega⟩
  have c3 : inB (-(D : Int)) (-1152921504606846976) 1152921504606846976 = true := inB_iff.2 ⟨by omega, by omega⟩
  have hG : 0 < Nat.gcd 0 D := Nat.gcd_pos_of_pos_right _ (by omega)
  obtain ⟨G, hGe⟩ : ∃ G, G = Nat.gcd 0 D := ⟨_, rfl⟩
  rw [← hGe] at hG ⊢
  have HG := Lib.hid hGe
  clear hGe
  go_enter Try.func36, Try.ntmps36
  go_wp2_with (go_at_call 46; refine (within_any _ _ _ _).mono ?_; rintro e w' ⟨rfl, rfl⟩)
  go_loopw [6, 7] (fun x y wr => ∃ a b : Nat, x = .int .i64 a ∧ y = .int .i64 b ∧ Hid (Nat.gcd a b = G) ∧ a ≤ 1152921504606846976 ∧ b ≤ 1152921504606846976 ∧ ∃ d, wr = (w.alloc (.cells #[.int .i64 0, .int .i64 0] 28)).drewN d) (fun _ y _ => (intOf y).toNat)
  case atStart => exact ⟨0, D, by simp, by simp, hidI HG.out.symm, by omega, hD2, 0, rfl⟩
  case round =>
    obtain ⟨a, b, rfl, rfl, HGG, ha, hb, d, rfl⟩ := hrel
    by_cases hb0 : b = 0
    · subst hb0
      have hag : a = G := by have := HGG.out; rwa [Nat.gcd_zero_right] at this
      subst hag
      have ha0 : (0 : Int) < a := by omega
      have Q2 := Lib.hid (quo_pos D a hD2 hG)
      have Q3 : Hid (((D : Nat) : Int).tdiv (a : Nat) = (D : Int) / (a : Nat)) := hidI (Int.tdiv_eq_ediv_of_nonneg (by omega))
      go_wp2
      go_region
      all_goals
        rw [Q2.out, Q3.out]
        go_wp2
        refine bodyPost_ret (v := .tuple #[.agg #[.int .i64 0, .int .i64 ((D : Int) / (a : Nat))], .int .i64 0]) (by simp [results, Try.results36, go_sem]) rfl ?_
        exact ⟨by simp, ((ext_drewN (below_box w _) _).setCell (by simp) _).setCell (by simp) _⟩
    · have hb1 : 1 ≤ b := by omega
      have hbb : (((b : Nat) : Int) != 0) = true := by simp; omega
      have hm : ((a : Int) % (b : Int)) = ((a % b : Nat) : Int) := by omega
      have HM := Lib.hid hm
      have hlt := Nat.mod_lt a (show 0 < b by omega)
      have h0a : (0 : Int) ≤ a := by omega
      have h0b : (1 : Int) ≤ b := by omega
      clear hm
      go_wp2
      go_quiet (fail)
      go_wp2
      go_roundw
      case rel => exact ⟨b, a % b, rfl, by rw [HM.out], hidI (by rw [← HGG.out, Nat.gcd_comm a b, Nat.gcd_rec b a, Nat.gcd_comm]), hb, by omega, _, World.drewN_drewN _ _ _⟩
      case measure => simp [intOf]; omega

set_option maxHeartbeats 1000000 in
theorem rred_zp (D : Nat) (w : World) (hD : 1 ≤ D) (hD2 : D ≤ 1152921504606846976) :
    Calls Try.prog 37 #[.int .i64 ((0 : Int)), .int .i64 ((D : Int))] w fun e w' => FRes w w' e (0, ((0 : Int)).tdiv (Nat.gcd 0 D : Nat), (D : Int) / (Nat.gcd 0 D : Nat)) := by
  have b1 : (((D : Int) : Int) == 0) = false := by simp; omega
  have c2 : inB ((0 : Int)) (-1152921504606846976) 1152921504606846976 = true := inB_iff.2 ⟨by omega, by omega⟩
  have c3 : inB ((D : Int)) (-1152921504606846976) 1152921504606846976 = true := inB_iff.2 ⟨by omega, by omega⟩
  have hG : 0 < Nat.gcd 0 D := Nat.gcd_pos_of_pos_right _ (by omega)
  obtain ⟨G, hGe⟩ : ∃ G, G = Nat.gcd 0 D := ⟨_, rfl⟩
  rw [← hGe] at hG ⊢
  have HG := Lib.hid hGe
  clear hGe
  go_enter Try.func37, Try.ntmps37
  go_wp2
  go_loopw [6, 7] (fun x y wr => ∃ a b : Nat, x = .int .i64 a ∧ y = .int .i64 b ∧ Hid (Nat.gcd a b = G) ∧ a ≤ 1152921504606846976 ∧ b ≤ 1152921504606846976 ∧ ∃ d, wr = (w.alloc (.cells #[.int .i64 0, .int .i64 0] 28)).drewN d) (fun _ y _ => (intOf y).toNat)
  case atStart => exact ⟨0, D, by simp, by simp, hidI HG.out.symm, by omega, hD2, 0, rfl⟩
  case round =>
    obtain ⟨a, b, rfl, rfl, HGG, ha, hb, d, rfl⟩ := hrel
    by_cases hb0 : b = 0
    · subst hb0
      have hag : a = G := by have := HGG.out; rwa [Nat.gcd_zero_right] at this
      subst hag
      have ha0 : (0 : Int) < a := by omega
      have Q2 := Lib.hid (quo_pos D a hD2 hG)
      have Q3 : Hid (((D : Nat) : Int).tdiv (a : Nat) = (D : Int) / (a : Nat)) := hidI (Int.tdiv_eq_ediv_of_nonneg (by omega))
      go_wp2
      go_region
      all_goals
        rw [Q2.out, Q3.out]
        go_wp2
        refine bodyPost_ret (v := .tuple #[.agg #[.int .i64 0, .int .i64 ((D : Int) / (a : Nat))], .int .i64 0]) (by simp [results, Try.results37, go_sem]) rfl ?_
        exact ⟨by simp, ((ext_drewN (below_box w _) _).setCell (by simp) _).setCell (by simp) _⟩
    · have hb1 : 1 ≤ b := by omega
      have hbb : (((b : Nat) : Int) != 0) = true := by simp; omega
      have hm : ((a : Int) % (b : Int)) = ((a % b : Nat) : Int) := by omega
      have HM := Lib.hid hm
      have hlt := Nat.mod_lt a (show 0 < b by omega)
      have h0a : (0 : Int) ≤ a := by omega
      have h0b : (1 : Int) ≤ b := by omega
      clear hm
      go_wp2
      go_quiet (fail)
      go_wp2
      go_roundw
      case rel => exact ⟨b, a % b, rfl, by rw [HM.out], hidI (by rw [← HGG.out, Nat.gcd_comm a b, Nat.gcd_rec b a, Nat.gcd_comm]), hb, by omega, _, World.drewN_drewN _ _ _⟩
      case measure => simp [intOf]; omega

set_option maxHeartbeats 1000000 in
theorem rred_zn (D : Nat) (w : World) (hD : 1 ≤ D) (hD2 : D ≤ 1152921504606846976) :
    Calls Try.prog 37 #[.int .i64 ((0 : Int)), .int .i64 (-(D : Int))] w fun e w' => FRes w w' e (0, ((0 : Int)).tdiv (Nat.gcd 0 D : Nat), (D : Int) / (Nat.gcd 0 D : Nat)) := by
  have b1 : ((-(D : Int) : Int) == 0) = false := by simp; omega
  have c2 : inB ((0 : Int)) (-1152921504606846976) 1152921504606846976 = true := inB_iff.2 ⟨by omega, by omega⟩
  have c3 : inB (-(D : Int)) (-1152921504606846976) 1152921504606846976 = true := inB_iff.2 ⟨by omega, by omega⟩
  have hG : 0 < Nat.gcd 0 D := Nat.gcd_pos_of_pos_right _ (by omega)
  obtain ⟨G, hGe⟩ : ∃ G, G = Nat.gcd 0 D := ⟨_, rfl⟩
  rw [← hGe] at hG ⊢
  have HG := Lib.hid hGe
  clear hGe
  go_enter Try.func37, Try.ntmps37
  go_wp2
  go_loopw [6, 7] (fun x y wr => ∃ a b : Nat, x = .int .i64 a ∧ y = .int .i64 b ∧ Hid (Nat.gcd a b = G) ∧ a ≤ 1152921504606846976 ∧ b ≤ 1152921504606846976 ∧ ∃ d, wr = (w.alloc (.cells #[.int .i64 0, .int .i64 0] 28)).drewN d) (fun _ y _ => (intOf y).toNat)
  case atStart => exact ⟨0, D, by simp, by simp, hidI HG.out.symm, by omega, hD2, 0, rfl⟩
  case round =>
    obtain ⟨a, b, rfl, rfl, HGG, ha, hb, d, rfl⟩ := hrel
    by_cases hb0 : b = 0
    · subst hb0
      have hag : a = G := by have := HGG.out; rwa [Nat.gcd_zero_right] at this
      subst hag
      have ha0 : (0 : Int) < a := by omega
      have Q2 := Lib.hid (quo_pos D a hD2 hG)
      have Q3 : Hid (((D : Nat) : Int).tdiv (a : Nat) = (D : Int) / (a : Nat)) := hidI (Int.tdiv_eq_ediv_of_nonneg (by omega))
      go_wp2
      go_region
      all_goals
        rw [Q2.out, Q3.out]
        go_wp2
        refine bodyPost_ret (v := .tuple #[.agg #[.int .i64 0, .int .i64 ((D : Int) / (a : Nat))], .int .i64 0]) (by simp [results, Try.results37, go_sem]) rfl ?_
        exact ⟨by simp, ((ext_drewN (below_box w _) _).setCell (by simp) _).setCell (by simp) _⟩
    · have hb1 : 1 ≤ b := by omega
      have hbb : (((b : Nat) : Int) != 0) = true := by simp; omega
      have hm : ((a : Int) % (b : Int)) = ((a % b : Nat) : Int) := by omega
      have HM := Lib.hid hm
      have hlt := Nat.mod_lt a (show 0 < b by omega)
      have h0a : (0 : Int) ≤ a := by omega
      have h0b : (1 : Int) ≤ b := by omega
      clear hm
      go_wp2
      go_quiet (fail)
      go_wp2
      go_roundw
      case rel => exact ⟨b, a % b, rfl, by rw [HM.out], hidI (by rw [← HGG.out, Nat.gcd_comm a b, Nat.gcd_rec b a, Nat.gcd_comm]), hb, by omega, _, World.drewN_drewN _ _ _⟩
      case measure => simp [intOf]; omega

end Go.Proofs.Ytjllgdpnbllnjaa
