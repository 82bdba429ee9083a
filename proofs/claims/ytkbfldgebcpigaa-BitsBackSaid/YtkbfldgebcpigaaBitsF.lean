/- Walks of the reference's At, Valid, Of and of bits.Pad. -/
import Derived.Test.YtkbfldgebcpigaaBitsE
namespace Go.Proofs.Ytkbfldgebcpigaa
open Go.RowKit

set_option maxHeartbeats 400000 in
theorem at_any (A : Option Addr) (n c : Nat) (len i : Int) (bs : List Nat) (w : World) (hr : Rd w w.heap.size A (u8s bs)) (hl : bs.length = n) (hn : n ≤ 140737488355328) (hB : Bytes bs) (h0 : 0 ≤ i) (hi : i < 8 * (n : Int)) :
    Calls Try.prog 14 #[.agg #[.slice A n c, .int .i64 len], .int .i64 i] w fun e w' => e = .returned (.int .i64 ((bitOf bs i.toNat : Nat) : Int)) ∧ Below w.heap.size w w' := by
  obtain ⟨k, rfl⟩ := Int.eq_ofNat_of_zero_le h0
  rw [Int.toNat_natCast]
  obtain ⟨b, o, rfl, hb, hc⟩ := hr.at_ (k := k / 8) (by rw [length_u8s]; omega)
  have hz := hc (k / 8) _ (u8s_at bs (k / 8) (by omega))
  have hzb := hB (k / 8)
  have HV : Hid (bitOf bs k = bs.getD (k / 8) 0 / 2 ^ (7 - k % 8) % 2) := hidI rfl
  generalize bs.getD (k / 8) 0 = z at hz HV hzb
  have h1 : (k : Int) / 8 < n := by omega
  have h2 : ((k : Int) / 8).toNat = k / 8 := by omega
  have h3 : 0 ≤ 7 - (k : Int) % 8 := by omega
  have h4 : 7 - (k : Int) % 8 < 8 := by omega
  have HQ := Lib.hid (shr_bit z (7 - k % 8) hzb (by omega))
  clear hr hl hB hc
  go_enter Try.func14, Try.ntmps14
  go_wp2
  go_ret
  exact ⟨ret_int (by rw [HV.out]; exact HQ.out), below_box _ _⟩

theorem low_bits : ∀ f, f < 8 → ∀ z, z < 256 → (∀ t, t < f → z / 2 ^ t % 2 = 0) → z % 2 ^ f = 0 := by decide +kernel
/-- The free bits are 0 if they are read as 0 one by one. -/
theorem free_bits {bs : List Nat} {len : Nat} (hB : Bytes bs) (hl : bs.length = (len + 7) / 8) (h : ∀ i, len ≤ i → i < 8 * bs.length → bitOf bs i = 0) : bs.getD (bs.length - 1) 0 % 2 ^ (8 * (bs.length : Int) - len).toNat = 0 := by
  refine low_bits _ (by omega) _ (hB _) fun t ht => ?_
  have hi := h (8 * (bs.length - 1) + (7 - t)) (by omega) (by omega)
  unfold bitOf at hi
  rw [show (8 * (bs.length - 1) + (7 - t)) / 8 = bs.length - 1 by omega, show 7 - (8 * (bs.length - 1) + (7 - t)) % 8 = t by omega] at hi
  exact hi
theorem free_bit {bs : List Nat} {len i : Nat} (hl : bs.length = (len + 7) / 8) (h : bs.getD (bs.length - 1) 0 % 2 ^ (8 * (bs.length : Int) - len).toNat = 0) (h1 : len ≤ i) (h2 : i < 8 * bs.length) : bitOf bs i = 0 := by
  unfold bitOf
  rw [show i / 8 = bs.length - 1 by omega]
  exact low_zero _ _ _ h (by omega)

set_option maxHeartbeats 400000 in
theorem rvalid_any (A : Option Addr) (n c : Nat) (len : Int) (bs : List Nat) (w : World) (hr : Rd w w.heap.size A (u8s bs)) (hl : bs.length = n) (hn : n ≤ 140737488355328) (hB : Bytes bs) (hlen : I64 len) :
    Calls Try.prog 12 #[.agg #[.slice A n c, .int .i64 len]] w fun e w' => e = .returned (.bool (validB bs len)) ∧ Below w.heap.size w w' := by
  obtain ⟨g1, g2⟩ := hlen
  by_cases c1 : len < 0
  · have hv : validB bs len = false := by unfold validB; simp; omega
    have HV := Lib.hid hv
    clear hr hl hB hv
    go_enter Try.func12, Try.ntmps12
    go_wp2
    go_ret
    exact ⟨by rw [HV.out]; rfl, below_box _ _⟩
  by_cases c2 : 40000 < len
  · have hv : validB bs len = false := by unfold validB; simp; omega
    have HV := Lib.hid hv
    clear hr hl hB hv
    go_enter Try.func12, Try.ntmps12
    go_wp2
    go_ret
    exact ⟨by rw [HV.out]; rfl, below_box _ _⟩
  have hl0 : 0 ≤ len := by omega
  have hl1 : len ≤ 40000 := by omega
  clear c1 c2
  by_cases c3 : (n : Int) = (len + 7) / 8
  · have h3 : ((n : Int) != (len + 7) / 8) = false := by simp; omega
    have h6 : (n : Int) ≤ 5001 := by omega
    have h8 : len ≤ 8 * (n : Int) := by omega
    have h9 : 8 * (n : Int) - len < 8 := by omega
    obtain ⟨m, rfl⟩ := Int.eq_ofNat_of_zero_le hl0
    have hnm : bs.length = (m + 7) / 8 := by omega
    have C1 := Lib.hid (fun (W : World) (hb : Below w.heap.size w W) (i : Int) (h0 : 0 ≤ i) (hi : i < 8 * (n : Int)) => at_any A n c m i bs W ((hr.below hb).more hb.size) hl hn hB h0 hi)
    have HV : Hid ((∀ i, m ≤ i → i < 8 * n → bitOf bs i = 0) → validB bs m = true) := hidI (fun h => validB_iff.2 ⟨by omega, hl1, by omega, free_bits hB hnm (by rw [hl]; exact h)⟩)
    have HF : Hid (∀ i, m ≤ i → i < 8 * n → bitOf bs i ≠ 0 → validB bs m = false) := hidI (fun i h1 h2 h3 => by
      cases hv : validB bs m with
      | false => rfl
      | true => exact absurd (free_bit hnm (validB_iff.1 hv).2.2.2 h1 (by omega)) h3)
    have HX := Lib.hid (below_box w (.cells #[.slice A n c, .int .i64 (m : Nat)] 28))
    have C3 := Lib.hid c3
    have h10 : m ≤ 8 * n := by omega
    clear hr hl hB c3 hnm
    go_enter Try.func12, Try.ntmps12
    go_wp2
    go_loopw [3] (fun i wr => ∃ k : Nat, m ≤ k ∧ k ≤ 8 * n ∧ i = .int .i64 k ∧ (∀ j, m ≤ j → j < k → bitOf bs j = 0) ∧ Below (w.heap.size + 1) (w.alloc (.cells #[.slice A n c, .int .i64 (m : Nat)] 28)) wr) (fun i _ => 8 * n - (intOf i).toNat)
    case atStart => exact ⟨m, Nat.le_refl _, h10, rfl, fun j h1 h2 => absurd h1 (by omega), Below.refl _ _⟩
    case round =>
      obtain ⟨k, hk1, hk2, rfl, hpre, hbel⟩ := hrel
      obtain ⟨hc, hf⟩ := bcellB hbel
      have HB := Lib.hid hbel
      have HP := Lib.hid hpre
      have HW := Lib.hid (HX.out.trans (hbel.mono (by omega)))
      have hsz := hbel.size
      simp only [World.size_alloc] at hsz
      clear hbel hpre
      by_cases hlt : k < 8 * n
      · have hlt' : (k : Int) < 8 * (n : Int) := by omega
        go_wp2_with fail
        refine (C1.out _ HW.out k (by omega) hlt').mono ?_
        rintro e w1 ⟨rfl, hb1⟩
        rw [Int.toNat_natCast]
        have HB1 := Lib.hid hb1
        clear hb1 hc hf
        by_cases hz : bitOf bs k = 0
        · have HZ := Lib.hid hz
          have hz' : (((bitOf bs k : Nat) : Int) != 0) = false := by simp [hz]
          clear hz
          go_wp2
          go_roundw
          case rel =>
            refine ⟨k + 1, by omega, by omega, by go_num, ?_, HB.out.trans (HB1.out.mono (by omega))⟩
            intro j h1 h2
            rcases Nat.lt_or_ge j k with h3 | h3
            · exact HP.out j h1 h3
            · have : j = k := by omega
              subst this; exact HZ.out
          case measure => simp [intOf]; omega
        · have HZ := Lib.hid (HF.out k hk1 hlt hz)
          have hz' : (((bitOf bs k : Nat) : Int) != 0) = true := by simp; omega
          clear hz
          go_wp2
          go_ret
          exact ⟨ret_bool HZ.out.symm, HW.out.trans (HB1.out.mono (by omega))⟩
      · have hkn : k = 8 * n := by omega
        have HZ := Lib.hid (HV.out (fun i h1 h2 => HP.out i h1 (by omega)))
        have hge : 8 * (n : Int) ≤ k := by omega
        clear hkn
        go_wp2
        go_ret
        exact ⟨ret_bool HZ.out.symm, HW.out⟩
  · have hv : validB bs len = false := by unfold validB; simp; omega
    have HV := Lib.hid hv
    have h3 : ((n : Int) != (len + 7) / 8) = true := by simpa using c3
    clear hr hl hB hv c3
    go_enter Try.func12, Try.ntmps12
    go_wp2
    go_ret
    exact ⟨by rw [HV.out]; rfl, below_box _ _⟩
end Go.Proofs.Ytkbfldgebcpigaa
