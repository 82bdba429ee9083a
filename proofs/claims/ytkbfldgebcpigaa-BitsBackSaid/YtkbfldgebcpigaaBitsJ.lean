/- The walks of bits.Read and of the reference's Read. -/
import Derived.Test.YtkbfldgebcpigaaBitsI
namespace Go.Proofs.Ytkbfldgebcpigaa
open Go.RowKit

def seg (bs : List Nat) (at_ n : Nat) : List Nat := (List.range n).map fun i => bitOf bs (at_ + i)
theorem seg_succ (bs : List Nat) (a k : Nat) : seg bs a (k + 1) = seg bs a k ++ [bitOf bs (a + k)] := by simp [seg, List.range_succ]
theorem numOf_seg_lt (bs : List Nat) (a : Nat) : ∀ k, numOf (seg bs a k) < 2 ^ k
  | 0 => by simp [seg, numOf]
  | k + 1 => by
    rw [seg_succ, numOf_snoc, Nat.pow_succ]
    have := numOf_seg_lt bs a k
    have := bitOf_le bs (a + k)
    omega
theorem numOf_seg_bd (bs : List Nat) (a k : Nat) (h : k ≤ 24) : numOf (seg bs a k) < 16777216 := by
  have h1 := numOf_seg_lt bs a k
  have h2 := Nat.pow_le_pow_right (show 0 < 2 by omega) h
  omega
def readS (bs : List Nat) (len a n : Int) : Int × Int :=
  if validB bs len = false then (0, 7) else if widthB n = false ∨ a < 0 then (0, 1) else if len - n < a then (0, 11) else (((numOf (seg bs a.toNat n.toNat) : Nat) : Int), 0)
def RRes (w w' : World) (e : Ending) (r : Int × Int) : Prop := e = .returned (.tuple #[.int .i64 r.1, .int .i64 r.2]) ∧ Below w.heap.size w w'

set_option maxHeartbeats 1000000 in
theorem read_any (A : Option Addr) (n c : Nat) (len : Int) (bs : List Nat) (a m : Int) (w : World) (hr : Rd w w.heap.size A (u8s bs)) (hl : bs.length = n) (hn : n ≤ 140737488355328) (hB : Bytes bs) (hlen : I64 len) (ha : I64 a) (hm : I64 m) :
    Calls Try.prog 21 #[.agg #[.slice A n c, .int .i64 len], .int .i64 a, .int .i64 m] w fun e w' => RRes w w' e (readS bs len a m) := by
  have C1 := Lib.hid (fun (W : World) (hb : Below w.heap.size w W) => valid_any A n c len bs W (rd_ext hr hb) hl hn hB hlen)
  have C2 := Lib.hid (fun (W : World) (hb : Below w.heap.size w W) (i : Int) (h0 : 0 ≤ i) (h1 : i < 8 * (n : Int)) => bit_any A n c len i bs W (rd_ext hr hb) hl hn hB h0 h1)
  have HL := Lib.hid hl
  obtain ⟨v1, v2⟩ := ha
  obtain ⟨m1, m2⟩ := hm
  have HX := Lib.hid (below_box w (.cells #[.slice A n c, .int .i64 len] 28))
  have K1 := Lib.hid (Blk.new w 28 #[.slice A n c, .int .i64 len])
  clear hr hl hB hlen
  by_cases c1 : validB bs len = false
  · have HS : Hid (readS bs len a m = (0, 7)) := hidI (by unfold readS; rw [if_pos c1])
    go_enter Try.func21, Try.ntmps21
    go_wp2_with fail
    refine (C1.out _ HX.out).mono ?_
    rintro e w1 ⟨rfl, hb1⟩
    have X1 := Lib.hid (ext_next HX.out hb1)
    clear hb1
    go_wp2
    go_ret2
    rw [HS.out]
    exact ⟨rfl, X1.out⟩
  have c1 : validB bs len = true := by simpa using c1
  obtain ⟨g1, g2, g3, -⟩ := validB_iff.1 c1
  have G3 : Hid ((n : Int) = (len + 7) / 8) := hidI (by rw [← HL.out]; exact g3)
  clear g3
  by_cases c2 : widthB m = false
  · have HS : Hid (readS bs len a m = (0, 1)) := hidI (by unfold readS; rw [if_neg (by simp [c1]), if_pos (.inl c2)])
    go_enter Try.func21, Try.ntmps21
    go_wp2_with fail
    refine (C1.out _ HX.out).mono ?_
    rintro e w1 ⟨rfl, hb1⟩
    have X1 := Lib.hid (ext_next HX.out hb1)
    clear hb1
    go_wp2_with (go_at_call 33; refine (width_any _ _).mono ?_; rintro e w' ⟨rfl, rfl⟩)
    go_ret2
    rw [HS.out]
    exact ⟨rfl, X1.out⟩
  have c2 : widthB m = true := by simpa using c2
  obtain ⟨m3, m4⟩ : 1 ≤ m ∧ m ≤ 24 := by unfold widthB at c2; simpa using c2
  by_cases c3 : a < 0
  · have HS : Hid (readS bs len a m = (0, 1)) := hidI (by unfold readS; rw [if_neg (by simp [c1]), if_pos (.inr c3)])
    go_enter Try.func21, Try.ntmps21
    go_wp2_with fail
    refine (C1.out _ HX.out).mono ?_
    rintro e w1 ⟨rfl, hb1⟩
    have X1 := Lib.hid (ext_next HX.out hb1)
    clear hb1
    go_wp2_with (go_at_call 33; refine (width_any _ _).mono ?_; rintro e w' ⟨rfl, rfl⟩)
    go_ret2
    rw [HS.out]
    exact ⟨rfl, X1.out⟩
  have c3 : 0 ≤ a := by omega
  by_cases c4 : len - m < a
  · have HS : Hid (readS bs len a m = (0, 11)) := hidI (by unfold readS; rw [if_neg (by simp [c1]), if_neg (by simp [c2]; omega), if_pos c4])
    go_enter Try.func21, Try.ntmps21
    go_wp2_with fail
    refine (C1.out _ HX.out).mono ?_
    rintro e w1 ⟨rfl, hb1⟩
    have q1 := blk_next K1.out hb1
    have i1 : w1.cell? ⟨w.heap.size, 1, none⟩ = some (.int .i64 len) := by rw [q1.cell]; rfl
    have X1 := Lib.hid (ext_next HX.out hb1)
    clear hb1 q1
    go_wp2_with (go_at_call 33; refine (width_any _ _).mono ?_; rintro e w' ⟨rfl, rfl⟩)
    go_ret2
    rw [HS.out]
    exact ⟨rfl, X1.out⟩
  · obtain ⟨k0, rfl⟩ := Int.eq_ofNat_of_zero_le c3
    obtain ⟨q, rfl⟩ := Int.eq_ofNat_of_zero_le (show 0 ≤ m by omega)
    have HS : Hid (readS bs len k0 q = (((numOf (seg bs k0 q) : Nat) : Int), 0)) := hidI (by unfold readS; rw [if_neg (by simp [c1]), if_neg (by simp [c2]), if_neg c4]; simp)
    have c4' : (k0 : Int) ≤ len - q := by omega
    go_enter Try.func21, Try.ntmps21
    go_wp2_with fail
    refine (C1.out _ HX.out).mono ?_
    rintro e w1 ⟨rfl, hb1⟩
    have q1 := blk_next K1.out hb1
    have i1 : w1.cell? ⟨w.heap.size, 1, none⟩ = some (.int .i64 len) := by rw [q1.cell]; rfl
    have X1 := Lib.hid (ext_next HX.out hb1)
    have K2 := Lib.hid q1
    clear hb1 q1
    go_wp2_with (go_at_call 33; refine (width_any _ _).mono ?_; rintro e w' ⟨rfl, rfl⟩)
    go_loopw [8, 9] (fun v i wr => ∃ k : Nat, k ≤ q ∧ i = .int .i64 ((k0 : Int) + k) ∧ v = .int .i64 ((numOf (seg bs k0 k) : Nat) : Int) ∧ Blk wr w.heap.size 28 #[.slice A n c, .int .i64 len] ∧ Below w.heap.size w wr) (fun _ i _ => k0 + q - (intOf i).toNat)
    case atStart => exact ⟨0, Nat.zero_le _, by simp, by simp [seg, numOf], K2.out, X1.out⟩
    case round =>
      obtain ⟨k, hk, rfl, rfl, k1, x1⟩ := hrel
      clear K1 K2 X1 i1
      have j0 : wr.cell? ⟨w.heap.size, 0, none⟩ = some (.slice A n c) := by rw [k1.cell]; rfl
      have j1 : wr.cell? ⟨w.heap.size, 1, none⟩ = some (.int .i64 len) := by rw [k1.cell]; rfl
      have K1 := Lib.hid k1
      have X1 := Lib.hid x1
      have hbd := numOf_seg_bd bs k0 k (by omega)
      have hbl := bitOf_le bs (k0 + k)
      have SS : Hid (numOf (seg bs k0 (k + 1)) = 2 * numOf (seg bs k0 k) + bitOf bs (k0 + k)) := hidI (by rw [seg_succ, numOf_snoc])
      clear k1 x1
      by_cases hlt : k < q
      · have h8 : (k0 : Int) + k < 8 * (n : Int) := by have := G3.out; omega
        generalize numOf (seg bs k0 k) = y at hbd SS ⊢
        go_wp2_with fail
        refine (C2.out _ X1.out ((k0 : Int) + k) (by omega) h8).mono ?_
        rintro e w2 ⟨rfl, hb2⟩
        rw [show ((k0 : Int) + (k : Int)).toNat = k0 + k by omega]
        generalize bitOf bs (k0 + k) = x at hbl SS ⊢
        have K1 := Lib.hid (blk_next K1.out hb2)
        have X1 := Lib.hid (ext_next X1.out hb2)
        clear hb2 j0 j1
        go_wp2
        go_roundw
        case rel => exact ⟨k + 1, by omega, by go_num, by rw [SS.out]; go_num, K1.out, X1.out⟩
        case measure => simp [intOf]; omega
      · have hkq : k = q := by omega
        subst hkq
        go_wp2
        go_ret2
        rw [HS.out]
        exact ⟨rfl, X1.out⟩
end Go.Proofs.Ytkbfldgebcpigaa
