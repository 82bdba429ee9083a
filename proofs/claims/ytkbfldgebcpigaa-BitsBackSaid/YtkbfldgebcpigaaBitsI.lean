/- The walk of bits.Join. -/
import Derived.Test.YtkbfldgebcpigaaBitsH
namespace Go.Proofs.Ytkbfldgebcpigaa
open Go.RowKit

def joinS (bs : List Nat) (len : Int) (bs2 : List Nat) (len2 : Int) : Int × List Nat :=
  if validB bs len = false ∨ validB bs2 len2 = false then (7, []) else if 40000 < len + len2 then (2, []) else (0, unpack bs len.toNat ++ unpack bs2 len2.toNat)
theorem take_unpack (bs : List Nat) (n k : Nat) (h : k < n) : (unpack bs n).take (k + 1) = (unpack bs n).take k ++ [bitOf bs k] := by
  rw [List.take_succ_eq_append_getElem (by simpa [unpack] using h)]
  simp [unpack]
theorem bitOf_le (bs : List Nat) (i : Nat) : bitOf bs i ≤ 1 := by unfold bitOf; omega
theorem nb_one (x : Nat) (h : x ≤ 1) : nb x 1 1 = [x] := by
  have : x = 0 ∨ x = 1 := by omega
  rcases this with rfl | rfl <;> rfl

set_option maxHeartbeats 2000000 in
theorem join_any (A A' : Option Addr) (n c n' c' : Nat) (len len2 : Int) (bs bs2 : List Nat) (w : World) (hr : Rd w w.heap.size A (u8s bs)) (hr2 : Rd w w.heap.size A' (u8s bs2)) (hl : bs.length = n) (hl2 : bs2.length = n') (hn : n ≤ 140737488355328) (hn' : n' ≤ 140737488355328) (hB : Bytes bs) (hB2 : Bytes bs2) (hlen : I64 len) (hlen2 : I64 len2) :
    Calls Try.prog 16 #[.agg #[.slice A n c, .int .i64 len], .agg #[.slice A' n' c', .int .i64 len2]] w fun e w' => BRes w w' e (joinS bs len bs2 len2) := by
  have C1 := Lib.hid (fun (W : World) (hb : Below w.heap.size w W) => valid_any A n c len bs W (rd_ext hr hb) hl hn hB hlen)
  have C2 := Lib.hid (fun (W : World) (hb : Below w.heap.size w W) => valid_any A' n' c' len2 bs2 W (rd_ext hr2 hb) hl2 hn' hB2 hlen2)
  have C3 := Lib.hid (fun (W : World) (hb : Below w.heap.size w W) => copied_any A n c len bs W (rd_ext hr hb) hl hn)
  have C4 := Lib.hid (fun (W : World) (hb : Below w.heap.size w W) (i : Int) (h0 : 0 ≤ i) (h1 : i < 8 * (n' : Int)) => bit_any A' n' c' len2 i bs2 W (rd_ext hr2 hb) hl2 hn' hB2 h0 h1)
  have HB := Lib.hid hB
  have HL2 := Lib.hid hl2
  have HX := Lib.hid (ext_alloc (ext_alloc (below_box w (.cells #[.slice A n c, .int .i64 len] 28)) (.cells #[.slice A' n' c', .int .i64 len2] 28)) (.cells #[.slice none 0 0, .int .i64 0] 28))
  have K1 := Lib.hid ((blk_new 28 #[.slice A n c, .int .i64 len] (show w.heap.size = w.heap.size from rfl)).alloc (.cells #[.slice A' n' c', .int .i64 len2] 28) |>.alloc (.cells #[.slice none 0 0, .int .i64 0] 28))
  have K2 := Lib.hid ((blk_new (W := w.alloc (.cells #[.slice A n c, .int .i64 len] 28)) (g := w.heap.size + 1) 28 #[.slice A' n' c', .int .i64 len2] (by simp)).alloc (.cells #[.slice none 0 0, .int .i64 0] 28))
  have K3 := Lib.hid (blk_new (W := (w.alloc (.cells #[.slice A n c, .int .i64 len] 28)).alloc (.cells #[.slice A' n' c', .int .i64 len2] 28)) (g := w.heap.size + 2) 28 #[.slice none 0 0, .int .i64 0] (by simp))
  clear hr hr2 hl hl2 hB hB2 hlen hlen2
  by_cases c1 : validB bs len = false
  · have HS : Hid (joinS bs len bs2 len2 = (7, [])) := hidI (by unfold joinS; rw [if_pos (.inl c1)])
    go_enter Try.func16, Try.ntmps16
    go_wp2_with fail
    refine (C1.out _ HX.out).mono ?_
    rintro e w1 ⟨rfl, hb1⟩
    have q3 := blk_next K3.out hb1
    have X1 := Lib.hid (ext_next HX.out hb1)
    have j0 : w1.cell? ⟨w.heap.size + 2, 0, none⟩ = some (.slice none 0 0) := by rw [q3.cell]; rfl
    have j1 : w1.cell? ⟨w.heap.size + 2, 1, none⟩ = some (.int .i64 0) := by rw [q3.cell]; rfl
    have j2 := q3.frozen 0
    have j3 := q3.frozen 1
    clear hb1 q3
    go_wp2
    refine bodyPost_ret (v := .tuple #[.agg #[.slice none 0 0, .int .i64 0], .int .i64 7]) (by simp [results, Try.results16, go_sem, j0, j1]) rfl ?_
    rw [HS.out]
    exact bres_err 7 ((X1.out.setCell (by simp <;> omega) _).setCell (by simp <;> omega) _)
  have c1 : validB bs len = true := by simpa using c1
  have C1v := Lib.hid c1
  by_cases c2 : validB bs2 len2 = false
  · have HS : Hid (joinS bs len bs2 len2 = (7, [])) := hidI (by unfold joinS; rw [if_pos (.inr c2)])
    go_enter Try.func16, Try.ntmps16
    go_wp2_with fail
    refine (C1.out _ HX.out).mono ?_
    rintro e w1 ⟨rfl, hb1⟩
    have q2 := blk_next K2.out hb1
    have q3 := blk_next K3.out hb1
    have K3 := Lib.hid q3
    have X1 := Lib.hid (ext_next HX.out hb1)
    have i0 : w1.cell? ⟨w.heap.size + 1, 0, none⟩ = some (.slice A' n' c') := by rw [q2.cell]; rfl
    have i1 : w1.cell? ⟨w.heap.size + 1, 1, none⟩ = some (.int .i64 len2) := by rw [q2.cell]; rfl
    clear hb1 q3 q2
    go_wp2_with fail
    refine (C2.out _ X1.out).mono ?_
    rintro e w2 ⟨rfl, hb2⟩
    have q3 := blk_next K3.out hb2
    have X2 := Lib.hid (ext_next X1.out hb2)
    have j0 : w2.cell? ⟨w.heap.size + 2, 0, none⟩ = some (.slice none 0 0) := by rw [q3.cell]; rfl
    have j1 : w2.cell? ⟨w.heap.size + 2, 1, none⟩ = some (.int .i64 0) := by rw [q3.cell]; rfl
    have j2 := q3.frozen 0
    have j3 := q3.frozen 1
    clear hb2 q3 i0 i1
    go_wp2
    refine bodyPost_ret (v := .tuple #[.agg #[.slice none 0 0, .int .i64 0], .int .i64 7]) (by simp [results, Try.results16, go_sem, j0, j1]) rfl ?_
    rw [HS.out]
    exact bres_err 7 ((X2.out.setCell (by simp <;> omega) _).setCell (by simp <;> omega) _)
  have c2 : validB bs2 len2 = true := by simpa using c2
  have C2v := Lib.hid c2
  obtain ⟨g1, g2, -, -⟩ := validB_iff.1 c1
  obtain ⟨g3, g4, g5, -⟩ := validB_iff.1 c2
  rw [HL2.out] at g5
  have G5 := Lib.hid g5
  by_cases c5 : 40000 < len + len2
  · have HS : Hid (joinS bs len bs2 len2 = (2, [])) := hidI (by unfold joinS; rw [if_neg (by simp [C1v.out, C2v.out]), if_pos c5])
    clear g5
    go_enter Try.func16, Try.ntmps16
    go_wp2_with fail
    refine (C1.out _ HX.out).mono ?_
    rintro e w1 ⟨rfl, hb1⟩
    have q2 := blk_next K2.out hb1
    have K1 := Lib.hid (blk_next K1.out hb1)
    have K2 := Lib.hid q2
    have K3 := Lib.hid (blk_next K3.out hb1)
    have X1 := Lib.hid (ext_next HX.out hb1)
    have i0 : w1.cell? ⟨w.heap.size + 1, 0, none⟩ = some (.slice A' n' c') := by rw [q2.cell]; rfl
    have i1 : w1.cell? ⟨w.heap.size + 1, 1, none⟩ = some (.int .i64 len2) := by rw [q2.cell]; rfl
    clear hb1 q2
    go_wp2_with fail
    refine (C2.out _ X1.out).mono ?_
    rintro e w2 ⟨rfl, hb2⟩
    have q1 := blk_next K1.out hb2
    have q2 := blk_next K2.out hb2
    have q3 := blk_next K3.out hb2
    have X2 := Lib.hid (ext_next X1.out hb2)
    have i0 : w2.cell? ⟨w.heap.size, 1, none⟩ = some (.int .i64 len) := by rw [q1.cell]; rfl
    have i1 : w2.cell? ⟨w.heap.size + 1, 1, none⟩ = some (.int .i64 len2) := by rw [q2.cell]; rfl
    have j0 : w2.cell? ⟨w.heap.size + 2, 0, none⟩ = some (.slice none 0 0) := by rw [q3.cell]; rfl
    have j1 : w2.cell? ⟨w.heap.size + 2, 1, none⟩ = some (.int .i64 0) := by rw [q3.cell]; rfl
    have j2 := q3.frozen 0
    have j3 := q3.frozen 1
    clear hb2 q3 q1 q2
    go_wp2
    refine bodyPost_ret (v := .tuple #[.agg #[.slice none 0 0, .int .i64 0], .int .i64 2]) (by simp [results, Try.results16, go_sem, j0, j1]) rfl ?_
    rw [HS.out]
    exact bres_err 2 ((X2.out.setCell (by simp <;> omega) _).setCell (by simp <;> omega) _)
  · have HS : Hid (joinS bs len bs2 len2 = (0, unpack bs len.toNat ++ unpack bs2 len2.toNat)) := hidI (by unfold joinS; rw [if_neg (by simp [C1v.out, C2v.out]), if_neg c5])
    obtain ⟨m, rfl⟩ := Int.eq_ofNat_of_zero_le g3
    have hLA : (unpack bs len.toNat).length + m ≤ 40000 := by simp [unpack]; omega
    have HLA := Lib.hid hLA
    have A01 := Lib.hid (b01_unpack bs len.toNat)
    have h8 : m ≤ 8 * n' := by omega
    clear g5 hLA
    rw [Int.toNat_natCast] at HS
    go_enter Try.func16, Try.ntmps16
    go_wp2_with fail
    refine (C1.out _ HX.out).mono ?_
    rintro e w1 ⟨rfl, hb1⟩
    have q2 := blk_next K2.out hb1
    have K1 := Lib.hid (blk_next K1.out hb1)
    have K2 := Lib.hid q2
    have K3 := Lib.hid (blk_next K3.out hb1)
    have X1 := Lib.hid (ext_next HX.out hb1)
    have i0 : w1.cell? ⟨w.heap.size + 1, 0, none⟩ = some (.slice A' n' c') := by rw [q2.cell]; rfl
    have i1 : w1.cell? ⟨w.heap.size + 1, 1, none⟩ = some (.int .i64 (m : Nat)) := by rw [q2.cell]; rfl
    clear hb1 q2
    go_wp2_with fail
    refine (C2.out _ X1.out).mono ?_
    rintro e w2 ⟨rfl, hb2⟩
    have q1 := blk_next K1.out hb2
    have q2 := blk_next K2.out hb2
    have K2 := Lib.hid q2
    have K3 := Lib.hid (blk_next K3.out hb2)
    have X2 := Lib.hid (ext_next X1.out hb2)
    have i0 : w2.cell? ⟨w.heap.size, 0, none⟩ = some (.slice A n c) := by rw [q1.cell]; rfl
    have i2 : w2.cell? ⟨w.heap.size, 1, none⟩ = some (.int .i64 len) := by rw [q1.cell]; rfl
    have i1 : w2.cell? ⟨w.heap.size + 1, 1, none⟩ = some (.int .i64 (m : Nat)) := by rw [q2.cell]; rfl
    have s2 := K3.out.lt
    clear hb2 q1 q2
    go_wp2_with fail
    refine (C3.out _ X2.out).mono ?_
    rintro e w3 ⟨gw, v', rfl, hblk, hown, hgw, hb3⟩
    have HW := Lib.hid (wr_of_copied HB.out C1v.out hblk hown)
    have q2 := blk_next K2.out hb3
    have K2 := Lib.hid q2
    have K3 := Lib.hid (blk_next K3.out hb3)
    have X3 := Lib.hid (ext_next X2.out hb3)
    have s3 := hb3.size
    have i1 : w3.cell? ⟨w.heap.size + 1, 1, none⟩ = some (.int .i64 (m : Nat)) := by rw [q2.cell]; rfl
    clear hblk hown hb3 q2 i0 i2
    generalize hbase : w2.heap.size = base at HW hgw s3
    generalize hLAg : unpack bs len.toNat = LA at HW HS HLA A01
    clear hLAg
    have hs4 : w.heap.size + 2 < base := by omega
    clear hbase
    go_wp2
    go_loopw [30, 7] (fun i _ wr => ∃ k : Nat, k ≤ m ∧ i = .int .i64 k ∧ WrOK wr base gw (LA ++ (unpack bs2 m).take k) ∧ Blk wr (w.heap.size + 1) 28 #[.slice A' n' c', .int .i64 (m : Nat)] ∧ Blk wr (w.heap.size + 2) 28 #[.slice none 0 0, .int .i64 0] ∧ Below w.heap.size w wr ∧ base ≤ wr.heap.size) (fun i _ _ => m - (intOf i).toNat)
    case atStart => exact ⟨0, Nat.zero_le _, rfl, by simpa using HW.out, K2.out, K3.out, X3.out, s3⟩
    case round =>
      obtain ⟨k, hk, rfl, hw, k2, k3, x3, hs⟩ := hrel
      clear HW K2 K3 X3
      have HW := Lib.hid hw
      have K2 := Lib.hid k2
      have K3 := Lib.hid k3
      have X3 := Lib.hid x3
      by_cases hlt : k < m
      · have j0 : wr.cell? ⟨w.heap.size + 1, 0, none⟩ = some (.slice A' n' c') := by rw [k2.cell]; rfl
        have j1 : wr.cell? ⟨w.heap.size + 1, 1, none⟩ = some (.int .i64 (m : Nat)) := by rw [k2.cell]; rfl
        have TK := Lib.hid (take_unpack bs2 m k hlt)
        have hbl := bitOf_le bs2 k
        have NB := Lib.hid (nb_one _ hbl)
        have h01 := Lib.hid (b01_append A01.out (b01_take (b01_unpack bs2 m) k))
        have hlen : (LA ++ (unpack bs2 m).take k).length + 1 ≤ 40000 := by
          have := HLA.out; simp [unpack] at this ⊢; omega
        have HLN := Lib.hid hlen
        clear hw k2 k3 x3 hlen
        go_wp2_with fail
        refine (C4.out _ X3.out k (by omega) (by omega)).mono ?_
        rintro e w4 ⟨rfl, hb4⟩
        rw [Int.toNat_natCast]
        have X4 := Lib.hid (ext_next X3.out hb4)
        have K2 := Lib.hid (blk_next K2.out hb4)
        have K3 := Lib.hid (blk_next K3.out hb4)
        have HW4 : Hid (WrOK w4 base gw (LA ++ (unpack bs2 m).take k)) := hidI (by
          obtain ⟨v, h1, h2⟩ := HW.out
          exact ⟨v, blk_next h1 hb4, h2.kept (grown_below hb4 none) (by cases v.ownBlock <;> simp)⟩)
        have hs' := Nat.le_trans hs hb4.size
        clear hb4 j0 j1
        go_wp2_with fail
        refine (write_any base gw _ (bitOf bs2 k) 1 w4 base HW4.out h01.out (by omega) (by omega) HLN.out hgw (Nat.le_refl _) hs').mono ?_
        rintro e w5 ⟨rfl, hw5, hb5⟩
        rw [NB.out, List.append_assoc, ← TK.out] at hw5
        have HW5 := Lib.hid hw5
        have X5 := Lib.hid (X4.out.trans (hb5.mono (by omega)))
        have K2 := Lib.hid (K2.out.below hb5 (by omega))
        have K3 := Lib.hid (K3.out.below hb5 hs4)
        have hs'' := Nat.le_trans hs' hb5.size
        clear hw5 hb5
        go_wp2
        go_roundw
        case rel => exact ⟨k + 1, by omega, by go_num, HW5.out, K2.out, K3.out, X5.out, hs''⟩
        case measure => simp [intOf]; omega
      · have hkm : k = m := by omega
        subst hkm
        rw [List.take_of_length_le (by simp [unpack])] at hw
        obtain ⟨v3, hblk3, hown3⟩ := hw
        generalize LA ++ unpack bs2 k = l at hblk3 hown3 HS
        obtain ⟨A3, c3', rfl, _⟩ := (own_slice hown3).2
        have e0 : wr.cell? ⟨gw, 0, none⟩ = some (.slice A3 (pack l).length c3') := by rw [hblk3.cell]; rfl
        have e1 : wr.cell? ⟨gw, 1, none⟩ = some (.int .i64 (l.length : Nat)) := by rw [hblk3.cell]; rfl
        have HO := Lib.hid hown3
        have j0 : wr.cell? ⟨w.heap.size + 2, 0, none⟩ = some (.slice none 0 0) := by rw [k3.cell]; rfl
        have j1 : wr.cell? ⟨w.heap.size + 2, 1, none⟩ = some (.int .i64 0) := by rw [k3.cell]; rfl
        have j2 := k3.frozen 0
        have j3 := k3.frozen 1
        clear hblk3 hown3 k2 k3 x3
        go_wp2
        refine bodyPost_ret (v := .tuple #[.agg #[.slice A3 (pack l).length c3', .int .i64 (l.length : Nat)], .int .i64 0]) (by simp [results, Try.results16, go_sem, j0, j1]) rfl ?_
        rw [HS.out]
        refine bres_ok (base := base) ?_ (by omega) ((X3.out.setCell (by simp <;> omega) _).setCell (by simp <;> omega) _)
        exact ownsRow_setCell_below (ownsRow_setCell_below HO.out (by simp; omega) _) (by simp; omega) _
end Go.Proofs.Ytkbfldgebcpigaa
