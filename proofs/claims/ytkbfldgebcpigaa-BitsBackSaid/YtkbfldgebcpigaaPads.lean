/- BitsPads: for every list of numbers the law BitsPads returns true: Pad adds fewer than eight bits, all 0, and changes nothing before them. -/
import Derived.Test.YtkbfldgebcpigaaBitsH
namespace Go.Proofs.Ytkbfldgebcpigaa
open Go.RowKit

theorem info_int : (Try.prog.info? 3).map (fun i => (i.zero, i.size, i.bytes)) = some (some (.int .i64 0), 1, 8) := by kernel_rfl
def padL (l : List Nat) : List Nat := unpack (pack l) (8 * (pack l).length)
theorem length_padL (l : List Nat) : (padL l).length = 8 * ((l.length + 7) / 8) := by unfold padL; simp [unpack, length_pack]
theorem pack_padL {l : List Nat} (h : B01 l) : pack (padL l) = pack l := unpack_all (bytes_pack h)
theorem padS_pack {l : List Nat} (h : l.length ≤ 40000) : padS (pack l) l.length = (0, padL l) := by
  unfold padS; rw [if_neg (by rw [valid_pack h]; simp)]; rfl
theorem b01_padL (l : List Nat) : B01 (padL l) := b01_unpack _ _
theorem padL_padL (l : List Nat) : padL (padL l) = padL l := by
  have h1 := unpack_pack (b01_padL l)
  have h2 : padL (padL l) = unpack (pack (padL l)) (8 * (pack (padL l)).length) := rfl
  rw [h2, length_pack, length_padL, show 8 * ((8 * ((l.length + 7) / 8) + 7) / 8) = 8 * ((l.length + 7) / 8) by omega, ← length_padL, h1]
theorem sameB_self (n : Int) (l : List Nat) : sameB n n l l = true := by unfold sameB eqB; simp

set_option maxHeartbeats 1000000 in
theorem pads_any (A : Option Addr) (n c : Nat) (zs : List Int) (w : World) (hr : Rd w w.heap.size A (zs.map (Value.int .i64))) (hl : zs.length = n) (hnc : n ≤ c) (hc : c ≤ 9223372036854775807) (hA : A = none → c = 0) (hz : ∀ z ∈ zs, I64 z) :
    Calls Try.prog 3 #[.slice A n c] w fun e w' => e = .returned (.bool true) ∧ Below w.heap.size w w' := by
  obtain ⟨i0, hi, hz0, hz1, hz2⟩ := info_parts info_int
  go_enter Try.func3, Try.ntmps3
  go_wp2_with fail
  refine (new_any A n c zs w hr hl hnc hc hA hz).mono ?_
  rintro e w1 ⟨rfl, hs1, hb1⟩
  have X1 := Lib.hid hb1
  have HS1 := Lib.hid hs1
  clear hb1 hs1 hr hl hz hA
  go_wp2_with fail
  refine (srcN_any w.heap.size 50 _ HS1.out (by omega) (by omega)).mono ?_
  rintro e w2 ⟨⟨m, ⟨hm0, hm1⟩, rfl⟩, hs2, hg2⟩
  have X2 := Lib.hid (X1.out.grown hg2 X1.out.size (fun k hk => by cases hk; omega))
  have HS2 := Lib.hid hs2
  clear hs2 hg2
  go_wp2
  go_loopw [4, 5] (fun v i wr => ∃ (L : List Nat) (j : Nat), B01 L ∧ L.length + j ≤ 50 ∧ i = .int .i64 j ∧ wr.ownsRow (w.heap.size + 1) 3 1 v L.length (i64s L) ∧ SrcOK wr w.heap.size ∧ Below w.heap.size w wr) (fun _ i _ => (intOf i).toNat)
  case atStart => exact ⟨[], m.toNat, fun i => by simp, by simp; omega, by rw [Int.toNat_of_nonneg hm0], World.ownsRow_nil _ _ _ _, HS2.out, X2.out⟩
  case round =>
    obtain ⟨L, j, h01, hLj, rfl, hown, hs, hb⟩ := hrel
    obtain ⟨-, A4, c4, rfl, -, -, -⟩ := own_slice hown
    have HO := Lib.hid hown
    have HS := Lib.hid hs
    have HB := Lib.hid hb
    have H01 := Lib.hid h01
    clear HS1 HS2 X1 X2 hown hs hb h01
    by_cases hj : 0 < j
    · have hj' : (0 : Int) < j := by omega
      go_wp2_with fail
      refine (srcN_any w.heap.size 2 _ HS.out (by omega) (by omega)).mono ?_
      rintro e w3 ⟨⟨x, ⟨hx0, hx1⟩, rfl⟩, hs3, hg3⟩
      have HO3 := Lib.hid (HO.out.kept hg3 (.inr (fun e => by have := (HO.out.lt _ e).1; omega)))
      have HB3 := Lib.hid (HB.out.grown hg3 HB.out.size (fun k hk => by cases hk; omega))
      have HS3 := Lib.hid hs3
      have hlt3 := hs3.lt
      clear hs3 hg3
      obtain ⟨y, rfl⟩ := Int.eq_ofNat_of_zero_le hx0
      go_wp2_with (at_builtin; refine wpList_append_own _ rfl (.tmp 21) (.tmp 24) 22 rfl (w.heap.size + 1) 3 i0 (.int .i64 0) 1 8 Try.underlying22 hi hz0 hz1 hz2 rfl (by decide) _ _ _ rfl (HO3.out.alloc _) ⟨w3.heap.size, 0, none⟩ 1 1 [.int .i64 y] rfl rfl ?c1 ?c2 ?c3 ?c4 ?c5 ?_)
      case c1 =>
        intro j u hj
        match j, hj with
        | 0, hj => simp at hj; subst hj; simp [Addr.add]
      case c2 => intro u hu; simp at hu; subst hu; rfl
      case c3 => unfold maxLen; omega
      case c4 => omega
      case c5 => simp; omega
      intro v1 w4 hown4 hgrow4 _
      have HS4 := Lib.hid ((HS3.out.alloc (.cells #[.int .i64 y] 3)).grown hgrow4 (fun k hk => by have := (HO3.out.lt _ hk).1; omega))
      have HB4 := Lib.hid ((HB3.out.alloc HB3.out.size (.cells #[.int .i64 y] 3)).grown hgrow4 (by have := HB3.out.size; simp; omega) (fun k hk => by have := (HO3.out.lt _ hk).1; omega))
      have HO4 := Lib.hid hown4
      clear hown4 hgrow4
      go_wp2
      go_roundw
      case rel =>
        refine ⟨L ++ [y], j - 1, b01_append H01.out (b01_one (by omega)), by simp; omega, by congr 1; omega, ?_, HS4.out, HB4.out⟩
        have := HO4.out
        simpa [i64s] using this
      case measure => simp [intOf]; omega
    · have hj0 : j = 0 := by omega
      subst hj0
      rw [show (((0 : Nat)) : Int) = (0 : Int) from rfl]
      have hL50 : L.length ≤ 50 := by omega
      have LP := Lib.hid (length_padL L)
      have PP := Lib.hid (pack_padL H01.out)
      have SP := Lib.hid (padS_pack (l := L) (by omega))
      have SP2 := Lib.hid (padS_pack (l := padL L) (by rw [length_padL]; omega))
      have PP2 := Lib.hid (padL_padL L)
      have VP := Lib.hid (valid_pack (l := padL L) (by rw [length_padL]; omega))
      have LK := Lib.hid (length_pack L)
      have GB : Hid (∀ i, i < (padL L).length → bitOf (pack L) i = if i < L.length then L.getD i 0 else 0) := hidI (fun i hi => by
        rw [bitOf_pack H01.out]
        split
        · rfl
        · next h => exact getD_out (by omega))
      have BY := Lib.hid (bytes_pack H01.out)
      go_wp2_with fail
      refine (of_any A4 L.length c4 L wr (Rd.of_own HO.out) rfl (by omega) H01.out).mono ?_
      rintro e w3 ⟨A5, n5, c5, rfl, hown5, hb5⟩
      have N5 := Lib.hid (show (pack L).length = n5 by have := hown5.1; rw [length_u8s] at this; omega)
      have R5 := Lib.hid (rd_alloc (Rd.of_own hown5) (.cells #[.slice A5 n5 c5, .int .i64 (L.length : Nat)] 28))
      have HR4 := Lib.hid (rd_alloc (rd_next (Rd.of_own HO.out) hb5) (.cells #[.slice A5 n5 c5, .int .i64 (L.length : Nat)] 28))
      have X3 := Lib.hid (ext_alloc (ext_next HB.out hb5) (.cells #[.slice A5 n5 c5, .int .i64 (L.length : Nat)] 28))
      have K3 := Lib.hid (Blk.new w3 28 #[.slice A5 n5 c5, .int .i64 (L.length : Nat)])
      clear hown5 hb5
      go_wp2_with fail
      refine (pad_any A5 n5 c5 L.length (pack L) _ R5.out N5.out (by have := N5.out; rw [LK.out] at this; omega) BY.out ⟨by omega, by omega⟩).mono ?_
      rintro e w4 hres
      rw [SP.out] at hres
      obtain ⟨A6, n6, c6, rfl, hn6, -, -, -, hr6, hb6⟩ := hres
      dsimp only at hn6 hr6
      rw [PP.out] at hn6 hr6
      obtain rfl : n6 = n5 := by rw [hn6, N5.out]
      obtain ⟨P, hP⟩ : ∃ P, P = padL L := ⟨_, rfl⟩
      rw [← hP] at LP PP SP2 PP2 VP GB
      rw [← hP]
      clear hP SP
      have R6 := Lib.hid (rd_alloc hr6 (.cells #[.slice A6 n6 c6, .int .i64 (P.length : Nat)] 28))
      have HR4 := Lib.hid (rd_alloc (rd_next HR4.out hb6) (.cells #[.slice A6 n6 c6, .int .i64 (P.length : Nat)] 28))
      have X4 := Lib.hid (ext_alloc (ext_next X3.out hb6) (.cells #[.slice A6 n6 c6, .int .i64 (P.length : Nat)] 28))
      have K3 := Lib.hid ((blk_next K3.out hb6).alloc (.cells #[.slice A6 n6 c6, .int .i64 (P.length : Nat)] 28))
      have K4 := Lib.hid (Blk.new w4 28 #[.slice A6 n6 c6, .int .i64 (P.length : Nat)])
      clear hb6 hr6 hn6
      have hPl : P.length = 8 * ((L.length + 7) / 8) := LP.out
      have hP50 : P.length ≤ 56 := by omega
      have hPL : L.length ≤ P.length := by omega
      have hPL8 : P.length < L.length + 8 := by omega
      have hP8 : ((P.length : Nat) : Int) % 8 = 0 := by omega
      have HPl := Lib.hid hPl
      have d1 : decide (P.length < L.length) = false := by simp; omega
      have d2 : decide (((L.length : Nat) : Int) + 8 ≤ (P.length : Nat)) = false := by simp; omega
      have HP8 := Lib.hid hP8
      clear hPl hP8
      go_wp2_with fail
      refine (pad_any A6 n6 c6 P.length (pack L) _ R6.out N5.out (by have := N5.out; rw [LK.out] at this; omega) BY.out ⟨by omega, by omega⟩).mono ?_
      rintro e w5 hres
      rw [← PP.out, SP2.out, PP2.out] at hres
      obtain ⟨A7, n7, c7, rfl, hn7, -, -, -, hr7, hb7⟩ := hres
      dsimp only at hn7 hr7
      rw [PP.out] at hn7 hr7
      obtain rfl : n7 = n6 := by rw [hn7, N5.out]
      have R7 := Lib.hid (rd_alloc hr7 (.cells #[.slice A7 n7 c7, .int .i64 (P.length : Nat)] 28))
      have R6 := Lib.hid (rd_alloc (rd_next R6.out hb7) (.cells #[.slice A7 n7 c7, .int .i64 (P.length : Nat)] 28))
      have HR4 := Lib.hid (rd_alloc (rd_next HR4.out hb7) (.cells #[.slice A7 n7 c7, .int .i64 (P.length : Nat)] 28))
      have X5 := Lib.hid (ext_alloc (ext_next X4.out hb7) (.cells #[.slice A7 n7 c7, .int .i64 (P.length : Nat)] 28))
      have q3 := blk_next K3.out hb7
      have q4 := blk_next K4.out hb7
      have K3 := Lib.hid (q3.alloc (.cells #[.slice A7 n7 c7, .int .i64 (P.length : Nat)] 28))
      have K4 := Lib.hid (q4.alloc (.cells #[.slice A7 n7 c7, .int .i64 (P.length : Nat)] 28))
      have K5 := Lib.hid (Blk.new w5 28 #[.slice A7 n7 c7, .int .i64 (P.length : Nat)])
      have a0 : w5.cell? ⟨w3.heap.size, 1, none⟩ = some (.int .i64 (L.length : Nat)) := by rw [q3.cell]; rfl
      have a1 : w5.cell? ⟨w4.heap.size, 0, none⟩ = some (.slice A6 n7 c6) := by rw [q4.cell]; rfl
      have a2 : w5.cell? ⟨w4.heap.size, 1, none⟩ = some (.int .i64 (P.length : Nat)) := by rw [q4.cell]; rfl
      have lt3 := q3.lt
      have lt4 := q4.lt
      clear hb7 hr7 hn7 q3 q4
      have b1 : (((P.length : Nat) : Int) % 8 != 0) = false := by rw [HP8.out]; rfl
      go_wp2_with fail
      refine (rvalid_any A6 n7 c6 P.length (pack L) _ R6.out N5.out (by have := N5.out; rw [LK.out] at this; omega) BY.out ⟨by omega, by omega⟩).mono ?_
      rintro e w6 ⟨rfl, hb6⟩
      rw [← PP.out, VP.out]
      have R7 := Lib.hid (rd_next R7.out hb6)
      have R6 := Lib.hid (rd_next R6.out hb6)
      have HR4 := Lib.hid (rd_next HR4.out hb6)
      have X6 := Lib.hid (ext_next X5.out hb6)
      have q3 := blk_next K3.out hb6
      have q4 := blk_next K4.out hb6
      have q5 := blk_next K5.out hb6
      have K3 := Lib.hid q3
      have K4 := Lib.hid q4
      have a1 : w6.cell? ⟨w4.heap.size, 0, none⟩ = some (.slice A6 n7 c6) := by rw [q4.cell]; rfl
      have a2 : w6.cell? ⟨w4.heap.size, 1, none⟩ = some (.int .i64 (P.length : Nat)) := by rw [q4.cell]; rfl
      have a3 : w6.cell? ⟨w5.heap.size, 0, none⟩ = some (.slice A7 n7 c7) := by rw [q5.cell]; rfl
      have a4 : w6.cell? ⟨w5.heap.size, 1, none⟩ = some (.int .i64 (P.length : Nat)) := by rw [q5.cell]; rfl
      clear hb6 q3 q4 q5 K5
      go_wp2_with fail
      refine (rsame_any A6 A7 n7 c6 n7 c7 P.length P.length (pack L) (pack L) _ R6.out R7.out N5.out N5.out BY.out BY.out).mono ?_
      rintro e w7 ⟨rfl, hb7⟩
      rw [sameB_self]
      have R6 := Lib.hid (rd_next R6.out hb7)
      have HR4 := Lib.hid (rd_next HR4.out hb7)
      have X7 := Lib.hid (ext_next X6.out hb7)
      have K3 := Lib.hid (blk_next K3.out hb7)
      have K4 := Lib.hid (blk_next K4.out hb7)
      have N8 : Hid (P.length = 8 * n7) := hidI (by rw [HPl.out, ← N5.out, LK.out])
      clear hb7 a0 a1 a2 a3 a4 lt3 lt4 b1
      go_wp2
      go_loopw [11, 12] (fun i _ wr => ∃ k : Nat, k ≤ P.length ∧ i = .int .i64 k ∧ Rd wr wr.heap.size A6 (u8s (pack L)) ∧ Rd wr wr.heap.size A4 (i64s L) ∧ Below w.heap.size w wr ∧ Blk wr w3.heap.size 28 #[.slice A5 n7 c5, .int .i64 (L.length : Nat)] ∧ Blk wr w4.heap.size 28 #[.slice A6 n7 c6, .int .i64 (P.length : Nat)]) (fun i _ _ => P.length - (intOf i).toNat)
      case atStart => exact ⟨0, Nat.zero_le _, rfl, R6.out, HR4.out, X7.out, K3.out, K4.out⟩
      case round =>
        obtain ⟨k, hk, rfl, r6, r4, x7, k3, k4⟩ := hrel
        have a0 : wr.cell? ⟨w3.heap.size, 1, none⟩ = some (.int .i64 (L.length : Nat)) := by rw [k3.cell]; rfl
        have a1 : wr.cell? ⟨w4.heap.size, 0, none⟩ = some (.slice A6 n7 c6) := by rw [k4.cell]; rfl
        have a2 : wr.cell? ⟨w4.heap.size, 1, none⟩ = some (.int .i64 (P.length : Nat)) := by rw [k4.cell]; rfl
        have R6 := Lib.hid r6
        have R4 := Lib.hid r4
        have X8 := Lib.hid x7
        have K3 := Lib.hid k3
        have K4 := Lib.hid k4
        clear r6 x7 k3 k4
        by_cases hlt : k < P.length
        · have hw := GB.out k hlt
          have h8 : (k : Int) < 8 * (n7 : Int) := by have := N8.out; omega
          by_cases hkl : k < L.length
          · rw [if_pos hkl] at hw
            have HW := Lib.hid hw
            obtain ⟨b, o, rfl, -, hcl⟩ := r4.at_ (k := k) (by rw [length_i64s]; exact hkl)
            have hx := hcl k _ (i64s_at L k hkl)
            clear hw r4 hcl
            go_wp2_with fail
            refine (at_any A6 n7 c6 P.length k (pack L) _ R6.out N5.out (by have := N5.out; rw [LK.out] at this; omega) BY.out (by omega) h8).mono ?_
            rintro e w9 ⟨rfl, hb9⟩
            rw [Int.toNat_natCast, HW.out]
            have R6 := Lib.hid (rd_next R6.out hb9)
            have R4 := Lib.hid (rd_next R4.out hb9)
            have X9 := Lib.hid (ext_next X8.out hb9)
            have K3 := Lib.hid (blk_next K3.out hb9)
            have K4 := Lib.hid (blk_next K4.out hb9)
            clear hb9 a0 a1 a2 hx
            go_wp2
            go_roundw
            case rel => exact ⟨k + 1, by omega, by go_num, R6.out, R4.out, X9.out, K3.out, K4.out⟩
            case measure => simp [intOf]; omega
          · rw [if_neg hkl] at hw
            have HW := Lib.hid hw
            clear hw r4
            go_wp2_with fail
            refine (at_any A6 n7 c6 P.length k (pack L) _ R6.out N5.out (by have := N5.out; rw [LK.out] at this; omega) BY.out (by omega) h8).mono ?_
            rintro e w9 ⟨rfl, hb9⟩
            rw [Int.toNat_natCast, HW.out]
            have R6 := Lib.hid (rd_next R6.out hb9)
            have R4 := Lib.hid (rd_next R4.out hb9)
            have X9 := Lib.hid (ext_next X8.out hb9)
            have K3 := Lib.hid (blk_next K3.out hb9)
            have K4 := Lib.hid (blk_next K4.out hb9)
            clear hb9 a0 a1 a2
            go_wp2
            go_roundw
            case rel => exact ⟨k + 1, by omega, by go_num, R6.out, R4.out, X9.out, K3.out, K4.out⟩
            case measure => simp [intOf]; omega
        · have hge : P.length ≤ k := by omega
          clear r4
          go_wp2_with fail
          refine (awake_any _).mono ?_
          rintro e w9 ⟨rfl, hb9⟩
          have X9 := Lib.hid (ext_next X8.out hb9)
          clear hb9 a0 a1 a2
          go_wp2
          go_ret
          exact ⟨rfl, X9.out⟩
end Go.Proofs.Ytkbfldgebcpigaa
