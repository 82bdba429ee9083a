/- The walk of the reference's Append. -/
import Derived.Test.YtkbfldgebcpigaaBitsK
namespace Go.Proofs.Ytkbfldgebcpigaa
open Go.RowKit

theorem and_shift (value s : Nat) (hv : value < 16777216) : bits .and .i64 (((value : Nat) : Int) / 2 ^ s) 1 = ((value / 2 ^ s % 2 : Nat) : Int) := by
  have e : ((value : Nat) : Int) / 2 ^ s = ((value / 2 ^ s : Nat) : Int) := by push_cast; rfl
  have h1 : value / 2 ^ s ≤ value := Nat.div_le_self _ _
  rw [e, and_one_i64 _ (by omega)]
set_option maxHeartbeats 2000000 in
theorem rappend_any (A : Option Addr) (n c : Nat) (len : Int) (bs : List Nat) (v m : Int) (w : World) (hr : Rd w w.heap.size A (u8s bs)) (hl : bs.length = n) (hn : n ≤ 140737488355328) (hB : Bytes bs) (hlen : I64 len) (hv : I64 v) (hm : I64 m) :
    Calls Try.prog 22 #[.agg #[.slice A n c, .int .i64 len], .int .i64 v, .int .i64 m] w fun e w' => BRes w w' e (appS bs len v m) := by
  obtain ⟨i0, hi, hz0, hz1, hz2⟩ := info_parts info_int
  have C1 := Lib.hid (fun (W : World) (hb : Below w.heap.size w W) => rvalid_any A n c len bs W (rd_ext hr hb) hl hn hB hlen)
  have C2 := Lib.hid (fun (k : Nat) (hk : k ≤ 40000) (hk8 : k ≤ 8 * n) (W : World) (hb : Below w.heap.size w W) => rall_any A n c k bs W (rd_ext hr hb) hl hn hB hk hk8)
  have HB := Lib.hid hB
  have HLB := Lib.hid hl
  obtain ⟨v1, v2⟩ := hv
  obtain ⟨m1, m2⟩ := hm
  have HX := Lib.hid (ext_alloc (below_box w (.cells #[.slice A n c, .int .i64 len] 28)) (.cells #[.slice none 0 0, .int .i64 0] 28))
  have K1 := Lib.hid ((Blk.new w 28 #[.slice A n c, .int .i64 len]).alloc (.cells #[.slice none 0 0, .int .i64 0] 28))
  have K2 := Lib.hid (blk_new (W := w.alloc (.cells #[.slice A n c, .int .i64 len] 28)) (g := w.heap.size + 1) 28 #[.slice none 0 0, .int .i64 0] (by simp))
  clear hr hl hB
  by_cases c1 : validB bs len = false
  · have HS : Hid (appS bs len v m = (7, [])) := hidI (by unfold appS; rw [if_pos c1])
    go_enter Try.func22, Try.ntmps22
    go_wp2_with fail
    refine (C1.out _ HX.out).mono ?_
    rintro e w1 ⟨rfl, hb1⟩
    have q := blk_next K2.out hb1
    have j0 : w1.cell? ⟨w.heap.size + 1, 0, none⟩ = some (.slice none 0 0) := by rw [q.cell]; rfl
    have j1 : w1.cell? ⟨w.heap.size + 1, 1, none⟩ = some (.int .i64 0) := by rw [q.cell]; rfl
    have j2 := q.frozen 0
    have j3 := q.frozen 1
    have X1 := Lib.hid (ext_next HX.out hb1)
    clear hb1 q
    go_wp2
    refine bodyPost_ret (v := .tuple #[.agg #[.slice none 0 0, .int .i64 0], .int .i64 7]) (by simp [results, Try.results22, go_sem, j0, j1]) rfl ?_
    rw [HS.out]
    exact bres_err 7 ((X1.out.setCell (by simp <;> omega) _).setCell (by simp <;> omega) _)
  have c1 : validB bs len = true := by simpa using c1
  by_cases c2 : widthB m = false ∨ v < 0
  · have HS : Hid (appS bs len v m = (1, [])) := hidI (by unfold appS; rw [if_neg (by simp [c1]), if_pos (c2.imp id .inl)])
    have cc : (widthB m = false) ∨ (widthB m = true ∧ decide (v < 0) = true) := by
      rcases c2 with h | h
      · exact .inl h
      · cases hw : widthB m with
        | false => exact .inl rfl
        | true => exact .inr ⟨rfl, by simpa using h⟩
    clear c2
    rcases cc with c2 | ⟨c2, c3⟩
    all_goals
      go_enter Try.func22, Try.ntmps22
      go_wp2_with fail
      refine (C1.out _ HX.out).mono ?_
      rintro e w1 ⟨rfl, hb1⟩
      have q := blk_next K2.out hb1
      have j0 : w1.cell? ⟨w.heap.size + 1, 0, none⟩ = some (.slice none 0 0) := by rw [q.cell]; rfl
      have j1 : w1.cell? ⟨w.heap.size + 1, 1, none⟩ = some (.int .i64 0) := by rw [q.cell]; rfl
      have j2 := q.frozen 0
      have j3 := q.frozen 1
      have X1 := Lib.hid (ext_next HX.out hb1)
      clear hb1 q
      go_wp2_with (go_at_call 34; refine (rwidth_any _ _).mono ?_; rintro e w' ⟨rfl, rfl⟩)
      refine bodyPost_ret (v := .tuple #[.agg #[.slice none 0 0, .int .i64 0], .int .i64 1]) (by simp [results, Try.results22, go_sem, j0, j1]) rfl ?_
      rw [HS.out]
      exact bres_err 1 ((X1.out.setCell (by simp <;> omega) _).setCell (by simp <;> omega) _)
  obtain ⟨c2', c3⟩ := not_or.1 c2
  have c2' : widthB m = true := by simpa using c2'
  clear c2
  obtain ⟨m3, m4⟩ : 1 ≤ m ∧ m ≤ 24 := by unfold widthB at c2'; simpa using c2'
  obtain ⟨k, rfl⟩ := Int.eq_ofNat_of_zero_le (show 0 ≤ m by omega)
  obtain ⟨x, rfl⟩ := Int.eq_ofNat_of_zero_le (show 0 ≤ v by omega)
  have hp : (2 : Int) ^ k ≤ 16777216 := by
    have := Nat.pow_le_pow_right (show 0 < 2 by omega) (show k ≤ 24 by omega)
    have e : ((2 ^ k : Nat) : Int) = (2 : Int) ^ k := by push_cast; rfl
    omega
  have hp0 : (0 : Int) < 2 ^ k := Int.pow_pos (by omega)
  have hwp : wrap64 ((2 : Int) ^ k) = 2 ^ k := IntWalk.wrap64_in _ ⟨by omega, by omega⟩
  have d3 : decide (((x : Nat) : Int) < 0) = false := by simp
  obtain ⟨l1, l2, l3, -⟩ := validB_iff.1 c1
  by_cases c4 : (2 : Int) ^ k ≤ x
  · have HS : Hid (appS bs len x k = (1, [])) := hidI (by unfold appS; rw [if_neg (by simp [c1]), if_pos (.inr (.inr (by simpa using c4)))])
    have d4 : decide ((2 : Int) ^ k ≤ x) = true := by simpa using c4
    clear c4 hp hp0 l3
    go_enter Try.func22, Try.ntmps22
    go_wp2_with fail
    refine (C1.out _ HX.out).mono ?_
    rintro e w1 ⟨rfl, hb1⟩
    have q := blk_next K2.out hb1
    have j0 : w1.cell? ⟨w.heap.size + 1, 0, none⟩ = some (.slice none 0 0) := by rw [q.cell]; rfl
    have j1 : w1.cell? ⟨w.heap.size + 1, 1, none⟩ = some (.int .i64 0) := by rw [q.cell]; rfl
    have j2 := q.frozen 0
    have j3 := q.frozen 1
    have X1 := Lib.hid (ext_next HX.out hb1)
    clear hb1 q
    go_wp2_with (go_at_call 34; refine (rwidth_any _ _).mono ?_; rintro e w' ⟨rfl, rfl⟩)
    refine bodyPost_ret (v := .tuple #[.agg #[.slice none 0 0, .int .i64 0], .int .i64 1]) (by simp [results, Try.results22, go_sem, j0, j1]) rfl ?_
    rw [HS.out]
    exact bres_err 1 ((X1.out.setCell (by simp <;> omega) _).setCell (by simp <;> omega) _)
  have d4 : decide ((2 : Int) ^ k ≤ x) = false := by simpa using c4
  have hx24 : x < 16777216 := by omega
  by_cases c5 : 40000 < len + k
  · have HS : Hid (appS bs len x k = (2, [])) := hidI (by unfold appS; rw [if_neg (by simp [c1]), if_neg (by simp [c2']; omega), if_pos c5])
    clear c4 hp hp0 l3
    go_enter Try.func22, Try.ntmps22
    go_wp2_with fail
    refine (C1.out _ HX.out).mono ?_
    rintro e w1 ⟨rfl, hb1⟩
    have q := blk_next K2.out hb1
    have q1 := blk_next K1.out hb1
    have i1 : w1.cell? ⟨w.heap.size, 1, none⟩ = some (.int .i64 len) := by rw [q1.cell]; rfl
    have j0 : w1.cell? ⟨w.heap.size + 1, 0, none⟩ = some (.slice none 0 0) := by rw [q.cell]; rfl
    have j1 : w1.cell? ⟨w.heap.size + 1, 1, none⟩ = some (.int .i64 0) := by rw [q.cell]; rfl
    have j2 := q.frozen 0
    have j3 := q.frozen 1
    have X1 := Lib.hid (ext_next HX.out hb1)
    clear hb1 q q1
    go_wp2_with (go_at_call 34; refine (rwidth_any _ _).mono ?_; rintro e w' ⟨rfl, rfl⟩)
    refine bodyPost_ret (v := .tuple #[.agg #[.slice none 0 0, .int .i64 0], .int .i64 2]) (by simp [results, Try.results22, go_sem, j0, j1]) rfl ?_
    rw [HS.out]
    exact bres_err 2 ((X1.out.setCell (by simp <;> omega) _).setCell (by simp <;> omega) _)
  · obtain ⟨N, rfl⟩ := Int.eq_ofNat_of_zero_le l1
    have HS : Hid (appS bs N x k = (0, unpack bs N ++ nb x k k)) := hidI (by unfold appS; rw [if_neg (by simp [c1]), if_neg (by simp [c2']; omega), if_neg c5]; simp)
    have h01 := Lib.hid (b01_unpack bs N)
    have hN8 : N ≤ 8 * n := by rw [HLB.out] at l3; omega
    have hNl : Hid ((unpack bs N).length = N) := hidI (by simp [unpack])
    clear c4 hp hp0 l3
    go_enter Try.func22, Try.ntmps22
    go_wp2_with fail
    refine (C1.out _ HX.out).mono ?_
    rintro e w1 ⟨rfl, hb1⟩
    have q1 := blk_next K1.out hb1
    have K2 := Lib.hid (blk_next K2.out hb1)
    have i0' : w1.cell? ⟨w.heap.size, 0, none⟩ = some (.slice A n c) := by rw [q1.cell]; rfl
    have i1 : w1.cell? ⟨w.heap.size, 1, none⟩ = some (.int .i64 (N : Nat)) := by rw [q1.cell]; rfl
    have X1 := Lib.hid (ext_next HX.out hb1)
    have s1 := K2.out.lt
    clear hb1 q1
    go_wp2_with (go_at_call 34; refine (rwidth_any _ _).mono ?_; rintro e w' ⟨rfl, rfl⟩)
    refine (C2.out N (by omega) hN8 _ X1.out).mono ?_
    rintro e w2 ⟨v2', rfl, hown, hb2⟩
    have K2 := Lib.hid (blk_next K2.out hb2)
    have X2 := Lib.hid (ext_next X1.out hb2)
    have HO := Lib.hid hown
    have hs2 := hb2.size
    clear hown hb2 i0' i1
    generalize hbase : w1.heap.size = base at HO s1 hs2
    clear hbase
    go_wp2
    go_loopw [8, 9] (fun v i wr => ∃ j : Nat, j ≤ k ∧ i = .int .i64 ((k : Int) - 1 - j) ∧ wr.ownsRow base 3 1 v (N + j) (i64s (unpack bs N ++ nb x k j)) ∧ Blk wr (w.heap.size + 1) 28 #[.slice none 0 0, .int .i64 0] ∧ Below w.heap.size w wr ∧ base ≤ wr.heap.size) (fun _ i _ => (intOf i + 1).toNat)
    case atStart => exact ⟨0, Nat.zero_le _, by simp, by simpa [nb] using HO.out, K2.out, X2.out, hs2⟩
    case round =>
      obtain ⟨j, hj, rfl, hown, k2, x2, hs⟩ := hrel
      clear HO K2 X2
      obtain ⟨-, A4, c4, rfl, -, -, -⟩ := own_slice hown
      have K2 := Lib.hid k2
      have X2 := Lib.hid x2
      have HO := Lib.hid hown
      clear x2 hown
      by_cases hlt : j < k
      · have NS := Lib.hid (nb_succ x k j)
        have AS := Lib.hid (and_shift x (k - 1 - j) hx24)
        have hxb : x / 2 ^ (k - 1 - j) % 2 ≤ 1 := by omega
        clear k2
        go_wp2_with (at_builtin; refine wpList_append_own _ rfl (.tmp 43) (.tmp 49) 22 rfl base 3 i0 (.int .i64 0) 1 8 Try.underlying22 hi hz0 hz1 hz2 rfl (by decide) _ _ _ rfl (HO.out.alloc _) ⟨wr.heap.size, 0, none⟩ 1 1 [.int .i64 (bits .and .i64 (((x : Nat) : Int) / 2 ^ (k - 1 - j)) 1)] rfl rfl ?c1 ?c2 ?c3 ?c4 ?c5 ?_)
        case c1 =>
          intro j u hj
          match j, hj with
          | 0, hj => simp at hj; subst hj; simp [Addr.add]
        case c2 => intro u hu; simp at hu; subst hu; rfl
        case c3 => unfold maxLen; omega
        case c4 => omega
        case c5 => simp; omega
        intro v1 w4 hown4 hgrow4 _
        have KK := Lib.hid ((K2.out.alloc (.cells #[.int .i64 (bits .and .i64 (((x : Nat) : Int) / 2 ^ (k - 1 - j)) 1)] 3)).grown hgrow4 (fun e => own_blk_ne HO.out K2.out (by decide) e.symm))
        have XX := Lib.hid ((ext_alloc X2.out (.cells #[.int .i64 (bits .and .i64 (((x : Nat) : Int) / 2 ^ (k - 1 - j)) 1)] 3)).grown hgrow4 (by have := X2.out.size; simp; omega) (fun g hg => by have := (HO.out.lt _ hg).1; omega))
        have HO4 := Lib.hid hown4
        have hs4 : base ≤ w4.heap.size := Nat.le_trans hs (Nat.le_trans (by simp) hgrow4.size)
        clear hown4 hgrow4
        go_wp2
        go_roundw
        case rel =>
          refine ⟨j + 1, by omega, by congr 1; omega, ?_, KK.out, XX.out, hs4⟩
          rw [NS.out, ← List.append_assoc, i64s_snoc, ← AS.out]
          exact HO4.out
        case measure => simp [intOf]; omega
      · have hjk : j = k := by omega
        subst hjk
        have HL : Hid ((unpack bs N ++ nb x j j).length = N + j) := hidI (by rw [List.length_append, hNl.out, length_nb])
        have H01 : Hid (B01 (unpack bs N ++ nb x j j)) := hidI (b01_append h01.out (b01_nb x j j))
        generalize unpack bs N ++ nb x j j = L at HO HL H01 HS
        clear k2
        go_wp2_with fail
        refine (of_any A4 (N + j) c4 L wr (Rd.of_own HO.out) HL.out (by omega) H01.out).mono ?_
        rintro e w5 ⟨A5, n5, c5, rfl, hown5, hb5⟩
        have q := blk_next K2.out hb5
        have j0 : w5.cell? ⟨w.heap.size + 1, 0, none⟩ = some (.slice none 0 0) := by rw [q.cell]; rfl
        have j1 : w5.cell? ⟨w.heap.size + 1, 1, none⟩ = some (.int .i64 0) := by rw [q.cell]; rfl
        have j2 := q.frozen 0
        have j3 := q.frozen 1
        have X5 := Lib.hid (ext_next X2.out hb5)
        have HO5 := Lib.hid (own_lower hown5 hs)
        clear q hb5 hown5
        go_wp2
        refine bodyPost_ret (v := .tuple #[.agg #[.slice A5 n5 c5, .int .i64 (N + j : Nat)], .int .i64 0]) (by simp [results, Try.results22, go_sem, j0, j1]) rfl ?_
        rw [HS.out, ← HL.out]
        refine bres_ok (base := base) ?_ (by omega) ((X5.out.setCell (by simp <;> omega) _).setCell (by simp <;> omega) _)
        exact ownsRow_setCell_below (ownsRow_setCell_below HO5.out (by simp; omega) _) (by simp; omega) _
end Go.Proofs.Ytkbfldgebcpigaa
