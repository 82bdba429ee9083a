/- Walks: score.of at score 2. -/
import Derived.Test.YtjllgdpnbllnjaaScD
namespace Go.Proofs.Ytjllgdpnbllnjaa
open Go.RowKit

set_option maxHeartbeats 4000000 in
theorem of2_any (h a m o : Int) (w : World) :
    Calls Try.prog 40 #[.int .i64 2, .agg #[.int .i64 h, .int .i64 a, .int .i64 m, .int .i64 o]] w fun e w' => FRes w w' e (ofS 2 h a m o) := by
  go_enter Try.func40, Try.ntmps40
  go_wp2
  have X := Lib.hid (ext_alloc (ext_alloc (below_box w (.cells #[.int .i64 h, .int .i64 a, .int .i64 m, .int .i64 o] 23)) (.cells #[.int .i64 0, .int .i64 0] 28)) (.cells #[.int .i64 h, .int .i64 a, .int .i64 m, .int .i64 o] 3))
  have K1 := Lib.hid (((Blk.new w 23 #[.int .i64 h, .int .i64 a, .int .i64 m, .int .i64 o]).alloc (.cells #[.int .i64 0, .int .i64 0] 28)).alloc (.cells #[.int .i64 h, .int .i64 a, .int .i64 m, .int .i64 o] 3))
  have K2 := Lib.hid ((blk_new (W := w.alloc (.cells #[.int .i64 h, .int .i64 a, .int .i64 m, .int .i64 o] 23)) (g := w.heap.size + 1) 28 #[.int .i64 0, .int .i64 0] (by simp)).alloc (.cells #[.int .i64 h, .int .i64 a, .int .i64 m, .int .i64 o] 3))
  have K3 := Lib.hid (blk_new (W := (w.alloc (.cells #[.int .i64 h, .int .i64 a, .int .i64 m, .int .i64 o] 23)).alloc (.cells #[.int .i64 0, .int .i64 0] 28)) (g := w.heap.size + 1 + 1) 3 #[.int .i64 h, .int .i64 a, .int .i64 m, .int .i64 o] (by simp))
  generalize (((w.alloc (.cells #[.int .i64 h, .int .i64 a, .int .i64 m, .int .i64 o] 23)).alloc (.cells #[.int .i64 0, .int .i64 0] 28)).alloc (.cells #[.int .i64 h, .int .i64 a, .int .i64 m, .int .i64 o] 3)) = W at X K1 K2 K3 ⊢
  go_loop [20, 7] (fun i _ => ∃ k : Nat, k ≤ 4 ∧ i = .int .i64 k ∧ Hid (∀ j, j < k → inB ([h, a, m, o].getD j 0) 0 10000 = true)) (fun i _ => 4 - (intOf i).toNat)
  case atStart => exact ⟨0, by omega, rfl, hidI (fun j hj => absurd hj (by omega))⟩
  case round =>
    obtain ⟨k, hk, rfl, HK⟩ := hrel
    have r0 : W.cell? ⟨w.heap.size + 1, 0, none⟩ = some (.int .i64 0) := by rw [K2.out.cell]; rfl
    have r1 : W.cell? ⟨w.heap.size + 1, 1, none⟩ = some (.int .i64 0) := by rw [K2.out.cell]; rfl
    have r2 := K2.out.frozen 0
    have r3 := K2.out.frozen 1
    by_cases hk4 : k < 4
    · have hx : W.cell? ⟨w.heap.size + 1 + 1, k, none⟩ = some (.int .i64 ([h, a, m, o].getD k 0)) := by
        rw [K3.out.cell]
        have hj' : k = 0 ∨ k = 1 ∨ k = 2 ∨ k = 3 := by omega
        rcases hj' with rfl | rfl | rfl | rfl <;> rfl
      have HN : Hid (inB ([h, a, m, o].getD k 0) 0 10000 = false → ofS 2 h a m o = (1, 0, 0)) := hidI (fun hh => by unfold ofS; rw [if_pos (allIn_not hk4 hh)])
      have HY : Hid (inB ([h, a, m, o].getD k 0) 0 10000 = true → ∀ j, j < k + 1 → inB ([h, a, m, o].getD j 0) 0 10000 = true) := hidI (fun hh j hj => by
        rcases Nat.lt_or_ge j k with h1 | h1
        · exact HK.out j h1
        · have : j = k := by omega
          subst this; exact hh)
      generalize [h, a, m, o].getD k 0 = x at hx HN HY
      cases hb : inB x 0 10000 with
      | true =>
        have HY' := Lib.hid (HY.out hb)
        clear HN HY
        go_wp2_with (go_at_call 46; refine (within_any _ _ _ _).mono ?_; rintro e w' ⟨rfl, rfl⟩)
        go_round
        case rel => exact ⟨k + 1, by omega, by go_num, HY'⟩
        case measure => simp [intOf]; omega
      | false =>
        have HN' := Lib.hid (HN.out hb)
        clear HN HY
        go_wp2_with (go_at_call 46; refine (within_any _ _ _ _).mono ?_; rintro e w' ⟨rfl, rfl⟩)
        refine bodyPost_ret (v := .tuple #[.agg #[.int .i64 0, .int .i64 0], .int .i64 1]) (by simp [results, Try.results40, go_sem, r0, r1]) rfl ?_
        rw [HN'.out]
        exact ⟨rfl, (X.out.setCell (by simp <;> omega) _).setCell (by simp <;> omega) _⟩
    · have hk' : k = 4 := by omega
      subst hk'
      have HA := Lib.hid (allIn_of HK.out)
      have c0 : W.cell? ⟨w.heap.size, 0, none⟩ = some (.int .i64 h) := by rw [K1.out.cell]; rfl
      have c1 : W.cell? ⟨w.heap.size, 1, none⟩ = some (.int .i64 a) := by rw [K1.out.cell]; rfl
      have c2 : W.cell? ⟨w.heap.size, 2, none⟩ = some (.int .i64 m) := by rw [K1.out.cell]; rfl
      have c3 : W.cell? ⟨w.heap.size, 3, none⟩ = some (.int .i64 o) := by rw [K1.out.cell]; rfl
      have hA := HA.out
      unfold allIn at hA
      simp only [Bool.and_eq_true] at hA
      obtain ⟨⟨⟨g1, g2⟩, g3⟩, g4⟩ := hA
      have B1 := Lib.hid (inB_iff.1 g1)
      have B2 := Lib.hid (inB_iff.1 g2)
      have B3 := Lib.hid (inB_iff.1 g3)
      have B4 := Lib.hid (inB_iff.1 g4)
      have CB : Hid (∀ V, Below W.heap.size W V → V.cell? ⟨w.heap.size, 0, none⟩ = some (.int .i64 h) ∧ V.cell? ⟨w.heap.size, 1, none⟩ = some (.int .i64 a) ∧ V.cell? ⟨w.heap.size, 2, none⟩ = some (.int .i64 m) ∧ V.cell? ⟨w.heap.size, 3, none⟩ = some (.int .i64 o)) := hidI (fun V hV => by
        rw [(blk_next K1.out hV).cell, (blk_next K1.out hV).cell, (blk_next K1.out hV).cell, (blk_next K1.out hV).cell]; exact ⟨rfl, rfl, rfl, rfl⟩)
      have HS : Hid (ofS 2 h a m o = if scDen 2 h a m o = 0 then (9, 0, 0) else redS (scNum 2 h a m o) (scDen 2 h a m o)) := hidI (by unfold ofS; rw [if_neg (by rw [HA.out]; simp)])
      have hltW := K1.out.lt
      clear g1 g2 g3 g4 r0 r1 r2 r3 HK
      go_wp2_with fail
      go_region_with (first
          | (go_at_call 58
             refine (scores_any _).mono ?_
             rintro e w1 ⟨rfl, rfl⟩)
          | (go_at_call 67
             refine (sc3_any h a m o _ B1.out B2.out B3.out B4.out).mono ?_
             rintro e w2 ⟨rfl, hb2⟩
             have HB2 := Lib.hid (ext_next (a := W) (by repeat (first | exact Below.refl _ _ | refine ext_drew ?_ | refine ext_alloc ?_ _)) hb2)
             clear hb2))
      all_goals
        have Q2 := Lib.hid (blk_next K2.out HB2.out)
        have X2 := Lib.hid (ext_next X.out HB2.out)
        have r0 : w2.cell? ⟨w.heap.size + 1, 0, none⟩ = some (.int .i64 0) := by rw [Q2.out.cell]; rfl
        have r1 : w2.cell? ⟨w.heap.size + 1, 1, none⟩ = some (.int .i64 0) := by rw [Q2.out.cell]; rfl
        have r2 := Q2.out.frozen 0
        have r3 := Q2.out.frozen 1
        clear c0 c1 c2 c3 CB HB2 K1 K3
        by_cases hd : scDen 2 h a m o = 0
        · have HS2 : Hid (ofS 2 h a m o = (9, 0, 0)) := hidI (by rw [HS.out, if_pos hd])
          have hdb : ((h + a + m) == 0) = true := by simpa [scDen] using hd
          clear hd HS
          go_wp2
          refine bodyPost_ret (v := .tuple #[.agg #[.int .i64 0, .int .i64 0], .int .i64 9]) (by simp [results, Try.results40, go_sem, r0, r1]) rfl ?_
          rw [HS2.out]
          exact ⟨rfl, (X2.out.setCell (by simp <;> omega) _).setCell (by simp <;> omega) _⟩
        · have HS2 : Hid (ofS 2 h a m o = redS (scNum 2 h a m o) (scDen 2 h a m o)) := hidI (by rw [HS.out, if_neg hd])
          have hdb : ((h + a + m) == 0) = false := by simpa [scDen] using hd
          clear hd HS
          go_wp2_with fail
          refine (reduce_any (scNum 2 h a m o) (scDen 2 h a m o) _ (num_bd 2 B1.out B2.out B3.out B4.out) (den_bd 2 B1.out B2.out B3.out B4.out)).mono ?_
          rintro e w3 ⟨rfl, hb3⟩
          have q := blk_next Q2.out hb3
          have r0 : w3.cell? ⟨w.heap.size + 1, 0, none⟩ = some (.int .i64 0) := by rw [q.cell]; rfl
          have r1 : w3.cell? ⟨w.heap.size + 1, 1, none⟩ = some (.int .i64 0) := by rw [q.cell]; rfl
          have r2 := q.frozen 0
          have r3 := q.frozen 1
          have X3 := Lib.hid (ext_next X2.out hb3)
          clear hb3 q
          generalize redS (scNum 2 h a m o) (scDen 2 h a m o) = r at HS2 ⊢
          obtain ⟨rc, rn, rd⟩ := r
          go_wp2
          refine bodyPost_ret (v := .tuple #[.agg #[.int .i64 rn, .int .i64 rd], .int .i64 rc]) (by simp [results, Try.results40, go_sem, r0, r1]) rfl ?_
          rw [HS2.out]
          exact ⟨rfl, (X3.out.setCell (by simp <;> omega) _).setCell (by simp <;> omega) _⟩
end Go.Proofs.Ytjllgdpnbllnjaa
