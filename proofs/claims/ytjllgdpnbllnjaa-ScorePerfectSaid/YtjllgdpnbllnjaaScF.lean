/- Walks: the reference's ratio; the eight scores. -/
import Derived.Test.YtjllgdpnbllnjaaScD
import Derived.Test.YtjllgdpnbllnjaaScE1
import Derived.Test.YtjllgdpnbllnjaaScE2
import Derived.Test.YtjllgdpnbllnjaaScE3
namespace Go.Proofs.Ytjllgdpnbllnjaa
open Go.RowKit

def ratS (h a m o num den : Int) : Int × Int × Int :=
  if allIn h a m o = false then (1, 0, 0) else if den = 0 then (9, 0, 0) else redS num den
theorem index4 (h a m o : Int) (k : Nat) (hk : k < 4) (w : World) : (Instr.index 85 (.agg #[.int .i64 h, .int .i64 a, .int .i64 m, .int .i64 o]) (.int .i64 (k : Nat))).run Try.prog w = .ok (.int .i64 ([h, a, m, o].getD k 0)) w := by
  have hj' : k = 0 ∨ k = 1 ∨ k = 2 ∨ k = 3 := by omega
  rcases hj' with rfl | rfl | rfl | rfl <;> rfl

set_option maxHeartbeats 1000000 in
theorem ratio_any (h a m o num den : Int) (w : World) (hnum : I64 num) (hden : I64 den) :
    Calls Try.prog 41 #[.agg #[.int .i64 h, .int .i64 a, .int .i64 m, .int .i64 o], .int .i64 num, .int .i64 den] w fun e w' => FRes w w' e (ratS h a m o num den) := by
  go_enter Try.func41, Try.ntmps41
  go_wp2
  have X := Lib.hid (ext_alloc (below_box w (.cells #[.int .i64 h, .int .i64 a, .int .i64 m, .int .i64 o] 23)) (.cells #[.int .i64 0, .int .i64 0] 28))
  have K2 := Lib.hid (blk_new (W := w.alloc (.cells #[.int .i64 h, .int .i64 a, .int .i64 m, .int .i64 o] 23)) (g := w.heap.size + 1) 28 #[.int .i64 0, .int .i64 0] (by simp))
  generalize ((w.alloc (.cells #[.int .i64 h, .int .i64 a, .int .i64 m, .int .i64 o] 23)).alloc (.cells #[.int .i64 0, .int .i64 0] 28)) = W at X K2 ⊢
  go_loop [19, 9] (fun i _ => ∃ k : Nat, k ≤ 4 ∧ i = .int .i64 k ∧ Hid (∀ j, j < k → inB ([h, a, m, o].getD j 0) 0 10000 = true)) (fun i _ => 4 - (intOf i).toNat)
  case atStart => exact ⟨0, by omega, rfl, hidI (fun j hj => absurd hj (by omega))⟩
  case round =>
    obtain ⟨k, hk, rfl, HK⟩ := hrel
    have r0 : W.cell? ⟨w.heap.size + 1, 0, none⟩ = some (.int .i64 0) := by rw [K2.out.cell]; rfl
    have r1 : W.cell? ⟨w.heap.size + 1, 1, none⟩ = some (.int .i64 0) := by rw [K2.out.cell]; rfl
    have r2 := K2.out.frozen 0
    have r3 := K2.out.frozen 1
    by_cases hk4 : k < 4
    · have hx := index4 h a m o k hk4
      have HN : Hid (inB ([h, a, m, o].getD k 0) 0 10000 = false → ratS h a m o num den = (1, 0, 0)) := hidI (fun hh => by unfold ratS; rw [if_pos (allIn_not hk4 hh)])
      have HY : Hid (inB ([h, a, m, o].getD k 0) 0 10000 = true → ∀ j, j < k + 1 → inB ([h, a, m, o].getD j 0) 0 10000 = true) := hidI (fun hh j hj => by
        rcases Nat.lt_or_ge j k with h1 | h1
        · exact HK.out j h1
        · have : j = k := by omega
          subst this; exact hh)
      generalize [h, a, m, o].getD k 0 = x at hx HN HY
      by_cases h1 : x < 0
      · have HN' := Lib.hid (HN.out (by unfold inB; simp; omega))
        clear HN HY
        go_wp2
        refine bodyPost_ret (v := .tuple #[.agg #[.int .i64 0, .int .i64 0], .int .i64 1]) (by simp [results, Try.results41, go_sem, r0, r1]) rfl ?_
        rw [HN'.out]
        exact ⟨rfl, (X.out.setCell (by simp <;> omega) _).setCell (by simp <;> omega) _⟩
      by_cases h2 : 10000 < x
      · have HN' := Lib.hid (HN.out (by unfold inB; simp; omega))
        clear HN HY
        go_wp2
        refine bodyPost_ret (v := .tuple #[.agg #[.int .i64 0, .int .i64 0], .int .i64 1]) (by simp [results, Try.results41, go_sem, r0, r1]) rfl ?_
        rw [HN'.out]
        exact ⟨rfl, (X.out.setCell (by simp <;> omega) _).setCell (by simp <;> omega) _⟩
      have HY' := Lib.hid (HY.out (inB_iff.2 ⟨by omega, by omega⟩))
      clear HN HY
      go_wp2
      go_round
      case rel => exact ⟨k + 1, by omega, by go_num, HY'⟩
      case measure => simp [intOf]; omega
    · have hk' : k = 4 := by omega
      subst hk'
      have HA := Lib.hid (allIn_of HK.out)
      clear HK
      by_cases hd : den = 0
      · have HS2 : Hid (ratS h a m o num den = (9, 0, 0)) := hidI (by unfold ratS; rw [if_neg (by rw [HA.out]; simp), if_pos hd])
        have hdb : (den == 0) = true := by simpa using hd
        clear hd
        go_wp2
        refine bodyPost_ret (v := .tuple #[.agg #[.int .i64 0, .int .i64 0], .int .i64 9]) (by simp [results, Try.results41, go_sem, r0, r1]) rfl ?_
        rw [HS2.out]
        exact ⟨rfl, (X.out.setCell (by simp <;> omega) _).setCell (by simp <;> omega) _⟩
      · have HS2 : Hid (ratS h a m o num den = redS num den) := hidI (by unfold ratS; rw [if_neg (by rw [HA.out]; simp), if_neg hd])
        have hdb : (den == 0) = false := by simpa using hd
        clear hd r0 r1 r2 r3
        go_wp2_with fail
        refine (rreduce_any num den _ hnum hden).mono ?_
        rintro e w3 ⟨rfl, hb3⟩
        have q := blk_next K2.out hb3
        have r0 : w3.cell? ⟨w.heap.size + 1, 0, none⟩ = some (.int .i64 0) := by rw [q.cell]; rfl
        have r1 : w3.cell? ⟨w.heap.size + 1, 1, none⟩ = some (.int .i64 0) := by rw [q.cell]; rfl
        have r2 := q.frozen 0
        have r3 := q.frozen 1
        have X3 := Lib.hid (ext_next X.out hb3)
        clear hb3 q
        generalize redS num den = r at HS2 ⊢
        obtain ⟨rc, rn, rd⟩ := r
        go_wp2
        refine bodyPost_ret (v := .tuple #[.agg #[.int .i64 rn, .int .i64 rd], .int .i64 rc]) (by simp [results, Try.results41, go_sem, r0, r1]) rfl ?_
        rw [HS2.out]
        exact ⟨rfl, (X3.out.setCell (by simp <;> omega) _).setCell (by simp <;> omega) _⟩
set_option maxHeartbeats 400000 in
theorem detection_any (h a m o : Int) (w : World) :
    Calls Try.prog 11 #[.agg #[.int .i64 h, .int .i64 a, .int .i64 m, .int .i64 o]] w fun e w' => FRes w w' e (ofS 0 h a m o) := by
  have X := Lib.hid (ext_alloc (below_box w (.cells #[.int .i64 h, .int .i64 a, .int .i64 m, .int .i64 o] 23)) (.cells #[.int .i64 0, .int .i64 0] 28))
  have K2 := Lib.hid (blk_new (W := w.alloc (.cells #[.int .i64 h, .int .i64 a, .int .i64 m, .int .i64 o] 23)) (g := w.heap.size + 1) 28 #[.int .i64 0, .int .i64 0] (by simp))
  go_enter Try.func11, Try.ntmps11
  go_wp2_with fail
  refine (of0_any h a m o _).mono ?_
  rintro e w3 ⟨rfl, hb3⟩
  have q := blk_next K2.out hb3
  have r0 : w3.cell? ⟨w.heap.size + 1, 0, none⟩ = some (.int .i64 0) := by rw [q.cell]; rfl
  have r1 : w3.cell? ⟨w.heap.size + 1, 1, none⟩ = some (.int .i64 0) := by rw [q.cell]; rfl
  have r2 := q.frozen 0
  have r3 := q.frozen 1
  have X3 := Lib.hid (ext_next X.out hb3)
  clear hb3 q
  obtain ⟨r, hr⟩ : ∃ r, ofS 0 h a m o = r := ⟨_, rfl⟩
  have HS := Lib.hid hr
  rw [hr]
  clear hr
  obtain ⟨rc, rn, rd⟩ := r
  go_wp2
  refine bodyPost_ret (v := .tuple #[.agg #[.int .i64 rn, .int .i64 rd], .int .i64 rc]) (by simp [results, Try.results11, go_sem, r0, r1]) rfl ?_
  rw [HS.out]
  exact ⟨rfl, (X3.out.setCell (by simp <;> omega) _).setCell (by simp <;> omega) _⟩
set_option maxHeartbeats 400000 in
theorem falsealarm_any (h a m o : Int) (w : World) :
    Calls Try.prog 13 #[.agg #[.int .i64 h, .int .i64 a, .int .i64 m, .int .i64 o]] w fun e w' => FRes w w' e (ofS 1 h a m o) := by
  have X := Lib.hid (ext_alloc (below_box w (.cells #[.int .i64 h, .int .i64 a, .int .i64 m, .int .i64 o] 23)) (.cells #[.int .i64 0, .int .i64 0] 28))
  have K2 := Lib.hid (blk_new (W := w.alloc (.cells #[.int .i64 h, .int .i64 a, .int .i64 m, .int .i64 o] 23)) (g := w.heap.size + 1) 28 #[.int .i64 0, .int .i64 0] (by simp))
  go_enter Try.func13, Try.ntmps13
  go_wp2_with fail
  refine (of1_any h a m o _).mono ?_
  rintro e w3 ⟨rfl, hb3⟩
  have q := blk_next K2.out hb3
  have r0 : w3.cell? ⟨w.heap.size + 1, 0, none⟩ = some (.int .i64 0) := by rw [q.cell]; rfl
  have r1 : w3.cell? ⟨w.heap.size + 1, 1, none⟩ = some (.int .i64 0) := by rw [q.cell]; rfl
  have r2 := q.frozen 0
  have r3 := q.frozen 1
  have X3 := Lib.hid (ext_next X.out hb3)
  clear hb3 q
  obtain ⟨r, hr⟩ : ∃ r, ofS 1 h a m o = r := ⟨_, rfl⟩
  have HS := Lib.hid hr
  rw [hr]
  clear hr
  obtain ⟨rc, rn, rd⟩ := r
  go_wp2
  refine bodyPost_ret (v := .tuple #[.agg #[.int .i64 rn, .int .i64 rd], .int .i64 rc]) (by simp [results, Try.results13, go_sem, r0, r1]) rfl ?_
  rw [HS.out]
  exact ⟨rfl, (X3.out.setCell (by simp <;> omega) _).setCell (by simp <;> omega) _⟩
set_option maxHeartbeats 400000 in
theorem threat_any (h a m o : Int) (w : World) :
    Calls Try.prog 15 #[.agg #[.int .i64 h, .int .i64 a, .int .i64 m, .int .i64 o]] w fun e w' => FRes w w' e (ofS 2 h a m o) := by
  have X := Lib.hid (ext_alloc (below_box w (.cells #[.int .i64 h, .int .i64 a, .int .i64 m, .int .i64 o] 23)) (.cells #[.int .i64 0, .int .i64 0] 28))
  have K2 := Lib.hid (blk_new (W := w.alloc (.cells #[.int .i64 h, .int .i64 a, .int .i64 m, .int .i64 o] 23)) (g := w.heap.size + 1) 28 #[.int .i64 0, .int .i64 0] (by simp))
  go_enter Try.func15, Try.ntmps15
  go_wp2_with fail
  refine (of2_any h a m o _).mono ?_
  rintro e w3 ⟨rfl, hb3⟩
  have q := blk_next K2.out hb3
  have r0 : w3.cell? ⟨w.heap.size + 1, 0, none⟩ = some (.int .i64 0) := by rw [q.cell]; rfl
  have r1 : w3.cell? ⟨w.heap.size + 1, 1, none⟩ = some (.int .i64 0) := by rw [q.cell]; rfl
  have r2 := q.frozen 0
  have r3 := q.frozen 1
  have X3 := Lib.hid (ext_next X.out hb3)
  clear hb3 q
  obtain ⟨r, hr⟩ : ∃ r, ofS 2 h a m o = r := ⟨_, rfl⟩
  have HS := Lib.hid hr
  rw [hr]
  clear hr
  obtain ⟨rc, rn, rd⟩ := r
  go_wp2
  refine bodyPost_ret (v := .tuple #[.agg #[.int .i64 rn, .int .i64 rd], .int .i64 rc]) (by simp [results, Try.results15, go_sem, r0, r1]) rfl ?_
  rw [HS.out]
  exact ⟨rfl, (X3.out.setCell (by simp <;> omega) _).setCell (by simp <;> omega) _⟩
set_option maxHeartbeats 400000 in
theorem heidke_any (h a m o : Int) (w : World) :
    Calls Try.prog 17 #[.agg #[.int .i64 h, .int .i64 a, .int .i64 m, .int .i64 o]] w fun e w' => FRes w w' e (ofS 3 h a m o) := by
  have X := Lib.hid (ext_alloc (below_box w (.cells #[.int .i64 h, .int .i64 a, .int .i64 m, .int .i64 o] 23)) (.cells #[.int .i64 0, .int .i64 0] 28))
  have K2 := Lib.hid (blk_new (W := w.alloc (.cells #[.int .i64 h, .int .i64 a, .int .i64 m, .int .i64 o] 23)) (g := w.heap.size + 1) 28 #[.int .i64 0, .int .i64 0] (by simp))
  go_enter Try.func17, Try.ntmps17
  go_wp2_with fail
  refine (of3_any h a m o _).mono ?_
  rintro e w3 ⟨rfl, hb3⟩
  have q := blk_next K2.out hb3
  have r0 : w3.cell? ⟨w.heap.size + 1, 0, none⟩ = some (.int .i64 0) := by rw [q.cell]; rfl
  have r1 : w3.cell? ⟨w.heap.size + 1, 1, none⟩ = some (.int .i64 0) := by rw [q.cell]; rfl
  have r2 := q.frozen 0
  have r3 := q.frozen 1
  have X3 := Lib.hid (ext_next X.out hb3)
  clear hb3 q
  obtain ⟨r, hr⟩ : ∃ r, ofS 3 h a m o = r := ⟨_, rfl⟩
  have HS := Lib.hid hr
  rw [hr]
  clear hr
  obtain ⟨rc, rn, rd⟩ := r
  go_wp2
  refine bodyPost_ret (v := .tuple #[.agg #[.int .i64 rn, .int .i64 rd], .int .i64 rc]) (by simp [results, Try.results17, go_sem, r0, r1]) rfl ?_
  rw [HS.out]
  exact ⟨rfl, (X3.out.setCell (by simp <;> omega) _).setCell (by simp <;> omega) _⟩
end Go.Proofs.Ytjllgdpnbllnjaa
