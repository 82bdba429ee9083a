/- Walks: the reference's four scores. -/
import Derived.Test.YtjllgdpnbllnjaaScF
namespace Go.Proofs.Ytjllgdpnbllnjaa
open Go.RowKit

theorem in_of {h a m o : Int} (H : allIn h a m o = true) : (0 ≤ h ∧ h ≤ 10000) ∧ (0 ≤ a ∧ a ≤ 10000) ∧ (0 ≤ m ∧ m ≤ 10000) ∧ (0 ≤ o ∧ o ≤ 10000) := by
  unfold allIn at H
  simp only [Bool.and_eq_true] at H
  exact ⟨inB_iff.1 H.1.1.1, inB_iff.1 H.1.1.2, inB_iff.1 H.1.2, inB_iff.1 H.2⟩
theorem rat_of (k : Nat) {h a m o num den : Int} (H : allIn h a m o = true → num = scNum k h a m o ∧ den = scDen k h a m o) : ratS h a m o num den = ofS k h a m o := by
  unfold ratS ofS
  cases hh : allIn h a m o with
  | false => rfl
  | true => rw [(H hh).1, (H hh).2]
theorem wrap_i64 (x : Int) : I64 (wrap64 x) := by
  unfold I64 wrap64; omega
theorem wrap_in {x : Int} (h : I64 x) : wrap64 x = x := by
  unfold I64 at h; unfold wrap64; omega

set_option maxHeartbeats 1000000 in
theorem rdetection_any (h a m o : Int) (w : World) (gh : I64 h) (ga : I64 a) (gm : I64 m) (go : I64 o) :
    Calls Try.prog 12 #[.agg #[.int .i64 h, .int .i64 a, .int .i64 m, .int .i64 o]] w fun e w' => FRes w w' e (ofS 0 h a m o) := by
  have X := Lib.hid (ext_alloc (below_box w (.cells #[.int .i64 h, .int .i64 a, .int .i64 m, .int .i64 o] 23)) (.cells #[.int .i64 0, .int .i64 0] 28))
  have K2 := Lib.hid (blk_new (W := w.alloc (.cells #[.int .i64 h, .int .i64 a, .int .i64 m, .int .i64 o] 23)) (g := w.heap.size + 1) 28 #[.int .i64 0, .int .i64 0] (by simp))
  replace gh := Lib.hid gh
  replace ga := Lib.hid ga
  replace gm := Lib.hid gm
  replace go := Lib.hid go
  go_enter Try.func12, Try.ntmps12
  go_wp2_with fail
  refine (ratio_any h a m o _ _ _ ?hn ?hd).mono ?_
  case hn => exact gh.out
  case hd => exact wrap_i64 _
  rintro e w3 ⟨rfl, hb3⟩
  have q := blk_next K2.out hb3
  have r0 : w3.cell? ⟨w.heap.size + 1, 0, none⟩ = some (.int .i64 0) := by rw [q.cell]; rfl
  have r1 : w3.cell? ⟨w.heap.size + 1, 1, none⟩ = some (.int .i64 0) := by rw [q.cell]; rfl
  have r2 := q.frozen 0
  have r3 := q.frozen 1
  have X3 := Lib.hid (ext_next X.out hb3)
  clear hb3 q
  rw [rat_of 0 (h := h) (a := a) (m := m) (o := o) (fun hh => by
      obtain ⟨b1, b2, b3, b4⟩ := in_of hh
      refine ⟨rfl, ?_⟩
      show _ = h + m
      rw [wrap_in (x := h + m) (by unfold I64; omega)])]
  obtain ⟨r, hr⟩ : ∃ r, ofS 0 h a m o = r := ⟨_, rfl⟩
  have HS := Lib.hid hr
  rw [hr]
  clear hr
  obtain ⟨rc, rn, rd⟩ := r
  go_wp2
  refine bodyPost_ret (v := .tuple #[.agg #[.int .i64 rn, .int .i64 rd], .int .i64 rc]) (by simp [results, Try.results12, go_sem, r0, r1]) rfl ?_
  rw [HS.out]
  exact ⟨rfl, (X3.out.setCell (by simp <;> omega) _).setCell (by simp <;> omega) _⟩

set_option maxHeartbeats 1000000 in
theorem rfalsealarm_any (h a m o : Int) (w : World) (gh : I64 h) (ga : I64 a) (gm : I64 m) (go : I64 o) :
    Calls Try.prog 14 #[.agg #[.int .i64 h, .int .i64 a, .int .i64 m, .int .i64 o]] w fun e w' => FRes w w' e (ofS 1 h a m o) := by
  have X := Lib.hid (ext_alloc (below_box w (.cells #[.int .i64 h, .int .i64 a, .int .i64 m, .int .i64 o] 23)) (.cells #[.int .i64 0, .int .i64 0] 28))
  have K2 := Lib.hid (blk_new (W := w.alloc (.cells #[.int .i64 h, .int .i64 a, .int .i64 m, .int .i64 o] 23)) (g := w.heap.size + 1) 28 #[.int .i64 0, .int .i64 0] (by simp))
  replace gh := Lib.hid gh
  replace ga := Lib.hid ga
  replace gm := Lib.hid gm
  replace go := Lib.hid go
  go_enter Try.func14, Try.ntmps14
  go_wp2_with fail
  refine (ratio_any h a m o _ _ _ ?hn ?hd).mono ?_
  case hn => exact ga.out
  case hd => exact wrap_i64 _
  rintro e w3 ⟨rfl, hb3⟩
  have q := blk_next K2.out hb3
  have r0 : w3.cell? ⟨w.heap.size + 1, 0, none⟩ = some (.int .i64 0) := by rw [q.cell]; rfl
  have r1 : w3.cell? ⟨w.heap.size + 1, 1, none⟩ = some (.int .i64 0) := by rw [q.cell]; rfl
  have r2 := q.frozen 0
  have r3 := q.frozen 1
  have X3 := Lib.hid (ext_next X.out hb3)
  clear hb3 q
  rw [rat_of 1 (h := h) (a := a) (m := m) (o := o) (fun hh => by
      obtain ⟨b1, b2, b3, b4⟩ := in_of hh
      refine ⟨rfl, ?_⟩
      show _ = h + a
      rw [wrap_in (x := h + a) (by unfold I64; omega)])]
  obtain ⟨r, hr⟩ : ∃ r, ofS 1 h a m o = r := ⟨_, rfl⟩
  have HS := Lib.hid hr
  rw [hr]
  clear hr
  obtain ⟨rc, rn, rd⟩ := r
  go_wp2
  refine bodyPost_ret (v := .tuple #[.agg #[.int .i64 rn, .int .i64 rd], .int .i64 rc]) (by simp [results, Try.results14, go_sem, r0, r1]) rfl ?_
  rw [HS.out]
  exact ⟨rfl, (X3.out.setCell (by simp <;> omega) _).setCell (by simp <;> omega) _⟩

set_option maxHeartbeats 1000000 in
theorem rthreat_any (h a m o : Int) (w : World) (gh : I64 h) (ga : I64 a) (gm : I64 m) (go : I64 o) :
    Calls Try.prog 16 #[.agg #[.int .i64 h, .int .i64 a, .int .i64 m, .int .i64 o]] w fun e w' => FRes w w' e (ofS 2 h a m o) := by
  have X := Lib.hid (ext_alloc (below_box w (.cells #[.int .i64 h, .int .i64 a, .int .i64 m, .int .i64 o] 23)) (.cells #[.int .i64 0, .int .i64 0] 28))
  have K2 := Lib.hid (blk_new (W := w.alloc (.cells #[.int .i64 h, .int .i64 a, .int .i64 m, .int .i64 o] 23)) (g := w.heap.size + 1) 28 #[.int .i64 0, .int .i64 0] (by simp))
  replace gh := Lib.hid gh
  replace ga := Lib.hid ga
  replace gm := Lib.hid gm
  replace go := Lib.hid go
  go_enter Try.func16, Try.ntmps16
  go_wp2_with fail
  refine (ratio_any h a m o _ _ _ ?hn ?hd).mono ?_
  case hn => exact gh.out
  case hd => exact wrap_i64 _
  rintro e w3 ⟨rfl, hb3⟩
  have q := blk_next K2.out hb3
  have r0 : w3.cell? ⟨w.heap.size + 1, 0, none⟩ = some (.int .i64 0) := by rw [q.cell]; rfl
  have r1 : w3.cell? ⟨w.heap.size + 1, 1, none⟩ = some (.int .i64 0) := by rw [q.cell]; rfl
  have r2 := q.frozen 0
  have r3 := q.frozen 1
  have X3 := Lib.hid (ext_next X.out hb3)
  clear hb3 q
  rw [rat_of 2 (h := h) (a := a) (m := m) (o := o) (fun hh => by
      obtain ⟨b1, b2, b3, b4⟩ := in_of hh
      refine ⟨rfl, ?_⟩
      show _ = h + a + m
      rw [wrap_in (x := h + a) (by unfold I64; omega), wrap_in (x := h + a + m) (by unfold I64; omega)])]
  obtain ⟨r, hr⟩ : ∃ r, ofS 2 h a m o = r := ⟨_, rfl⟩
  have HS := Lib.hid hr
  rw [hr]
  clear hr
  obtain ⟨rc, rn, rd⟩ := r
  go_wp2
  refine bodyPost_ret (v := .tuple #[.agg #[.int .i64 rn, .int .i64 rd], .int .i64 rc]) (by simp [results, Try.results16, go_sem, r0, r1]) rfl ?_
  rw [HS.out]
  exact ⟨rfl, (X3.out.setCell (by simp <;> omega) _).setCell (by simp <;> omega) _⟩

set_option maxHeartbeats 1000000 in
theorem rheidke_any (h a m o : Int) (w : World) (gh : I64 h) (ga : I64 a) (gm : I64 m) (go : I64 o) :
    Calls Try.prog 18 #[.agg #[.int .i64 h, .int .i64 a, .int .i64 m, .int .i64 o]] w fun e w' => FRes w w' e (ofS 3 h a m o) := by
  have X := Lib.hid (ext_alloc (below_box w (.cells #[.int .i64 h, .int .i64 a, .int .i64 m, .int .i64 o] 23)) (.cells #[.int .i64 0, .int .i64 0] 28))
  have K2 := Lib.hid (blk_new (W := w.alloc (.cells #[.int .i64 h, .int .i64 a, .int .i64 m, .int .i64 o] 23)) (g := w.heap.size + 1) 28 #[.int .i64 0, .int .i64 0] (by simp))
  replace gh := Lib.hid gh
  replace ga := Lib.hid ga
  replace gm := Lib.hid gm
  replace go := Lib.hid go
  go_enter Try.func18, Try.ntmps18
  go_wp2_with fail
  refine (ratio_any h a m o _ _ _ ?hn ?hd).mono ?_
  case hn => exact wrap_i64 _
  case hd => exact wrap_i64 _
  rintro e w3 ⟨rfl, hb3⟩
  have q := blk_next K2.out hb3
  have r0 : w3.cell? ⟨w.heap.size + 1, 0, none⟩ = some (.int .i64 0) := by rw [q.cell]; rfl
  have r1 : w3.cell? ⟨w.heap.size + 1, 1, none⟩ = some (.int .i64 0) := by rw [q.cell]; rfl
  have r2 := q.frozen 0
  have r3 := q.frozen 1
  have X3 := Lib.hid (ext_next X.out hb3)
  clear hb3 q
  rw [rat_of 3 (h := h) (a := a) (m := m) (o := o) (fun hh => by
      obtain ⟨b1, b2, b3, b4⟩ := in_of hh
      have p1 := mul_bd h o 10000 10000 b1 b4
      have p2 := mul_bd a m 10000 10000 b2 b3
      have p3 := mul_bd (h + m) (m + o) 20000 20000 (by omega) (by omega)
      have p4 := mul_bd (h + a) (a + o) 20000 20000 (by omega) (by omega)
      refine ⟨?_, ?_⟩
      · show _ = 2 * (h * o - a * m)
        rw [wrap_in (x := h * o) (by unfold I64; omega), wrap_in (x := a * m) (by unfold I64; omega), wrap_in (x := h * o - a * m) (by unfold I64; omega), wrap_in (x := 2 * (h * o - a * m)) (by unfold I64; omega)]
      · show _ = (h + m) * (m + o) + (h + a) * (a + o)
        rw [wrap_in (x := h + m) (by unfold I64; omega), wrap_in (x := m + o) (by unfold I64; omega), wrap_in (x := h + a) (by unfold I64; omega), wrap_in (x := a + o) (by unfold I64; omega), wrap_in (x := (h + m) * (m + o)) (by unfold I64; omega), wrap_in (x := (h + a) * (a + o)) (by unfold I64; omega), wrap_in (x := (h + m) * (m + o) + (h + a) * (a + o)) (by unfold I64; omega)])]
  obtain ⟨r, hr⟩ : ∃ r, ofS 3 h a m o = r := ⟨_, rfl⟩
  have HS := Lib.hid hr
  rw [hr]
  clear hr
  obtain ⟨rc, rn, rd⟩ := r
  go_wp2
  refine bodyPost_ret (v := .tuple #[.agg #[.int .i64 rn, .int .i64 rd], .int .i64 rc]) (by simp [results, Try.results18, go_sem, r0, r1]) rfl ?_
  rw [HS.out]
  exact ⟨rfl, (X3.out.setCell (by simp <;> omega) _).setCell (by simp <;> omega) _⟩
end Go.Proofs.Ytjllgdpnbllnjaa
