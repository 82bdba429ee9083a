/- BitsLimit: the walk of the law. -/
import Derived.Test.YtkbfldgebcpigaaBitsL
import Derived.Test.YtkbfldgebcpigaaJoin
import Derived.Test.YtkbfldgebcpigaaArgs
namespace Go.Proofs.Ytkbfldgebcpigaa
open Go.RowKit

def zl (n : Nat) : List Nat := List.replicate n 0
theorem length_zl (n : Nat) : (zl n).length = n := by simp [zl]
theorem getD_zl (n i : Nat) : (zl n).getD i 0 = 0 := by
  unfold zl
  rw [List.getD_eq_getElem?_getD, List.getElem?_replicate]
  split <;> rfl
theorem b01_zl (n : Nat) : B01 (zl n) := fun i => by rw [getD_zl]; omega
theorem pack_zl (n : Nat) : u8s (pack (zl n)) = List.replicate ((n + 7) / 8) (.int .u8 0) := by
  rw [← pk_all, length_zl, List.eq_replicate_iff]
  refine ⟨by rw [length_u8s, length_pk, length_zl], fun v hv => ?_⟩
  unfold u8s at hv
  obtain ⟨b, hb, rfl⟩ := List.mem_map.1 hv
  obtain ⟨i, _, rfl⟩ := List.mem_map.1 hb
  have : byteOf ((zl n).take n) i = 0 := by
    rw [List.take_of_length_le (by simp [zl])]
    unfold byteOf
    simp only [getD_zl]
  rw [this]
  rfl
theorem seg_pack {l : List Nat} (h : B01 l) (a k : Nat) : seg (pack l) a k = (List.range k).map fun i => l.getD (a + i) 0 := by
  unfold seg
  exact List.map_congr_left fun i _ => bitOf_pack h _
theorem seg_end (a : List Nat) (v w : Nat) : (List.range w).map (fun i => (a ++ nb v w w).getD (a.length + i) 0) = nb v w w := by
  refine ext_getD (by simp [length_nb]) fun i hi => ?_
  have hi' : i < w := by simpa using hi
  rw [getD_map_range, if_pos hi']
  rw [List.getD_eq_getElem?_getD, List.getElem?_append_right (by omega), Nat.add_sub_cancel_left, ← List.getD_eq_getElem?_getD]
theorem numOf_end (a : List Nat) (v w : Nat) (ha : B01 a) (hv : v < 2 ^ w) : numOf (seg (pack (a ++ nb v w w)) a.length w) = v := by
  rw [seg_pack (b01_append ha (b01_nb v w w)), seg_end, numOf_all v w hv]
theorem app_some (w v : Nat) (h1 : 1 ≤ w) (h2 : w ≤ 24) (hv : v < 2 ^ w) : appS (pack (zl (40000 - w))) (40000 - w : Nat) v w = (0, zl (40000 - w) ++ nb v w w) := by
  have h := valid_pack (l := zl (40000 - w)) (by rw [length_zl]; omega)
  rw [length_zl] at h
  have hu := unpack_pack (b01_zl (40000 - w))
  rw [length_zl] at hu
  unfold appS
  have hv' : ¬ (2 : Int) ^ w ≤ v := by
    have e : ((2 ^ w : Nat) : Int) = (2 : Int) ^ w := by push_cast; rfl
    omega
  rw [if_neg (by rw [h]; simp), if_neg (by simp [widthB]; omega), if_neg (by omega), Int.toNat_natCast, Int.toNat_natCast, Int.toNat_natCast, hu]
theorem app_full (w v : Nat) (h1 : 1 ≤ w) (h2 : w ≤ 24) (hv : v < 2 ^ w) : appS (pack (zl 40000)) 40000 v w = (2, []) := by
  have h := valid_pack (l := zl 40000) (by rw [length_zl]; omega)
  rw [length_zl] at h
  unfold appS
  have hv' : ¬ (2 : Int) ^ w ≤ v := by
    have e : ((2 ^ w : Nat) : Int) = (2 : Int) ^ w := by push_cast; rfl
    omega
  rw [if_neg (by rw [show ((40000 : Int)) = ((40000 : Nat) : Int) from rfl, h]; simp), if_neg (by simp [widthB]; omega), if_pos (by omega)]
theorem read_end (w v : Nat) (h1 : 1 ≤ w) (h2 : w ≤ 24) (hv : v < 2 ^ w) : readS (pack (zl (40000 - w) ++ nb v w w)) 40000 (40000 - w : Nat) w = (((v : Nat) : Int), 0) := by
  have h := valid_pack (l := zl (40000 - w) ++ nb v w w) (by simp [zl, length_nb]; omega)
  rw [List.length_append, length_zl, length_nb, show 40000 - w + w = 40000 by omega] at h
  have hn := numOf_end (zl (40000 - w)) v w (b01_zl _) hv
  rw [length_zl] at hn
  unfold readS
  rw [if_neg (by rw [show ((40000 : Int)) = ((40000 : Nat) : Int) from rfl, h]; simp), if_neg (by simp [widthB]; omega), if_neg (by omega), Int.toNat_natCast, Int.toNat_natCast, hn]
theorem join_full : joinS (pack (zl 40000)) 40000 (pack [0]) 1 = (2, []) := by
  have h := valid_pack (l := zl 40000) (by rw [length_zl]; omega)
  rw [length_zl] at h
  have h2 := valid_pack (l := [0]) (by simp)
  unfold joinS
  rw [if_neg (by rw [show ((40000 : Int)) = ((40000 : Nat) : Int) from rfl, h]; simp; exact h2), if_pos (by omega)]
theorem pad_some (w : Nat) (h2 : w ≤ 24) : (padS (pack (zl (40000 - w))) (40000 - w : Nat)).1 = 0 ∧ ∃ m, (padS (pack (zl (40000 - w))) (40000 - w : Nat)).2.length = 8 * m := by
  have h := valid_pack (l := zl (40000 - w)) (by rw [length_zl]; omega)
  rw [length_zl] at h
  unfold padS
  rw [if_neg (by rw [h]; simp)]
  exact ⟨rfl, (pack (zl (40000 - w))).length, by simp [unpack]⟩

theorem app_one : appS [] 0 0 1 = (0, [0]) := by decide +kernel
theorem pack_one : pack [0] = [0] := by decide +kernel
theorem bytes_zl (n : Nat) : Bytes (pack (zl n)) := bytes_pack (b01_zl n)
theorem rd_zrow {W : World} {g : Nat} (n : Nat) (hg : g = W.heap.size) : Rd (W.alloc (.cells (zrow ((n + 7) / 8)) 5)) (W.alloc (.cells (zrow ((n + 7) / 8)) 5)).heap.size (some ⟨g, 0, none⟩) (u8s (pack (zl n))) := by
  have h := Rd.lit W 5 (zrow ((n + 7) / 8)) hg
  rw [list_zrow, ← pack_zl] at h
  exact h

theorem bres_open {w w' : World} {e : Ending} {code L : Int} {l : List Nat} (h : BRes w w' e (code, l)) (hl : ((l.length : Nat) : Int) = L) :
    ∃ A n c, e = .returned (.tuple #[.agg #[.slice A n c, .int .i64 L], .int .i64 code]) ∧ Hid ((pack l).length = n) ∧ Rd w' w'.heap.size A (u8s (pack l)) ∧ Below w.heap.size w w' := by
  obtain ⟨A, n, c, rfl, h1, -, -, -, h2, h3⟩ := h
  subst hl
  exact ⟨A, n, c, rfl, hidI h1.symm, h2, h3⟩
theorem rd_full (W : World) : Rd (W.alloc (.cells (zrow 5000) 5)) (W.alloc (.cells (zrow 5000) 5)).heap.size (some ⟨W.heap.size, 0, none⟩) (u8s (pack (zl 40000))) := by
  have h := rd_zrow (W := W) (g := W.heap.size) 40000 rfl
  rw [show (40000 + 7) / 8 = 5000 by decide] at h
  exact h

set_option maxRecDepth 100000 in
set_option maxHeartbeats 2000000 in
theorem limit_law (value width : Int) (w : World) (hv : I64 value) (hw : I64 width) :
    Calls Try.prog 6 #[.int .i64 value, .int .i64 width] w fun e w' => e = .returned (.bool true) ∧ Below w.heap.size w w' := by
  obtain ⟨hv1, hv2⟩ := hv
  obtain ⟨hw1, hw2⟩ := hw
  have hk := kmod_range width 24 (by omega)
  have hmk1 : ∀ W : World, (Instr.makeSlice 26 (.int .i64 5000) (.int .i64 5000)).run Try.prog W = .ok (.slice (some ⟨W.heap.size, 0, none⟩) 5000 5000) (W.alloc (.cells (zrow 5000) 5)) := fun W => make_u8 5000 (by omega) W
  go_enter Try.func6, Try.ntmps6
  go_wp2_with fail
  refine (mod_any width 24 _ ⟨hw1, hw2⟩ ⟨by omega, by omega⟩).mono ?_
  rintro e w1 ⟨rfl, rfl⟩
  generalize kmod width 24 = y at hk ⊢
  obtain ⟨hk0, hk1⟩ := hk
  obtain ⟨u, rfl⟩ := Int.eq_ofNat_of_zero_le hk0
  obtain ⟨m, hm⟩ : ∃ m, m = 1 + u := ⟨_, rfl⟩
  have hm1 : 1 ≤ m := by omega
  have hm2 : m ≤ 24 := by omega
  have hp : (2 : Int) ^ m ≤ 16777216 := by
    have := Nat.pow_le_pow_right (show 0 < 2 by omega) hm2
    have e : ((2 ^ m : Nat) : Int) = (2 : Int) ^ m := by push_cast; rfl
    omega
  have hp0 : (0 : Int) < 2 ^ m := Int.pow_pos (by omega)
  have hwp : wrap64 ((2 : Int) ^ m) = 2 ^ m := IntWalk.wrap64_in _ ⟨by omega, by omega⟩
  have hmk2 : ∀ W : World, (Instr.makeSlice 26 (.int .i64 ((40000 - (m : Int) + 7) / 8)) (.int .i64 ((40000 - (m : Int) + 7) / 8))).run Try.prog W = .ok (.slice (some ⟨W.heap.size, 0, none⟩) ((40000 - m + 7) / 8) ((40000 - m + 7) / 8)) (W.alloc (.cells (zrow ((40000 - m + 7) / 8)) 5)) := fun W => by
    have h := make_u8 ((40000 - m + 7) / 8) (by omega) W
    rw [show (((40000 - m + 7) / 8 : Nat) : Int) = (40000 - (m : Int) + 7) / 8 by omega] at h
    exact h
  have HMK2 := Lib.hid hmk2
  have hk2 := Lib.hid (kmod_range value (2 ^ m) (by omega))
  clear hmk2
  go_wp2_with fail
  rw [show (1 + (u : Int)) = (m : Int) by omega, ← hm, hwp]
  clear hm hk0 hk1
  refine (mod_any value _ _ ⟨hv1, hv2⟩ ⟨by omega, by omega⟩).mono ?_
  rintro e w1 ⟨rfl, rfl⟩
  generalize kmod value (2 ^ m) = y at hk2 ⊢
  obtain ⟨hk0, hk1⟩ := hk2.out
  obtain ⟨x, rfl⟩ := Int.eq_ofNat_of_zero_le hk0
  have hx : x < 2 ^ m := by
    have e : ((2 ^ m : Nat) : Int) = (2 : Int) ^ m := by push_cast; rfl
    omega
  have HXM := Lib.hid hx
  have hx24 : x < 16777216 := by omega
  have E1 := Lib.hid (app_some m x hm1 hm2 hx)
  have E2 := Lib.hid (app_full m x hm1 hm2 hx)
  have E3 := Lib.hid (read_end m x hm1 hm2 hx)
  have E5 := Lib.hid (pad_some m hm2)
  have LA : Hid ((zl (40000 - m) ++ nb x m m).length = 40000) := hidI (by simp [zl, length_nb]; omega)
  have DA : Hid (B01 (zl (40000 - m) ++ nb x m m)) := hidI (b01_append (b01_zl _) (b01_nb x m m))
  generalize zl (40000 - m) ++ nb x m m = la at E1 E3 LA DA
  have hmk2 := HMK2.out
  have hcast : (((40000 - m : Nat) : Int)) = 40000 - (m : Int) := by omega
  rw [hcast] at E1 E3 E5
  clear hp hp0 hwp hk2 hk0 hk1 hx hcast HMK2
  have lz : Hid ((pack (zl (40000 - m))).length = (40000 - m + 7) / 8) := hidI (by rw [length_pack, length_zl])
  have lf : Hid ((pack (zl 40000)).length = 5000) := hidI (by rw [length_pack, length_zl])
  obtain ⟨q, hq⟩ : ∃ q, q = (40000 - m + 7) / 8 := ⟨_, rfl⟩
  have hq5 : q ≤ 5000 := by omega
  have rz : ∀ (W : World) (g : Nat), g = W.heap.size → Rd (W.alloc (.cells (zrow q) 5)) (W.alloc (.cells (zrow q) 5)).heap.size (some ⟨g, 0, none⟩) (u8s (pack (zl (40000 - m)))) := fun W g hg => by rw [hq]; exact rd_zrow _ hg
  have RZ := Lib.hid rz
  rw [← hq] at hmk2 lz
  clear rz hq
  go_wp2_with fail
  have Rf := Lib.hid (rd_alloc (rd_alloc (rd_alloc (rd_full w) (.cells #[Value.slice (some ⟨w.heap.size, 0, none⟩) 5000 5000, Value.int .i64 40000] 28)) (.cells (zrow q) 5)) (.cells #[Value.slice (some ⟨w.heap.size + 1 + 1, 0, none⟩) q q, Value.int .i64 (40000 - (m : Int))] 28))
  have Rs := Lib.hid (rd_alloc (RZ.out ((w.alloc (.cells (zrow 5000) 5)).alloc (.cells #[Value.slice (some ⟨w.heap.size, 0, none⟩) 5000 5000, Value.int .i64 40000] 28)) (w.heap.size + 1 + 1) (by simp)) (.cells #[Value.slice (some ⟨w.heap.size + 1 + 1, 0, none⟩) q q, Value.int .i64 (40000 - (m : Int))] 28))
  have Kf := Lib.hid (((blk_new (W := w.alloc (.cells (zrow 5000) 5)) (g := w.heap.size + 1) 28 #[Value.slice (some ⟨w.heap.size, 0, none⟩) 5000 5000, Value.int .i64 40000] (by simp)).alloc (.cells (zrow q) 5)).alloc (.cells #[Value.slice (some ⟨w.heap.size + 1 + 1, 0, none⟩) q q, Value.int .i64 (40000 - (m : Int))] 28))
  have Ks := Lib.hid (blk_new (W := ((w.alloc (.cells (zrow 5000) 5)).alloc (.cells #[Value.slice (some ⟨w.heap.size, 0, none⟩) 5000 5000, Value.int .i64 40000] 28)).alloc (.cells (zrow q) 5)) (g := w.heap.size + 1 + 1 + 1) 28 #[Value.slice (some ⟨w.heap.size + 1 + 1, 0, none⟩) q q, Value.int .i64 (40000 - (m : Int))] (by simp))
  have X := Lib.hid (ext_alloc (ext_alloc (ext_alloc (below_box w (.cells (zrow 5000) 5)) (.cells #[Value.slice (some ⟨w.heap.size, 0, none⟩) 5000 5000, Value.int .i64 40000] 28)) (.cells (zrow q) 5)) (.cells #[Value.slice (some ⟨w.heap.size + 1 + 1, 0, none⟩) q q, Value.int .i64 (40000 - (m : Int))] 28))
  generalize (((w.alloc (.cells (zrow 5000) 5)).alloc (.cells #[Value.slice (some ⟨w.heap.size, 0, none⟩) 5000 5000, Value.int .i64 40000] 28)).alloc (.cells (zrow q) 5)).alloc (.cells #[Value.slice (some ⟨w.heap.size + 1 + 1, 0, none⟩) q q, Value.int .i64 (40000 - (m : Int))] 28) = W0 at Rf Rs Kf Ks X ⊢
  clear hmk1 hmk2 RZ
  have E4 := Lib.hid join_full
  have BF := Lib.hid (bytes_zl 40000)
  have BS := Lib.hid (bytes_zl (40000 - m))
  generalize pack (zl 40000) = pf at Rf E2 E4 lf BF
  generalize pack (zl (40000 - m)) = ps at Rs E1 E5 lz BS
  refine (append_any _ q q _ ps x m W0 Rs.out lz.out (by omega) BS.out ⟨by omega, by omega⟩ ⟨by omega, by omega⟩ ⟨by omega, by omega⟩).mono ?_
  rintro e w2 hres
  rw [E1.out] at hres
  obtain ⟨A1, n1, c1, rfl, N1, hr1, hb1⟩ := bres_open hres (by rw [LA.out]; rfl : ((List.length la : Nat) : Int) = 40000)
  have n1b : n1 ≤ 5000 := by have := N1.out; rw [length_pack, LA.out] at this; omega
  have f := blk_next Kf.out hb1
  have f0 : w2.cell? ⟨w.heap.size + 1, 0, none⟩ = some (Value.slice (some ⟨w.heap.size, 0, none⟩) 5000 5000) := by rw [f.cell]; rfl
  have f1 : w2.cell? ⟨w.heap.size + 1, 1, none⟩ = some (Value.int .i64 40000) := by rw [f.cell]; rfl
  have fl := f.lt
  clear f
  have Ra := Lib.hid (rd_alloc hr1 (.cells #[.slice A1 n1 c1, .int .i64 40000] 28))
  have Ka := Lib.hid (Blk.new w2 28 #[.slice A1 n1 c1, .int .i64 40000])
  have O := ext_alloc hb1 (.cells #[.slice A1 n1 c1, .int .i64 40000] 28)
  replace Rf := Lib.hid (rd_next Rf.out O)
  replace Rs := Lib.hid (rd_next Rs.out O)
  replace Kf := Lib.hid (blk_next Kf.out O)
  replace Ks := Lib.hid (blk_next Ks.out O)
  replace X := Lib.hid (ext_next X.out O)
  clear O
  clear hb1 hr1 hres
  go_wp2_with fail
  refine (append_any _ 5000 5000 40000 pf x m _ Rf.out lf.out (by omega) BF.out ⟨by omega, by omega⟩ ⟨by omega, by omega⟩ ⟨by omega, by omega⟩).mono ?_
  rintro e w3 hres
  rw [E2.out] at hres
  obtain ⟨A2, n2, c2, rfl, -, -, hb2⟩ := bres_open hres (by rfl : ((List.length ([] : List Nat) : Nat) : Int) = 0)
  have g := blk_next Ka.out hb2
  have g0 : w3.cell? ⟨w2.heap.size, 0, none⟩ = some (Value.slice A1 n1 c1) := by rw [g.cell]; rfl
  have g1 : w3.cell? ⟨w2.heap.size, 1, none⟩ = some (Value.int .i64 40000) := by rw [g.cell]; rfl
  have gl := g.lt
  clear g
  have O := ext_alloc hb2 (.cells #[.slice A2 n2 c2, .int .i64 0] 28)
  replace Rf := Lib.hid (rd_next Rf.out O)
  replace Rs := Lib.hid (rd_next Rs.out O)
  replace Ra := Lib.hid (rd_next Ra.out O)
  replace Kf := Lib.hid (blk_next Kf.out O)
  replace Ks := Lib.hid (blk_next Ks.out O)
  replace Ka := Lib.hid (blk_next Ka.out O)
  replace X := Lib.hid (ext_next X.out O)
  clear O
  clear hb2 hres f0 f1 fl
  go_wp2_with fail
  refine (read_any A1 n1 c1 40000 (pack la) (40000 - (m : Int)) m _ Ra.out N1.out (by omega) (bytes_pack DA.out) ⟨by omega, by omega⟩ ⟨by omega, by omega⟩ ⟨by omega, by omega⟩).mono ?_
  rintro e w4 hres
  rw [E3.out] at hres
  obtain ⟨rfl, hb4⟩ := hres
  have O := hb4
  replace Rf := Lib.hid (rd_next Rf.out O)
  replace Rs := Lib.hid (rd_next Rs.out O)
  replace Ra := Lib.hid (rd_next Ra.out O)
  replace Kf := Lib.hid (blk_next Kf.out O)
  replace Ks := Lib.hid (blk_next Ks.out O)
  replace Ka := Lib.hid (blk_next Ka.out O)
  replace X := Lib.hid (ext_next X.out O)
  clear O
  clear hb4 g0 g1 gl
  go_wp2_with fail
  refine (rappend_any none 0 0 0 [] 0 1 _ Rd.nil_ rfl (by omega) byt0 ⟨by omega, by omega⟩ ⟨by omega, by omega⟩ ⟨by omega, by omega⟩).mono ?_
  rintro e w5 hres
  rw [app_one] at hres
  obtain ⟨A5, n5, c5, rfl, N5, hr5, hb5⟩ := bres_open hres (by rfl : ((List.length ([0] : List Nat) : Nat) : Int) = 1)
  have f := blk_next Kf.out hb5
  have f0 : w5.cell? ⟨w.heap.size + 1, 0, none⟩ = some (Value.slice (some ⟨w.heap.size, 0, none⟩) 5000 5000) := by rw [f.cell]; rfl
  have f1 : w5.cell? ⟨w.heap.size + 1, 1, none⟩ = some (Value.int .i64 40000) := by rw [f.cell]; rfl
  have fl := f.lt
  clear f
  have Ro := Lib.hid (rd_alloc hr5 (.cells #[.slice A5 n5 c5, .int .i64 1] 28))
  have O := ext_alloc hb5 (.cells #[.slice A5 n5 c5, .int .i64 1] 28)
  replace Rf := Lib.hid (rd_next Rf.out O)
  replace Rs := Lib.hid (rd_next Rs.out O)
  replace Kf := Lib.hid (blk_next Kf.out O)
  replace Ks := Lib.hid (blk_next Ks.out O)
  replace Ka := Lib.hid (blk_next Ka.out O)
  replace X := Lib.hid (ext_next X.out O)
  clear O
  clear hb5 hr5 hres
  go_wp2_with fail
  refine (join_any _ A5 5000 5000 n5 c5 40000 1 pf (pack [0]) _ Rf.out Ro.out lf.out N5.out (by omega) (by rw [← N5.out, pack_one]; simp) BF.out (bytes_pack (b01_one (by omega))) ⟨by omega, by omega⟩ ⟨by omega, by omega⟩).mono ?_
  rintro e w6 hres
  rw [E4.out] at hres
  obtain ⟨A6, n6, c6, rfl, -, -, hb6⟩ := bres_open hres (by rfl : ((List.length ([] : List Nat) : Nat) : Int) = 0)
  have g := blk_next Ks.out hb6
  have g0 : w6.cell? ⟨w.heap.size + 1 + 1 + 1, 0, none⟩ = some (Value.slice (some ⟨w.heap.size + 1 + 1, 0, none⟩) q q) := by rw [g.cell]; rfl
  have g1 : w6.cell? ⟨w.heap.size + 1 + 1 + 1, 1, none⟩ = some (Value.int .i64 (40000 - (m : Int))) := by rw [g.cell]; rfl
  have gl := g.lt
  clear g
  have O := ext_alloc hb6 (.cells #[.slice A6 n6 c6, .int .i64 0] 28)
  replace Rs := Lib.hid (rd_next Rs.out O)
  replace Ks := Lib.hid (blk_next Ks.out O)
  replace Ka := Lib.hid (blk_next Ka.out O)
  replace X := Lib.hid (ext_next X.out O)
  clear O
  clear hb6 hres f0 f1 fl Ro
  go_wp2_with fail
  refine (pad_any _ q q (40000 - (m : Int)) ps _ Rs.out lz.out (by omega) BS.out ⟨by omega, by omega⟩).mono ?_
  rintro e w7 hres
  obtain ⟨P1, mm, P2⟩ := E5.out
  generalize padS ps (40000 - (m : Int)) = r at hres P1 P2
  obtain ⟨rc, rl⟩ := r
  dsimp only at P1 P2
  subst P1
  obtain ⟨A7, n7, c7, rfl, -, -, hb7⟩ := bres_open hres (by rw [P2]; omega : ((List.length rl : Nat) : Int) = 8 * (mm : Int))
  have h := blk_next Ka.out hb7
  have h0 : w7.cell? ⟨w2.heap.size, 0, none⟩ = some (Value.slice A1 n1 c1) := by rw [h.cell]; rfl
  have h1 : w7.cell? ⟨w2.heap.size, 1, none⟩ = some (Value.int .i64 40000) := by rw [h.cell]; rfl
  have hl := h.lt
  clear h
  have O := ext_alloc hb7 (.cells #[.slice A7 n7 c7, .int .i64 (8 * (mm : Int))] 28)
  replace X := Lib.hid (ext_next X.out O)
  clear O
  have e8 : (8 * (mm : Int)) % 8 = 0 := by omega
  have e9 : 0 ≤ 8 * (mm : Int) := by omega
  have P2' := Lib.hid P2
  clear hb7 hres g0 g1 gl P2
  go_wp2_with fail
  refine (awake_any _).mono ?_
  rintro e w8 ⟨rfl, hb8⟩
  have X8 := Lib.hid (ext_next X.out hb8)
  clear hb8
  go_wp2
  go_ret
  exact ⟨rfl, X8.out⟩
theorem limit_walk (a b : Int) (w : World) (ha : (Lit.int .i64 a).wf = true) (hb : (Lit.int .i64 b).wf = true) :
    Calls Try.prog 6 #[.int .i64 a, .int .i64 b] w fun e w' => e = .returned (.bool true) ∧ Below w.heap.size w w' :=
  limit_law a b w (i64_wf ha) (i64_wf hb)
end Go.Proofs.Ytkbfldgebcpigaa
