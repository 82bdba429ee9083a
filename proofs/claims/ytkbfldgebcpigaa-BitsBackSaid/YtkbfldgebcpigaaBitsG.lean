/- Walks of the reference's Of and of bits.Pad. -/
import Derived.Test.YtkbfldgebcpigaaBitsF
namespace Go.Proofs.Ytkbfldgebcpigaa
open Go.RowKit

def i64s (l : List Nat) : List Value := l.map fun b => Value.int .i64 ((b : Nat) : Int)
theorem length_i64s (l : List Nat) : (i64s l).length = l.length := by simp [i64s]
theorem i64s_at (l : List Nat) (i : Nat) (h : i < l.length) : (i64s l)[i]? = some (.int .i64 ((l.getD i 0 : Nat) : Int)) := by
  simp [i64s, List.getElem?_map, List.getElem?_eq_getElem h]

/-- The bytes when the first k bits are written. -/
def pk (l : List Nat) (k : Nat) : List Nat := (List.range ((l.length + 7) / 8)).map (byteOf (l.take k))
theorem length_pk (l : List Nat) (k : Nat) : (pk l k).length = (l.length + 7) / 8 := by simp [pk]
theorem getD_pk (l : List Nat) (k i : Nat) : (pk l k).getD i 0 = byteOf (l.take k) i := by
  unfold pk
  rw [getD_map_range]
  by_cases h : i < (l.length + 7) / 8
  · rw [if_pos h]
  · rw [if_neg h, byteOf_out (by have := List.length_take_le k l; have := List.length_take_le' k l; omega)]
theorem pk_all (l : List Nat) : pk l l.length = pack l := by unfold pk pack; rw [List.take_length]
theorem pk_zero (l : List Nat) : u8s (pk l 0) = List.replicate ((l.length + 7) / 8) (.int .u8 0) := by
  rw [List.eq_replicate_iff]
  refine ⟨by rw [length_u8s, length_pk], fun v hv => ?_⟩
  unfold u8s at hv
  obtain ⟨b, hb, rfl⟩ := List.mem_map.1 hv
  obtain ⟨i, _, rfl⟩ := List.mem_map.1 hb
  rw [List.take_zero, byteOf_out (by simp)]
  rfl
theorem take_snoc (l : List Nat) (k : Nat) (h : k < l.length) : l.take (k + 1) = l.take k ++ [l.getD k 0] := by
  rw [List.take_succ_eq_append_getElem h]
  simp [List.getElem?_eq_getElem h]
theorem pk_succ (l : List Nat) (k : Nat) (h : k < l.length) : pk l (k + 1) = (pk l k).set (k / 8) ((pk l k).getD (k / 8) 0 + l.getD k 0 * 2 ^ (7 - k % 8)) := by
  have hl : (l.take k).length = k := by rw [List.length_take]; omega
  refine ext_getD (by rw [length_pk, List.length_set, length_pk]) fun i hi => ?_
  rw [getD_pk, getD_set _ _ _ _ (by rw [length_pk]; omega), take_snoc l k h, byteOf_snoc, hl, getD_pk, getD_pk]
  split
  · next h => rw [h]
  · rfl
theorem pk_skip (l : List Nat) (k : Nat) (h : k < l.length) (h0 : l.getD k 0 = 0) : pk l (k + 1) = pk l k := by
  refine ext_getD (by rw [length_pk, length_pk]) fun i _ => ?_
  rw [getD_pk, getD_pk, take_snoc l k h, byteOf_snoc, h0]
  simp
theorem b01_take {l : List Nat} (h : B01 l) (k : Nat) : B01 (l.take k) := fun i => by
  rw [List.getD_eq_getElem?_getD, List.getElem?_take]
  split
  · rw [← List.getD_eq_getElem?_getD]; exact h i
  · simp
theorem or_one : ∀ j, j < 8 → ∀ z, z < 256 → z % 2 ^ (j + 1) = 0 → bits .or .u8 ((z : Nat) : Int) (2 ^ j % 256) = ((z + 1 * 2 ^ j : Nat) : Int) := by decide +kernel

set_option maxHeartbeats 1000000 in
theorem of_any (A : Option Addr) (n c : Nat) (l : List Nat) (w : World) (hr : Rd w w.heap.size A (i64s l)) (hl : l.length = n) (hn : n ≤ 1000000) (h01 : B01 l) :
    Calls Try.prog 10 #[.slice A n c] w fun e w' => ∃ A' n' c', e = .returned (.agg #[.slice A' n' c', .int .i64 (n : Nat)]) ∧ w'.ownsRow w.heap.size 5 1 (.slice A' n' c') n' (u8s (pack l)) ∧ Below w.heap.size w w' := by
  obtain ⟨q, hq⟩ : ∃ q, q = (n + 7) / 8 := ⟨_, rfl⟩
  have hmk := make_u8 q (by omega)
  rw [show ((q : Nat) : Int) = ((n : Int) + 7) / 8 by omega] at hmk
  have HQ := Lib.hid hq
  have HL := Lib.hid hl
  have HR := Lib.hid hr
  have HQL : Hid ((l.length + 7) / 8 = q) := hidI (by rw [hl, hq])
  have hq8 : 8 * q ≤ n + 7 := by omega
  have hqn : n ≤ 8 * q := by omega
  clear hl hr hq
  go_enter Try.func10, Try.ntmps10
  go_wp2
  have hz0 : Blk ((w.alloc (.cells #[.slice none 0 0, .int .i64 0] 28)).alloc (.cells (zrow q) 5)) (w.heap.size + 1) 5 (u8s (pk l 0)).toArray := by
    rw [pk_zero, HQL.out, ← list_zrow]
    exact blk2 w _ _
  have B1 := Lib.hid ((hz0.alloc (.cells #[.slice (some ⟨w.heap.size + 1, 0, none⟩) q q, .int .i64 (n : Nat)] 28)))
  have B2 : Hid (Blk (((w.alloc (.cells #[.slice none 0 0, .int .i64 0] 28)).alloc (.cells (zrow q) 5)).alloc (.cells #[.slice (some ⟨w.heap.size + 1, 0, none⟩) q q, .int .i64 (n : Nat)] 28)) (w.heap.size + 2) 28 #[.slice (some ⟨w.heap.size + 1, 0, none⟩) q q, .int .i64 (n : Nat)]) := hidI (by
    have := Blk.new ((w.alloc (.cells #[.slice none 0 0, .int .i64 0] 28)).alloc (.cells (zrow q) 5)) 28 #[.slice (some ⟨w.heap.size + 1, 0, none⟩) q q, .int .i64 (n : Nat)]
    simpa using this)
  have B3 : Hid (Blk (((w.alloc (.cells #[.slice none 0 0, .int .i64 0] 28)).alloc (.cells (zrow q) 5)).alloc (.cells #[.slice (some ⟨w.heap.size + 1, 0, none⟩) q q, .int .i64 (n : Nat)] 28)) w.heap.size 28 #[.slice none 0 0, .int .i64 0]) := hidI (((Blk.new w _ _).alloc _).alloc _)
  have B4 : Hid (Below w.heap.size w (((w.alloc (.cells #[.slice none 0 0, .int .i64 0] 28)).alloc (.cells (zrow q) 5)).alloc (.cells #[.slice (some ⟨w.heap.size + 1, 0, none⟩) q q, .int .i64 (n : Nat)] 28))) := hidI (((below_box _ _).alloc (by simp) _).alloc (by simp; omega) _)
  clear hz0 hmk
  go_loopw [4] (fun i wr => ∃ k : Nat, k ≤ n ∧ i = .int .i64 k ∧ Blk wr (w.heap.size + 1) 5 (u8s (pk l k)).toArray ∧ Blk wr (w.heap.size + 2) 28 #[.slice (some ⟨w.heap.size + 1, 0, none⟩) q q, .int .i64 (n : Nat)] ∧ Blk wr w.heap.size 28 #[.slice none 0 0, .int .i64 0] ∧ Below w.heap.size w wr) (fun i _ => n - (intOf i).toNat)
  case atStart => exact ⟨0, Nat.zero_le _, rfl, B1.out, B2.out, B3.out, B4.out⟩
  case round =>
    obtain ⟨k, hk, rfl, hb1, hb2, hb3, hbel⟩ := hrel
    clear B1 B2 B3 B4
    have hc0 : wr.cell? ⟨w.heap.size + 2, 0, none⟩ = some (.slice (some ⟨w.heap.size + 1, 0, none⟩) q q) := by rw [hb2.cell]; rfl
    have hc1 : wr.cell? ⟨w.heap.size + 2, 1, none⟩ = some (.int .i64 (n : Nat)) := by rw [hb2.cell]; rfl
    have hd0 : wr.cell? ⟨w.heap.size, 0, none⟩ = some (.slice none 0 0) := by rw [hb3.cell]; rfl
    have hd1 : wr.cell? ⟨w.heap.size, 1, none⟩ = some (.int .i64 0) := by rw [hb3.cell]; rfl
    have hd2 := hb3.frozen 0
    have hd3 := hb3.frozen 1
    have H1 := Lib.hid hb1
    have H2 := Lib.hid hb2
    have H3 := Lib.hid hb3
    have H4 := Lib.hid hbel
    by_cases hlt : k < n
    · obtain ⟨b, o, rfl, hbb, hcl⟩ := HR.out.at_ (k := k) (by rw [length_i64s, HL.out]; exact hlt)
      have hx : wr.cell? ⟨b, o + k, none⟩ = some (.int .i64 ((l.getD k 0 : Nat) : Int)) := (hbel.cell (by exact hbb)).trans (hcl k _ (i64s_at l k (by rw [HL.out]; exact hlt)))
      have hkq : k / 8 < q := by omega
      have hz : wr.cell? ⟨w.heap.size + 1, k / 8, none⟩ = some (.int .u8 (((pk l k).getD (k / 8) 0 : Nat) : Int)) := by
        rw [hb1.cell, List.getElem?_toArray]; exact u8s_at _ _ (by rw [length_pk, HQL.out]; exact hkq)
      have hzf := hb1.frozen (k / 8)
      have hzb : (pk l k).getD (k / 8) 0 < 256 := by rw [getD_pk]; exact byteOf_lt (b01_take h01 k) _
      have hzl : (pk l k).getD (k / 8) 0 % 2 ^ (7 - k % 8 + 1) = 0 := by rw [getD_pk]; exact byteOf_low (by have := List.length_take_le k l; omega) (by omega)
      have hx1 := h01 k
      have S1 := Lib.hid (pk_succ l k (by rw [HL.out]; exact hlt))
      have S0 := Lib.hid (pk_skip l k (by rw [HL.out]; exact hlt))
      have SO := Lib.hid (or_one (7 - k % 8) (by omega) _ hzb hzl)
      clear hb1 hb2 hb3 hbel hcl hzb hzl
      generalize hgx : l.getD k 0 = x at hx hx1 S1 S0
      clear hgx
      have e1 : ((k : Int) / 8).toNat = k / 8 := by omega
      have e2 : (k : Int) / 8 < (q : Int) := by omega
      have e3 : 0 ≤ 7 - (k : Int) % 8 := by omega
      have e4 : 7 - (k : Int) % 8 < 8 := by omega
      by_cases hx0 : x = 0
      · subst hx0
        go_wp2
        go_roundw
        case rel => exact ⟨k + 1, by omega, by go_num, by rw [S0.out rfl]; exact H1.out, H2.out, H3.out, H4.out⟩
        case measure => simp [intOf]; omega
      · have hx2 : x = 1 := by omega
        subst hx2
        generalize hgz : (pk l k).getD (k / 8) 0 = z at hz S1 SO
        clear hgz
        go_wp2
        rw [SO.out]
        go_roundw
        case rel =>
          refine ⟨k + 1, by omega, by go_num, ?_, H2.out.far (p := ⟨w.heap.size + 1, k / 8, none⟩) (by simp) _, H3.out.far (p := ⟨w.heap.size + 1, k / 8, none⟩) (by simp) _, H4.out.setCell (p := ⟨w.heap.size + 1, k / 8, none⟩) (by simp) _⟩
          rw [S1.out, u8s_set]
          exact H1.out.puts _ _ (by simp)
        case measure => simp [intOf]; omega
    · have hkn : k = n := by omega
      subst hkn
      have HP : Hid (pk l k = pack l) := hidI (by rw [← HL.out]; exact pk_all l)
      clear hb1 hb2 hb3 hbel
      go_wp2
      refine bodyPost_ret (v := .agg #[.slice (some ⟨w.heap.size + 1, 0, none⟩) q q, .int .i64 (k : Nat)]) (by simp [results, Try.results10, go_sem, hd0, hd1]) rfl ?_
      refine ⟨some ⟨w.heap.size + 1, 0, none⟩, q, q, rfl, ?_, (H4.out.setCell (by simp) _).setCell (by simp) _⟩
      have hB := (H1.out.far (p := ⟨w.heap.size, 0, none⟩) (by simp) (.slice (some ⟨w.heap.size + 1, 0, none⟩) q q)).far (p := ⟨w.heap.size, 1, none⟩) (by simp) (.int .i64 (k : Nat))
      rw [HP.out] at hB
      have hlp : (pack l).length = q := by rw [length_pack, HQL.out]
      refine ⟨by rw [length_u8s, hlp]; omega, .inr ⟨_, q, _, rfl, by omega, hB, Nat.le_refl _, by unfold maxLen; omega, by simp [length_u8s, hlp], ?_⟩⟩
      rw [Nat.mul_one]
      exact List.take_of_length_le (by simp [length_u8s, hlp])

def padS (bs : List Nat) (len : Int) : Int × List Nat :=
  if validB bs len = false then (7, []) else (0, unpack bs (8 * bs.length))
theorem unpack_all {bs : List Nat} (hB : Bytes bs) : pack (unpack bs (8 * bs.length)) = bs := by
  refine ext_getD (by rw [length_pack]; simp [unpack]; omega) fun k hk => ?_
  have hk' : k < bs.length := by rw [length_pack] at hk; simp [unpack] at hk; omega
  rw [getD_pack]
  have key : ∀ t, t < 8 → (unpack bs (8 * bs.length)).getD (8 * k + t) 0 = bs.getD k 0 / 2 ^ (7 - t) % 2 := by
    intro t ht
    unfold unpack
    rw [getD_map_range, if_pos (by omega)]
    unfold bitOf; rw [show (8 * k + t) / 8 = k by omega, show (8 * k + t) % 8 = t by omega]
  unfold byteOf
  have e0 := key 0 (by omega); have e1 := key 1 (by omega); have e2 := key 2 (by omega); have e3 := key 3 (by omega); have e4 := key 4 (by omega); have e5 := key 5 (by omega); have e6 := key 6 (by omega); have e7 := key 7 (by omega)
  simp only [Nat.add_zero, Nat.reduceSub, Nat.reducePow] at e0 e1 e2 e3 e4 e5 e6 e7
  rw [e0, e1, e2, e3, e4, e5, e6, e7]
  exact byte_split _ (hB k)

set_option maxHeartbeats 400000 in
theorem size_some (n : Int) (w : World) (h : I64 n) :
    Calls Try.prog 29 #[.int .i64 n] w fun e w' => SomeInt (fun v => I64 v ∧ (0 ≤ n → n ≤ 40000 → v = (n + 7) / 8)) e ∧ w = w' := by
  obtain ⟨h1, h2⟩ := h
  by_cases h0 : 0 ≤ n ∧ n ≤ 40000
  · obtain ⟨a, b⟩ := h0
    exact (size_any n w a (by omega)).mono fun e w' hh => ⟨⟨_, ⟨⟨by omega, by omega⟩, fun _ _ => rfl⟩, hh.1⟩, hh.2⟩
  · have hw : -9223372036854775808 ≤ wrap64 (n + 7) ∧ wrap64 (n + 7) ≤ 9223372036854775807 := by unfold wrap64; omega
    go_enter Try.func29, Try.ntmps29
    go_wp2
    go_ret
    refine ⟨⟨_, ⟨?_, fun a b => absurd ⟨a, b⟩ h0⟩, rfl⟩, rfl⟩
    generalize wrap64 (n + 7) = x at hw
    have hx : (x.tdiv 8).natAbs = x.natAbs / 8 := by rw [Int.natAbs_tdiv]; rfl
    constructor <;> omega

set_option maxHeartbeats 1000000 in
theorem pad_any (A : Option Addr) (n c : Nat) (len : Int) (bs : List Nat) (w : World) (hr : Rd w w.heap.size A (u8s bs)) (hl : bs.length = n) (hn : n ≤ 140737488355328) (hB : Bytes bs) (hlen : I64 len) :
    Calls Try.prog 11 #[.agg #[.slice A n c, .int .i64 len]] w fun e w' => BRes w w' e (padS bs len) := by
  have C1 := Lib.hid (fun (W : World) (hb : Below w.heap.size w W) => valid_any A n c len bs W ((hr.below hb).more hb.size) hl hn hB hlen)
  have C2 := Lib.hid (fun (W : World) (hb : Below w.heap.size w W) => copied_any A n c len bs W ((hr.below hb).more hb.size) hl hn)
  have HB := Lib.hid hB
  have hbox : Below w.heap.size w ((w.alloc (.cells #[.slice A n c, .int .i64 len] 28)).alloc (.cells #[.slice none 0 0, .int .i64 0] 28)) := (below_box _ _).alloc (by simp) _
  have HX := Lib.hid hbox
  have HU := Lib.hid (unpack_all hB)
  have HL := Lib.hid hl
  have hI := Lib.hid hlen
  obtain ⟨l1, l2⟩ := hlen
  clear hr hl hB hbox
  by_cases c1 : validB bs len = false
  · have HS : Hid (padS bs len = (7, [])) := hidI (by unfold padS; rw [if_pos c1])
    go_enter Try.func11, Try.ntmps11
    go_wp2_with fail
    refine (size_some len _ hI.out).mono ?_
    rintro e w1 ⟨⟨v, ⟨⟨hv1, hv2⟩, -⟩, rfl⟩, rfl⟩
    go_wp2_with fail
    refine (C1.out _ HX.out).mono ?_
    rintro e w1 ⟨rfl, hb1⟩
    obtain ⟨hc, hf⟩ := bcell hb1
    have hz := hb1.size
    have hbw := Lib.hid (HX.out.trans (hb1.mono (by simp; omega)))
    simp only [World.size_alloc] at hz hc hf
    clear hb1
    go_wp2
    refine bodyPost_ret (v := .tuple #[.agg #[.slice none 0 0, .int .i64 0], .int .i64 7]) (by simp [results, Try.results11, go_sem, hc]) rfl ?_
    rw [HS.out]
    exact bres_err 7 ((hbw.out.setCell (by simp) _).setCell (by simp) _)
  · have c1 : validB bs len = true := by simpa using c1
    obtain ⟨g1, g2, g3, -⟩ := validB_iff.1 c1
    have HS : Hid (padS bs len = (0, unpack bs (8 * n))) := hidI (by unfold padS; rw [if_neg (by simp [c1]), HL.out])
    have HU' : Hid (pack (unpack bs (8 * n)) = bs) := hidI (by rw [← HL.out]; exact HU.out)
    have HLU : Hid ((unpack bs (8 * n)).length = 8 * n) := hidI (by simp [unpack])
    have hn5 : (len + 7) / 8 = (n : Int) := by rw [← HL.out]; omega
    have HN := Lib.hid hn5
    have hn6 : n ≤ 5000 := by omega
    clear g3 hn5
    go_enter Try.func11, Try.ntmps11
    go_wp2_with fail
    refine (size_some len _ hI.out).mono ?_
    rintro e w1 ⟨⟨v, ⟨-, hv⟩, rfl⟩, rfl⟩
    obtain rfl : v = (n : Int) := by rw [hv g1 g2]; exact HN.out
    clear hv
    go_wp2_with fail
    refine (C1.out _ HX.out).mono ?_
    rintro e w1 ⟨rfl, hb1⟩
    obtain ⟨hc, hf⟩ := bcell hb1
    have hz := hb1.size
    have hbw := Lib.hid (HX.out.trans (hb1.mono (by simp; omega)))
    simp only [World.size_alloc] at hz hc hf
    clear hb1
    go_wp2_with fail
    refine (C2.out _ hbw.out).mono ?_
    rintro e w2 ⟨gw, v', rfl, hblk, hown, hgw, hb2⟩
    obtain ⟨hc2, hf2⟩ := bcell hb2
    have hz2 := hb2.size
    have hbw2 := Lib.hid (hbw.out.trans (hb2.mono (by omega)))
    obtain ⟨A3, c3', rfl, _⟩ := (own_slice hown).2
    have k0 : w2.cell? ⟨gw, 0, none⟩ = some (.slice A3 n c3') := by rw [hblk.cell]; rfl
    have k1 : w2.cell? ⟨gw, 1, none⟩ = some (.int .i64 len) := by rw [hblk.cell]; rfl
    have k2 := hblk.frozen 0
    have k3 := hblk.frozen 1
    have HO := Lib.hid (ownsRow_setCell_other hown (a := ⟨gw, 1, none⟩) (own_blk_ne hown hblk (by decide)) (.int .i64 ((n : Int) * 8)))
    have j0 : w2.cell? ⟨w.heap.size + 1, 0, none⟩ = some (.slice none 0 0) := by
      rw [hc2 _ _ (by omega), hc _ _ (by omega)]; go_simp
    have j1 : w2.cell? ⟨w.heap.size + 1, 1, none⟩ = some (.int .i64 0) := by
      rw [hc2 _ _ (by omega), hc _ _ (by omega)]; go_simp
    have j2 : w2.frozen? ⟨w.heap.size + 1, 0, none⟩ = false := by
      rw [hf2 _ _ (by omega), hf _ _ (by omega)]; go_simp
    have j3 : w2.frozen? ⟨w.heap.size + 1, 1, none⟩ = false := by
      rw [hf2 _ _ (by omega), hf _ _ (by omega)]; go_simp
    have hne : ¬ gw = w.heap.size + 1 := by omega
    have hne2 : ¬ w.heap.size + 1 = gw := by omega
    clear hblk hown hb2 hc hf hc2 hf2
    go_wp2
    refine bodyPost_ret (v := .tuple #[.agg #[.slice A3 n c3', .int .i64 ((n : Int) * 8)], .int .i64 0]) (by simp [results, Try.results11, go_sem, j0, j1]) rfl ?_
    rw [HS.out, show ((n : Int) * 8) = (((unpack bs (8 * n)).length : Nat) : Int) by rw [HLU.out]; omega]
    refine bres_ok (base := w1.heap.size) ?_ (by omega) (((hbw2.out.setCell (by simp; omega) _).setCell (by simp) _).setCell (by simp) _)
    rw [HU'.out, HLU.out, show ((8 * n : Nat) : Int) = (n : Int) * 8 by omega]
    exact ownsRow_setCell_below (ownsRow_setCell_below HO.out (by simp; omega) _) (by simp; omega) _
end Go.Proofs.Ytkbfldgebcpigaa
