/- Walks of bits.Append, Pad. -/
import Derived.Test.YtkbfldgebcpigaaBitsC
namespace Go.Proofs.Ytkbfldgebcpigaa
open Go.RowKit

/-- The call gave the list of the bits l and the error code. -/
def BRes (w w' : World) (e : Ending) (r : Int × List Nat) : Prop :=
  ∃ A n c, e = .returned (.tuple #[.agg #[.slice A n c, .int .i64 ((r.2.length : Nat) : Int)], .int .i64 r.1]) ∧ n = (pack r.2).length ∧ n ≤ c ∧ w'.ownsRow w.heap.size 5 1 (.slice A n c) n (u8s (pack r.2)) ∧ ((A = none → c = 0) ∧ ∀ a, A = some a → w.heap.size ≤ a.block) ∧ Rd w' w'.heap.size A (u8s (pack r.2)) ∧ Below w.heap.size w w'

def appS (bs : List Nat) (len v n : Int) : Int × List Nat :=
  if validB bs len = false then (7, []) else if widthB n = false ∨ v < 0 ∨ 2 ^ n.toNat ≤ v then (1, []) else if 40000 < len + n then (2, []) else (0, unpack bs len.toNat ++ nb v.toNat n.toNat n.toNat)

theorem wr_of_copied {w' : World} {base gw n : Nat} {v : Value} {bs : List Nat} {len : Int} (hB : Bytes bs) (hv : validB bs len = true) (h1 : Blk w' gw 57 #[v, .int .i64 len]) (h2 : w'.ownsRow base 5 1 v n (u8s bs)) : WrOK w' base gw (unpack bs len.toNat) := by
  have e := pack_unpack hB hv
  have hl : ((unpack bs len.toNat).length : Int) = len := by
    have := (validB_iff.1 hv).1
    simp [unpack]; omega
  refine ⟨v, by rw [hl]; exact h1, ?_⟩
  rw [e]
  have : n = bs.length := by have := h2.1; rw [length_u8s] at this; omega
  rw [this] at h2
  exact h2
theorem own_lower {w : World} {base b e n : Nat} {v : Value} {xs : List Value} {s : Nat} (h : w.ownsRow base e s v n xs) (hb : b ≤ base) : w.ownsRow b e s v n xs := by
  refine ⟨h.1, ?_⟩
  rcases h.2 with h | ⟨g, cap, cur, h1, h2, h3⟩
  · exact .inl h
  · exact .inr ⟨g, cap, cur, h1, by omega, h3⟩
theorem bres_err {w w' : World} (code : Int) (hb : Below w.heap.size w w') : BRes w w' (.returned (.tuple #[.agg #[.slice none 0 0, .int .i64 0], .int .i64 code])) (code, []) :=
  ⟨none, 0, 0, rfl, by simp [pack], Nat.le_refl _, (by simpa [pack, u8s] using World.ownsRow_nil _ _ _ _), ⟨fun _ => rfl, (fun a h => by cases h)⟩, (by simpa [pack, u8s] using Rd.nil_), hb⟩
theorem bres_ok {w w' : World} {base n : Nat} {A : Option Addr} {c : Nat} {l : List Nat} (h : w'.ownsRow base 5 1 (.slice A n c) n (u8s (pack l))) (h0 : w.heap.size ≤ base) (hb : Below w.heap.size w w') :
    BRes w w' (.returned (.tuple #[.agg #[.slice A n c, .int .i64 ((l.length : Nat) : Int)], .int .i64 0])) (0, l) := by
  obtain ⟨hn, A', c', he, h1, h2, h3⟩ := own_slice h
  rw [length_u8s] at hn
  injection he with e1 e2 e3
  subst e1 e3
  exact ⟨A, n, c, rfl, hn.symm, h1, own_lower h h0, ⟨h3, fun a ha => by
    have := (h.lt a.block (by rw [ha]; rfl)).1
    omega⟩, Rd.of_own h, hb⟩

set_option maxHeartbeats 1000000 in
theorem append_any (A : Option Addr) (n c : Nat) (len : Int) (bs : List Nat) (v m : Int) (w : World) (hr : Rd w w.heap.size A (u8s bs)) (hl : bs.length = n) (hn : n ≤ 140737488355328) (hB : Bytes bs) (hlen : I64 len) (hv : I64 v) (hm : I64 m) :
    Calls Try.prog 17 #[.agg #[.slice A n c, .int .i64 len], .int .i64 v, .int .i64 m] w fun e w' => BRes w w' e (appS bs len v m) := by
  have C1 := Lib.hid (fun (W : World) (hb : Below w.heap.size w W) => valid_any A n c len bs W ((hr.below hb).more hb.size) hl hn hB hlen)
  have C2 := Lib.hid (fun (W : World) (hb : Below w.heap.size w W) => copied_any A n c len bs W ((hr.below hb).more hb.size) hl hn)
  have HB := Lib.hid hB
  obtain ⟨v1, v2⟩ := hv
  obtain ⟨m1, m2⟩ := hm
  have hbox : Below w.heap.size w ((w.alloc (.cells #[.slice A n c, .int .i64 len] 28)).alloc (.cells #[.slice none 0 0, .int .i64 0] 28)) := (below_box _ _).alloc (by simp) _
  have HX := Lib.hid hbox
  clear hr hl hB hbox
  by_cases c1 : validB bs len = false
  · have HS : Hid (appS bs len v m = (7, [])) := hidI (by unfold appS; rw [if_pos c1])
    go_enter Try.func17, Try.ntmps17
    go_wp2_with fail
    refine (C1.out _ HX.out).mono ?_
    rintro e w1 ⟨rfl, hb1⟩
    obtain ⟨hc, hf⟩ := bcell hb1
    have hz := hb1.size
    have hbw := Lib.hid (HX.out.trans (hb1.mono (by simp; omega)))
    simp only [World.size_alloc] at hz hc hf
    clear hb1
    go_wp2
    refine bodyPost_ret (v := .tuple #[.agg #[.slice none 0 0, .int .i64 0], .int .i64 7]) (by simp [results, Try.results17, go_sem, hc]) rfl ?_
    rw [HS.out]
    exact bres_err 7 ((hbw.out.setCell (by simp) _).setCell (by simp) _)
  have c1 : validB bs len = true := by simpa using c1
  by_cases c2 : widthB m = false
  · have HS : Hid (appS bs len v m = (1, [])) := hidI (by unfold appS; rw [if_neg (by simp [c1]), if_pos (.inl c2)])
    go_enter Try.func17, Try.ntmps17
    go_wp2_with fail
    refine (C1.out _ HX.out).mono ?_
    rintro e w1 ⟨rfl, hb1⟩
    obtain ⟨hc, hf⟩ := bcell hb1
    have hz := hb1.size
    have hbw := Lib.hid (HX.out.trans (hb1.mono (by simp; omega)))
    simp only [World.size_alloc] at hz hc hf
    clear hb1
    go_wp2_with (go_at_call 33; refine (width_any _ _).mono ?_; rintro e w' ⟨rfl, rfl⟩)
    refine bodyPost_ret (v := .tuple #[.agg #[.slice none 0 0, .int .i64 0], .int .i64 1]) (by simp [results, Try.results17, go_sem, hc]) rfl ?_
    rw [HS.out]
    exact bres_err 1 ((hbw.out.setCell (by simp) _).setCell (by simp) _)
  have c2 : widthB m = true := by simpa using c2
  obtain ⟨m3, m4⟩ : 1 ≤ m ∧ m ≤ 24 := by unfold widthB at c2; simpa using c2
  by_cases c3 : v < 0
  · have HS : Hid (appS bs len v m = (1, [])) := hidI (by unfold appS; rw [if_neg (by simp [c1]), if_pos (.inr (.inl c3))])
    go_enter Try.func17, Try.ntmps17
    go_wp2_with fail
    refine (C1.out _ HX.out).mono ?_
    rintro e w1 ⟨rfl, hb1⟩
    obtain ⟨hc, hf⟩ := bcell hb1
    have hz := hb1.size
    have hbw := Lib.hid (HX.out.trans (hb1.mono (by simp; omega)))
    simp only [World.size_alloc] at hz hc hf
    clear hb1
    go_wp2_with (go_at_call 33; refine (width_any _ _).mono ?_; rintro e w' ⟨rfl, rfl⟩)
    refine bodyPost_ret (v := .tuple #[.agg #[.slice none 0 0, .int .i64 0], .int .i64 1]) (by simp [results, Try.results17, go_sem, hc]) rfl ?_
    rw [HS.out]
    exact bres_err 1 ((hbw.out.setCell (by simp) _).setCell (by simp) _)
  have c3 : 0 ≤ v := by omega
  obtain ⟨k, rfl⟩ := Int.eq_ofNat_of_zero_le (show 0 ≤ m by omega)
  obtain ⟨x, rfl⟩ := Int.eq_ofNat_of_zero_le c3
  have hp : (2 : Int) ^ k ≤ 16777216 := by
    have := Nat.pow_le_pow_right (show 0 < 2 by omega) (show k ≤ 24 by omega)
    have e : ((2 ^ k : Nat) : Int) = (2 : Int) ^ k := by push_cast; rfl
    omega
  have hp0 : (0 : Int) < 2 ^ k := Int.pow_pos (by omega)
  have hwp : wrap64 ((2 : Int) ^ k) = 2 ^ k := IntWalk.wrap64_in _ ⟨by omega, by omega⟩
  have d3 : decide (((x : Nat) : Int) < 0) = false := by simp
  obtain ⟨l1, l2, -, -⟩ := validB_iff.1 c1
  by_cases c4 : (2 : Int) ^ k ≤ x
  · have HS : Hid (appS bs len x k = (1, [])) := hidI (by unfold appS; rw [if_neg (by simp [c1]), if_pos (.inr (.inr (by simpa using c4)))])
    have d4 : decide ((2 : Int) ^ k ≤ x) = true := by simpa using c4
    clear c4 hp hp0
    go_enter Try.func17, Try.ntmps17
    go_wp2_with fail
    refine (C1.out _ HX.out).mono ?_
    rintro e w1 ⟨rfl, hb1⟩
    obtain ⟨hc, hf⟩ := bcell hb1
    have hz := hb1.size
    have hbw := Lib.hid (HX.out.trans (hb1.mono (by simp; omega)))
    simp only [World.size_alloc] at hz hc hf
    clear hb1
    go_wp2_with (go_at_call 33; refine (width_any _ _).mono ?_; rintro e w' ⟨rfl, rfl⟩)
    refine bodyPost_ret (v := .tuple #[.agg #[.slice none 0 0, .int .i64 0], .int .i64 1]) (by simp [results, Try.results17, go_sem, hc]) rfl ?_
    rw [HS.out]
    exact bres_err 1 ((hbw.out.setCell (by simp) _).setCell (by simp) _)
  have d4 : decide ((2 : Int) ^ k ≤ x) = false := by simpa using c4
  have hxk : x < 2 ^ k := by
    have e : ((2 ^ k : Nat) : Int) = (2 : Int) ^ k := by push_cast; rfl
    omega
  have HXK := Lib.hid hxk
  have hx24 : x < 16777216 := by omega
  by_cases c5 : 40000 < len + k
  · have HS : Hid (appS bs len x k = (2, [])) := hidI (by unfold appS; rw [if_neg (by simp [c1]), if_neg (by simp [c2]; omega), if_pos c5])
    clear c4 hp hp0 hxk
    go_enter Try.func17, Try.ntmps17
    go_wp2_with fail
    refine (C1.out _ HX.out).mono ?_
    rintro e w1 ⟨rfl, hb1⟩
    obtain ⟨hc, hf⟩ := bcell hb1
    have hz := hb1.size
    have hbw := Lib.hid (HX.out.trans (hb1.mono (by simp; omega)))
    simp only [World.size_alloc] at hz hc hf
    clear hb1
    go_wp2_with (go_at_call 33; refine (width_any _ _).mono ?_; rintro e w' ⟨rfl, rfl⟩)
    refine bodyPost_ret (v := .tuple #[.agg #[.slice none 0 0, .int .i64 0], .int .i64 2]) (by simp [results, Try.results17, go_sem, hc]) rfl ?_
    rw [HS.out]
    exact bres_err 2 ((hbw.out.setCell (by simp) _).setCell (by simp) _)
  · have HS : Hid (appS bs len x k = (0, unpack bs len.toNat ++ nb x k k)) := hidI (by unfold appS; rw [if_neg (by simp [c1]), if_neg (by simp [c2]; omega), if_neg c5]; simp)
    have hlen' : (unpack bs len.toNat).length + k ≤ 40000 := by simp [unpack]; omega
    have HL := Lib.hid hlen'
    have h01 := Lib.hid (b01_unpack bs len.toNat)
    have C1v := Lib.hid c1
    clear c4 hp hp0 hxk hlen'
    go_enter Try.func17, Try.ntmps17
    go_wp2_with fail
    refine (C1.out _ HX.out).mono ?_
    rintro e w1 ⟨rfl, hb1⟩
    obtain ⟨hc, hf⟩ := bcell hb1
    have hz := hb1.size
    have hbw := Lib.hid (HX.out.trans (hb1.mono (by simp; omega)))
    simp only [World.size_alloc] at hz hc hf
    clear hb1
    go_wp2_with (go_at_call 33; refine (width_any _ _).mono ?_; rintro e w' ⟨rfl, rfl⟩)
    refine (C2.out _ hbw.out).mono ?_
    rintro e w2 ⟨gw, v', rfl, hblk, hown, hgw, hb2⟩
    have HW := Lib.hid (wr_of_copied HB.out C1v.out hblk hown)
    obtain ⟨hc2, hf2⟩ := bcell hb2
    have hz2 := hb2.size
    have hbw2 := Lib.hid (hbw.out.trans (hb2.mono (by omega)))
    clear hblk hown hb2
    go_wp2_with fail
    refine (write_any w1.heap.size gw _ x k w2 w1.heap.size HW.out h01.out hx24 (by omega) HL.out hgw (Nat.le_refl _) hz2).mono ?_
    rintro e w3 ⟨rfl, hw3, hb3⟩
    obtain ⟨hc3, hf3⟩ := bcellB hb3
    have hz3 := hb3.size
    have hbw3 := Lib.hid (hbw2.out.trans (hb3.mono (by omega)))
    generalize unpack bs len.toNat ++ nb x k k = l at hw3 HS
    obtain ⟨v3, hblk3, hown3⟩ := hw3
    obtain ⟨A3, c3', rfl, _⟩ := (own_slice hown3).2
    have k0 : w3.cell? ⟨gw, 0, none⟩ = some (.slice A3 (pack l).length c3') := by rw [hblk3.cell]; rfl
    have k1 : w3.cell? ⟨gw, 1, none⟩ = some (.int .i64 (l.length : Nat)) := by rw [hblk3.cell]; rfl
    have HO := Lib.hid hown3
    have j0 : w3.cell? ⟨w.heap.size + 1, 0, none⟩ = some (.slice none 0 0) := by
      rw [hc3 _ _ (by omega), hc2 _ _ (by omega), hc _ _ (by omega)]; go_simp
    have j1 : w3.cell? ⟨w.heap.size + 1, 1, none⟩ = some (.int .i64 0) := by
      rw [hc3 _ _ (by omega), hc2 _ _ (by omega), hc _ _ (by omega)]; go_simp
    have j2 : w3.frozen? ⟨w.heap.size + 1, 0, none⟩ = false := by
      rw [hf3 _ _ (by omega), hf2 _ _ (by omega), hf _ _ (by omega)]; go_simp
    have j3 : w3.frozen? ⟨w.heap.size + 1, 1, none⟩ = false := by
      rw [hf3 _ _ (by omega), hf2 _ _ (by omega), hf _ _ (by omega)]; go_simp
    clear hblk3 hown3 hb3 hc hf hc2 hf2 hc3 hf3
    go_wp2
    refine bodyPost_ret (v := .tuple #[.agg #[.slice A3 (pack l).length c3', .int .i64 (l.length : Nat)], .int .i64 0]) (by simp [results, Try.results17, go_sem, j0, j1]) rfl ?_
    rw [HS.out]
    refine bres_ok (base := w1.heap.size) ?_ (by omega) ((hbw3.out.setCell (by simp) _).setCell (by simp) _)
    exact ownsRow_setCell_below (ownsRow_setCell_below HO.out (by simp; omega) _) (by simp; omega) _
end Go.Proofs.Ytkbfldgebcpigaa
