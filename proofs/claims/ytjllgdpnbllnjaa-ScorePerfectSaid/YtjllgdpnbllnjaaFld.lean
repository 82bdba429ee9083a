/- The walks of a list of choices (synopticfield.Codes): New, Left, Next. A list of choices is kept as an invariant only: whatever it gives is in range. -/
import Derived.Test.YtjllgdpnbllnjaaRows
import Derived.Test.YtjllgdpnbllnjaaMm
namespace Go.Proofs.Ytjllgdpnbllnjaa
open Go.RowKit

/-- The call comes back with an integer of which P holds. -/
def SomeInt (P : Int → Prop) (e : Ending) : Prop := ∃ v : Int, P v ∧ e = .returned (.int .i64 v)
/-- Block g is a list of choices; its bytes lie below it. -/
def CodesOK (w : World) (g : Nat) : Prop :=
  ∃ (A : Option Addr) (n c k : Nat) (zs : List Int), Blk w g 71 #[.slice A n c, .int .i64 k] ∧ Rd w g A (zs.map (Value.int .u8)) ∧ zs.length = n ∧ k ≤ n ∧ n ≤ 100000 ∧ ∀ z ∈ zs, 0 ≤ z ∧ z ≤ 255

theorem CodesOK.lt {w : World} {g : Nat} (h : CodesOK w g) : g < w.heap.size := by
  obtain ⟨_, _, _, _, _, hb, _⟩ := h
  exact hb.lt
theorem CodesOK.drewN {w : World} {g : Nat} (h : CodesOK w g) (m : Nat) : CodesOK (w.drewN m) g := h
theorem CodesOK.drew {w : World} {g : Nat} (h : CodesOK w g) : CodesOK w.drew g := h
theorem CodesOK.below {w w' : World} {g B : Nat} (h : CodesOK w g) (hb : Below B w w') (hB : g < B) : CodesOK w' g := by
  obtain ⟨A, n, c, k, zs, hk, hrd, h1, h2, h3, h4⟩ := h
  exact ⟨A, n, c, k, zs, hk.below hb hB, hrd.below (hb.mono (by omega)), h1, h2, h3, h4⟩
theorem CodesOK.grown {w w' : World} {g : Nat} {row : Option Nat} (h : CodesOK w g) (hg : w.grownBy w' row) (hr : ∀ k, row = some k → g < k) : CodesOK w' g := by
  have hlt := h.lt
  obtain ⟨A, n, c, k, zs, hb, hrd, h1, h2, h3, h4⟩ := h
  refine ⟨A, n, c, k, zs, hb.grown hg (fun e => by have := hr g e.symm; omega), hrd.grown hg (by omega) (fun k hk => by have := hr k hk; omega), h1, h2, h3, h4⟩
theorem CodesOK.next {w w' : World} {g : Nat} (h : CodesOK w g) (hb : Below w.heap.size w w') : CodesOK w' g := h.below hb h.lt
theorem CodesOK.alloc {w : World} {g : Nat} (h : CodesOK w g) (o : Obj) : CodesOK (w.alloc o) g := h.next (ext_alloc (Below.refl _ _) o)
theorem CodesOK.far {w : World} {g : Nat} (h : CodesOK w g) {p : Addr} (hp : g < p.block) (u : Value) : CodesOK (w.setCell p u) g := by
  obtain ⟨A, n, c, k, zs, hb, hrd, h1, h2, h3, h4⟩ := h
  exact ⟨A, n, c, k, zs, hb.far (by omega) u, hrd.setCell (by omega) u, h1, h2, h3, h4⟩

set_option maxHeartbeats 400000 in
theorem left_any (b : Bool) (g n c k : Nat) (A : Option Addr) (w : World) (hb : Blk w g 71 #[.slice A n c, .int .i64 k]) (hB : decide (k < n) = b) :
    Calls Try.prog 59 #[.pointer (some ⟨g, 0, none⟩)] w fun e w' => e = .returned (.bool b) ∧ ∃ m, w' = w.drewN m := by
  have hc0 : w.cell? ⟨g, 0, none⟩ = some (.slice A n c) := by rw [hb.cell]; rfl
  have hc1 : w.cell? ⟨g, 1, none⟩ = some (.int .i64 k) := by rw [hb.cell]; rfl
  clear hb
  replace hB := Lib.hid hB
  go_enter Try.func59, Try.ntmps59
  go_wp2
  go_quiet (fail)
  go_wp2
  go_ret
  exact ⟨ret_bool hB.out, _, rfl⟩

set_option maxHeartbeats 800000 in
theorem next_any (g : Nat) (n : Int) (w : World) (h : CodesOK w g) (hn : -9223372036854775808 ≤ n ∧ n ≤ 9223372036854775807) :
    Calls Try.prog 42 #[.pointer (some ⟨g, 0, none⟩), .int .i64 n] w fun e w' => SomeInt (fun v => 0 ≤ v ∧ (v < n ∨ v = 0) ∧ v ≤ 255) e ∧ CodesOK w' g ∧ w.grownBy w' (some g) := by
  obtain ⟨hn1, hn2⟩ := hn
  obtain ⟨A, len, c, k, zs, hb, hrd, hl, hk, hlen, hz⟩ := h
  have HB := Lib.hid hb
  by_cases hlt : k < len
  · by_cases h1 : n < 1
    · go_enter Try.func42, Try.ntmps42
      clear hb
      go_wp2_with fail
      refine (left_any true g len c k A w HB.out (by simp; omega)).mono ?_
      rintro e w' ⟨rfl, m, rfl⟩
      go_wp2
      go_ret
      exact ⟨⟨0, ⟨by omega, .inr rfl, by omega⟩, rfl⟩, ⟨A, len, c, k, zs, HB.out, hrd, hl, hk, hlen, hz⟩, grown_drewN (grown_refl _ _) _⟩
    obtain ⟨b, o, rfl, hbg, hcell⟩ := hrd.at_ (k := k) (by simp; omega)
    have hz' := hz (zs[k]'(by omega)) (List.getElem_mem _)
    have hck : w.cell? ⟨b, o + k, none⟩ = some (.int .u8 (zs[k]'(by omega))) := hcell k _ (by simp [List.getElem?_map, List.getElem?_eq_getElem (show k < zs.length by omega)])
    generalize zs[k]'(by omega) = z at hz' hck
    have hc0 : w.cell? ⟨g, 0, none⟩ = some (.slice (some ⟨b, o, none⟩) len c) := by rw [hb.cell]; rfl
    have hc1 : w.cell? ⟨g, 1, none⟩ = some (.int .i64 k) := by rw [hb.cell]; rfl
    have hf1 := hb.frozen 1
    have HL := Lib.hid hl
    have HZ := Lib.hid hz
    have HC := Lib.hid hcell
    have HR := Lib.hid hrd
    have hne : ¬ g = b := by omega
    have hne' : ¬ b = g := by omega
    obtain ⟨hz1, hz2⟩ := hz'
    have h1' : 1 ≤ n := by omega
    have hm1 := Int.emod_nonneg z (show n ≠ 0 by omega)
    have hm2 := Int.emod_lt_of_pos z (show 0 < n by omega)
    have hm3 : z % n ≤ z := by
      have q1 := Int.mul_ediv_add_emod z n
      have q2 := Int.mul_nonneg (show 0 ≤ n by omega) (Int.ediv_nonneg hz1 (show 0 ≤ n by omega))
      omega
    clear hl hz hcell hrd hb
    go_enter Try.func42, Try.ntmps42
    go_wp2_with fail
    refine (left_any true g len c k (some ⟨b, o, none⟩) w HB.out (by simp; omega)).mono ?_
    rintro e w' ⟨rfl, m, rfl⟩
    go_wp2
    go_quiet (fail)
    go_wp2
    go_ret
    refine ⟨⟨z % n, ⟨hm1, .inl hm2, by omega⟩, rfl⟩, ⟨some ⟨b, o, none⟩, len, c, k + 1, zs, ?_, ?_, HL.out, by omega, hlen, HZ.out⟩, ?_⟩
    · exact (Blk.puts (HB.out.drewN _) 1 _ (by simp)).drewN _
    · exact ((HR.out.drewN _).setCell (p := ⟨g, 1, none⟩) (by simp) _).drewN _
    · exact grown_drewN (grown_put (grown_drewN (grown_refl _ _) _) (.inl rfl) _) _
  · go_enter Try.func42, Try.ntmps42
    clear hb
    go_wp2_with fail
    refine (left_any false g len c k A w HB.out (by simp; omega)).mono ?_
    rintro e w' ⟨rfl, m, rfl⟩
    go_wp2
    go_ret
    exact ⟨⟨0, ⟨by omega, .inr rfl, by omega⟩, rfl⟩, ⟨A, len, c, k, zs, HB.out, hrd, hl, hk, hlen, hz⟩, grown_drewN (grown_refl _ _) _⟩

set_option maxHeartbeats 400000 in
theorem fnew_any (A : Option Addr) (n c : Nat) (zs : List Int) (most' : Int) (w : World) (hr : Rd w w.heap.size A (zs.map (Value.int .u8))) (hl : zs.length = n) (hnc : n ≤ c) (hc : c ≤ 9223372036854775807) (hA : A = none → c = 0) (hz : ∀ z ∈ zs, 0 ≤ z ∧ z ≤ 255) (hm' : 0 ≤ most' ∧ most' ≤ 100000) :
    Calls Try.prog 19 #[.slice A n c, .int .i64 most'] w fun e w' => e = .returned (.pointer (some ⟨w.heap.size, 0, none⟩)) ∧ CodesOK w' w.heap.size ∧ Below w.heap.size w w' := by
  obtain ⟨most, rfl⟩ := Int.eq_ofNat_of_zero_le hm'.1
  have hm : most ≤ 100000 := by omega
  have HR := Lib.hid hr
  have HL := Lib.hid hl
  have HZ := Lib.hid hz
  clear hr hl hz
  have fin : ∀ m, m ≤ 100000 → m ≤ n → CodesOK (w.alloc (.cells #[.slice A m c, .int .i64 0] 71)) w.heap.size ∧ Below w.heap.size w (w.alloc (.cells #[.slice A m c, .int .i64 0] 71)) := by
    intro m hm hmn
    refine ⟨⟨A, m, c, 0, zs.take m, Blk.new _ _ _, ?_, by have := HL.out; simp; omega, Nat.zero_le _, hm, fun z hz => HZ.out z (List.mem_of_mem_take hz)⟩, (Below.refl _ _).alloc (Nat.le_refl _) _⟩
    have h1 := Rd.alloc HR.out (Nat.le_refl _) (.cells #[.slice A m c, .int .i64 0] 71)
    obtain ⟨b, o, h2, h3⟩ := h1
    refine ⟨b, o, fun hne => h2 (fun e => hne (by have e' : zs = [] := by simpa using e
                                                  simp [e'])), fun j u hu => h3 j u ?_⟩
    rw [List.map_take, List.getElem?_take] at hu
    split at hu
    · exact hu
    · cases hu
  by_cases hn : n ≤ most
  · have f1 := Lib.hid (fin n (by omega) (Nat.le_refl _))
    clear fin
    have hn' : (n : Int) ≤ most := by omega
    go_enter Try.func19, Try.ntmps19
    go_wp2
    go_ret
    exact ⟨rfl, f1.out⟩
  · have f1 := Lib.hid (fin most (by omega) (by omega))
    clear fin
    have hn' : (most : Int) < n := by omega
    have hn2 : (0 : Int) ≤ most := by omega
    have hn3 : (most : Int) ≤ c := by omega
    cases A with
    | none =>
      have hc0 : c = 0 := hA rfl
      omega
    | some a =>
      clear hA
      go_enter Try.func19, Try.ntmps19
      go_wp2
      go_ret
      exact ⟨rfl, f1.out⟩

set_option maxHeartbeats 800000 in
theorem signed_any (g : Nat) (most : Int) (w : World) (h : CodesOK w g) (hn : 0 ≤ most ∧ most ≤ 1000000000) :
    Calls Try.prog 43 #[.pointer (some ⟨g, 0, none⟩), .int .i64 most] w fun e w' => SomeInt (fun v => -most ≤ v ∧ v ≤ most) e ∧ CodesOK w' g ∧ w.grownBy w' (some g) := by
  obtain ⟨hn1, hn2⟩ := hn
  go_enter Try.func43, Try.ntmps43
  go_wp2_with fail
  refine (next_any g _ _ h (by omega)).mono ?_
  rintro e w1 ⟨⟨x, ⟨hx1, -, hx2⟩, rfl⟩, h, hg⟩
  go_wp2_with fail
  refine (next_any g _ _ h (by omega)).mono ?_
  rintro e w2 ⟨⟨y, ⟨hy1, -, hy2⟩, rfl⟩, h, hg2⟩
  go_wp2_with fail
  refine (next_any g _ _ h (by omega)).mono ?_
  rintro e w3 ⟨⟨z, ⟨hz1, -, hz2⟩, rfl⟩, h, hg3⟩
  replace hg := Lib.hid (grown_trans (grown_trans hg hg2) hg3)
  clear hg2 hg3
  go_wp2_with fail
  have hb1 := Int.tmod_lt_of_pos (bits BinOp.or IntKind.i64 (bits BinOp.or IntKind.i64 (x * 65536) (y * 256)) z) (show 0 < most + 1 by omega)
  have hb2 := Int.lt_tmod_of_pos (bits BinOp.or IntKind.i64 (bits BinOp.or IntKind.i64 (x * 65536) (y * 256)) z) (show 0 < most + 1 by omega)
  generalize (bits BinOp.or IntKind.i64 (bits BinOp.or IntKind.i64 (x * 65536) (y * 256)) z).tmod (most + 1) = v at hb1 hb2 ⊢
  refine (next_any g _ _ h (by omega)).mono ?_
  rintro e w4 ⟨⟨u, ⟨hu1, hu2, -⟩, rfl⟩, h, hg4⟩
  replace hg := Lib.hid (grown_trans hg.out hg4)
  clear hg4
  by_cases hu : u = 1
  · subst hu
    go_wp2
    go_ret
    exact ⟨⟨-v, ⟨by omega, by omega⟩, rfl⟩, h, hg.out⟩
  · have hu' : (u == 1) = false := by simpa using hu
    clear hu
    go_wp2
    go_ret
    exact ⟨⟨v, ⟨by omega, by omega⟩, rfl⟩, h, hg.out⟩
end Go.Proofs.Ytjllgdpnbllnjaa
