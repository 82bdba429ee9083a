/- The walks of package synoptickeep: Mod, Src.Raw, Src.N, Src.Range, New. A reader of numbers is kept as an invariant only: whatever numbers it gives, they are in range. -/
import Derived.Test.YtkbfldgebcpigaaRows
import Derived.Test.YtkbfldgebcpigaaMem
namespace Go.Proofs.Ytkbfldgebcpigaa
open Go.RowKit

/-- What keep.Mod computes. -/
def kmod (x n : Int) : Int := if n < 1 then 0 else if x.tmod n < 0 then x.tmod n + n else x.tmod n
theorem kmod_range (x n : Int) (h : 1 ≤ n) : 0 ≤ kmod x n ∧ kmod x n < n := by
  unfold kmod
  rw [if_neg (by omega)]
  have h1 := Int.tmod_lt_of_pos x (show 0 < n by omega)
  have h2 := Int.lt_tmod_of_pos x (show 0 < n by omega)
  split <;> omega

set_option maxHeartbeats 400000 in
theorem mod_any (x n : Int) (w : World) (hx : -9223372036854775808 ≤ x ∧ x ≤ 9223372036854775807) (hn : -9223372036854775808 ≤ n ∧ n ≤ 9223372036854775807) :
    Calls Try.prog 19 #[.int .i64 x, .int .i64 n] w fun e w' => e = .returned (.int .i64 (kmod x n)) ∧ w = w' := by
  obtain ⟨hx1, hx2⟩ := hx
  obtain ⟨hn1, hn2⟩ := hn
  by_cases h1 : n < 1
  · go_enter Try.func19, Try.ntmps19
    go_wp2
    go_ret
    exact ⟨ret_int (by simp [kmod, h1]), rfl⟩
  · have h1' : 1 ≤ n := by omega
    have hb1 := Int.tmod_lt_of_pos x (show 0 < n by omega)
    have hb2 := Int.lt_tmod_of_pos x (show 0 < n by omega)
    by_cases h2 : x.tmod n < 0
    · go_enter Try.func19, Try.ntmps19
      go_wp2
      go_ret
      exact ⟨ret_int (by simp [kmod, h2]; omega), rfl⟩
    · have h2' : 0 ≤ x.tmod n := by omega
      go_enter Try.func19, Try.ntmps19
      go_wp2
      go_ret
      exact ⟨ret_int (by unfold kmod; rw [if_neg (by omega), if_neg (by omega)]), rfl⟩

/-- The call comes back with an integer of which P holds. -/
def SomeInt (P : Int → Prop) (e : Ending) : Prop := ∃ v : Int, P v ∧ e = .returned (.int .i64 v)
def I64 (v : Int) : Prop := -9223372036854775808 ≤ v ∧ v ≤ 9223372036854775807

/-- Block g is a reader of numbers; its list lies below it. -/
def SrcOK (w : World) (g : Nat) : Prop :=
  ∃ (A : Option Addr) (n c k : Nat) (zs : List Int), Blk w g 53 #[.slice A n c, .int .i64 k] ∧ Rd w g A (zs.map (Value.int .i64)) ∧ zs.length = n ∧ k ≤ n ∧ n ≤ 2000 ∧ ∀ z ∈ zs, I64 z

theorem SrcOK.lt {w : World} {g : Nat} (h : SrcOK w g) : g < w.heap.size := by
  obtain ⟨_, _, _, _, _, hb, _⟩ := h
  exact hb.lt
theorem SrcOK.drewN {w : World} {g : Nat} (h : SrcOK w g) (m : Nat) : SrcOK (w.drewN m) g := h
theorem SrcOK.drew {w : World} {g : Nat} (h : SrcOK w g) : SrcOK w.drew g := h
theorem SrcOK.grown {w w' : World} {g : Nat} {row : Option Nat} (h : SrcOK w g) (hg : w.grownBy w' row) (hr : ∀ k, row = some k → g < k) : SrcOK w' g := by
  have hlt := h.lt
  obtain ⟨A, n, c, k, zs, hb, hrd, h1, h2, h3, h4⟩ := h
  refine ⟨A, n, c, k, zs, hb.grown hg (fun e => by have := hr g e.symm; omega), hrd.grown hg (by omega) (fun k hk => by have := hr k hk; omega), h1, h2, h3, h4⟩
theorem SrcOK.alloc {w : World} {g : Nat} (h : SrcOK w g) (o : Obj) : SrcOK (w.alloc o) g := h.grown (World.grownBy_alloc w o none) (fun _ hk => by cases hk)
theorem SrcOK.below {w w' : World} {g B : Nat} (h : SrcOK w g) (hb : Below B w w') (hB : g < B) : SrcOK w' g := by
  obtain ⟨A, n, c, k, zs, hk, hrd, h1, h2, h3, h4⟩ := h
  exact ⟨A, n, c, k, zs, hk.below hb hB, hrd.below (hb.mono (by omega)), h1, h2, h3, h4⟩
theorem SrcOK.far {w : World} {g : Nat} (h : SrcOK w g) {p : Addr} (hp : g < p.block) (u : Value) : SrcOK (w.setCell p u) g := by
  obtain ⟨A, n, c, k, zs, hb, hrd, h1, h2, h3, h4⟩ := h
  exact ⟨A, n, c, k, zs, hb.far (by omega) u, hrd.setCell (by omega) u, h1, h2, h3, h4⟩

set_option maxHeartbeats 400000 in
theorem raw_any (g : Nat) (w : World) (h : SrcOK w g) :
    Calls Try.prog 20 #[.pointer (some ⟨g, 0, none⟩)] w fun e w' => SomeInt I64 e ∧ SrcOK w' g ∧ w.grownBy w' (some g) := by
  obtain ⟨A, n, c, k, zs, hb, hrd, hl, hk, hn, hz⟩ := h
  have hc0 : w.cell? ⟨g, 0, none⟩ = some (.slice A n c) := by rw [hb.cell]; rfl
  have hc1 : w.cell? ⟨g, 1, none⟩ = some (.int .i64 k) := by rw [hb.cell]; rfl
  have hf1 := hb.frozen 1
  by_cases hlt : k < n
  · obtain ⟨b, o, rfl, hbg, hcell⟩ := hrd.at_ (k := k) (by simp; omega)
    have hz' := hz (zs[k]'(by omega)) (List.getElem_mem _)
    have hck : w.cell? ⟨b, o + k, none⟩ = some (.int .i64 (zs[k]'(by omega))) := hcell k _ (by simp [List.getElem?_map, List.getElem?_eq_getElem (show k < zs.length by omega)])
    generalize zs[k]'(by omega) = z at hz' hck
    have HL := Lib.hid hl
    have HZ := Lib.hid hz
    have HC := Lib.hid hcell
    have HR := Lib.hid hrd
    have HB := Lib.hid hb
    have hne : ¬ g = b := by omega
    have hne' : ¬ b = g := by omega
    clear hl hz hcell hrd hb
    go_enter Try.func20, Try.ntmps20
    go_wp2
    go_quiet (fail)
    go_wp2
    go_quiet (fail)
    go_wp2
    go_ret
    refine ⟨⟨z, hz', rfl⟩, ⟨some ⟨b, o, none⟩, n, c, k + 1, zs, ?_, ?_, HL.out, by omega, hn, HZ.out⟩, ?_⟩
    · exact (Blk.puts (HB.out.drewN _) 1 _ (by simp)).drewN _
    · exact ((HR.out.drewN _).setCell (p := ⟨g, 1, none⟩) (by simp) _).drewN _
    · exact grown_drewN (grown_put (grown_drewN (grown_refl _ _) _) (.inl rfl) _) _
  · have hkn : k = n := by omega
    subst hkn
    clear hlt
    have HL := Lib.hid hl
    have HZ := Lib.hid hz
    have HR := Lib.hid hrd
    have HB := Lib.hid hb
    clear hl hz hrd hb
    go_enter Try.func20, Try.ntmps20
    go_wp2
    go_quiet (fail)
    go_wp2
    go_ret
    exact ⟨⟨0, ⟨by omega, by omega⟩, rfl⟩, ⟨A, k, c, k, zs, HB.out, HR.out, HL.out, Nat.le_refl _, hn, HZ.out⟩, grown_drewN (grown_refl _ _) _⟩

set_option maxHeartbeats 400000 in
theorem srcN_any (g : Nat) (n : Int) (w : World) (h : SrcOK w g) (h1 : 1 ≤ n) (h2 : n ≤ 9223372036854775807) :
    Calls Try.prog 9 #[.pointer (some ⟨g, 0, none⟩), .int .i64 n] w fun e w' => SomeInt (fun v => 0 ≤ v ∧ v < n) e ∧ SrcOK w' g ∧ w.grownBy w' (some g) := by
  go_enter Try.func9, Try.ntmps9
  go_wp2_with fail
  refine (raw_any g _ h).mono ?_
  rintro e w1 ⟨⟨v, ⟨hv1, hv2⟩, rfl⟩, hs, hg⟩
  go_wp2_with fail
  refine (mod_any v n _ ⟨hv1, hv2⟩ ⟨by omega, h2⟩).mono ?_
  rintro e w2 ⟨rfl, rfl⟩
  have hr := Lib.hid (kmod_range v n h1)
  go_wp2
  go_ret
  exact ⟨⟨_, hr.out, rfl⟩, hs, hg⟩

set_option maxHeartbeats 400000 in
theorem srcRange_any (g : Nat) (lo hi : Int) (w : World) (h : SrcOK w g) (h1 : lo ≤ hi) (h2 : -1000000000000 ≤ lo) (h3 : hi ≤ 1000000000000) :
    Calls Try.prog 18 #[.pointer (some ⟨g, 0, none⟩), .int .i64 lo, .int .i64 hi] w fun e w' => SomeInt (fun v => lo ≤ v ∧ v ≤ hi) e ∧ SrcOK w' g ∧ w.grownBy w' (some g) := by
  go_enter Try.func18, Try.ntmps18
  go_wp2_with fail
  refine (srcN_any g _ _ h (by omega) (by omega)).mono ?_
  rintro e w1 ⟨⟨v, ⟨hv1, hv2⟩, rfl⟩, hs, hg⟩
  go_wp2
  go_ret
  exact ⟨⟨lo + v, ⟨by omega, by omega⟩, rfl⟩, hs, hg⟩

set_option maxHeartbeats 400000 in
theorem new_any (A : Option Addr) (n c : Nat) (zs : List Int) (w : World) (hr : Rd w w.heap.size A (zs.map (Value.int .i64))) (hl : zs.length = n) (hnc : n ≤ c) (hc : c ≤ 9223372036854775807) (hA : A = none → c = 0) (hz : ∀ z ∈ zs, I64 z) :
    Calls Try.prog 8 #[.slice A n c] w fun e w' => e = .returned (.pointer (some ⟨w.heap.size, 0, none⟩)) ∧ SrcOK w' w.heap.size ∧ Below w.heap.size w w' := by
  have HR := Lib.hid hr
  have HL := Lib.hid hl
  have HZ := Lib.hid hz
  clear hr hl hz
  have fin : ∀ m, m ≤ 2000 → m ≤ n → SrcOK (w.alloc (.cells #[.slice A m c, .int .i64 0] 53)) w.heap.size ∧ Below w.heap.size w (w.alloc (.cells #[.slice A m c, .int .i64 0] 53)) := by
    intro m hm hmn
    refine ⟨⟨A, m, c, 0, zs.take m, Blk.new _ _ _, ?_, by have := HL.out; simp; omega, Nat.zero_le _, hm, fun z hz => HZ.out z (List.mem_of_mem_take hz)⟩, (Below.refl _ _).alloc (Nat.le_refl _) _⟩
    have h1 := Rd.alloc HR.out (Nat.le_refl _) (.cells #[.slice A m c, .int .i64 0] 53)
    obtain ⟨b, o, h2, h3⟩ := h1
    refine ⟨b, o, fun hne => h2 (fun e => hne (by have e' : zs = [] := by simpa using e
                                                  simp [e'])), fun j u hu => h3 j u ?_⟩
    rw [List.map_take, List.getElem?_take] at hu
    split at hu
    · exact hu
    · cases hu
  by_cases hn : n ≤ 2000
  · have f1 := Lib.hid (fin n (by omega) (Nat.le_refl _))
    clear fin
    cases A with
    | none =>
      have hc0 : c = 0 := hA rfl
      have hn0 : n = 0 := by omega
      subst hc0 hn0
      clear hA
      go_enter Try.func8, Try.ntmps8
      go_wp2
      go_ret
      exact ⟨rfl, f1.out⟩
    | some a =>
      clear hA
      go_enter Try.func8, Try.ntmps8
      go_wp2
      go_ret
      exact ⟨rfl, f1.out⟩
  · have f1 := Lib.hid (fin 2000 (by omega) (by omega))
    clear fin
    cases A with
    | none =>
      have hc0 : c = 0 := hA rfl
      omega
    | some a =>
      clear hA
      go_enter Try.func8, Try.ntmps8
      go_wp2
      go_ret
      exact ⟨rfl, f1.out⟩
end Go.Proofs.Ytkbfldgebcpigaa
