/- BitsBack: the walk of the law. -/
import Derived.Test.YtkbfldgebcpigaaLimit
import Derived.Maps.AppendAt
namespace Go.Proofs.Ytkbfldgebcpigaa
open Go.RowKit

theorem own_low {w w' : World} {base e s n : Nat} {v : Value} {xs : List Value} {row : Option Nat} (h : w.ownsRow base e s v n xs) (hg : w.grownBy w' row) (hr : ∀ g, row = some g → g < base) : w'.ownsRow base e s v n xs := by
  refine h.kept hg ?_
  cases hv : v.ownBlock with
  | none => exact .inl rfl
  | some b =>
    refine .inr fun e => ?_
    have h1 := (h.lt b hv).1
    have h2 := hr b e.symm
    omega
def Dj (v v' : Value) : Prop := ∀ g, v.ownBlock = some g → v'.ownBlock ≠ some g
theorem Dj.symm {v v' : Value} (h : Dj v v') : Dj v' v := fun g h1 h2 => h g h2 h1
/-- Three rows of numbers of the call's own, apart from each other. -/
def Rows3 (w : World) (base : Nat) (va vb vc : Value) (la lb lc : List Nat) : Prop :=
  w.ownsRow base 3 1 va la.length (i64s la) ∧ w.ownsRow base 3 1 vb lb.length (i64s lb) ∧ w.ownsRow base 3 1 vc lc.length (i64s lc) ∧ Dj va vb ∧ Dj va vc ∧ Dj vb vc
section
variable {w w' : World} {base : Nat} {va vb vc v' : Value} {la lb lc : List Nat}
theorem Rows3.nil_ (w : World) (base : Nat) : Rows3 w base (.slice none 0 0) (.slice none 0 0) (.slice none 0 0) [] [] [] :=
  ⟨World.ownsRow_nil _ _ _ _, World.ownsRow_nil _ _ _ _, World.ownsRow_nil _ _ _ _, (fun g h => by simp [Value.ownBlock] at h), (fun g h => by simp [Value.ownBlock] at h), (fun g h => by simp [Value.ownBlock] at h)⟩
theorem Rows3.turn (h : Rows3 w base va vb vc la lb lc) : Rows3 w base vb vc va lb lc la := ⟨h.2.1, h.2.2.1, h.1, h.2.2.2.2.2, h.2.2.2.1.symm, h.2.2.2.2.1.symm⟩
theorem Rows3.keep {row : Option Nat} (h : Rows3 w base va vb vc la lb lc) (hg : w.grownBy w' row) (hr : ∀ g, row = some g → g < base) : Rows3 w' base va vb vc la lb lc :=
  ⟨own_low h.1 hg hr, own_low h.2.1 hg hr, own_low h.2.2.1 hg hr, h.2.2.2⟩
theorem Rows3.next (h : Rows3 w base va vb vc la lb lc) (k : Below w.heap.size w w') : Rows3 w' base va vb vc la lb lc := h.keep (grown_below k none) (fun _ e => by cases e)
theorem Rows3.alloc (h : Rows3 w base va vb vc la lb lc) (o : Obj) : Rows3 (w.alloc o) base va vb vc la lb lc := h.next (below_box w o)
theorem Rows3.far {p : Addr} (h : Rows3 w base va vb vc la lb lc) (hp : p.block < base) (u : Value) : Rows3 (w.setCell p u) base va vb vc la lb lc :=
  ⟨ownsRow_setCell_below h.1 hp u, ownsRow_setCell_below h.2.1 hp u, ownsRow_setCell_below h.2.2.1 hp u, h.2.2.2⟩
/-- An element is appended to the first row. -/
theorem Rows3.push {x : Nat} (h : Rows3 w base va vb vc la lb lc) (hown : w'.ownsRow base 3 1 v' (la.length + 1) (i64s la ++ [.int .i64 ((x : Nat) : Int)])) (hg : w.grownBy w' va.ownBlock) (hat : v'.ownBlock = va.ownBlock ∨ v'.ownBlock = some w.heap.size) :
    Rows3 w' base v' vb vc (la ++ [x]) lb lc := by
  obtain ⟨h1, h2, h3, d1, d2, d3⟩ := h
  have kb : w'.ownsRow base 3 1 vb lb.length (i64s lb) := h2.kept hg (by
    cases hv : vb.ownBlock with
    | none => exact .inl rfl
    | some b => exact .inr fun e => d1 b e.symm hv)
  have kc : w'.ownsRow base 3 1 vc lc.length (i64s lc) := h3.kept hg (by
    cases hv : vc.ownBlock with
    | none => exact .inl rfl
    | some b => exact .inr fun e => d2 b e.symm hv)
  refine ⟨by simpa [i64s] using hown, kb, kc, ?_, ?_, d3⟩
  · intro g e1 e2
    rcases hat with e | e <;> rw [e] at e1
    · exact d1 g e1 e2
    · injection e1 with e1; subst e1; have := (h2.lt _ e2).2; omega
  · intro g e1 e2
    rcases hat with e | e <;> rw [e] at e1
    · exact d2 g e1 e2
    · injection e1 with e1; subst e1; have := (h3.lt _ e2).2; omega
end

/-- What the first loop keeps: each number stands in the bits at its place. -/
structure Good (B at_ ws vs : List Nat) : Prop where
  b01 : B01 B
  l1 : ws.length = at_.length
  l2 : vs.length = at_.length
  len : B.length ≤ 24 * at_.length
  each : ∀ i, i < at_.length → 1 ≤ ws.getD i 0 ∧ ws.getD i 0 ≤ 24 ∧ at_.getD i 0 + ws.getD i 0 ≤ B.length ∧ numOf ((List.range (ws.getD i 0)).map fun j => B.getD (at_.getD i 0 + j) 0) = vs.getD i 0
theorem getD_app_lt {a b : List Nat} {i : Nat} (h : i < a.length) : (a ++ b).getD i 0 = a.getD i 0 := by
  rw [List.getD_eq_getElem?_getD, List.getElem?_append_left h, ← List.getD_eq_getElem?_getD]
theorem getD_app_end (a : List Nat) (x : Nat) : (a ++ [x]).getD a.length 0 = x := by rw [getD_snoc, if_pos rfl]
theorem Good.push {B at_ ws vs : List Nat} (h : Good B at_ ws vs) {v w : Nat} (h1 : 1 ≤ w) (h2 : w ≤ 24) (hv : v < 2 ^ w) : Good (B ++ nb v w w) (at_ ++ [B.length]) (ws ++ [w]) (vs ++ [v]) where
  b01 := b01_append h.b01 (b01_nb v w w)
  l1 := by simp [h.l1]
  l2 := by simp [h.l2]
  len := by have := h.len; simp [length_nb]; omega
  each := fun i hi => by
    have hi' : i < at_.length + 1 := by simpa using hi
    have e1 := h.l1
    have e2 := h.l2
    by_cases hlt : i < at_.length
    · obtain ⟨g1, g2, g3, g4⟩ := h.each i hlt
      rw [getD_app_lt (show i < ws.length by omega), getD_app_lt hlt, getD_app_lt (show i < vs.length by omega)]
      refine ⟨g1, g2, by rw [List.length_append]; omega, ?_⟩
      rw [← g4]
      congr 1
      refine List.map_congr_left fun j hj => ?_
      have := List.mem_range.1 hj
      exact getD_app_lt (by omega)
    · have hi2 : i = at_.length := by omega
      subst hi2
      have a1 : (ws ++ [w]).getD at_.length 0 = w := by rw [← e1]; exact getD_app_end ws w
      have a2 : (vs ++ [v]).getD at_.length 0 = v := by rw [← e2]; exact getD_app_end vs v
      rw [a1, a2, getD_app_end]
      refine ⟨h1, h2, by simp [length_nb], ?_⟩
      rw [seg_end, numOf_all v w hv]
theorem Good.nil_ : Good [] [] [] [] := ⟨fun i => by simp, rfl, rfl, by simp, fun i hi => by simp at hi⟩
theorem Good.read {B at_ ws vs : List Nat} (h : Good B at_ ws vs) (hn : B.length ≤ 40000) {i : Nat} (hi : i < at_.length) : readS (pack B) B.length (at_.getD i 0 : Nat) (ws.getD i 0 : Nat) = (((vs.getD i 0 : Nat) : Int), 0) := by
  obtain ⟨g1, g2, g3, g4⟩ := h.each i hi
  have hw : widthB ((ws.getD i 0 : Nat) : Int) = true := by unfold widthB; rw [decide_eq_true (by omega), decide_eq_true (by omega)]; rfl
  unfold readS
  rw [if_neg (by rw [valid_pack hn]; simp), if_neg (by rintro (h | h); · rw [hw] at h; cases h
                                                       · omega), if_neg (by omega), Int.toNat_natCast, Int.toNat_natCast, seg_pack h.b01, g4]
theorem Good.app {B at_ ws vs : List Nat} (h : Good B at_ ws vs) {v w : Nat} (h1 : 1 ≤ w) (h2 : w ≤ 24) (hv : v < 2 ^ w) (hn : B.length + w ≤ 40000) : appS (pack B) B.length v w = (0, B ++ nb v w w) := by
  unfold appS
  have hv' : ¬ (2 : Int) ^ w ≤ v := by
    have e : ((2 ^ w : Nat) : Int) = (2 : Int) ^ w := by push_cast; rfl
    omega
  rw [if_neg (by rw [valid_pack (show B.length ≤ 40000 by omega)]; simp), if_neg (by simp [widthB]; omega), if_neg (by omega), Int.toNat_natCast, Int.toNat_natCast, Int.toNat_natCast, unpack_pack h.b01]

theorem bres_own {w w' : World} {e : Ending} {code L : Int} {l : List Nat} (h : BRes w w' e (code, l)) (hl : ((l.length : Nat) : Int) = L) :
    ∃ A n c, e = .returned (.tuple #[.agg #[.slice A n c, .int .i64 L], .int .i64 code]) ∧ Hid ((pack l).length = n) ∧ w'.ownsRow w.heap.size 5 1 (.slice A n c) n (u8s (pack l)) ∧ Below w.heap.size w w' := by
  obtain ⟨A, n, c, rfl, h1, -, h2, -, -, h3⟩ := h
  subst hl
  exact ⟨A, n, c, rfl, hidI h1.symm, h2, h3⟩
theorem raw_some (g : Nat) (w : World) (h : SrcOK w g) : Calls Try.prog 20 #[.pointer (some ⟨g, 0, none⟩)] w fun e w' => SomeInt I64 e ∧ SrcOK w' g ∧ w.grownBy w' (some g) := raw_any g w h
theorem wrap_i64 (v : Int) : I64 (wrap64 v) := by unfold I64 wrap64; omega

set_option maxRecDepth 100000 in
set_option maxHeartbeats 2000000 in
theorem back_law (A : Option Addr) (n c : Nat) (zs : List Int) (w : World) (hr : Rd w w.heap.size A (zs.map (Value.int .i64))) (hl : zs.length = n) (hnc : n ≤ c) (hc : c ≤ 9223372036854775807) (hA : A = none → c = 0) (hz : ∀ z ∈ zs, I64 z) :
    Calls Try.prog 5 #[.slice A n c] w fun e w' => e = .returned (.bool true) ∧ Below w.heap.size w w' := by
  obtain ⟨i0, hi, hz0, hz1, hz2⟩ := info_parts info_int
  go_enter Try.func5, Try.ntmps5
  go_wp2_with fail
  refine (new_any A n c zs w hr hl hnc hc hA hz).mono ?_
  rintro e w1 ⟨rfl, hs1, hb1⟩
  have O := ext_alloc hb1 (.cells #[.slice none 0 0, .int .i64 0] 28)
  have X := Lib.hid O
  have S := Lib.hid (hs1.alloc (.cells #[.slice none 0 0, .int .i64 0] 28))
  have K := Lib.hid (Blk.new w1 28 #[.slice none 0 0, .int .i64 0])
  have hlt1 := hs1.lt
  clear O hb1 hs1 hr hl hz hA
  go_wp2_with fail
  refine (srcRange_any w.heap.size 1 40 _ S.out (by omega) (by omega) (by omega)).mono ?_
  rintro e w2 ⟨⟨m, ⟨hm0, hm1⟩, rfl⟩, hs2, hg2⟩
  replace X := Lib.hid (X.out.grown hg2 X.out.size (fun k hk => by cases hk; omega))
  replace K := Lib.hid (K.out.grown hg2 (fun e => by injection e; omega))
  replace S := Lib.hid hs2
  have hsz := hg2.size
  simp only [World.size_alloc] at hsz
  clear hs2 hg2
  go_wp2
  go_loopw [5, 6, 7, 8] (fun va vb vc i wr => ∃ (B at_ ws vs : List Nat) (j : Nat) (Ab : Option Addr) (nb' cb : Nat), Hid (Good B at_ ws vs) ∧ at_.length + j ≤ 40 ∧ 1 ≤ at_.length + j ∧ i = .int .i64 j ∧ Rows3 wr (w1.heap.size + 1) va vb vc at_ ws vs ∧ Blk wr w1.heap.size 28 #[.slice Ab nb' cb, .int .i64 (B.length : Nat)] ∧
      wr.ownsRow (w1.heap.size + 1) 5 1 (.slice Ab nb' cb) nb' (u8s (pack B)) ∧ SrcOK wr w.heap.size ∧ Below w.heap.size w wr ∧ w1.heap.size + 1 ≤ wr.heap.size) (fun _ _ _ i _ => (intOf i).toNat)
  case atStart => exact ⟨[], [], [], [], m.toNat, none, 0, 0, hidI Good.nil_, by simp; omega, by simp; omega, by rw [Int.toNat_of_nonneg (by omega)], Rows3.nil_ _ _, K.out, by simpa [pack, u8s] using World.ownsRow_nil w2 (w1.heap.size + 1) 5 1, S.out, X.out, hsz⟩
  case round =>
    obtain ⟨B, at_, ws, vs, j, Ab, nbb, cb, HG, hj40, hj1, rfl, hrows, kb, hob, hs, hx, hsz'⟩ := hrel
    clear X K S
    obtain ⟨-, Aa, ca, rfl, -⟩ := own_slice hrows.1
    obtain ⟨-, Aw, cw, rfl, -⟩ := own_slice hrows.2.1
    obtain ⟨-, Av, cv, rfl, -⟩ := own_slice hrows.2.2.1
    have R := Lib.hid hrows
    have K := Lib.hid kb
    have OB := Lib.hid hob
    have S := Lib.hid hs
    have X := Lib.hid hx
    have hBl : B.length ≤ 960 := by have := HG.out.len; omega
    have L1 := Lib.hid HG.out.l1
    have L2 := Lib.hid HG.out.l2
    clear hrows kb hob hs hx
    by_cases hj : 0 < j
    · have hj' : (0 : Int) < j := by omega
      go_wp2_with fail
      refine (srcRange_any w.heap.size 1 24 _ S.out (by omega) (by omega) (by omega)).mono ?_
      rintro e w3 ⟨⟨q, ⟨hq0, hq1⟩, rfl⟩, hs3, hg3⟩
      replace X := Lib.hid (X.out.grown hg3 X.out.size (fun k hk => by cases hk; omega))
      replace K := Lib.hid (K.out.grown hg3 (fun e => by injection e; omega))
      replace R := Lib.hid (R.out.keep hg3 (fun g e => by cases e; omega))
      replace OB := Lib.hid (own_low OB.out hg3 (fun g e => by cases e; omega))
      replace S := Lib.hid hs3
      replace hsz' := Nat.le_trans hsz' hg3.size
      clear hs3 hg3
      obtain ⟨p, rfl⟩ := Int.eq_ofNat_of_zero_le (show 0 ≤ q by omega)
      have hpw : (2 : Int) ^ p ≤ 16777216 := by
        have := Nat.pow_le_pow_right (show 0 < 2 by omega) (show p ≤ 24 by omega)
        have e : ((2 ^ p : Nat) : Int) = (2 : Int) ^ p := by push_cast; rfl
        omega
      have hp0 : (0 : Int) < 2 ^ p := Int.pow_pos (by omega)
      have hwp : wrap64 ((2 : Int) ^ p) = 2 ^ p := IntWalk.wrap64_in _ ⟨by omega, by omega⟩
      go_wp2_with fail
      refine (raw_some w.heap.size _ S.out).mono ?_
      rintro e w4 ⟨⟨y1, ⟨hy1, hy2⟩, rfl⟩, hs3, hg3⟩
      replace X := Lib.hid (X.out.grown hg3 X.out.size (fun k hk => by cases hk; omega))
      replace K := Lib.hid (K.out.grown hg3 (fun e => by injection e; omega))
      replace R := Lib.hid (R.out.keep hg3 (fun g e => by cases e; omega))
      replace OB := Lib.hid (own_low OB.out hg3 (fun g e => by cases e; omega))
      replace S := Lib.hid hs3
      replace hsz' := Nat.le_trans hsz' hg3.size
      clear hs3 hg3
      go_wp2_with fail
      obtain ⟨hz1', hz2'⟩ := wrap_i64 (y1 * 31)
      generalize wrap64 (y1 * 31) = z1 at hz1' hz2' ⊢
      clear hy1 hy2 hz1' hz2'
      refine (raw_some w.heap.size _ S.out).mono ?_
      rintro e w5 ⟨⟨y2, ⟨hy3, hy4⟩, rfl⟩, hs3, hg3⟩
      replace X := Lib.hid (X.out.grown hg3 X.out.size (fun k hk => by cases hk; omega))
      replace K := Lib.hid (K.out.grown hg3 (fun e => by injection e; omega))
      replace R := Lib.hid (R.out.keep hg3 (fun g e => by cases e; omega))
      replace OB := Lib.hid (own_low OB.out hg3 (fun g e => by cases e; omega))
      replace S := Lib.hid hs3
      replace hsz' := Nat.le_trans hsz' hg3.size
      clear hs3 hg3 hy3 hy4
      have HP := Lib.hid hpw
      have HP0 := Lib.hid hp0
      clear hpw hp0
      go_wp2_with fail
      obtain ⟨hz1', hz2'⟩ := wrap_i64 (z1 + y2)
      generalize wrap64 (z1 + y2) = z2 at hz1' hz2' ⊢
      have hpw := HP.out
      have hp0 := HP0.out
      rw [hwp]
      have hk2 := kmod_range z2 (2 ^ p) (by omega)
      refine (mod_any z2 _ _ ⟨hz1', hz2'⟩ ⟨by omega, by omega⟩).mono ?_
      rintro e w6 ⟨rfl, rfl⟩
      generalize kmod z2 (2 ^ p) = y at hk2 ⊢
      obtain ⟨hk0, hk1⟩ := hk2
      obtain ⟨x, rfl⟩ := Int.eq_ofNat_of_zero_le hk0
      have hx : x < 2 ^ p := by
        have e : ((2 ^ p : Nat) : Int) = (2 : Int) ^ p := by push_cast; rfl
        omega
      have hx24 : x < 16777216 := by omega
      have HXP := Lib.hid hx
      clear hpw hp0 hk0 hk1 hx hwp hz1' hz2'
      have k0 : w5.cell? ⟨w1.heap.size, 0, none⟩ = some (.slice Ab nbb cb) := by rw [K.out.cell]; rfl
      have k1 : w5.cell? ⟨w1.heap.size, 1, none⟩ = some (.int .i64 (B.length : Nat)) := by rw [K.out.cell]; rfl
      go_wp2_with ((with_reducible show wpList _ _ _ (⟨some 40, _, _, _, _, _⟩ :: _) _ _); refine wpList_append_own_at _ rfl (.tmp 36) (.tmp 39) 22 rfl (w1.heap.size + 1) 3 i0 (.int .i64 0) 1 8 Try.underlying22 hi hz0 hz1 hz2 rfl (by decide) _ _ _ rfl (R.out.1.alloc _) ⟨w5.heap.size, 0, none⟩ 1 1 [.int .i64 (B.length : Nat)] rfl rfl ?c1 ?c2 ?c3 ?c4 ?c5 ?_)
      case c1 =>
        intro j u hj
        match j, hj with
        | 0, hj => simp at hj; subst hj; simp [Addr.add]
      case c2 => intro u hu; simp at hu; subst hu; rfl
      case c3 => have := L1.out; have := L2.out; unfold maxLen; omega
      case c4 => have := L1.out; have := L2.out; omega
      case c5 => simp; omega
      intro v1 w6 hown1 hgrow1 _ hat1
      replace K := Lib.hid ((K.out.alloc (.cells #[.int .i64 (B.length : Nat)] 3)).grown hgrow1 (fun e => own_blk_ne R.out.1 K.out (by decide) e.symm))
      replace OB := Lib.hid ((World.ownsRow.alloc OB.out (.cells #[.int .i64 (B.length : Nat)] 3)).kept hgrow1 (own_own_ne OB.out R.out.1 (by decide)))
      replace S := Lib.hid ((S.out.alloc (.cells #[.int .i64 (B.length : Nat)] 3)).grown hgrow1 (fun g hg => by have := (R.out.1.lt _ hg).1; omega))
      replace X := Lib.hid ((ext_alloc X.out (.cells #[.int .i64 (B.length : Nat)] 3)).grown hgrow1 (by have := X.out.size; simp; omega) (fun g hg => by have := (R.out.1.lt _ hg).1; omega))
      replace R := Lib.hid (((R.out.alloc (.cells #[.int .i64 (B.length : Nat)] 3)).push hown1 hgrow1 (by simpa using hat1)).turn)
      replace hsz' : w1.heap.size + 1 ≤ w6.heap.size := Nat.le_trans hsz' (Nat.le_trans (by simp) hgrow1.size)
      clear hown1 hgrow1 hat1
      clear k0 k1
      go_wp2_with ((with_reducible show wpList _ _ _ (⟨some 44, _, _, _, _, _⟩ :: _) _ _); refine wpList_append_own_at _ rfl (.tmp 41) (.tmp 43) 22 rfl (w1.heap.size + 1) 3 i0 (.int .i64 0) 1 8 Try.underlying22 hi hz0 hz1 hz2 rfl (by decide) _ _ _ rfl (R.out.1.alloc _) ⟨w6.heap.size, 0, none⟩ 1 1 [.int .i64 (p : Nat)] rfl rfl ?c1 ?c2 ?c3 ?c4 ?c5 ?_)
      case c1 =>
        intro j u hj
        match j, hj with
        | 0, hj => simp at hj; subst hj; simp [Addr.add]
      case c2 => intro u hu; simp at hu; subst hu; rfl
      case c3 => have := L1.out; have := L2.out; unfold maxLen; omega
      case c4 => have := L1.out; have := L2.out; omega
      case c5 => simp; omega
      intro v2 w7 hown2 hgrow2 _ hat2
      replace K := Lib.hid ((K.out.alloc (.cells #[.int .i64 (p : Nat)] 3)).grown hgrow2 (fun e => own_blk_ne R.out.1 K.out (by decide) e.symm))
      replace OB := Lib.hid ((World.ownsRow.alloc OB.out (.cells #[.int .i64 (p : Nat)] 3)).kept hgrow2 (own_own_ne OB.out R.out.1 (by decide)))
      replace S := Lib.hid ((S.out.alloc (.cells #[.int .i64 (p : Nat)] 3)).grown hgrow2 (fun g hg => by have := (R.out.1.lt _ hg).1; omega))
      replace X := Lib.hid ((ext_alloc X.out (.cells #[.int .i64 (p : Nat)] 3)).grown hgrow2 (by have := X.out.size; simp; omega) (fun g hg => by have := (R.out.1.lt _ hg).1; omega))
      replace R := Lib.hid (((R.out.alloc (.cells #[.int .i64 (p : Nat)] 3)).push hown2 hgrow2 (by simpa using hat2)).turn)
      replace hsz' : w1.heap.size + 1 ≤ w7.heap.size := Nat.le_trans hsz' (Nat.le_trans (by simp) hgrow2.size)
      clear hown2 hgrow2 hat2
      go_wp2_with ((with_reducible show wpList _ _ _ (⟨some 48, _, _, _, _, _⟩ :: _) _ _); refine wpList_append_own_at _ rfl (.tmp 45) (.tmp 47) 22 rfl (w1.heap.size + 1) 3 i0 (.int .i64 0) 1 8 Try.underlying22 hi hz0 hz1 hz2 rfl (by decide) _ _ _ rfl (R.out.1.alloc _) ⟨w7.heap.size, 0, none⟩ 1 1 [.int .i64 (x : Nat)] rfl rfl ?c1 ?c2 ?c3 ?c4 ?c5 ?_)
      case c1 =>
        intro j u hj
        match j, hj with
        | 0, hj => simp at hj; subst hj; simp [Addr.add]
      case c2 => intro u hu; simp at hu; subst hu; rfl
      case c3 => have := L1.out; have := L2.out; unfold maxLen; omega
      case c4 => have := L1.out; have := L2.out; omega
      case c5 => simp; omega
      intro v3 w8 hown3 hgrow3 _ hat3
      replace K := Lib.hid ((K.out.alloc (.cells #[.int .i64 (x : Nat)] 3)).grown hgrow3 (fun e => own_blk_ne R.out.1 K.out (by decide) e.symm))
      replace OB := Lib.hid ((World.ownsRow.alloc OB.out (.cells #[.int .i64 (x : Nat)] 3)).kept hgrow3 (own_own_ne OB.out R.out.1 (by decide)))
      replace S := Lib.hid ((S.out.alloc (.cells #[.int .i64 (x : Nat)] 3)).grown hgrow3 (fun g hg => by have := (R.out.1.lt _ hg).1; omega))
      replace X := Lib.hid ((ext_alloc X.out (.cells #[.int .i64 (x : Nat)] 3)).grown hgrow3 (by have := X.out.size; simp; omega) (fun g hg => by have := (R.out.1.lt _ hg).1; omega))
      replace R := Lib.hid (((R.out.alloc (.cells #[.int .i64 (x : Nat)] 3)).push hown3 hgrow3 (by simpa using hat3)).turn)
      replace hsz' : w1.heap.size + 1 ≤ w8.heap.size := Nat.le_trans hsz' (Nat.le_trans (by simp) hgrow3.size)
      clear hown3 hgrow3 hat3
      have k0 : w8.cell? ⟨w1.heap.size, 0, none⟩ = some (.slice Ab nbb cb) := by rw [K.out.cell]; rfl
      have k1 : w8.cell? ⟨w1.heap.size, 1, none⟩ = some (.int .i64 (B.length : Nat)) := by rw [K.out.cell]; rfl
      go_wp2_with fail
      have LB := Lib.hid (length_pack B)
      have nbn : Hid ((pack B).length = nbb) := hidI (by have := OB.out.1; rw [length_u8s] at this; omega)
      have HAP := Lib.hid (HG.out.app (v := x) (w := p) (by omega) (by omega) HXP.out (by omega))
      have HGP := Lib.hid (HG.out.push (v := x) (w := p) (by omega) (by omega) HXP.out)
      have HB01 := Lib.hid HG.out.b01
      have HLD : Hid ((B ++ nb x p p).length = B.length + p) := hidI (by simp [length_nb])
      generalize B ++ nb x p p = D at HAP HGP HLD
      refine (append_any Ab nbb cb B.length (pack B) x p w8 (Rd.of_own OB.out) nbn.out (by rw [← nbn.out, LB.out]; omega) (bytes_pack HB01.out) ⟨by omega, by omega⟩ ⟨by omega, by omega⟩ ⟨by omega, by omega⟩).mono ?_
      rintro e w9 hres
      rw [HAP.out] at hres
      obtain ⟨A9, n9, c9, rfl, N9, ho9, hb9⟩ := bres_own hres (by rw [HLD.out]; omega : ((List.length D : Nat) : Int) = (B.length : Nat) + (p : Nat))
      have O := ext_alloc hb9 (.cells #[.slice A9 n9 c9, .int .i64 ((B.length : Nat) + (p : Nat))] 28)
      have k2 := blk_next K.out hb9
      have K9 := Lib.hid (Blk.new w9 28 #[.slice A9 n9 c9, .int .i64 ((B.length : Nat) + (p : Nat))])
      have OB9 := Lib.hid (own_lower (World.ownsRow.alloc ho9 (.cells #[.slice A9 n9 c9, .int .i64 ((B.length : Nat) + (p : Nat))] 28)) hsz')
      replace K := Lib.hid (blk_next K.out O)
      replace R := Lib.hid (R.out.next O)
      replace S := Lib.hid (S.out.below O S.out.lt)
      replace X := Lib.hid (ext_next X.out O)
      replace hsz' := Nat.le_trans hsz' O.size
      have k3 : w9.cell? ⟨w1.heap.size, 1, none⟩ = some (.int .i64 (B.length : Nat)) := by rw [k2.cell]; rfl
      have lt9 := k2.lt
      have hn9 : n9 ≤ 140737488355328 := by have h1 := N9.out; rw [length_pack, HLD.out] at h1; omega
      clear O hb9 hres ho9 k2 k0 k1 OB
      go_wp2_with fail
      refine (rvalid_any A9 n9 c9 ((B.length : Nat) + (p : Nat)) (pack D) _ (Rd.of_own OB9.out) N9.out hn9 (bytes_pack HGP.out.b01) ⟨by omega, by omega⟩).mono ?_
      rintro e w10 ⟨rfl, hb10⟩
      rw [show validB (pack D) (((B.length : Nat) : Int) + (p : Nat)) = true by
        rw [show (((B.length : Nat) : Int) + (p : Nat)) = ((D.length : Nat) : Int) by rw [HLD.out]; omega]
        exact valid_pack (by rw [HLD.out]; omega)]
      have q9 := blk_next K9.out hb10
      have q1 := blk_next K.out hb10
      have f0 : w10.cell? ⟨w9.heap.size, 0, none⟩ = some (.slice A9 n9 c9) := by rw [q9.cell]; rfl
      have f1 : w10.cell? ⟨w9.heap.size, 1, none⟩ = some (.int .i64 ((B.length : Nat) + (p : Nat))) := by rw [q9.cell]; rfl
      have f2 : w10.cell? ⟨w1.heap.size, 0, none⟩ = some (.slice Ab nbb cb) := by rw [q1.cell]; rfl
      have f3 : w10.cell? ⟨w1.heap.size, 1, none⟩ = some (.int .i64 (B.length : Nat)) := by rw [q1.cell]; rfl
      have f4 := q1.frozen 0
      have f5 := q1.frozen 1
      replace K := Lib.hid q1
      replace R := Lib.hid (R.out.next hb10)
      replace S := Lib.hid (S.out.below hb10 S.out.lt)
      replace X := Lib.hid (ext_next X.out hb10)
      replace OB9 := Lib.hid (own_low (row := none) OB9.out (grown_below hb10 none) (fun g e => by cases e))
      replace hsz' := Nat.le_trans hsz' hb10.size
      clear hb10 q9 q1 K9 k3 lt9
      go_wp2
      go_roundw
      case rel =>
        refine ⟨D, at_ ++ [B.length], ws ++ [p], vs ++ [x], j - 1, A9, n9, c9, HGP, by simp; omega, by simp; omega, by congr 1; omega, (R.out.far (p := ⟨w1.heap.size, 0, none⟩) (by simp) _).far (p := ⟨w1.heap.size, 1, none⟩) (by simp) _, ?_, ?_, ?_, ?_, ?_⟩
        · exact (K.out.put 0 _).puts 1 _ (by rw [HLD.out]; simp)
        · exact ownsRow_setCell_below (ownsRow_setCell_below OB9.out (by simp) _) (by simp) _
        · exact (S.out.far (p := ⟨w1.heap.size, 0, none⟩) (by simp; omega) _).far (p := ⟨w1.heap.size, 1, none⟩) (by simp; omega) _
        · exact (X.out.setCell (p := ⟨w1.heap.size, 0, none⟩) (by simp; omega) _).setCell (p := ⟨w1.heap.size, 1, none⟩) (by simp; omega) _
        · simpa using hsz'
      case measure => simp [intOf]; omega
    · have hj0 : j = 0 := by omega
      subst hj0
      rw [show (((0 : Nat)) : Int) = (0 : Int) from rfl]
      have hal : 1 ≤ at_.length := by omega
      have hal40 : at_.length ≤ 40 := by omega
      have r1 := Lib.hid (Rd.of_own R.out.1)
      have r2 := Lib.hid (Rd.of_own R.out.2.1)
      have r3 := Lib.hid (Rd.of_own R.out.2.2.1)
      have rb := Lib.hid (Rd.of_own OB.out)
      have nbn : Hid ((pack B).length = nbb) := hidI (by have := OB.out.1; rw [length_u8s] at this; omega)
      have LB := Lib.hid (length_pack B)
      obtain ⟨wo, rfl⟩ : ∃ wo : World, wo = wr := ⟨_, rfl⟩
      clear R S OB
      go_wp2
      go_loopw [13, 14, 15] (fun i _ _ wr => ∃ k : Nat, k ≤ at_.length ∧ i = .int .i64 k ∧ Rd wr wr.heap.size Aa (i64s at_) ∧ Rd wr wr.heap.size Aw (i64s ws) ∧ Rd wr wr.heap.size Av (i64s vs) ∧ Rd wr wr.heap.size Ab (u8s (pack B)) ∧ Blk wr w1.heap.size 28 #[.slice Ab nbb cb, .int .i64 (B.length : Nat)] ∧ Below w.heap.size w wr) (fun i _ _ _ => at_.length - (intOf i).toNat)
      case atStart => exact ⟨0, Nat.zero_le _, rfl, r1.out, r2.out, r3.out, rb.out, K.out, X.out⟩
      case round =>
        obtain ⟨k, hk, rfl, g1, g2, g3, g4, kb, hx⟩ := hrel
        clear r1 r2 r3 rb K X
        have K := Lib.hid kb
        have X := Lib.hid hx
        have G4 := Lib.hid g4
        by_cases hlt : k < at_.length
        · have e1 := L1.out
          have e2 := L2.out
          obtain ⟨b1, o1, rfl, -, hc1⟩ := g1.at_ (k := k) (by rw [length_i64s]; omega)
          obtain ⟨b2, o2, rfl, -, hc2⟩ := g2.at_ (k := k) (by rw [length_i64s]; omega)
          obtain ⟨b3, o3, rfl, -, hc3⟩ := g3.at_ (k := k) (by rw [length_i64s]; omega)
          have x1 := hc1 k _ (i64s_at at_ k hlt)
          have x2 := hc2 k _ (i64s_at ws k (by omega))
          have x3 := hc3 k _ (i64s_at vs k (by omega))
          have RD := Lib.hid (HG.out.read (by omega) hlt)
          have hgi := HG.out.each k hlt
          obtain ⟨y1, y2, y3, -⟩ := hgi
          have hB3 : b3 < wr.heap.size := cell_lt x3
          have G1 := Lib.hid g1
          have G2 := Lib.hid g2
          have G3 := Lib.hid g3
          generalize at_.getD k 0 = p1 at x1 RD y3
          generalize ws.getD k 0 = p2 at x2 RD y1 y2 y3
          generalize vs.getD k 0 = p3 at x3 RD
          have k0 : wr.cell? ⟨w1.heap.size, 0, none⟩ = some (.slice Ab nbb cb) := by rw [kb.cell]; rfl
          have k1 : wr.cell? ⟨w1.heap.size, 1, none⟩ = some (.int .i64 (B.length : Nat)) := by rw [kb.cell]; rfl
          have i1 : (k : Int) < (at_.length : Nat) := by omega
          have i2 : (k : Int) < (ws.length : Nat) := by omega
          have i3 : (k : Int) < (vs.length : Nat) := by omega
          have i4 : (0 : Int) ≤ k := by omega
          clear g1 g2 g3 g4 kb hx hc1 hc2 hc3 e1 e2
          have CR : Hid (∀ W, Below wr.heap.size wr W → Calls Try.prog 21 #[.agg #[.slice Ab nbb cb, .int .i64 (B.length : Nat)], .int .i64 (p1 : Nat), .int .i64 (p2 : Nat)] W fun e w' => e = .returned (.tuple #[.int .i64 (p3 : Nat), .int .i64 0]) ∧ Below W.heap.size W w') := hidI (fun W hW => by
            refine (read_any Ab nbb cb B.length (pack B) p1 p2 W (rd_ext G4.out hW) nbn.out (by rw [← nbn.out, LB.out]; omega) (bytes_pack HG.out.b01) ⟨by omega, by omega⟩ ⟨by omega, by omega⟩ ⟨by omega, by omega⟩).mono ?_
            rintro e w9 hres
            rw [RD.out] at hres
            exact hres)
          have CB : Hid (∀ W, Below wr.heap.size wr W → W.cell? ⟨w1.heap.size, 0, none⟩ = some (.slice Ab nbb cb) ∧ W.cell? ⟨w1.heap.size, 1, none⟩ = some (.int .i64 (B.length : Nat)) ∧ W.cell? ⟨b1, o1 + k, none⟩ = some (.int .i64 (p1 : Nat)) ∧ W.cell? ⟨b2, o2 + k, none⟩ = some (.int .i64 (p2 : Nat))) := hidI (fun W hW => by
            rw [(blk_next K.out hW).cell, (blk_next K.out hW).cell]
            exact ⟨rfl, rfl, (hW.cell (p := ⟨b1, o1 + k, none⟩) (cell_lt x1)).trans x1, (hW.cell (p := ⟨b2, o2 + k, none⟩) (cell_lt x2)).trans x2⟩)
          go_wp2_with fail
          go_region_held3 (fun w' => w'.cell? ⟨w1.heap.size, 0, none⟩ = some (.slice Ab nbb cb) ∧ w'.cell? ⟨w1.heap.size, 1, none⟩ = some (.int .i64 (B.length : Nat)) ∧ w'.cell? ⟨b1, o1 + k, none⟩ = some (.int .i64 (p1 : Nat)) ∧ w'.cell? ⟨b2, o2 + k, none⟩ = some (.int .i64 (p2 : Nat)))
            (first | exact CB.out _ (by repeat (first | exact HB9.out | exact Below.refl _ _ | refine ext_drew ?_)) | go_keep)
            ((first
              | (go_at_call 21
                 refine (CR.out _ (by repeat (first | exact Below.refl _ _ | refine ext_drew ?_))).mono ?_
                 rintro e w9 ⟨rfl, hb9⟩
                 have HB9 := Lib.hid (ext_next (a := wr) (by repeat (first | exact Below.refl _ _ | refine ext_drew ?_)) hb9)
                 clear hb9)))
          have x3' : w9.cell? ⟨b3, o3 + k, none⟩ = some (.int .i64 (p3 : Nat)) := (HB9.out.cell (p := ⟨b3, o3 + k, none⟩) hB3).trans x3
          clear x1 x2 x3 k0 k1
          go_wp2
          go_roundw
          case rel => exact ⟨k + 1, by omega, by go_num, rd_next G1.out HB9.out, rd_next G2.out HB9.out, rd_next G3.out HB9.out, rd_next G4.out HB9.out, blk_next K.out HB9.out, ext_next X.out HB9.out⟩
          case measure => simp [intOf]; omega
        · have hge : at_.length ≤ k := by omega
          clear g1 g2 g3 g4 kb hx
          go_wp2_with fail
          refine (awake_any _).mono ?_
          rintro e w9 ⟨rfl, hb9⟩
          have X9 := Lib.hid (ext_next X.out hb9)
          clear hb9
          go_wp2
          go_ret
          exact ⟨rfl, X9.out⟩
theorem back_walk (A : Option Addr) (n c : Nat) (zs : List Int) (w : World) (h : IntsIn .i64 w A n c zs) :
    Calls Try.prog 5 #[.slice A n c] w fun e w' => e = .returned (.bool true) ∧ Below w.heap.size w w' := by
  obtain ⟨hr, hl, hnc, hc, hA, hz⟩ := h
  exact back_law A n c zs w hr hl hnc hc hA fun z h => i64_wf (hz z h)
end Go.Proofs.Ytkbfldgebcpigaa
