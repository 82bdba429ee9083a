/- BitsJoin: the walk of the law, first part: three lists of bits are drawn. -/
import Derived.Test.YtkbfldgebcpigaaBitsI
import Derived.Test.YtkbfldgebcpigaaPads
import Derived.Deep.RegionHeld3
import Derived.Test.YtkbfldgebcpigaaArgs
namespace Go.Proofs.Ytkbfldgebcpigaa
open Go.RowKit

theorem own_own_ne {w : World} {base base' e e' n n' : Nat} {v v' : Value} {xs ys : List Value} {s s' : Nat} (h : w.ownsRow base e s v n xs) (h' : w.ownsRow base' e' s' v' n' ys) (hne : e ≠ e') : v.ownBlock = none ∨ v.ownBlock ≠ v'.ownBlock := by
  rcases h.2 with ⟨rfl, _⟩ | ⟨g, cap, cur, rfl, _, hh, _⟩
  · exact .inl rfl
  · right
    rcases h'.2 with ⟨rfl, _⟩ | ⟨g', cap', cur', rfl, _, hh', _⟩
    · simp [Value.ownBlock]
    · intro he
      have : g = g' := by simpa [Value.ownBlock] using he
      subst this
      exact Blk.differ (t := e) (t' := e') hh hh' hne rfl
/-- The value v is the row of the bits l. -/
def BV (w : World) (base : Nat) (v : Value) (l : List Nat) : Prop := w.ownsRow base 5 1 v (pack l).length (u8s (pack l))
theorem BV.nil_ (w : World) (base : Nat) : BV w base (.slice none 0 0) [] := World.ownsRow_nil _ _ _ _
theorem BV.alloc {w : World} {base : Nat} {v : Value} {l : List Nat} (h : BV w base v l) (o : Obj) : BV (w.alloc o) base v l := World.ownsRow.alloc h o
theorem BV.next {w w' : World} {base : Nat} {v : Value} {l : List Nat} (h : BV w base v l) (hb : Below w.heap.size w w') : BV w' base v l :=
  World.ownsRow.kept h (grown_below hb none) (by cases v.ownBlock <;> simp)
theorem BV.src {w w' : World} {base g : Nat} {v : Value} {l : List Nat} (h : BV w base v l) (hs : SrcOK w g) (hg : w.grownBy w' (some g)) : BV w' base v l := by
  obtain ⟨_, _, _, _, _, hb, _⟩ := hs
  exact World.ownsRow.kept h hg (.inr (own_blk_ne h hb (by decide)))
theorem BV.own {w w' : World} {base b n : Nat} {v v' : Value} {l : List Nat} {xs : List Value} (h : BV w base v l) (ho : w.ownsRow b 3 1 v' n xs) (hg : w.grownBy w' v'.ownBlock) : BV w' base v l :=
  World.ownsRow.kept h hg (own_own_ne h ho (by decide))
theorem BV.far {w : World} {base g t : Nat} {cs : Array Value} {v : Value} {l : List Nat} (h : BV w base v l) (hb : Blk w g t cs) (hne : 5 ≠ t) (i : Nat) (u : Value) : BV (w.setCell ⟨g, i, none⟩ u) base v l :=
  ownsRow_setCell_other h (own_blk_ne h hb hne) u

/-- Three lists of bits lie in the array. -/
def Three (w : World) (gx base : Nat) (l0 l1 l2 : List Nat) : Prop :=
  ∃ v0 v1 v2, Blk w gx 38 #[v0, .int .i64 (l0.length : Nat), v1, .int .i64 (l1.length : Nat), v2, .int .i64 (l2.length : Nat)] ∧ BV w base v0 l0 ∧ BV w base v1 l1 ∧ BV w base v2 l2
theorem Three.alloc {w : World} {gx base : Nat} {l0 l1 l2 : List Nat} (h : Three w gx base l0 l1 l2) (o : Obj) : Three (w.alloc o) gx base l0 l1 l2 := by
  obtain ⟨v0, v1, v2, hb, h0, h1, h2⟩ := h
  exact ⟨v0, v1, v2, hb.alloc o, h0.alloc o, h1.alloc o, h2.alloc o⟩
theorem Three.next {w w' : World} {gx base : Nat} {l0 l1 l2 : List Nat} (h : Three w gx base l0 l1 l2) (k : Below w.heap.size w w') : Three w' gx base l0 l1 l2 := by
  obtain ⟨v0, v1, v2, hb, h0, h1, h2⟩ := h
  exact ⟨v0, v1, v2, blk_next hb k, h0.next k, h1.next k, h2.next k⟩
theorem Three.src {w w' : World} {gx base g : Nat} {l0 l1 l2 : List Nat} (h : Three w gx base l0 l1 l2) (hs : SrcOK w g) (hg : w.grownBy w' (some g)) : Three w' gx base l0 l1 l2 := by
  obtain ⟨v0, v1, v2, hb, h0, h1, h2⟩ := h
  have hne : some gx ≠ some g := by
    obtain ⟨_, _, _, _, _, hb', _⟩ := hs
    intro e; injection e with e
    exact Blk.differ hb hb' (by decide) e
  exact ⟨v0, v1, v2, hb.grown hg hne, h0.src hs hg, h1.src hs hg, h2.src hs hg⟩
theorem Three.own {w w' : World} {gx base b n : Nat} {v' : Value} {l0 l1 l2 : List Nat} {xs : List Value} (h : Three w gx base l0 l1 l2) (ho : w.ownsRow b 3 1 v' n xs) (hg : w.grownBy w' v'.ownBlock) : Three w' gx base l0 l1 l2 := by
  obtain ⟨v0, v1, v2, hb, h0, h1, h2⟩ := h
  exact ⟨v0, v1, v2, hb.grown hg (fun e => own_blk_ne ho hb (by decide) e.symm), h0.own ho hg, h1.own ho hg, h2.own ho hg⟩

/-- A list of bits as a value that the world w holds. -/
def Held (w : World) (A : Option Addr) (n : Nat) (l : List Nat) : Prop := n = (pack l).length ∧ Rd w w.heap.size A (u8s (pack l))
theorem Held.next {w w1 : World} {A : Option Addr} {n : Nat} {l : List Nat} (h : Held w A n l) (k : Below w.heap.size w w1) : Held w1 A n l := ⟨h.1, rd_next h.2 k⟩
theorem Held.alloc {w : World} {A : Option Addr} {n : Nat} {l : List Nat} (h : Held w A n l) (o : Obj) : Held (w.alloc o) A n l := ⟨h.1, rd_alloc h.2 o⟩
theorem joinS_ok {a b : List Nat} (ha : B01 a) (hb : B01 b) (hl : a.length + b.length ≤ 40000) : joinS (pack a) a.length (pack b) b.length = (0, a ++ b) := by
  unfold joinS
  rw [if_neg (by simp [valid_pack (show a.length ≤ 40000 by omega), valid_pack (show b.length ≤ 40000 by omega)]), if_neg (by omega), Int.toNat_natCast, Int.toNat_natCast, unpack_pack ha, unpack_pack hb]
theorem appS_ok {a : List Nat} {x : Nat} (ha : B01 a) (hx : x ≤ 1) (hl : a.length + 1 ≤ 40000) : appS (pack a) a.length x 1 = (0, a ++ [x]) := by
  unfold appS
  rw [if_neg (by simp [valid_pack (show a.length ≤ 40000 by omega)]), if_neg (by simp [widthB]; omega), if_neg (by omega), Int.toNat_natCast, unpack_pack ha, Int.toNat_natCast]
  exact congrArg (fun l => ((0 : Int), a ++ l)) (nb_one x hx)
theorem join_ok (A A' : Option Addr) (n c n' c' : Nat) (a b : List Nat) (w : World) (ha : B01 a) (hb : B01 b) (hl : a.length + b.length ≤ 40000) (h1 : Held w A n a) (h2 : Held w A' n' b) :
    Calls Try.prog 16 #[.agg #[.slice A n c, .int .i64 (a.length : Nat)], .agg #[.slice A' n' c', .int .i64 (b.length : Nat)]] w fun e w' =>
      ∃ ab A1 n1 c1, e = .returned (.tuple #[.agg #[.slice A1 n1 c1, .int .i64 (List.length ab : Nat)], .int .i64 0]) ∧ Hid (ab = a ++ b) ∧ Held w' A1 n1 ab ∧ Below w.heap.size w w' := by
  have l1 := length_pack a
  have l2 := length_pack b
  refine (join_any A A' n c n' c' a.length b.length (pack a) (pack b) w h1.2 h2.2 h1.1.symm h2.1.symm (by rw [h1.1]; omega) (by rw [h2.1]; omega) (bytes_pack ha) (bytes_pack hb) ⟨by omega, by omega⟩ ⟨by omega, by omega⟩).mono ?_
  rintro e w1 hres
  rw [joinS_ok ha hb hl] at hres
  obtain ⟨A1, n1, c1, rfl, hn1, -, -, -, hr1, hb1⟩ := hres
  exact ⟨_, A1, n1, c1, rfl, hidI rfl, ⟨hn1, hr1⟩, hb1⟩
theorem append_one (A : Option Addr) (n c : Nat) (a : List Nat) (x : Nat) (w : World) (ha : B01 a) (hx : x ≤ 1) (hl : a.length + 1 ≤ 40000) (h1 : Held w A n a) :
    Calls Try.prog 17 #[.agg #[.slice A n c, .int .i64 (a.length : Nat)], .int .i64 x, .int .i64 1] w fun e w' =>
      ∃ ab A1 n1 c1, e = .returned (.tuple #[.agg #[.slice A1 n1 c1, .int .i64 (List.length ab : Nat)], .int .i64 0]) ∧ Hid (ab = a ++ [x]) ∧ Hid (∀ p, A1 = some p → w.heap.size ≤ p.block) ∧ Held w' A1 n1 ab ∧ Below w.heap.size w w' := by
  have l1 := length_pack a
  refine (append_any A n c a.length (pack a) x 1 w h1.2 h1.1.symm (by rw [h1.1]; omega) (bytes_pack ha) ⟨by omega, by omega⟩ ⟨by omega, by omega⟩ ⟨by omega, by omega⟩).mono ?_
  rintro e w1 hres
  rw [appS_ok ha hx hl] at hres
  obtain ⟨A1, n1, c1, rfl, hn1, -, -, ⟨-, hlo⟩, hr1, hb1⟩ := hres
  exact ⟨_, A1, n1, c1, rfl, hidI rfl, hidI hlo, ⟨hn1, hr1⟩, hb1⟩
theorem rsame_eq (A A' : Option Addr) (n c n' c' : Nat) (a b : List Nat) (w : World) (ha : B01 a) (hab : a = b) (h1 : Held w A n a) (h2 : Held w A' n' b) :
    Calls Try.prog 13 #[.agg #[.slice A n c, .int .i64 (a.length : Nat)], .agg #[.slice A' n' c', .int .i64 (b.length : Nat)]] w fun e w' => e = .returned (.bool true) ∧ Below w.heap.size w w' := by
  subst hab
  refine (rsame_any A A' n c n' c' a.length a.length (pack a) (pack a) w h1.2 h2.2 h1.1.symm h2.1.symm (bytes_pack ha) (bytes_pack ha)).mono ?_
  rintro e w1 ⟨rfl, h⟩
  rw [sameB_self]
  exact ⟨rfl, h⟩

set_option maxHeartbeats 2000000 in
theorem join_law (A : Option Addr) (n c : Nat) (zs : List Int) (w : World) (hr : Rd w w.heap.size A (zs.map (Value.int .i64))) (hl : zs.length = n) (hnc : n ≤ c) (hc : c ≤ 9223372036854775807) (hA : A = none → c = 0) (hz : ∀ z ∈ zs, I64 z) :
    Calls Try.prog 4 #[.slice A n c] w fun e w' => e = .returned (.bool true) ∧ Below w.heap.size w w' := by
  obtain ⟨i0, hi, hz0, hz1, hz2⟩ := info_parts info_int
  go_enter Try.func4, Try.ntmps4
  go_wp2_with fail
  refine (new_any A n c zs w hr hl hnc hc hA hz).mono ?_
  rintro e w1 ⟨rfl, hs1, hb1⟩
  have X1 := Lib.hid hb1
  have HS1 := Lib.hid hs1
  have hlt1 := hs1.lt
  clear hb1 hs1 hr hl hz hA
  go_wp2
  have T0 : Hid (Three (w1.alloc (.cells #[.slice none 0 0, .int .i64 0, .slice none 0 0, .int .i64 0, .slice none 0 0, .int .i64 0] 38)) w1.heap.size w1.heap.size [] [] []) :=
    hidI ⟨_, _, _, Blk.new _ _ _, BV.nil_ _ _, BV.nil_ _ _, BV.nil_ _ _⟩
  have S0 := Lib.hid (HS1.out.alloc (.cells #[.slice none 0 0, .int .i64 0, .slice none 0 0, .int .i64 0, .slice none 0 0, .int .i64 0] 38))
  have Y0 := Lib.hid (ext_alloc X1.out (.cells #[.slice none 0 0, .int .i64 0, .slice none 0 0, .int .i64 0, .slice none 0 0, .int .i64 0] 38))
  go_loopw [5, 6, 7] (fun i _ _ wr => ∃ (k : Nat) (l0 l1 l2 : List Nat), k ≤ 3 ∧ i = .int .i64 k ∧ (B01 l0 ∧ l0.length ≤ 40) ∧ (B01 l1 ∧ l1.length ≤ 40) ∧ (B01 l2 ∧ l2.length ≤ 40) ∧ Three wr w1.heap.size w1.heap.size l0 l1 l2 ∧ SrcOK wr w.heap.size ∧ Below w.heap.size w wr ∧ w1.heap.size ≤ wr.heap.size) (fun i _ _ _ => 3 - (intOf i).toNat)
  case atStart => exact ⟨0, [], [], [], by omega, rfl, ⟨fun i => by simp, by simp⟩, ⟨fun i => by simp, by simp⟩, ⟨fun i => by simp, by simp⟩, T0.out, S0.out, Y0.out, by simp⟩
  case round =>
    obtain ⟨k, l0, l1, l2, hk, rfl, hl0, hl1, hl2, ht, hs, hb, hsz⟩ := hrel
    clear T0 S0 Y0 X1 HS1
    have HT := Lib.hid ht
    have HS := Lib.hid hs
    have HB := Lib.hid hb
    have HL0 := Lib.hid hl0
    have HL1 := Lib.hid hl1
    have HL2 := Lib.hid hl2
    clear ht hs hb hl0 hl1 hl2
    by_cases hk3 : k < 3
    · go_wp2_with fail
      refine (srcN_any w.heap.size 40 _ HS.out (by omega) (by omega)).mono ?_
      rintro e w2 ⟨⟨m, ⟨hm0, hm1⟩, rfl⟩, hs2, hg2⟩
      have T2 := Lib.hid (HT.out.src HS.out hg2)
      have B2 := Lib.hid (HB.out.grown hg2 HB.out.size (fun k hk => by cases hk; omega))
      have S2 := Lib.hid hs2
      have z2 := Nat.le_trans hsz hg2.size
      clear hs2 hg2
      obtain ⟨wo, rfl⟩ : ∃ wo : World, wo = wr := ⟨_, rfl⟩
      go_wp2
      go_loopw [6, 7] (fun v i wr => ∃ (L : List Nat) (j : Nat), B01 L ∧ L.length + j ≤ 40 ∧ i = .int .i64 j ∧ wr.ownsRow w1.heap.size 3 1 v L.length (i64s L) ∧ SrcOK wr w.heap.size ∧ Below w.heap.size w wr ∧ Three wr w1.heap.size w1.heap.size l0 l1 l2 ∧ w1.heap.size ≤ wr.heap.size) (fun _ i _ => (intOf i).toNat)
      case atStart => exact ⟨[], m.toNat, fun i => by simp, by simp; omega, by rw [Int.toNat_of_nonneg hm0], World.ownsRow_nil _ _ _ _, S2.out, B2.out, T2.out, z2⟩
      case round =>
        obtain ⟨L, j, h01, hLj, rfl, hown, hs, hb, ht, hz⟩ := hrel
        obtain ⟨-, A4, c4, rfl, -, -, -⟩ := own_slice hown
        clear T2 B2 S2 HT HS HB
        have HO := Lib.hid hown
        have HS := Lib.hid hs
        have HB := Lib.hid hb
        have HT := Lib.hid ht
        have H01 := Lib.hid h01
        clear hown hs hb h01 ht
        by_cases hj : 0 < j
        · have hj' : (0 : Int) < j := by omega
          go_wp2_with fail
          refine (srcN_any w.heap.size 2 _ HS.out (by omega) (by omega)).mono ?_
          rintro e w3 ⟨⟨x, ⟨hx0, hx1⟩, rfl⟩, hs3, hg3⟩
          have HO3 := Lib.hid (HO.out.kept hg3 (.inr (fun e => by have := (HO.out.lt _ e).1; omega)))
          have HB3 := Lib.hid (HB.out.grown hg3 HB.out.size (fun k hk => by cases hk; omega))
          have HT3 := Lib.hid (HT.out.src HS.out hg3)
          have HS3 := Lib.hid hs3
          have hz3 := Nat.le_trans hz hg3.size
          clear hs3 hg3
          obtain ⟨y, rfl⟩ := Int.eq_ofNat_of_zero_le hx0
          go_wp2_with (at_builtin; refine wpList_append_own _ rfl (.tmp 32) (.tmp 35) 22 rfl w1.heap.size 3 i0 (.int .i64 0) 1 8 Try.underlying22 hi hz0 hz1 hz2 rfl (by decide) _ _ _ rfl (HO3.out.alloc _) ⟨w3.heap.size, 0, none⟩ 1 1 [.int .i64 y] rfl rfl ?c1 ?c2 ?c3 ?c4 ?c5 ?_)
          case c1 =>
            intro j u hj
            match j, hj with
            | 0, hj => simp at hj; subst hj; simp [Addr.add]
          case c2 => intro u hu; simp at hu; subst hu; rfl
          case c3 => unfold maxLen; omega
          case c4 => omega
          case c5 => simp; omega
          intro v1 w4 hown4 hgrow4 _
          have HS4 := Lib.hid ((HS3.out.alloc (.cells #[.int .i64 y] 3)).grown hgrow4 (fun k hk => by have := (HO3.out.lt _ hk).1; omega))
          have HB4 := Lib.hid ((HB3.out.alloc HB3.out.size (.cells #[.int .i64 y] 3)).grown hgrow4 (by have := HB3.out.size; simp; omega) (fun k hk => by have := (HO3.out.lt _ hk).1; omega))
          have HT4 := Lib.hid ((HT3.out.alloc (.cells #[.int .i64 y] 3)).own (HO3.out.alloc _) hgrow4)
          have hz4 : w1.heap.size ≤ w4.heap.size := Nat.le_trans hz3 (Nat.le_trans (by simp) hgrow4.size)
          have HO4 := Lib.hid hown4
          clear hown4 hgrow4
          go_wp2
          go_roundw
          case rel =>
            refine ⟨L ++ [y], j - 1, b01_append H01.out (b01_one (by omega)), by simp; omega, by congr 1; omega, ?_, HS4.out, HB4.out, HT4.out, hz4⟩
            have := HO4.out
            simpa [i64s] using this
          case measure => simp [intOf]; omega
        · have hj0 : j = 0 := by omega
          subst hj0
          have hL40 : L.length ≤ 40 := by omega
          go_wp2_with fail
          refine (of_any A4 L.length c4 L wr (Rd.of_own HO.out) rfl (by omega) H01.out).mono ?_
          rintro e w3 ⟨A5, n5, c5, rfl, hown5, hb5⟩
          have N5 := Lib.hid (show (pack L).length = n5 by have := hown5.1; rw [length_u8s] at this; omega)
          have HT3 := Lib.hid (HT.out.next hb5)
          have HS3 := Lib.hid (HS.out.below hb5 HS.out.lt)
          have HB3 := Lib.hid (ext_next HB.out hb5)
          have hz3 := Nat.le_trans hz hb5.size
          have O5 : Hid (BV w3 w1.heap.size (.slice A5 n5 c5) L) := hidI (by
            have h : w3.ownsRow w1.heap.size 5 1 (.slice A5 n5 c5) n5 (u8s (pack L)) := by
              refine ⟨hown5.1, ?_⟩
              rcases hown5.2 with h | ⟨g, cap, cur, h1, h2, h3⟩
              · exact .inl h
              · exact .inr ⟨g, cap, cur, h1, by omega, h3⟩
            unfold BV; rw [N5.out]; exact h)
          clear hown5 hb5
          obtain ⟨v0, v1, v2, hblk, g0, g1, g2⟩ := HT3.out
          have a0 : w3.cell? ⟨w1.heap.size, 0, none⟩ = some v0 := by rw [hblk.cell]; rfl
          have a1 : w3.cell? ⟨w1.heap.size, 1, none⟩ = some (.int .i64 (l0.length : Nat)) := by rw [hblk.cell]; rfl
          have a2 : w3.cell? ⟨w1.heap.size, 2, none⟩ = some v1 := by rw [hblk.cell]; rfl
          have a3 : w3.cell? ⟨w1.heap.size, 3, none⟩ = some (.int .i64 (l1.length : Nat)) := by rw [hblk.cell]; rfl
          have a4 : w3.cell? ⟨w1.heap.size, 4, none⟩ = some v2 := by rw [hblk.cell]; rfl
          have a5 : w3.cell? ⟨w1.heap.size, 5, none⟩ = some (.int .i64 (l2.length : Nat)) := by rw [hblk.cell]; rfl
          have f0 := hblk.frozen 0
          have f1 := hblk.frozen 1
          have f2 := hblk.frozen 2
          have f3 := hblk.frozen 3
          have f4 := hblk.frozen 4
          have f5 := hblk.frozen 5
          have BK := Lib.hid hblk
          have G0 := Lib.hid g0
          have G1 := Lib.hid g1
          have G2 := Lib.hid g2
          clear hblk g0 g1 g2
          have hk' : k = 0 ∨ k = 1 ∨ k = 2 := by omega
          rcases hk' with rfl | rfl | rfl
          · go_wp2
            go_roundw
            case rel =>
              refine ⟨1, L, l1, l2, by omega, rfl, ⟨H01.out, hL40⟩, HL1.out, HL2.out, ?_, (HS3.out.far (by simp; omega) _).far (by simp; omega) _, (HB3.out.setCell (by simp; omega) _).setCell (by simp; omega) _, by simpa using hz3⟩
              exact ⟨_, _, _, (BK.out.put 0 _).puts 1 _ (by simp), (O5.out.far BK.out (by decide) 0 _).far (BK.out.put 0 _) (by decide) 1 _, (G1.out.far BK.out (by decide) 0 _).far (BK.out.put 0 _) (by decide) 1 _, (G2.out.far BK.out (by decide) 0 _).far (BK.out.put 0 _) (by decide) 1 _⟩
            case measure => simp [intOf]
          · go_wp2
            go_roundw
            case rel =>
              refine ⟨2, l0, L, l2, by omega, rfl, HL0.out, ⟨H01.out, hL40⟩, HL2.out, ?_, (HS3.out.far (by simp; omega) _).far (by simp; omega) _, (HB3.out.setCell (by simp; omega) _).setCell (by simp; omega) _, by simpa using hz3⟩
              exact ⟨_, _, _, (BK.out.put 2 _).puts 3 _ (by simp), (G0.out.far BK.out (by decide) 2 _).far (BK.out.put 2 _) (by decide) 3 _, (O5.out.far BK.out (by decide) 2 _).far (BK.out.put 2 _) (by decide) 3 _, (G2.out.far BK.out (by decide) 2 _).far (BK.out.put 2 _) (by decide) 3 _⟩
            case measure => simp [intOf]
          · go_wp2
            go_roundw
            case rel =>
              refine ⟨3, l0, l1, L, by omega, rfl, HL0.out, HL1.out, ⟨H01.out, hL40⟩, ?_, (HS3.out.far (by simp; omega) _).far (by simp; omega) _, (HB3.out.setCell (by simp; omega) _).setCell (by simp; omega) _, by simpa using hz3⟩
              exact ⟨_, _, _, (BK.out.put 4 _).puts 5 _ (by simp), (G0.out.far BK.out (by decide) 4 _).far (BK.out.put 4 _) (by decide) 5 _, (G1.out.far BK.out (by decide) 4 _).far (BK.out.put 4 _) (by decide) 5 _, (O5.out.far BK.out (by decide) 4 _).far (BK.out.put 4 _) (by decide) 5 _⟩
            case measure => simp [intOf]
    · have hk' : k = 3 := by omega
      subst hk'
      rw [show (((3 : Nat)) : Int) = (3 : Int) from rfl]
      obtain ⟨wo, rfl⟩ : ∃ wo : World, wo = wr := ⟨_, rfl⟩
      obtain ⟨b0, len0⟩ := HL0.out
      obtain ⟨b1, len1⟩ := HL1.out
      obtain ⟨b2, len2⟩ := HL2.out
      obtain ⟨v0, v1, v2, hblk, g0, g1, g2⟩ := HT.out
      obtain ⟨-, A0, c0, rfl, -, -, -⟩ := own_slice g0
      obtain ⟨-, A1, c1, rfl, -, -, -⟩ := own_slice g1
      obtain ⟨-, A2, c2, rfl, -, -, -⟩ := own_slice g2
      have r0 : Hid (Held wo A0 (pack l0).length l0) := hidI ⟨rfl, Rd.of_own g0⟩
      have r1 : Hid (Held wo A1 (pack l1).length l1) := hidI ⟨rfl, Rd.of_own g1⟩
      have r2 : Hid (Held wo A2 (pack l2).length l2) := hidI ⟨rfl, Rd.of_own g2⟩
      generalize (pack l0).length = n0 at hblk r0
      generalize (pack l1).length = n1 at hblk r1
      generalize (pack l2).length = n2 at hblk r2
      have D0 := Lib.hid b0
      have D1 := Lib.hid b1
      have D2 := Lib.hid b2
      have a0 : wo.cell? ⟨w1.heap.size, 0, none⟩ = some (.slice A0 n0 c0) := by rw [hblk.cell]; rfl
      have a1 : wo.cell? ⟨w1.heap.size, 1, none⟩ = some (.int .i64 (l0.length : Nat)) := by rw [hblk.cell]; rfl
      have a2 : wo.cell? ⟨w1.heap.size, 2, none⟩ = some (.slice A1 n1 c1) := by rw [hblk.cell]; rfl
      have a3 : wo.cell? ⟨w1.heap.size, 3, none⟩ = some (.int .i64 (l1.length : Nat)) := by rw [hblk.cell]; rfl
      have BK := Lib.hid hblk
      clear HT HS HL0 HL1 HL2 b0 b1 b2 g0 g1 g2 hblk
      go_wp2_with fail
      refine (join_ok A0 A1 n0 c0 n1 c1 l0 l1 wo D0.out D1.out (by omega) r0.out r1.out).mono ?_
      rintro e w3 ⟨ab, Aab, nab, cab, rfl, Eab, h3, hb3⟩
      have q := blk_next BK.out hb3
      replace a2 : w3.cell? ⟨w1.heap.size, 2, none⟩ = some (.slice A1 n1 c1) := by rw [q.cell]; rfl
      replace a3 : w3.cell? ⟨w1.heap.size, 3, none⟩ = some (.int .i64 (l1.length : Nat)) := by rw [q.cell]; rfl
      have a4 : w3.cell? ⟨w1.heap.size, 4, none⟩ = some (.slice A2 n2 c2) := by rw [q.cell]; rfl
      have a5 : w3.cell? ⟨w1.heap.size, 5, none⟩ = some (.int .i64 (l2.length : Nat)) := by rw [q.cell]; rfl
      have z3 := q.lt
      replace BK := Lib.hid (q.alloc (.cells #[.slice Aab nab cab, .int .i64 (ab.length : Nat)] 28))
      have Kab := Lib.hid (Blk.new w3 28 #[.slice Aab nab cab, .int .i64 (ab.length : Nat)])
      replace r0 := Lib.hid ((r0.out.next hb3).alloc (.cells #[.slice Aab nab cab, .int .i64 (ab.length : Nat)] 28))
      replace r1 := Lib.hid ((r1.out.next hb3).alloc (.cells #[.slice Aab nab cab, .int .i64 (ab.length : Nat)] 28))
      replace r2 := Lib.hid ((r2.out.next hb3).alloc (.cells #[.slice Aab nab cab, .int .i64 (ab.length : Nat)] 28))
      have rab := Lib.hid (h3.alloc (.cells #[.slice Aab nab cab, .int .i64 (ab.length : Nat)] 28))
      have X3 := Lib.hid (ext_alloc (ext_next HB.out hb3) (.cells #[.slice Aab nab cab, .int .i64 (ab.length : Nat)] 28))
      have Dab : Hid (B01 ab) := hidI (by rw [Eab.out]; exact b01_append D0.out D1.out)
      have lab : ab.length ≤ 80 := by rw [Eab.out]; simp; omega
      clear hb3 q h3 a0 a1
      go_wp2_with fail
      refine (join_ok A1 A2 n1 c1 n2 c2 l1 l2 _ D1.out D2.out (by omega) r1.out r2.out).mono ?_
      rintro e w4 ⟨bc, Abc, nbc, cbc, rfl, Ebc, h4, hb4⟩
      have q := blk_next BK.out hb4
      have qab := blk_next Kab.out hb4
      replace a4 : w4.cell? ⟨w1.heap.size, 4, none⟩ = some (.slice A2 n2 c2) := by rw [q.cell]; rfl
      replace a5 : w4.cell? ⟨w1.heap.size, 5, none⟩ = some (.int .i64 (l2.length : Nat)) := by rw [q.cell]; rfl
      have e0 : w4.cell? ⟨w3.heap.size, 0, none⟩ = some (.slice Aab nab cab) := by rw [qab.cell]; rfl
      have e1 : w4.cell? ⟨w3.heap.size, 1, none⟩ = some (.int .i64 (ab.length : Nat)) := by rw [qab.cell]; rfl
      have z4 := q.lt
      have z4' := qab.lt
      replace BK := Lib.hid (q.alloc (.cells #[.slice Abc nbc cbc, .int .i64 (bc.length : Nat)] 28))
      replace Kab := Lib.hid (qab.alloc (.cells #[.slice Abc nbc cbc, .int .i64 (bc.length : Nat)] 28))
      have Kbc := Lib.hid (Blk.new w4 28 #[.slice Abc nbc cbc, .int .i64 (bc.length : Nat)])
      replace r0 := Lib.hid ((r0.out.next hb4).alloc (.cells #[.slice Abc nbc cbc, .int .i64 (bc.length : Nat)] 28))
      replace r1 := Lib.hid ((r1.out.next hb4).alloc (.cells #[.slice Abc nbc cbc, .int .i64 (bc.length : Nat)] 28))
      replace r2 := Lib.hid ((r2.out.next hb4).alloc (.cells #[.slice Abc nbc cbc, .int .i64 (bc.length : Nat)] 28))
      replace rab := Lib.hid ((rab.out.next hb4).alloc (.cells #[.slice Abc nbc cbc, .int .i64 (bc.length : Nat)] 28))
      have rbc := Lib.hid (h4.alloc (.cells #[.slice Abc nbc cbc, .int .i64 (bc.length : Nat)] 28))
      have X4 := Lib.hid (ext_alloc (ext_next X3.out hb4) (.cells #[.slice Abc nbc cbc, .int .i64 (bc.length : Nat)] 28))
      have Dbc : Hid (B01 bc) := hidI (by rw [Ebc.out]; exact b01_append D1.out D2.out)
      have lbc : bc.length ≤ 80 := by rw [Ebc.out]; simp; omega
      clear hb4 q qab h4 a2 a3 z3
      go_wp2_with fail
      refine (join_ok Aab A2 nab cab n2 c2 ab l2 _ Dab.out D2.out (by omega) rab.out r2.out).mono ?_
      rintro e w5 ⟨p, Ap, np, cp, rfl, Ep, h5, hb5⟩
      have q := blk_next BK.out hb5
      have qab := blk_next Kab.out hb5
      have qbc := blk_next Kbc.out hb5
      have a0 : w5.cell? ⟨w1.heap.size, 0, none⟩ = some (.slice A0 n0 c0) := by rw [q.cell]; rfl
      have a1 : w5.cell? ⟨w1.heap.size, 1, none⟩ = some (.int .i64 (l0.length : Nat)) := by rw [q.cell]; rfl
      replace e0 : w5.cell? ⟨w4.heap.size, 0, none⟩ = some (.slice Abc nbc cbc) := by rw [qbc.cell]; rfl
      replace e1 : w5.cell? ⟨w4.heap.size, 1, none⟩ = some (.int .i64 (bc.length : Nat)) := by rw [qbc.cell]; rfl
      have z5 := q.lt
      have z5' := qbc.lt
      replace BK := Lib.hid (q.alloc (.cells #[.slice Ap np cp, .int .i64 (p.length : Nat)] 28))
      replace Kab := Lib.hid (qab.alloc (.cells #[.slice Ap np cp, .int .i64 (p.length : Nat)] 28))
      have Kp := Lib.hid (Blk.new w5 28 #[.slice Ap np cp, .int .i64 (p.length : Nat)])
      replace r0 := Lib.hid ((r0.out.next hb5).alloc (.cells #[.slice Ap np cp, .int .i64 (p.length : Nat)] 28))
      replace r1 := Lib.hid ((r1.out.next hb5).alloc (.cells #[.slice Ap np cp, .int .i64 (p.length : Nat)] 28))
      replace rab := Lib.hid ((rab.out.next hb5).alloc (.cells #[.slice Ap np cp, .int .i64 (p.length : Nat)] 28))
      replace rbc := Lib.hid ((rbc.out.next hb5).alloc (.cells #[.slice Ap np cp, .int .i64 (p.length : Nat)] 28))
      have rp := Lib.hid (h5.alloc (.cells #[.slice Ap np cp, .int .i64 (p.length : Nat)] 28))
      have X5 := Lib.hid (ext_alloc (ext_next X4.out hb5) (.cells #[.slice Ap np cp, .int .i64 (p.length : Nat)] 28))
      have Dp : Hid (B01 p) := hidI (by rw [Ep.out]; exact b01_append Dab.out D2.out)
      clear hb5 q qab qbc h5 a4 a5 z4 z4'
      go_wp2_with fail
      refine (join_ok A0 Abc n0 c0 nbc cbc l0 bc _ D0.out Dbc.out (by omega) r0.out rbc.out).mono ?_
      rintro e w6 ⟨qq, Aq, nq, cq, rfl, Eq', h6, hb6⟩
      have q := blk_next BK.out hb6
      have qab := blk_next Kab.out hb6
      have qp := blk_next Kp.out hb6
      have p0 : w6.cell? ⟨w5.heap.size, 0, none⟩ = some (.slice Ap np cp) := by rw [qp.cell]; rfl
      have p1 : w6.cell? ⟨w5.heap.size, 1, none⟩ = some (.int .i64 (p.length : Nat)) := by rw [qp.cell]; rfl
      have z6' := qp.lt
      replace BK := Lib.hid (q.alloc (.cells #[.slice Aq nq cq, .int .i64 (qq.length : Nat)] 28))
      replace Kab := Lib.hid (qab.alloc (.cells #[.slice Aq nq cq, .int .i64 (qq.length : Nat)] 28))
      replace r0 := Lib.hid ((r0.out.next hb6).alloc (.cells #[.slice Aq nq cq, .int .i64 (qq.length : Nat)] 28))
      replace r1 := Lib.hid ((r1.out.next hb6).alloc (.cells #[.slice Aq nq cq, .int .i64 (qq.length : Nat)] 28))
      replace rab := Lib.hid ((rab.out.next hb6).alloc (.cells #[.slice Aq nq cq, .int .i64 (qq.length : Nat)] 28))
      replace rp := Lib.hid ((rp.out.next hb6).alloc (.cells #[.slice Aq nq cq, .int .i64 (qq.length : Nat)] 28))
      have rq := Lib.hid (h6.alloc (.cells #[.slice Aq nq cq, .int .i64 (qq.length : Nat)] 28))
      have X6 := Lib.hid (ext_alloc (ext_next X5.out hb6) (.cells #[.slice Aq nq cq, .int .i64 (qq.length : Nat)] 28))
      have Epq : Hid (p = qq) := hidI (by rw [Ep.out, Eq'.out, Eab.out, Ebc.out, List.append_assoc])
      clear hb6 q qab qp h6 a0 a1 e0 e1 z5 z5'
      go_wp2_with fail
      refine (rsame_eq Ap Aq np cp nq cq p qq _ Dp.out Epq.out rp.out rq.out).mono ?_
      rintro e w7 ⟨rfl, hb7⟩
      have r1b := r1
      have Kabb := Kab
      have rabb := rab
      have q := blk_next BK.out hb7
      have a0 : w7.cell? ⟨w1.heap.size, 0, none⟩ = some (.slice A0 n0 c0) := by rw [q.cell]; rfl
      have a1 : w7.cell? ⟨w1.heap.size, 1, none⟩ = some (.int .i64 (l0.length : Nat)) := by rw [q.cell]; rfl
      have z7 := q.lt
      replace BK := Lib.hid (q.alloc (.cells #[.slice A0 n0 c0, .int .i64 (l0.length : Nat)] 28))
      replace Kab := Lib.hid ((blk_next Kab.out hb7).alloc (.cells #[.slice A0 n0 c0, .int .i64 (l0.length : Nat)] 28))
      have Kc := Lib.hid (Blk.new w7 28 #[.slice A0 n0 c0, .int .i64 (l0.length : Nat)])
      replace r0 := Lib.hid ((r0.out.next hb7).alloc (.cells #[.slice A0 n0 c0, .int .i64 (l0.length : Nat)] 28))
      replace r1 := Lib.hid ((r1.out.next hb7).alloc (.cells #[.slice A0 n0 c0, .int .i64 (l0.length : Nat)] 28))
      replace rab := Lib.hid ((rab.out.next hb7).alloc (.cells #[.slice A0 n0 c0, .int .i64 (l0.length : Nat)] 28))
      have X7 := Lib.hid (ext_alloc (ext_next X6.out hb7) (.cells #[.slice A0 n0 c0, .int .i64 (l0.length : Nat)] 28))
      have z37 : w3.heap.size < w7.heap.size := (blk_next Kabb.out hb7).lt
      have N1 := Lib.hid r1.out.1
      have Nab := Lib.hid rab.out.1
      have R1 := Lib.hid (((rd_next r1b.out.2 hb7)).alloc (Nat.le_refl _) (.cells #[.slice A0 n0 c0, .int .i64 (l0.length : Nat)] 28))
      have Rab := Lib.hid (((rd_next rabb.out.2 hb7)).alloc (Nat.le_refl _) (.cells #[.slice A0 n0 c0, .int .i64 (l0.length : Nat)] 28))
      clear hb7 q p0 p1 z6' r2 rbc rp rq
      clear Kbc Kp X3 X4 X5 X6 Dbc Dp Ebc Ep Eq' Epq
      go_wp2
      go_loopw [17] (fun i wr => ∃ (k : Nat) (cl : List Nat) (Ac : Option Addr) (nc cc : Nat), k ≤ l1.length ∧ i = .int .i64 k ∧ Hid (cl = l0 ++ l1.take k) ∧ Blk wr w7.heap.size 28 #[.slice Ac nc cc, .int .i64 (cl.length : Nat)] ∧ Held wr Ac nc cl ∧
          Blk wr w1.heap.size 38 #[.slice A0 n0 c0, .int .i64 (l0.length : Nat), .slice A1 n1 c1, .int .i64 (l1.length : Nat), .slice A2 n2 c2, .int .i64 (l2.length : Nat)] ∧
          Blk wr w3.heap.size 28 #[.slice Aab nab cab, .int .i64 (ab.length : Nat)] ∧ Rd wr w7.heap.size A1 (u8s (pack l1)) ∧ Rd wr w7.heap.size Aab (u8s (pack ab)) ∧ w7.heap.size < wr.heap.size ∧ Below w.heap.size w wr) (fun i _ => l1.length - (intOf i).toNat)
      case atStart => exact ⟨0, l0, A0, n0, c0, Nat.zero_le _, rfl, hidI (by simp), Kc.out, r0.out, BK.out, Kab.out, R1.out, Rab.out, by simp, X7.out⟩
      case round =>
        obtain ⟨k, cl, Ac, nc, cc, hk, rfl, Ecl, kc, hc', bk, kab, h1, hab, hs7, x8⟩ := hrel
        clear Kc r0 BK Kab Kabb r1 rab X7 R1 Rab r1b rabb
        have a2 : wr.cell? ⟨w1.heap.size, 2, none⟩ = some (.slice A1 n1 c1) := by rw [bk.cell]; rfl
        have a3 : wr.cell? ⟨w1.heap.size, 3, none⟩ = some (.int .i64 (l1.length : Nat)) := by rw [bk.cell]; rfl
        have e0 : wr.cell? ⟨w7.heap.size, 0, none⟩ = some (.slice Ac nc cc) := by rw [kc.cell]; rfl
        have e1 : wr.cell? ⟨w7.heap.size, 1, none⟩ = some (.int .i64 (cl.length : Nat)) := by rw [kc.cell]; rfl
        have e3 : wr.cell? ⟨w3.heap.size, 0, none⟩ = some (.slice Aab nab cab) := by rw [kab.cell]; rfl
        have e4 : wr.cell? ⟨w3.heap.size, 1, none⟩ = some (.int .i64 (ab.length : Nat)) := by rw [kab.cell]; rfl
        have hlc : cl.length ≤ 80 := by rw [Ecl.out]; have := List.length_take_le k l1; have := List.length_take_le' k l1; simp; omega
        have Dc : Hid (B01 cl) := hidI (by rw [Ecl.out]; exact b01_append D0.out (b01_take D1.out k))
        have KC := Lib.hid kc
        have HC := Lib.hid hc'
        have BK := Lib.hid bk
        have KAB := Lib.hid kab
        have H1 : Hid (Held wr A1 n1 l1) := hidI ⟨N1.out, h1.more (by omega)⟩
        have HAB : Hid (Held wr Aab nab ab) := hidI ⟨Nab.out, hab.more (by omega)⟩
        have R1 := Lib.hid h1
        have RAB := Lib.hid hab
        have X8 := Lib.hid x8
        clear kc hc' bk kab h1 hab x8
        by_cases hlt : k < l1.length
        · have L1 := Lib.hid (length_pack l1)
          obtain ⟨x, hx1, hB1, TK⟩ : ∃ x, x ≤ 1 ∧ Hid (bitOf (pack l1) k = x) ∧ Hid (l1.take (k + 1) = l1.take k ++ [x]) := ⟨_, D1.out k, hidI (bitOf_pack D1.out k), hidI (take_snoc l1 k hlt)⟩
          have hk8 : (k : Int) < 8 * (n1 : Int) := by have h := H1.out.1; have := L1.out; omega
          have hn1 : n1 ≤ 140737488355328 := by have h := H1.out.1; have := L1.out; omega
          clear e3 e4
          go_wp2_with fail
          have CA : Hid (∀ W, Below wr.heap.size wr W → Calls Try.prog 14 #[.agg #[.slice A1 n1 c1, .int .i64 (l1.length : Nat)], .int .i64 (k : Nat)] W fun e w' => e = .returned (.int .i64 (x : Nat)) ∧ Below W.heap.size W w') := hidI (fun W hW => by
            refine (at_any A1 n1 c1 l1.length k (pack l1) W (H1.out.next hW).2 H1.out.1.symm hn1 (bytes_pack D1.out) (by omega) hk8).mono ?_
            rintro e w8 ⟨rfl, hb8⟩
            rw [Int.toNat_natCast, hB1.out]
            exact ⟨rfl, hb8⟩)
          have CP : Hid (∀ W, Below wr.heap.size wr W → Calls Try.prog 17 #[.agg #[.slice Ac nc cc, .int .i64 (cl.length : Nat)], .int .i64 (x : Nat), .int .i64 1] W fun e w' =>
              ∃ dl Ad nd cd, e = .returned (.tuple #[.agg #[.slice Ad nd cd, .int .i64 (List.length dl : Nat)], .int .i64 0]) ∧ Hid (dl = cl ++ [x]) ∧ Hid (∀ p, Ad = some p → W.heap.size ≤ p.block) ∧ Held w' Ad nd dl ∧ Below W.heap.size W w') := hidI (fun W hW => append_one Ac nc cc cl x W Dc.out hx1 (by omega) (HC.out.next hW))
          have CB : Hid (∀ W, Below wr.heap.size wr W → W.cell? ⟨w1.heap.size, 2, none⟩ = some (.slice A1 n1 c1) ∧ W.cell? ⟨w1.heap.size, 3, none⟩ = some (.int .i64 (l1.length : Nat)) ∧ W.cell? ⟨w7.heap.size, 0, none⟩ = some (.slice Ac nc cc) ∧ W.cell? ⟨w7.heap.size, 1, none⟩ = some (.int .i64 (cl.length : Nat))) := hidI (fun W hW => by
            rw [(blk_next BK.out hW).cell, (blk_next BK.out hW).cell, (blk_next KC.out hW).cell, (blk_next KC.out hW).cell]; exact ⟨rfl, rfl, rfl, rfl⟩)
          go_region_held3 (fun w' => w'.cell? ⟨w1.heap.size, 2, none⟩ = some (.slice A1 n1 c1) ∧ w'.cell? ⟨w1.heap.size, 3, none⟩ = some (.int .i64 (l1.length : Nat)) ∧ w'.cell? ⟨w7.heap.size, 0, none⟩ = some (.slice Ac nc cc) ∧ w'.cell? ⟨w7.heap.size, 1, none⟩ = some (.int .i64 (cl.length : Nat)))
            (first | exact CB.out _ (by repeat (first | exact HB9.out | exact HB8.out | exact Below.refl _ _ | refine ext_drew ?_ | refine ext_alloc ?_ _ | refine Below.setCell ?_ (by simp <;> omega) _)) | go_keep)
            ((first
              | (go_at_call 14
                 refine (CA.out _ (by repeat (first | exact Below.refl _ _ | refine ext_drew ?_ | refine ext_alloc ?_ _))).mono ?_
                 rintro e w8 ⟨rfl, hb8⟩
                 have HB8 := Lib.hid (ext_next (a := wr) (by repeat (first | exact Below.refl _ _ | refine ext_drew ?_ | refine ext_alloc ?_ _)) hb8)
                 have Q8 := Lib.hid hb8
                 have HB8s := Lib.hid hb8
                 have lt8 := hb8.size
                 obtain ⟨hc8, hf8⟩ := bcell hb8
                 try simp only [World.size_alloc] at hc8 hf8 lt8
                 try have lt8' : wr.heap.size < w8.heap.size := Nat.lt_of_lt_of_le (by show wr.heap.size < (World.alloc wr _).heap.size; simp) HB8s.out.size
                 try have lt8s : wr.heap.size ≤ w8.heap.size := HB8.out.size
                 clear hb8)
              | (go_at_call 17
                 refine (CP.out _ (by repeat (first | exact HB8.out | refine ext_drew ?_ | refine ext_alloc ?_ _))).mono ?_
                 rintro e w9 ⟨dl, Ad, nd, cd, rfl, Ed, Hlo, hd, hb9⟩
                 have HB9 := Lib.hid (ext_next (a := wr) (by repeat (first | exact HB8.out | refine ext_drew ?_ | refine ext_alloc ?_ _)) hb9)
                 have Q9 := Lib.hid hb9
                 have HD9 := Lib.hid hd
                 have lt9 := hb9.size
                 obtain ⟨hc9, hf9⟩ := bcell hb9
                 try simp only [World.size_alloc] at hc9 hf9 lt9
                 try have lt9' : w8.heap.size < w9.heap.size := by omega
                 try have lt9'' : wr.heap.size < w9.heap.size := by omega
                 clear hb9 hd)))
          · have F1 := Lib.hid (Blk.new w9 28 #[.slice Ad nd cd, .int .i64 (dl.length : Nat)])
            have F2 := Lib.hid (ext_alloc HB9.out (.cells #[.slice Ad nd cd, .int .i64 (dl.length : Nat)] 28))
            have F3 := Lib.hid (HD9.out.alloc (.cells #[.slice Ad nd cd, .int .i64 (dl.length : Nat)] 28))
            have Hlo2 : Hid (∀ p, Ad = some p → wr.heap.size ≤ p.block) := hidI (fun p hp => Nat.le_trans (by omega) (Hlo.out p hp))
            generalize (w9.alloc (.cells #[.slice Ad nd cd, .int .i64 (dl.length : Nat)] 28)) = Wf at F1 F2 F3 ⊢
            generalize w9.heap.size = bD at F1 Hlo2 ⊢
            clear hc8 hf8 hc9 hf9 Q8 Q9 HB8 HB9 HB8s HD9
            have f0 : Wf.cell? ⟨bD, 0, none⟩ = some (.slice Ad nd cd) := by rw [F1.out.cell]; rfl
            have f1 : Wf.cell? ⟨bD, 1, none⟩ = some (.int .i64 (dl.length : Nat)) := by rw [F1.out.cell]; rfl
            have KCf := Lib.hid (blk_next KC.out F2.out)
            have f2 : Wf.cell? ⟨w7.heap.size, 0, none⟩ = some (.slice Ac nc cc) := by rw [KCf.out.cell]; rfl
            have f3 : Wf.cell? ⟨w7.heap.size, 1, none⟩ = some (.int .i64 (cl.length : Nat)) := by rw [KCf.out.cell]; rfl
            have f4 := KCf.out.frozen 0
            have f5 := KCf.out.frozen 1
            go_wp2
            go_roundw
            case rel =>
              refine ⟨k + 1, dl, Ad, nd, cd, by omega, by go_num, hidI (by rw [Ed.out, Ecl.out, List.append_assoc, TK.out]), ?_, ?_, ?_, ?_, ?_, ?_, ?_, ?_⟩
              · exact (KCf.out.put 0 _).puts 1 _ (by simp)
              · refine ⟨F3.out.1, ?_⟩
                have := (F3.out.2.off Hlo2.out (p := ⟨w7.heap.size, 0, none⟩) hs7 (.slice Ad nd cd)).off Hlo2.out (p := ⟨w7.heap.size, 1, none⟩) hs7 (.int .i64 (dl.length : Nat))
                simpa using this
              · exact ((blk_next BK.out F2.out).far (p := ⟨w7.heap.size, 0, none⟩) (by simp; omega) _).far (p := ⟨w7.heap.size, 1, none⟩) (by simp; omega) _
              · exact ((blk_next KAB.out F2.out).far (p := ⟨w7.heap.size, 0, none⟩) (by simp; omega) _).far (p := ⟨w7.heap.size, 1, none⟩) (by simp; omega) _
              · exact ((R1.out.below (F2.out.mono (by omega))).setCell (p := ⟨w7.heap.size, 0, none⟩) (Nat.le_refl _) _).setCell (p := ⟨w7.heap.size, 1, none⟩) (Nat.le_refl _) _
              · exact ((RAB.out.below (F2.out.mono (by omega))).setCell (p := ⟨w7.heap.size, 0, none⟩) (Nat.le_refl _) _).setCell (p := ⟨w7.heap.size, 1, none⟩) (Nat.le_refl _) _
              · have := F2.out.size; simp; omega
              · exact ((ext_next X8.out F2.out).setCell (p := ⟨w7.heap.size, 0, none⟩) (by simp; omega) _).setCell (p := ⟨w7.heap.size, 1, none⟩) (by simp; omega) _
            case measure => simp [intOf]; omega
          · have F1 : Hid (Blk ((w9.setCell ⟨w8.heap.size, 0, none⟩ (.slice Ad nd cd)).setCell ⟨w8.heap.size, 1, none⟩ (.int .i64 (dl.length : Nat))) w8.heap.size 28 #[.slice Ad nd cd, .int .i64 (dl.length : Nat)]) := hidI (((blk_next (Blk.new w8 28 #[.slice none 0 0, .int .i64 0]) Q9.out).put 0 _).puts 1 _ (by simp))
            have F2 : Hid (Below wr.heap.size wr ((w9.setCell ⟨w8.heap.size, 0, none⟩ (.slice Ad nd cd)).setCell ⟨w8.heap.size, 1, none⟩ (.int .i64 (dl.length : Nat)))) := hidI ((HB9.out.setCell (by simp; omega) _).setCell (by simp; omega) _)
            have F3 : Hid (Held ((w9.setCell ⟨w8.heap.size, 0, none⟩ (.slice Ad nd cd)).setCell ⟨w8.heap.size, 1, none⟩ (.int .i64 (dl.length : Nat))) Ad nd dl) := hidI ⟨HD9.out.1, by have := (HD9.out.2.off Hlo.out (p := ⟨w8.heap.size, 0, none⟩) (by simp) (.slice Ad nd cd)).off Hlo.out (p := ⟨w8.heap.size, 1, none⟩) (by simp) (.int .i64 (dl.length : Nat)); simpa using this⟩
            have Hlo2 : Hid (∀ p, Ad = some p → wr.heap.size ≤ p.block) := hidI (fun p hp => by have := Hlo.out p hp; simp at this; omega)
            generalize ((w9.setCell ⟨w8.heap.size, 0, none⟩ (.slice Ad nd cd)).setCell ⟨w8.heap.size, 1, none⟩ (.int .i64 (dl.length : Nat))) = Wf at F1 F2 F3 ⊢
            generalize w8.heap.size = bD at F1 Hlo2 ⊢
            clear hc8 hf8 hc9 hf9 Q8 Q9 HB8 HB9 HB8s HD9
            have f0 : Wf.cell? ⟨bD, 0, none⟩ = some (.slice Ad nd cd) := by rw [F1.out.cell]; rfl
            have f1 : Wf.cell? ⟨bD, 1, none⟩ = some (.int .i64 (dl.length : Nat)) := by rw [F1.out.cell]; rfl
            have KCf := Lib.hid (blk_next KC.out F2.out)
            have f2 : Wf.cell? ⟨w7.heap.size, 0, none⟩ = some (.slice Ac nc cc) := by rw [KCf.out.cell]; rfl
            have f3 : Wf.cell? ⟨w7.heap.size, 1, none⟩ = some (.int .i64 (cl.length : Nat)) := by rw [KCf.out.cell]; rfl
            have f4 := KCf.out.frozen 0
            have f5 := KCf.out.frozen 1
            go_wp2
            go_roundw
            case rel =>
              refine ⟨k + 1, dl, Ad, nd, cd, by omega, by go_num, hidI (by rw [Ed.out, Ecl.out, List.append_assoc, TK.out]), ?_, ?_, ?_, ?_, ?_, ?_, ?_, ?_⟩
              · exact (KCf.out.put 0 _).puts 1 _ (by simp)
              · refine ⟨F3.out.1, ?_⟩
                have := (F3.out.2.off Hlo2.out (p := ⟨w7.heap.size, 0, none⟩) hs7 (.slice Ad nd cd)).off Hlo2.out (p := ⟨w7.heap.size, 1, none⟩) hs7 (.int .i64 (dl.length : Nat))
                simpa using this
              · exact ((blk_next BK.out F2.out).far (p := ⟨w7.heap.size, 0, none⟩) (by simp; omega) _).far (p := ⟨w7.heap.size, 1, none⟩) (by simp; omega) _
              · exact ((blk_next KAB.out F2.out).far (p := ⟨w7.heap.size, 0, none⟩) (by simp; omega) _).far (p := ⟨w7.heap.size, 1, none⟩) (by simp; omega) _
              · exact ((R1.out.below (F2.out.mono (by omega))).setCell (p := ⟨w7.heap.size, 0, none⟩) (Nat.le_refl _) _).setCell (p := ⟨w7.heap.size, 1, none⟩) (Nat.le_refl _) _
              · exact ((RAB.out.below (F2.out.mono (by omega))).setCell (p := ⟨w7.heap.size, 0, none⟩) (Nat.le_refl _) _).setCell (p := ⟨w7.heap.size, 1, none⟩) (Nat.le_refl _) _
              · have := F2.out.size; simp; omega
              · exact ((ext_next X8.out F2.out).setCell (p := ⟨w7.heap.size, 0, none⟩) (by simp; omega) _).setCell (p := ⟨w7.heap.size, 1, none⟩) (by simp; omega) _
            case measure => simp [intOf]; omega
          · have F1 : Hid (Blk ((w9.setCell ⟨wr.heap.size, 0, none⟩ (.slice Ad nd cd)).setCell ⟨wr.heap.size, 1, none⟩ (.int .i64 (dl.length : Nat))) wr.heap.size 28 #[.slice Ad nd cd, .int .i64 (dl.length : Nat)]) := hidI (((blk_next (blk_next (W := (wr.alloc (.cells #[.slice none 0 0, .int .i64 0] 28)).drew) (Blk.drew (Blk.new wr 28 #[.slice none 0 0, .int .i64 0])) Q8.out) Q9.out).put 0 _).puts 1 _ (by simp))
            have F2 : Hid (Below wr.heap.size wr ((w9.setCell ⟨wr.heap.size, 0, none⟩ (.slice Ad nd cd)).setCell ⟨wr.heap.size, 1, none⟩ (.int .i64 (dl.length : Nat)))) := hidI ((HB9.out.setCell (Nat.le_refl _) _).setCell (Nat.le_refl _) _)
            have F3 : Hid (Held ((w9.setCell ⟨wr.heap.size, 0, none⟩ (.slice Ad nd cd)).setCell ⟨wr.heap.size, 1, none⟩ (.int .i64 (dl.length : Nat))) Ad nd dl) := hidI ⟨HD9.out.1, by have := (HD9.out.2.off Hlo.out (p := ⟨wr.heap.size, 0, none⟩) (by simpa using lt8') (.slice Ad nd cd)).off Hlo.out (p := ⟨wr.heap.size, 1, none⟩) (by simpa using lt8') (.int .i64 (dl.length : Nat)); simpa using this⟩
            have Hlo2 : Hid (∀ p, Ad = some p → wr.heap.size ≤ p.block) := hidI (fun p hp => by have := Hlo.out p hp; omega)
            generalize ((w9.setCell ⟨wr.heap.size, 0, none⟩ (.slice Ad nd cd)).setCell ⟨wr.heap.size, 1, none⟩ (.int .i64 (dl.length : Nat))) = Wf at F1 F2 F3 ⊢
            clear hc8 hf8 hc9 hf9 Q8 Q9 HB8 HB9 HB8s HD9
            have f0 : Wf.cell? ⟨wr.heap.size, 0, none⟩ = some (.slice Ad nd cd) := by rw [F1.out.cell]; rfl
            have f1 : Wf.cell? ⟨wr.heap.size, 1, none⟩ = some (.int .i64 (dl.length : Nat)) := by rw [F1.out.cell]; rfl
            have KCf := Lib.hid (blk_next KC.out F2.out)
            have f2 : Wf.cell? ⟨w7.heap.size, 0, none⟩ = some (.slice Ac nc cc) := by rw [KCf.out.cell]; rfl
            have f3 : Wf.cell? ⟨w7.heap.size, 1, none⟩ = some (.int .i64 (cl.length : Nat)) := by rw [KCf.out.cell]; rfl
            have f4 := KCf.out.frozen 0
            have f5 := KCf.out.frozen 1
            go_wp2
            go_roundw
            case rel =>
              refine ⟨k + 1, dl, Ad, nd, cd, by omega, by go_num, hidI (by rw [Ed.out, Ecl.out, List.append_assoc, TK.out]), ?_, ?_, ?_, ?_, ?_, ?_, ?_, ?_⟩
              · exact (KCf.out.put 0 _).puts 1 _ (by simp)
              · refine ⟨F3.out.1, ?_⟩
                have := (F3.out.2.off Hlo2.out (p := ⟨w7.heap.size, 0, none⟩) hs7 (.slice Ad nd cd)).off Hlo2.out (p := ⟨w7.heap.size, 1, none⟩) hs7 (.int .i64 (dl.length : Nat))
                simpa using this
              · exact ((blk_next BK.out F2.out).far (p := ⟨w7.heap.size, 0, none⟩) (by simp; omega) _).far (p := ⟨w7.heap.size, 1, none⟩) (by simp; omega) _
              · exact ((blk_next KAB.out F2.out).far (p := ⟨w7.heap.size, 0, none⟩) (by simp; omega) _).far (p := ⟨w7.heap.size, 1, none⟩) (by simp; omega) _
              · exact ((R1.out.below (F2.out.mono (by omega))).setCell (p := ⟨w7.heap.size, 0, none⟩) (Nat.le_refl _) _).setCell (p := ⟨w7.heap.size, 1, none⟩) (Nat.le_refl _) _
              · exact ((RAB.out.below (F2.out.mono (by omega))).setCell (p := ⟨w7.heap.size, 0, none⟩) (Nat.le_refl _) _).setCell (p := ⟨w7.heap.size, 1, none⟩) (Nat.le_refl _) _
              · have := F2.out.size; simp; omega
              · exact ((ext_next X8.out F2.out).setCell (p := ⟨w7.heap.size, 0, none⟩) (by simp; omega) _).setCell (p := ⟨w7.heap.size, 1, none⟩) (by simp; omega) _
            case measure => simp [intOf]; omega
        · have hkl : k = l1.length := by omega
          have EE : Hid (cl = ab) := hidI (by rw [Ecl.out, Eab.out, hkl, List.take_length])
          clear hkl
          have hge : l1.length ≤ k := by omega
          go_wp2_with fail
          refine (rsame_eq Ac Aab nc cc nab cab cl ab _ Dc.out EE.out HC.out HAB.out).mono ?_
          rintro e w9 ⟨rfl, hb9⟩
          have X9 := Lib.hid (ext_next X8.out hb9)
          clear hb9 e0 e1 e3 e4 a2 a3
          go_wp2_with fail
          refine (awake_any _).mono ?_
          rintro e w10 ⟨rfl, hb10⟩
          have X10 := Lib.hid (ext_next X9.out hb10)
          clear hb10
          go_wp2
          go_ret
          exact ⟨rfl, X10.out⟩
theorem join_walk (A : Option Addr) (n c : Nat) (zs : List Int) (w : World) (h : IntsIn .i64 w A n c zs) :
    Calls Try.prog 4 #[.slice A n c] w fun e w' => e = .returned (.bool true) ∧ Below w.heap.size w w' := by
  obtain ⟨hr, hl, hnc, hc, hA, hz⟩ := h
  exact join_law A n c zs w hr hl hnc hc hA fun z h => i64_wf (hz z h)
end Go.Proofs.Ytkbfldgebcpigaa
