/- Walks: a list of pairs that choices make. -/
import Derived.Test.YtjllgdpnbllnjaaScH
import Derived.Test.YtjllgdpnbllnjaaFld
import Derived.Laws.CopyOwn
namespace Go.Proofs.Ytjllgdpnbllnjaa
open Go.RowKit

theorem info_pair : (Try.prog.info? 40).map (fun i => (i.zero, i.size, i.bytes)) = some (some (.agg #[.int .i64 0, .int .i64 0]), 2, 16) := by kernel_rfl
theorem pcells_snoc (l : List (Int × Int)) (p : Int × Int) : pcells (l ++ [p]) = pcells l ++ [.int .i64 p.1, .int .i64 p.2] := by
  simp [pcells]
/-- A pair that choices make. -/
def PIn (p : Int × Int) : Prop := (0 ≤ p.1 ∧ p.1 ≤ 8) ∧ (-600000 ≤ p.2 ∧ p.2 ≤ 600000)
def PairsRes (w w' : World) (e : Ending) (g : Nat) (most : Int) : Prop :=
  ∃ A c, ∃ l : List (Int × Int), e = .returned (.slice A l.length c) ∧ Rd w' w'.heap.size A (pcells l) ∧ (∀ ad, A = some ad → w.heap.size ≤ ad.block) ∧ (l.length : Int) ≤ most ∧ l.length ≤ c ∧ c ≤ 9223372036854775807 ∧ (A = none → c = 0) ∧ (∀ p ∈ l, PIn p) ∧ CodesOK w' g ∧ w.grownBy w' (some g)

theorem tdiv2_bd (q : Int) (h : -1000000 ≤ q ∧ q ≤ 1000000) : -500000 ≤ q.tdiv 2 ∧ q.tdiv 2 ≤ 500000 := by
  rcases Int.le_total 0 q with h0 | h0
  · rw [Int.tdiv_eq_ediv_of_nonneg h0]; omega
  · obtain ⟨p, rfl⟩ : ∃ p, q = -p := ⟨-q, by omega⟩
    rw [Int.neg_tdiv, Int.tdiv_eq_ediv_of_nonneg (by omega)]; omega
set_option maxHeartbeats 2000000 in
set_option maxRecDepth 100000 in
theorem pairs_any (g : Nat) (most : Int) (w : World) (h : CodesOK w g) (hm : 0 ≤ most ∧ most ≤ 200) :
    Calls Try.prog 20 #[.pointer (some ⟨g, 0, none⟩), .int .i64 most] w fun e w' => PairsRes w w' e g most := by
  obtain ⟨hm1, hm2⟩ := hm
  obtain ⟨i0, hi, hz0, hz1, hz2⟩ := info_parts info_pair
  have hgw := h.lt
  go_enter Try.func20, Try.ntmps20
  go_wp2_with fail
  refine (next_any g _ _ h (by omega)).mono ?_
  rintro e w1 ⟨⟨n0, ⟨hn1, hn2, -⟩, rfl⟩, h1, hg1⟩
  clear h
  replace h1 := Lib.hid h1
  replace hg1 := Lib.hid hg1
  go_wp2_with fail
  go_loopw [6, 5] (fun i v wr => ∃ k : Nat, ∃ l : List (Int × Int), i = .int .i64 k ∧ (k : Int) + l.length ≤ most ∧ wr.ownsRow w.heap.size 40 2 v l.length (pcells l) ∧ (∀ p ∈ l, PIn p) ∧ CodesOK wr g ∧ w.grownBy wr (some g)) (fun i _ _ => (intOf i).toNat)
  case atStart =>
    obtain ⟨k, rfl⟩ := Int.eq_ofNat_of_zero_le hn1
    exact ⟨k, [], rfl, by simp; omega, ⟨rfl, .inl ⟨rfl, rfl⟩⟩, by simp, h1.out, hg1.out⟩
  case round =>
    obtain ⟨k, l, rfl, hkl, hown, hl, hc, hg⟩ := hrel
    clear h1 hg1
    have hmz := hm2
    replace hown := Lib.hid hown
    replace hl := Lib.hid hl
    replace hg := Lib.hid hg
    by_cases hk : k = 0
    · subst hk
      obtain ⟨A, c, rfl, hc1, hc2, hc3, hc4⟩ := own_form hown.out
      go_wp2
      go_ret
      exact ⟨A, c, l, rfl, Rd.of_own hown.out, hc4, by omega, hc1, by unfold maxLen at hc2; omega, hc3, hl.out, hc, hg.out⟩
    obtain ⟨k, rfl⟩ : ∃ j, k = j + 1 := ⟨k - 1, by omega⟩
    clear hk
    go_wp2_with fail
    refine (next_any g _ _ hc (by omega)).mono ?_
    rintro e w2 ⟨⟨x, ⟨hx1, hx2, -⟩, rfl⟩, hc, hg'⟩
    replace hown := Lib.hid (hown.out.kept hg' (own_ne hown.out hgw))
    replace hg := Lib.hid (grown_trans hg.out hg')
    clear hg'
    go_wp2_with fail
    refine (next_any g _ _ hc (by omega)).mono ?_
    rintro e w3 ⟨⟨y, ⟨hy1, hy2, -⟩, rfl⟩, hc, hg'⟩
    replace hown := Lib.hid (hown.out.kept hg' (own_ne hown.out hgw))
    replace hg := Lib.hid (grown_trans hg.out hg')
    clear hg'
    go_wp2_with fail
    refine (next_any g _ _ hc (by omega)).mono ?_
    rintro e w4 ⟨⟨z, ⟨hz1', hz2', -⟩, rfl⟩, hc, hg'⟩
    replace hown := Lib.hid (hown.out.kept hg' (own_ne hown.out hgw))
    replace hg := Lib.hid (grown_trans hg.out hg')
    clear hg'
    have hz3 : 0 ≤ z / 19 ∧ z / 19 ≤ 1 := by omega
    go_wp2_with fail
    refine (signed_any g _ _ hc (by omega)).mono ?_
    rintro e w5 ⟨⟨s, ⟨hs1, hs2⟩, rfl⟩, hc, hg'⟩
    replace hown := Lib.hid (hown.out.kept hg' (own_ne hown.out hgw))
    replace hg := Lib.hid (grown_trans hg.out hg')
    clear hg'
    have hzs : -1000000 ≤ z / 19 * s ∧ z / 19 * s ≤ 1000000 := by
      have : z / 19 = 0 ∨ z / 19 = 1 := by omega
      rcases this with h0 | h0 <;> rw [h0] <;> omega
    obtain ⟨hzs1, hzs2⟩ := hzs
    have hd := tdiv2_bd _ ⟨hzs1, hzs2⟩
    obtain ⟨hd1, hd2⟩ := hd
    clear hz3
    have HC := Lib.hid hc
    clear hc
    generalize hob : y + (z / 19 * s).tdiv 2 = ob
    have hb1 : -600000 ≤ ob := by omega
    have hb2 : ob ≤ 600000 := by omega
    have HP : Hid (PIn (x, ob)) := hidI ⟨⟨hx1, by show x ≤ 8; omega⟩, hb1, hb2⟩
    have hbs := Lib.hid hg.out.size
    replace hob := Lib.hid hob
    go_wp2_with (at_builtin; refine wpList_append_own _ rfl (.tmp 15) (.tmp 29) 35 rfl w.heap.size 40 i0 (.agg #[.int .i64 0, .int .i64 0]) 2 16 Try.underlying35 hi hz0 hz1 hz2 rfl (by decide) _ _ _ rfl (hown.out.alloc _) ⟨w5.heap.size, 0, none⟩ 1 1 [.int .i64 x, .int .i64 (y + (z / 19 * s).tdiv 2)] rfl rfl ?c1 ?c2 ?c3 ?c4 ?c5 ?_)
    case c1 =>
      intro j u hj
      match j, hj with
      | 0, hj => simp at hj; subst hj; simp [Addr.add]
      | 1, hj => simp at hj; subst hj; simp [Addr.add]
    case c2 => intro u hu; simp at hu; rcases hu with rfl | rfl <;> rfl
    case c3 => unfold maxLen; omega
    case c4 => omega
    case c5 => have := hbs.out; simp; omega
    rw [hob.out]
    intro v1 w6 hown6 hgrow6 _
    have HC' := Lib.hid ((HC.out.alloc (.cells #[.int .i64 x, .int .i64 ob] 40)).grown hgrow6 (fun k hk => by have := own_lo hown.out k hk; omega))
    replace hg := Lib.hid (grown_off (grown_alloc hg.out _) hgrow6 (own_lo hown.out))
    replace hown6 := Lib.hid hown6
    clear hgrow6
    go_wp2
    go_roundw
    case rel =>
      refine ⟨k, l ++ [(x, ob)], rfl, by simp at hkl ⊢; omega, ?_, ?_, HC'.out, hg.out⟩
      · rw [pcells_snoc, List.length_append]; exact hown6.out
      · intro p hp
        rcases List.mem_append.1 hp with hp | hp
        · exact hl.out p hp
        · simp at hp; subst hp; exact HP.out
    case measure => simp [intOf]
end Go.Proofs.Ytjllgdpnbllnjaa
