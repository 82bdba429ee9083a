/- Walks: the law ScorePerfect. -/
import Derived.Test.YtjllgdpnbllnjaaScS
import Derived.Test.YtjllgdpnbllnjaaScJ
import Derived.Test.YtjllgdpnbllnjaaArgs
namespace Go.Proofs.Ytjllgdpnbllnjaa
open Go.RowKit

theorem Rd.take {w : World} {B : Nat} {A : Option Addr} {xs : List Value} (h : Rd w B A xs) (k : Nat) : Rd w B A (xs.take k) := by
  obtain ⟨b, o, h1, h2⟩ := h
  refine ⟨b, o, fun hne => h1 (fun e => hne (by simp [e])), fun j u hu => h2 j u ?_⟩
  rw [List.getElem?_take] at hu
  split at hu
  · exact hu
  · cases hu
theorem map_u8 {z : Int} (h : (Lit.int .u8 z).wf = true) : 0 ≤ z ∧ z ≤ 255 := by
  simp only [Lit.wf, IntKind.min, IntKind.max, IntKind.signed, IntKind.bits, Bool.and_eq_true, decide_eq_true_eq, Bool.false_eq_true, if_false] at h
  omega
theorem i16_wf {z : Int} (h : (Lit.int .i16 z).wf = true) : -32768 ≤ z ∧ z ≤ 32767 := by
  simp only [Lit.wf, IntKind.min, IntKind.max, IntKind.signed, IntKind.bits, Bool.and_eq_true, decide_eq_true_eq, if_true] at h
  omega

set_option maxRecDepth 100000 in
set_option maxHeartbeats 4000000 in
theorem perfect_any (A0 : Option Addr) (n0 c0 : Nat) (z0 : List Int) (A1 : Option Addr) (n1 c1 : Nat) (z1 : List Int) (b : Int) (thr : Int) (w : World) (i0 : IntsIn .u8 w A0 n0 c0 z0) (i1 : IntsIn .u8 w A1 n1 c1 z1) (hb : (Lit.int .i16 b).wf = true) (ht : (Lit.int .u8 thr).wf = true) :
    Calls Try.prog 4 #[.slice A0 n0 c0, .slice A1 n1 c1, .int .i16 b, .int .u8 thr] w fun e w' => e = .returned (.bool true) ∧ Below w.heap.size w w' := by
  obtain ⟨hr0, hl0, hc0, hm0, hA0, hz0⟩ := i0
  obtain ⟨hr1, hl1, hc1, hm1, hA1, hz1⟩ := i1
  have M := Lib.hid (((Mm.start w).arg hr0).arg hr1)
  have F0 := Lib.hid (fun W (k : Rd W W.heap.size A0 (z0.map (Value.int .u8))) => fnew_any A0 n0 c0 z0 160 W k hl0 hc0 hm0 hA0 (fun z h => map_u8 (hz0 z h)) (by omega))
  have F1 := Lib.hid (fun W (k : Rd W W.heap.size A1 (z1.map (Value.int .u8))) => fnew_any A1 n1 c1 z1 160 W k hl1 hc1 hm1 hA1 (fun z h => map_u8 (hz1 z h)) (by omega))
  clear hr0 hl0 hc0 hm0 hA0 hz0 hr1 hl1 hc1 hm1 hA1 hz1
  obtain ⟨hb1, hb2⟩ := i16_wf hb
  obtain ⟨ht1, ht2⟩ := map_u8 ht
  clear hb ht
  obtain ⟨i0, hi, hz0, hz1, hz2⟩ := info_parts info_pair
  go_enter Try.func4, Try.ntmps4
  go_wp2_with fail
  refine (awake_any _).mono ?_
  rintro e w1 ⟨rfl, hb⟩
  replace M := Lib.hid (M.out.next hb)
  clear hb
  go_wp2_with fail
  refine (F0.out _ (M.out.r 1 rfl)).mono ?_
  rintro e w2 ⟨rfl, hC, hb⟩
  replace M := Lib.hid (M.out.nextG hb (Nat.le_refl _) hC.lt)
  clear hb
  go_wp2_with fail
  refine (pairs_any _ 20 _ hC (by omega)).mono ?_
  rintro e w3 ⟨A2, c2, l, rfl, hR, hf, hl20, hlc, hcm, hA, hin, -, hg⟩
  replace M := Lib.hid (M.out.grownR hg (by simp) hR hf)
  have HIN := Lib.hid hin
  clear hg hR hf hC hA hin
  go_wp2_with fail
  refine (F1.out _ (M.out.r 1 rfl)).mono ?_
  rintro e w4 ⟨rfl, hC, hb⟩
  replace M := Lib.hid (M.out.nextG hb (Nat.le_refl _) hC.lt)
  clear hb
  go_wp2_with fail
  refine (pairs_any _ 20 _ hC (by omega)).mono ?_
  rintro e w5 ⟨A3, c3, m, rfl, hR, hf, hm20, hmc, hcm3, hA3, hin, -, hg⟩
  replace M := Lib.hid (M.out.grownR hg (by simp) hR hf)
  have HIM := Lib.hid hin
  clear hg hR hf hC hin
  replace M := Lib.hid ((M.out.nil_ 40 2).nil_ 40 2)
  have hl' : l.length ≤ 20 := by omega
  have hm' : m.length ≤ 20 := by omega
  go_wp2_with fail
  go_loopw [35, 11, 12] (fun i vr vs wr => ∃ k : Nat, k ≤ l.length ∧ i = .int .i64 k ∧ Hid (Mo w wr [] [(A3, pcells m), (A2, pcells l), (A1, z1.map (Value.int .u8)), (A0, z0.map (Value.int .u8))] [w1.heap.size, w3.heap.size] [⟨vr, 40, 2, k, pcells (rightL (l.take k))⟩, ⟨vs, 40, 2, k, pcells (shiftL b (l.take k))⟩])) (fun i _ _ _ => l.length - (intOf i).toNat)
  case atStart => exact ⟨0, Nat.zero_le _, rfl, M⟩
  case round =>
    obtain ⟨k, hk, rfl, M'⟩ := hrel
    clear M
    obtain ⟨Ar, cr, rfl, hr1, hr2, hr3, -⟩ := own_form (M'.out.o 0 rfl)
    obtain ⟨As, cs, rfl, hs1, hs2, hs3, -⟩ := own_form (M'.out.o 1 rfl)
    have M := M'
    clear M'
    by_cases hk1 : k < l.length
    case neg =>
      have hk' : k = l.length := by omega
      subst hk'
      rw [List.take_length] at M
      replace M := Lib.hid (M.out.toR2 0 1 rfl rfl)
      have hbb : 0 ≤ b * b ∧ b * b ≤ 1073741824 := by
        rcases Int.le_total 0 b with h | h
        · have h1 := Int.mul_nonneg h h
          have h2 := Int.mul_le_mul hb2 hb2 h (by omega)
          omega
        · have h1 := Int.mul_nonneg (show 0 ≤ -b by omega) (show 0 ≤ -b by omega)
          have h2 := Int.mul_le_mul (show -b ≤ 32768 by omega) (show -b ≤ 32768 by omega) (by omega) (by omega)
          rw [Int.neg_mul_neg] at h1 h2
          omega
      obtain ⟨hbb1, hbb2⟩ := hbb
      have C1 : Hid (∀ W, Rd W W.heap.size Ar (pcells (rightL l)) → Calls Try.prog 21 #[.slice Ar l.length cr] W fun e w' => ERes W w' e (0, (l.length : Int), 0, 0, 0)) := hidI (fun W hW => by
        have := ofp_any Ar (rightL l) cr W hW (by simp [rightL]; omega)
        rw [ofP_right (by omega) HIN.out] at this
        simpa [rightL] using this)
      obtain ⟨s1, s2, s3, hs⟩ : ∃ s1 s2 s3 : Int, s1 = l.length * b ∧ s2 = l.length * absI b ∧ s3 = l.length * (b * b) := ⟨_, _, _, rfl, rfl, rfl⟩
      have C2 : Hid (∀ W, Rd W W.heap.size As (pcells (shiftL b l)) → Calls Try.prog 21 #[.slice As l.length cs] W fun e w' => ERes W w' e (0, (l.length : Int), s1, s2, s3)) := hidI (fun W hW => by
        have := ofp_any As (shiftL b l) cs W hW (by simp [shiftL]; omega)
        rw [ofP_shift b ⟨hb1, hb2⟩ (by omega) HIN.out, ← hs.1, ← hs.2.1, ← hs.2.2] at this
        simpa [shiftL] using this)
      have C3 : Hid (∃ x y, ∀ W, Rd W W.heap.size Ar (pcells (rightL l)) → Calls Try.prog 22 #[.slice Ar l.length cr, .int .i64 (thr % 9)] W fun e w' => ERes W w' e (0, x, 0, 0, y)) := hidI (by
        obtain ⟨x, y, hxy⟩ := tabS_right (l := l) (thr % 9) (by omega) HIN.out
        refine ⟨x, y, fun W hW => ?_⟩
        have := table_any Ar (rightL l) cr (thr % 9) W hW (by simp [rightL]; omega)
        rw [hxy] at this
        simpa [rightL] using this)
      obtain ⟨x, y, C3⟩ := C3.out
      replace C3 := Lib.hid C3
      have h1g : 1 ≤ l.length → I64 s1 ∧ I64 s3 := fun _ => by
        have q1 := Int.mul_le_mul_of_nonneg_left hb2 (show (0 : Int) ≤ l.length by omega)
        have q2 := Int.mul_le_mul_of_nonneg_left hb1 (show (0 : Int) ≤ l.length by omega)
        have q3 := Int.mul_le_mul_of_nonneg_left hbb2 (show (0 : Int) ≤ l.length by omega)
        have q4 := Int.mul_nonneg (show (0 : Int) ≤ l.length by omega) hbb1
        rw [hs.1, hs.2.2]; unfold I64; omega
      have C4 : Hid (1 ≤ l.length → ∀ W, Calls Try.prog 23 #[.agg #[.int .i64 (l.length : Int), .int .i64 s1, .int .i64 s2, .int .i64 s3]] W fun e w' => FRes W w' e (0, b, 1)) := hidI (fun h W => by
        have := meanE_any (l.length : Int) s1 s2 s3 W (by unfold I64; omega) (h1g h).1
        rw [show meanS s1 (l.length : Int) = (0, b, 1) by rw [hs.1]; exact meanS_mul _ _ h (by omega) (by omega)] at this
        exact this)
      have C5 : Hid (1 ≤ l.length → ∀ W, Calls Try.prog 24 #[.agg #[.int .i64 (l.length : Int), .int .i64 s1, .int .i64 s2, .int .i64 s3]] W fun e w' => FRes W w' e (0, b * b, 1)) := hidI (fun h W => by
        have := meansq_any (l.length : Int) s1 s2 s3 W (by unfold I64; omega) (h1g h).2
        rw [show meanS s3 (l.length : Int) = (0, b * b, 1) by rw [hs.2.2]; exact meanS_mul _ _ h (by omega) (by omega)] at this
        exact this)
      clear h1g hs
      replace hr2 := Lib.hid hr2
      replace hs2 := Lib.hid hs2
      clear hr3 hs3
      go_wp2_with fail
      refine (C1.out _ (M.out.r 0 rfl)).mono ?_
      rintro e v1 ⟨rfl, hb⟩
      replace M := Lib.hid ((M.out.next hb).new 42 #[.int .i64 (l.length : Int), .int .i64 0, .int .i64 0, .int .i64 0])
      clear hb
      go_wp2_with fail
      refine (C2.out _ (M.out.r 1 rfl)).mono ?_
      rintro e v2 ⟨rfl, hb⟩
      replace M := Lib.hid ((M.out.next hb).new 42 #[.int .i64 (l.length : Int), .int .i64 s1, .int .i64 s2, .int .i64 s3])
      clear hb
      go_wp2_with fail
      refine (C3.out _ (M.out.r 0 rfl)).mono ?_
      rintro e v3 ⟨rfl, hb⟩
      replace M := Lib.hid (M.out.next hb)
      clear hb
      have j0 := M.out.c 1 0 rfl rfl
      have j1 := M.out.c 1 1 rfl rfl
      have j2 := M.out.c 1 2 rfl rfl
      have j3 := M.out.c 1 3 rfl rfl
      have i0 := M.out.c 0 0 rfl rfl
      have i1 := M.out.c 0 1 rfl rfl
      have i2 := M.out.c 0 2 rfl rfl
      have i3 := M.out.c 0 3 rfl rfl
      have jl := M.out.l 1 rfl
      have il := M.out.l 0 rfl
      replace M := Lib.hid (M.out.new 23 #[.int .i64 x, .int .i64 0, .int .i64 0, .int .i64 y])
      by_cases hL : l.length = 0
      · have hL' : ((l.length : Int) == 0) = true := beq_iff_eq.2 (by omega)
        go_wp2
        go_ret
        exact ⟨rfl, M.out.below⟩
      have hL' : ((l.length : Int) == 0) = false := beq_eq_false_iff_ne.2 (by omega)
      have hL1 : 1 ≤ l.length := by omega
      clear hL
      go_wp2_with fail
      refine (C4.out hL1 _).mono ?_
      rintro e v4 ⟨rfl, hb⟩
      replace M := Lib.hid (M.out.next hb)
      clear hb j0 j1 j2 j3 i0 i1 i2 i3 jl il
      have i0 := M.out.c 1 0 rfl rfl
      have i1 := M.out.c 1 1 rfl rfl
      have i2 := M.out.c 1 2 rfl rfl
      have i3 := M.out.c 1 3 rfl rfl
      have il := M.out.l 1 rfl
      replace M := Lib.hid (M.out.new 28 #[.int .i64 b, .int .i64 1])
      go_wp2_with fail
      refine (C5.out hL1 _).mono ?_
      rintro e v5 ⟨rfl, hb⟩
      replace M := Lib.hid (M.out.next hb)
      clear hb i0 i1 i2 i3 il
      have i0 := M.out.c 0 0 rfl rfl
      have i1 := M.out.c 0 1 rfl rfl
      have il := M.out.l 0 rfl
      replace M := Lib.hid (M.out.new 28 #[.int .i64 (b * b), .int .i64 1])
      by_cases hml : m.length < l.length
      · have hml' : (m.length : Int) < l.length := by omega
        go_wp2
        go_ret
        exact ⟨rfl, M.out.below⟩
      have hml' : (l.length : Int) ≤ m.length := by omega
      have hml2 : (l.length : Int) ≤ c3 := by omega
      obtain ⟨s', x', q', C6⟩ : ∃ s' x' q' : Int, Hid ((0 ≤ q' ∧ q' ≤ 40000000000000000) ∧ ∀ W, Rd W W.heap.size A3 (pcells m) → Calls Try.prog 21 #[.slice A3 l.length c3] W fun e w' => ERes W w' e (0, (l.length : Int), s', x', q')) := by
        have hin : ∀ p ∈ m.take l.length, PIn p := fun p hp => HIM.out p (List.mem_of_mem_take hp)
        have hlen : (m.take l.length).length = l.length := by simp; omega
        obtain ⟨s', x', q', h1, -, -, -, h2, h3, -, -⟩ := ofP_in (l := m.take l.length) (by omega) hin
        refine ⟨s', x', q', hidI ⟨⟨h2, h3⟩, fun W hW => ?_⟩⟩
        have hW' : Rd W W.heap.size A3 (pcells (m.take l.length)) := by rw [← pcells_take]; exact hW.take _
        have := ofp_any A3 (m.take l.length) c3 W hW' (by omega)
        rw [h1, hlen] at this
        exact this
      obtain ⟨hq1, hq2⟩ := C6.out.1
      replace C6 := Lib.hid C6.out.2
      have C7 := Lib.hid (fun W => skill_any (l.length : Int) 0 0 0 (l.length : Int) s' x' q' W)
      have S7 := Lib.hid (skillS_right (l.length : Int) q' (by omega) (by omega))
      have hA3' : A3 = none → l.length = 0 := fun h => by have := hA3 h; omega
      cases hA : A3 with
      | none => have := hA3' hA; omega
      | some ad =>
      subst hA
      clear hA3 hA3' hml
      go_wp2_with fail
      refine (C6.out _ (M.out.r 2 rfl)).mono ?_
      rintro e v6 ⟨rfl, hb⟩
      replace M := Lib.hid (M.out.next hb)
      clear hb i0 i1 il
      have i0 := M.out.c 4 0 rfl rfl
      have i1 := M.out.c 4 1 rfl rfl
      have i2 := M.out.c 4 2 rfl rfl
      have i3 := M.out.c 4 3 rfl rfl
      have il := M.out.l 4 rfl
      replace M := Lib.hid (M.out.new 42 #[.int .i64 (l.length : Int), .int .i64 s', .int .i64 x', .int .i64 q'])
      by_cases hq0 : q' = 0
      · have C8 : Hid (∀ W, Calls Try.prog 25 #[.agg #[.int .i64 (l.length : Int), .int .i64 0, .int .i64 0, .int .i64 0], .agg #[.int .i64 (l.length : Int), .int .i64 s', .int .i64 x', .int .i64 q']] W fun e w' => FRes W w' e (9, 0, 0)) := hidI (fun W => by
          have := C7.out W; rw [S7.out, if_pos hq0] at this; exact this)
        have hq0' : (q' == 0) = true := beq_iff_eq.2 hq0
        clear hq0 C7 S7
        go_wp2_with fail
        refine (C8.out _).mono ?_
        rintro e v7 ⟨rfl, hb⟩
        replace M := Lib.hid (M.out.next hb)
        clear hb i0 i1 i2 i3 il
        have i3 := M.out.c 0 3 rfl rfl
        have il := M.out.l 0 rfl
        go_wp2
        go_ret
        exact ⟨rfl, (M.out.skip _).below⟩
      · have C8 : Hid (∀ W, Calls Try.prog 25 #[.agg #[.int .i64 (l.length : Int), .int .i64 0, .int .i64 0, .int .i64 0], .agg #[.int .i64 (l.length : Int), .int .i64 s', .int .i64 x', .int .i64 q']] W fun e w' => FRes W w' e (0, 1, 1)) := hidI (fun W => by
          have := C7.out W; rw [S7.out, if_neg hq0] at this; exact this)
        have hq0' : (q' == 0) = false := beq_eq_false_iff_ne.2 hq0
        clear hq0 C7 S7
        go_wp2_with fail
        refine (C8.out _).mono ?_
        rintro e v7 ⟨rfl, hb⟩
        replace M := Lib.hid (M.out.next hb)
        clear hb i0 i1 i2 i3 il
        have i3 := M.out.c 0 3 rfl rfl
        have il := M.out.l 0 rfl
        go_wp2
        go_ret
        exact ⟨rfl, (M.out.skip _).below⟩
    case pos =>
    obtain ⟨bb, o, rfl, hbl, hq⟩ := (M.out.r 1 rfl).at_ (k := 2 * k) (by rw [pcells_len]; omega)
    have y0 := hq _ _ (pcells_get l k hk1).1
    have y1 := hq _ _ (pcells_get l k hk1).2
    rw [show o + (2 * k + 1) = o + k * 2 + 1 by omega] at y1
    rw [show o + 2 * k = o + k * 2 by omega] at y0
    have P : PIn (l.getD k (0, 0)) := by rw [getD_get _ _ hk1]; exact HIN.out _ (List.getElem_mem hk1)
    have T1 := Lib.hid (right_take l k hk1)
    have T2 := Lib.hid (shift_take b l k hk1)
    clear hq
    generalize l.getD k (0, 0) = p at y0 y1 P T1 T2
    obtain ⟨x, y⟩ := p
    obtain ⟨⟨hx1, hx2⟩, hy1, hy2⟩ := P
    replace hx1 : 0 ≤ x := hx1
    replace hx2 : x ≤ 8 := hx2
    clear hy1 hy2
    replace M := Lib.hid ((M.out.new 40 #[.int .i64 x, .int .i64 y]).skip (.cells #[.int .i64 x, .int .i64 x] 40))
    have HP := Lib.hid hr2
    clear hr2 hr3 hs2 hs3
    go_wp2_with ((with_reducible show wpList _ _ _ (⟨some 46, _, _, _, _, _⟩ :: _) _ _); refine wpList_append_own_at _ rfl (.tmp 39) (.tmp 45) 35 rfl w.heap.size 40 i0 (.agg #[.int .i64 0, .int .i64 0]) 2 16 Try.underlying35 hi hz0 hz1 hz2 rfl (by decide) _ _ _ rfl (M.out.o 0 rfl) ⟨wr.heap.size + 1, 0, none⟩ 1 1 [.int .i64 x, .int .i64 x] rfl rfl ?c46_1 ?c46_2 ?c46_3 ?c46_4 ?c46_5 ?_)
    try case c46_1 =>
      intro j u hj
      match j, hj with
      | 0, hj => simp at hj; subst hj; simp [Addr.add]
      | 1, hj => simp at hj; subst hj; simp [Addr.add]
    case c46_2 => first | rfl | (intro u hu; simp at hu; rcases hu with rfl | rfl <;> rfl)
    case c46_3 => unfold maxLen; omega
    case c46_4 => omega
    case c46_5 => have := M.out.below.size; first | exact this | (simp at this ⊢; omega)
    intro v1 w6 hown hgrow _ hat
    replace M := Lib.hid (M.out.push 0 rfl hown hgrow (by simpa using hat))
    clear hown hgrow hat
    have q0 := M.out.c 0 0 rfl rfl
    have q1 := M.out.c 0 1 rfl rfl
    have q2 := M.out.l 0 rfl
    replace M := Lib.hid (M.out.skip (.cells #[.int .i64 (x + b), .int .i64 x] 40))
    go_wp2_with ((with_reducible show wpList _ _ _ (⟨some 57, _, _, _, _, _⟩ :: _) _ _); refine wpList_append_own_at _ rfl (.tmp 47) (.tmp 56) 35 rfl w.heap.size 40 i0 (.agg #[.int .i64 0, .int .i64 0]) 2 16 Try.underlying35 hi hz0 hz1 hz2 rfl (by decide) _ _ _ rfl (M.out.o 1 rfl) ⟨w6.heap.size, 0, none⟩ 1 1 [.int .i64 (x + b), .int .i64 x] rfl rfl ?c57_1 ?c57_2 ?c57_3 ?c57_4 ?c57_5 ?_)
    try case c57_1 =>
      intro j u hj
      match j, hj with
      | 0, hj => simp at hj; subst hj; simp [Addr.add]
      | 1, hj => simp at hj; subst hj; simp [Addr.add]
    case c57_2 => first | rfl | (intro u hu; simp at hu; rcases hu with rfl | rfl <;> rfl)
    case c57_3 => unfold maxLen; omega
    case c57_4 => omega
    case c57_5 => have := M.out.below.size; first | exact this | (simp at this ⊢; omega)
    intro v2 w7 hown hgrow _ hat
    replace M := Lib.hid (M.out.push 1 rfl hown hgrow (by simpa using hat))
    clear hown hgrow hat q0 q1 q2
    go_wp2
    go_roundw
    case rel => exact ⟨k + 1, by omega, by go_num, hidI (by rw [T1.out, T2.out, pcells_snoc, pcells_snoc]; exact M.out.tail)⟩
    case measure => simp [intOf]; omega
end Go.Proofs.Ytjllgdpnbllnjaa

