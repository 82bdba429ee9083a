/- Scores: the reference's numbers of 128 bits; comparing fractions. -/
import Derived.Test.YtjllgdpnbllnjaaSvJ
import Derived.Test.YtjllgdpnbllnjaaSvF
import Derived.Lib.Zigzag
import Derived.Laws.Bits64
namespace Go.Proofs.Ytjllgdpnbllnjaa
open Go
set_option linter.unusedVariables false
set_option linter.unusedSimpArgs false

def adH (a b c d : Int) : Int := IntKind.i64.wrap ((IntKind.u64.wrap a + IntKind.u64.wrap c + (b + d + 0) / 18446744073709551616) % 18446744073709551616)
def adL (b d : Int) : Int := (b + d + 0) % 18446744073709551616
def radd22_s : Sp
  | [.agg [.int .i64 a, .int .u64 b], .agg [.int .i64 c, .int .u64 d]] => some (True, .agg [.int .i64 (adH a b c d), .int .u64 (adL b d)])
  | _ => none
set_option maxRecDepth 100000 in
def radd22_T : Prop :=
  ∀ (gl : Glob) (a b c d : Int), ((-9223372036854775808 : Int) ≤ a ∧ a ≤ (9223372036854775807 : Int)) ∧ ((0 : Int) ≤ b ∧ b ≤ (18446744073709551615 : Int)) ∧ True →
  ((-9223372036854775808 : Int) ≤ c ∧ c ≤ (9223372036854775807 : Int)) ∧ ((0 : Int) ≤ d ∧ d ≤ (18446744073709551615 : Int)) ∧ True → bif decide ((0 : Int) ≤ (b + d + (0 : Int)) /
  (18446744073709551616 : Int) ∧ (b + d + (0 : Int)) / (18446744073709551616 : Int) ≤ (1 : Int)) then IntKind.i64.wrap ((IntKind.u64.wrap a + IntKind.u64.wrap c + (b + d + (0 : Int))
  / (18446744073709551616 : Int)) % (18446744073709551616 : Int)) = adH a b c d ∧ (b + d + (0 : Int)) % (18446744073709551616 : Int) = adL b d ∧ True else False
set_option maxRecDepth 100000 in
theorem radd22_P : radd22_T := by
  unfold radd22_T
  intro gl a b c d h1 h2
  exact cs' (fun _ => ⟨rfl, rfl, trivial⟩) (fun k => absurd (show _ ∧ _ by omega) k)
def radd22_S : Prop := ∀ (gl : Glob) (a b c d : Int), fnK Try.prog { glob := gl, spec := lk [], specH := lk [], nowf := true, add64 := some 70 } { nt := 32, drop := drp [(1, 130560), (2, 268304384), (3, 4026531840)] } (fun _ _ => none) 6 Try.f69 [.agg [.int .i64 a, .int .u64 b], .agg [.int .i64 c, .int .u64 d]] (.agg [.int .i64 (adH a b c d), .int .u64 (adL b d)])
set_option maxRecDepth 100000 in
theorem radd22_e : radd22_T = radd22_S := by kernel_rfl
theorem radd22_v : radd22_S := @Eq.mp (radd22_T) (radd22_S) (radd22_e) radd22_P
theorem radd22_ok (gl : Glob) : SOK Try.prog gl 69 radd22_s := by
  refine ⟨fok Try.func69 (by kernel_rfl) (by kernel_rfl), ?_⟩
  intro xs pre r h hp
  unfold radd22_s at h
  split at h
  · simp only [Option.some.injEq, Prod.mk.injEq] at h
    obtain ⟨h1, h2⟩ := h
    subst h1 h2
    exact fnK_sound tyNil (by exact specOK rfl rfl trivial trivial (xokOf Try.func70 (by kernel_rfl) (by kernel_rfl) (by kernel_rfl) (by kernel_rfl))) (by kernel_rfl) Try.func69 rfl (radd22_v gl _ _ _ _)
  · cases h
theorem not_i64 {a : Int} (h : 0 ≤ a ∧ a ≤ 9223372036854775807) : bits .xor .i64 (-1) a = -1 - a := by
  obtain ⟨x, rfl⟩ := Int.eq_ofNat_of_zero_le h.1
  have := Lib.i64_not x (by omega)
  rw [this]; omega
theorem not_u64 {b : Int} (h : 0 ≤ b ∧ b ≤ 18446744073709551615) : bits .xor .u64 18446744073709551615 b = 18446744073709551615 - b := by
  obtain ⟨x, rfl⟩ := Int.eq_ofNat_of_zero_le h.1
  have e := bits_xor_u64_nat 18446744073709551615 x (by decide) (by omega)
  have e2 := Lib.xor_ones64 x (by omega)
  rw [show (18446744073709551615 : Nat) = 2 ^ 64 - 1 by decide] at e
  rw [e2] at e
  have e3 : ((18446744073709551615 : Int)) = ((2 ^ 64 - 1 : Nat) : Int) := by decide
  rw [e3, e]
  omega
def rneg22_s (adH : Int → Int → Int → Int → Int) (adL : Int → Int → Int) : Sp
  | [.agg [.int .i64 a, .int .u64 b]] => some (0 ≤ a ∧ a ≤ 9223372036854775807, .agg [.int .i64 (adH (-1 - a) (18446744073709551615 - b) 0 1), .int .u64 (adL (18446744073709551615 - b) 1)])
  | _ => none
set_option maxRecDepth 100000 in
def rneg22_T (adH : Int → Int → Int → Int → Int) (adL : Int → Int → Int) : Prop :=
  ∀ (gl : Glob) (a b : Int), (0 : Int) ≤ a ∧ a ≤ (9223372036854775807 : Int) → ((-9223372036854775808 : Int) ≤ a ∧ a ≤ (9223372036854775807 : Int)) ∧ ((0 : Int) ≤ b ∧ b ≤
  (18446744073709551615 : Int)) ∧ True → True ∧ Ytjllgdpnbllnjaa.adH (bits BinOp.xor IntKind.i64 (-1 : Int) a) (bits BinOp.xor IntKind.u64 (18446744073709551615 : Int) b) (0 : Int)
  (1 : Int) = adH ((-1 : Int) - a) ((18446744073709551615 : Int) - b) (0 : Int) (1 : Int) ∧ Ytjllgdpnbllnjaa.adL (bits BinOp.xor IntKind.u64 (18446744073709551615 : Int) b) (1 : Int)
  = adL ((18446744073709551615 : Int) - b) (1 : Int) ∧ True
set_option maxRecDepth 100000 in
theorem rneg22_P : rneg22_T adH adL := by
  unfold rneg22_T
  intro gl a b h0 h1
  rw [not_i64 h0, not_u64 h1.2.1]
  exact ⟨trivial, rfl, rfl, trivial⟩
def rneg22_S (adH : Int → Int → Int → Int → Int) (adL : Int → Int → Int) : Prop := ∀ (gl : Glob) (a b : Int), 0 ≤ a ∧ a ≤ 9223372036854775807 → fnK Try.prog { glob := gl, spec := lk [(69, radd22_s)], specH := lk [], nowf := true } { nt := 14, drop := drp [(1, 2032), (2, 14336)] } (fun _ _ => none) 6 Try.f64 [.agg [.int .i64 a, .int .u64 b]] (.agg [.int .i64 (adH (-1 - a) (18446744073709551615 - b) 0 1), .int .u64 (adL (18446744073709551615 - b) 1)])
set_option maxRecDepth 100000 in
theorem rneg22_e (adH : Int → Int → Int → Int → Int) (adL : Int → Int → Int) : rneg22_T adH adL = rneg22_S adH adL := by kernel_rfl
theorem rneg22_v : rneg22_S adH adL := @Eq.mp (rneg22_T adH adL) (rneg22_S adH adL) (rneg22_e adH adL) rneg22_P
theorem rneg22_ok (gl : Glob) : SOK Try.prog gl 64 (rneg22_s adH adL) := by
  refine ⟨fok Try.func64 (by kernel_rfl) (by kernel_rfl), ?_⟩
  intro xs pre r h hp
  unfold rneg22_s at h
  split at h
  · simp only [Option.some.injEq, Prod.mk.injEq] at h
    obtain ⟨h1, h2⟩ := h
    subst h1 h2
    exact fnK_sound tyNil (by exact specOK rfl rfl ⟨radd22_ok gl, trivial⟩ trivial) (by kernel_rfl) Try.func64 rfl (rneg22_v gl _ _ hp)
  · cases h
theorem ml_neg {a b : Int} (h1 : -9223372036854775808 ≤ a ∧ a ≤ 9223372036854775807) (h2 : -9223372036854775808 ≤ b ∧ b ≤ 9223372036854775807) (h : ¬ decide (a < 0) = decide (b < 0)) : max a (0 - a) * max b (0 - b) = - (a * b) := by
  by_cases ha : a < 0
  · have hb : ¬ b < 0 := fun hb => h (by rw [decide_eq_true ha, decide_eq_true hb])
    rw [show max a (0 - a) = -a by omega, show max b (0 - b) = b by omega, Int.neg_mul]
  · have hb : b < 0 := Decidable.not_not.1 fun hb => h (by rw [decide_eq_false ha, decide_eq_false hb])
    rw [show max a (0 - a) = a by omega, show max b (0 - b) = -b by omega, Int.mul_neg]
theorem ml_pos {a b : Int} (h : decide (a < 0) = decide (b < 0)) : max a (0 - a) * max b (0 - b) = a * b := by
  by_cases ha : a < 0
  · have hb : b < 0 := by rw [decide_eq_true ha] at h; exact of_decide_eq_true h.symm
    rw [show max a (0 - a) = -a by omega, show max b (0 - b) = -b by omega, Int.neg_mul_neg]
  · have hb : ¬ b < 0 := by rw [decide_eq_false ha] at h; exact of_decide_eq_false h.symm
    rw [show max a (0 - a) = a by omega, show max b (0 - b) = b by omega]
theorem szb {a b : Int} (h1 : -9223372036854775808 ≤ a ∧ a ≤ 9223372036854775807) (h2 : -9223372036854775808 ≤ b ∧ b ≤ 9223372036854775807) : 0 ≤ max a (0 - a) * max b (0 - b) ∧ max a (0 - a) * max b (0 - b) ≤ 85070591730234615865843651857942052864 := by
  have h : (max a (0 - a) * max b (0 - b)).natAbs = (a * b).natAbs := by
    rw [Int.natAbs_mul, Int.natAbs_mul, show (max a (0 - a)).natAbs = a.natAbs by omega, show (max b (0 - b)).natAbs = b.natAbs by omega]
  have h3 := mul_bd63 h1 h2
  have h4 : 0 ≤ max a (0 - a) * max b (0 - b) := Int.mul_nonneg (by omega) (by omega)
  omega
def rprod22_s : Sp
  | [.int .i64 a, .int .i64 b] => some (True, .agg [.int .i64 (mlH a b), .int .u64 (mlL a b)])
  | _ => none
set_option maxRecDepth 100000 in
def rprod22_T : Prop :=
  ∀ (gl : Glob) (a b : Int), (-9223372036854775808 : Int) ≤ a ∧ a ≤ (9223372036854775807 : Int) → (-9223372036854775808 : Int) ≤ b ∧ b ≤ (9223372036854775807 : Int) →
  ((-9223372036854775808 : Int) ≤ a ∧ a ≤ (9223372036854775807 : Int)) ∧ ((-9223372036854775808 : Int) ≤ b ∧ b ≤ (9223372036854775807 : Int)) ∧ True ∧ bif !decide (decide (a < (0 :
  Int)) = decide (b < (0 : Int))) then ((0 : Int) ≤ IntKind.i64.wrap (mlH (max a ((0 : Int) - a)) (max b ((0 : Int) - b))) ∧ IntKind.i64.wrap (mlH (max a ((0 : Int) - a)) (max b ((0
  : Int) - b))) ≤ (9223372036854775807 : Int)) ∧ adH ((-1 : Int) - IntKind.i64.wrap (mlH (max a ((0 : Int) - a)) (max b ((0 : Int) - b)))) ((18446744073709551615 : Int) - mlL (max a
  ((0 : Int) - a)) (max b ((0 : Int) - b))) (0 : Int) (1 : Int) = mlH a b ∧ adL ((18446744073709551615 : Int) - mlL (max a ((0 : Int) - a)) (max b ((0 : Int) - b))) (1 : Int) = mlL a
  b ∧ True else IntKind.i64.wrap (mlH (max a ((0 : Int) - a)) (max b ((0 : Int) - b))) = mlH a b ∧ mlL (max a ((0 : Int) - a)) (max b ((0 : Int) - b)) = mlL a b ∧ True
set_option maxRecDepth 100000 in
theorem rprod22_P : rprod22_T := by
  unfold rprod22_T
  intro gl a b h1 h2
  have z := szb h1 h2
  have hR : 0 ≤ mlH (max a (0 - a)) (max b (0 - b)) ∧ mlH (max a (0 - a)) (max b (0 - b)) ≤ 9223372036854775807 := by unfold mlH; omega
  have w : IntKind.i64.wrap (mlH (max a (0 - a)) (max b (0 - b))) = mlH (max a (0 - a)) (max b (0 - b)) := wrap_eq (k := .i64) (by show _ ∧ _; omega)
  rw [w]
  refine ⟨h1, h2, trivial, csplit (fun q => ⟨hR, ?_⟩) (fun q => ?_)⟩
  · have hs : ¬ decide (a < 0) = decide (b < 0) := fun e => by rw [decide_eq_true e] at q; cases q
    have e := ml_neg h1 h2 hs
    unfold adH adL mlH mlL at *
    rw [e] at z hR ⊢
    generalize a * b = p at *
    have u1 : IntKind.u64.wrap 0 = 0 := by decide
    rw [u1, IntKind.wrap_u64]
    refine ⟨?_, by omega, trivial⟩
    have hb : -9223372036854775808 ≤ p / 18446744073709551616 ∧ p / 18446744073709551616 ≤ 9223372036854775807 := by omega
    have : ((-1 - -p / 18446744073709551616) % 18446744073709551616 + 0 + (18446744073709551615 - -p % 18446744073709551616 + 1 + 0) / 18446744073709551616) % 18446744073709551616 = (p / 18446744073709551616) % 18446744073709551616 := by omega
    rw [this, IntKind.wrap_i64]
    omega
  · have hs : decide (a < 0) = decide (b < 0) := by
      cases e : decide (decide (a < 0) = decide (b < 0)) with
      | true => exact of_decide_eq_true e
      | false => rw [e] at q; cases q
    have e := ml_pos hs
    unfold mlH mlL
    rw [e]
    exact ⟨rfl, rfl, trivial⟩
def rprod22_S : Prop := ∀ (gl : Glob) (a b : Int), fnK Try.prog { glob := gl, spec := lk [(63, rsize_s), (54, (fmul64_s Go.Proofs.Ytjllgdpnbllnjaa.mlH Go.Proofs.Ytjllgdpnbllnjaa.mlL)), (64, (rneg22_s Go.Proofs.Ytjllgdpnbllnjaa.adH Go.Proofs.Ytjllgdpnbllnjaa.adL))], specH := lk [], nowf := true } { nt := 28, drop := drp [(1, 65280), (2, 983040), (3, 15728640), (4, 100663296), (5, 134217728)] } (fun _ _ => none) 6 Try.f57 [.int .i64 a, .int .i64 b] (.agg [.int .i64 (mlH a b), .int .u64 (mlL a b)])
set_option maxRecDepth 100000 in
theorem rprod22_e : rprod22_T = rprod22_S := by kernel_rfl
theorem rprod22_v : rprod22_S := @Eq.mp (rprod22_T) (rprod22_S) (rprod22_e) rprod22_P
theorem rprod22_ok (gl : Glob) : SOK Try.prog gl 57 rprod22_s := by
  refine ⟨fok Try.func57 (by kernel_rfl) (by kernel_rfl), ?_⟩
  intro xs pre r h hp
  unfold rprod22_s at h
  split at h
  · simp only [Option.some.injEq, Prod.mk.injEq] at h
    obtain ⟨h1, h2⟩ := h
    subst h1 h2
    exact fnK_sound tyNil (by exact specOK rfl rfl ⟨rsize_ok gl, fmul64_ok gl, rneg22_ok gl, trivial⟩ trivial) (by kernel_rfl) Try.func57 rfl (rprod22_v gl _ _)
  · cases h
def rcmp38_s : Sp
  | [.agg [.int .i64 a, .int .i64 b], .agg [.int .i64 c, .int .i64 d]] => some (True, .int .i64 (cmpI (a * d) (c * b)))
  | _ => none
set_option maxRecDepth 100000 in
def rcmp38_T : Prop :=
  ∀ (gl : Glob) (a b c d : Int), ((-9223372036854775808 : Int) ≤ a ∧ a ≤ (9223372036854775807 : Int)) ∧ ((-9223372036854775808 : Int) ≤ b ∧ b ≤ (9223372036854775807 : Int)) ∧ True →
  ((-9223372036854775808 : Int) ≤ c ∧ c ≤ (9223372036854775807 : Int)) ∧ ((-9223372036854775808 : Int) ≤ d ∧ d ≤ (9223372036854775807 : Int)) ∧ True → True ∧ True ∧ True ∧ orI (cmpI
  (mlH a d) (mlH c b)) (cmpI (mlL a d) (mlL c b)) = cmpI (a * d) (c * b)
set_option maxRecDepth 100000 in
theorem rcmp38_P : rcmp38_T := by
  unfold rcmp38_T
  intro gl a b c d _ _
  exact ⟨trivial, trivial, trivial, wide_cmp _ _⟩
def rcmp38_S : Prop := ∀ (gl : Glob) (a b c d : Int), fnK Try.prog { glob := gl, spec := lk [(57, rprod22_s), (56, rcmp22_s)], specH := lk [], nowf := true } { nt := 16, drop := drp [(1, 65504)] } (fun _ _ => none) 6 Try.f39 [.agg [.int .i64 a, .int .i64 b], .agg [.int .i64 c, .int .i64 d]] (.int .i64 (cmpI (a * d) (c * b)))
set_option maxRecDepth 100000 in
theorem rcmp38_e : rcmp38_T = rcmp38_S := by kernel_rfl
theorem rcmp38_v : rcmp38_S := @Eq.mp (rcmp38_T) (rcmp38_S) (rcmp38_e) rcmp38_P
theorem rcmp38_ok (gl : Glob) : SOK Try.prog gl 39 rcmp38_s := by
  refine ⟨fok Try.func39 (by kernel_rfl) (by kernel_rfl), ?_⟩
  intro xs pre r h hp
  unfold rcmp38_s at h
  split at h
  · simp only [Option.some.injEq, Prod.mk.injEq] at h
    obtain ⟨h1, h2⟩ := h
    subst h1 h2
    exact fnK_sound tyNil (by exact specOK rfl rfl ⟨rprod22_ok gl, rcmp22_ok gl, trivial⟩ trivial) (by kernel_rfl) Try.func39 rfl (rcmp38_v gl _ _ _ _)
  · cases h
end Go.Proofs.Ytjllgdpnbllnjaa
