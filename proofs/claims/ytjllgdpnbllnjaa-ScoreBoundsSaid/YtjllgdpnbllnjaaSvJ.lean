/- Scores: comparing fractions. -/
import Derived.Test.YtjllgdpnbllnjaaSvG
namespace Go.Proofs.Ytjllgdpnbllnjaa
open Go
set_option linter.unusedVariables false
set_option linter.unusedSimpArgs false

def ssign_s (cmpI : Int → Int → Int) : Sp
  | [.int .i64 a] => some (True, .int .i64 (cmpI a 0))
  | _ => none
set_option maxRecDepth 100000 in
def ssign_T (cmpI : Int → Int → Int) : Prop :=
  ∀ (gl : Glob) (a : Int), (-9223372036854775808 : Int) ≤ a ∧ a ≤ (9223372036854775807 : Int) → True ∧ cmpI a (0 : Int) = cmpI a (0 : Int)
set_option maxRecDepth 100000 in
theorem ssign_P : ssign_T cmpI := by
  unfold ssign_T
  intro gl a _
  exact ⟨trivial, rfl⟩
def ssign_S (cmpI : Int → Int → Int) : Prop := ∀ (gl : Glob) (a : Int), fnK Try.prog { glob := gl, spec := lk [(52, (fcmpI_s cmpI))], specH := lk [], nowf := true } { nt := 5, drop := drp [(1, 24)] } (fun _ _ => none) 6 Try.f55 [.int .i64 a] (.int .i64 (cmpI a 0))
set_option maxRecDepth 100000 in
theorem ssign_e (cmpI : Int → Int → Int) : ssign_T cmpI = ssign_S cmpI := by kernel_rfl
theorem ssign_v : ssign_S cmpI := @Eq.mp (ssign_T cmpI) (ssign_S cmpI) (ssign_e cmpI) ssign_P
theorem ssign_ok (gl : Glob) : SOK Try.prog gl 55 (ssign_s cmpI) := by
  refine ⟨fok Try.func55 (by kernel_rfl) (by kernel_rfl), ?_⟩
  intro xs pre r h hp
  unfold ssign_s at h
  split at h
  · simp only [Option.some.injEq, Prod.mk.injEq] at h
    obtain ⟨h1, h2⟩ := h
    subst h1 h2
    exact fnK_sound tyNil (by exact specOK rfl rfl ⟨fcmpI_ok gl, trivial⟩ trivial) (by kernel_rfl) Try.func55 rfl (ssign_v gl _)
  · cases h
structure FrP (n d : Int) : Prop where
  n : -1152921504606846976 ≤ n ∧ n ≤ 1152921504606846976
  d : 0 < d ∧ d ≤ 1152921504606846976
theorem sg_mul {a d : Int} (hd : 0 < d) : (0 < a → 0 < a * d) ∧ (a < 0 → a * d < 0) ∧ (a = 0 → a * d = 0) :=
  ⟨fun h => Int.mul_pos h hd, fun h => Int.mul_neg_of_neg_of_pos h hd, fun h => by rw [h, Int.zero_mul]⟩
theorem scm_1 {a c p q : Int} (h1 : (0 < a → 0 < p) ∧ (a < 0 → p < 0) ∧ (a = 0 → p = 0)) (h2 : (0 < c → 0 < q) ∧ (c < 0 → q < 0) ∧ (c = 0 → q = 0)) (h : ¬ cmpI a 0 = cmpI c 0 ∨ cmpI a 0 = 0) : cmpI (cmpI a 0) (cmpI c 0) = cmpI p q := by
  rcases Int.lt_trichotomy a 0 with ha | ha | ha <;> rcases Int.lt_trichotomy c 0 with hc | hc | hc
  · rw [cmp_lt ha, cmp_lt hc] at h; omega
  · rw [cmp_lt ha, cmp_eq hc, cmp_lt (show p < q by omega)]; rfl
  · rw [cmp_lt ha, cmp_gt hc, cmp_lt (show p < q by omega)]; rfl
  · rw [cmp_eq ha, cmp_lt hc, cmp_gt (show q < p by omega)]; rfl
  · rw [cmp_eq ha, cmp_eq hc, cmp_eq (show p = q by omega)]; rfl
  · rw [cmp_eq ha, cmp_gt hc, cmp_lt (show p < q by omega)]; rfl
  · rw [cmp_gt ha, cmp_lt hc, cmp_gt (show q < p by omega)]; rfl
  · rw [cmp_gt ha, cmp_eq hc, cmp_gt (show q < p by omega)]; rfl
  · rw [cmp_gt ha, cmp_gt hc] at h; omega
theorem cmp_neg (p q : Int) : -1 * cmpI (-p) (-q) = cmpI p q := by
  rcases Int.lt_trichotomy p q with h | h | h
  · rw [cmp_lt h, cmp_gt (show -q < -p by omega)]; rfl
  · rw [cmp_eq h, cmp_eq (show -p = -q by omega)]; rfl
  · rw [cmp_gt h, cmp_lt (show -p < -q by omega)]; rfl
theorem cmp_bd (p q : Int) : -1 ≤ cmpI p q ∧ cmpI p q ≤ 1 := by unfold cmpI; split <;> (try split) <;> omega
theorem scm_2 {a b c d : Int} (h : ¬ ¬ cmpI a 0 = cmpI c 0) (h' : ¬ cmpI a 0 = 0) : cmpI a 0 * cmpI (max a (0 - a) * d) (max c (0 - c) * b) = cmpI (a * d) (c * b) := by
  have h := Classical.not_not.1 h
  rcases Int.lt_trichotomy a 0 with ha | ha | ha
  · rw [cmp_lt ha] at h ⊢
    have hc : c < 0 := by
      rcases Int.lt_trichotomy c 0 with hc | hc | hc
      · exact hc
      · rw [cmp_eq hc] at h; omega
      · rw [cmp_gt hc] at h; omega
    rw [show max a (0 - a) = -a by omega, show max c (0 - c) = -c by omega, Int.neg_mul a d, Int.neg_mul c b, cmp_neg]
  · exact absurd (cmp_eq ha) h'
  · rw [cmp_gt ha] at h ⊢
    have hc : 0 < c := by
      rcases Int.lt_trichotomy c 0 with hc | hc | hc
      · rw [cmp_lt hc] at h; omega
      · rw [cmp_eq hc] at h; omega
      · exact hc
    rw [show max a (0 - a) = a by omega, show max c (0 - c) = c by omega, Int.one_mul]
def scmp_s (cmpI : Int → Int → Int) (orI : Int → Int → Int) (mlH : Int → Int → Int) (mlL : Int → Int → Int) : Sp
  | [.agg [.int .i64 a, .int .i64 b], .agg [.int .i64 c, .int .i64 d]] => some (FrP a b ∧ FrP c d, .int .i64 (cmpI (a * d) (c * b)))
  | _ => none
set_option maxRecDepth 100000 in
def scmp_T (cmpI : Int → Int → Int) (orI : Int → Int → Int) (mlH : Int → Int → Int) (mlL : Int → Int → Int) : Prop :=
  ∀ (gl : Glob) (a b c d : Int), FrP a b ∧ FrP c d → ((-9223372036854775808 : Int) ≤ a ∧ a ≤ (9223372036854775807 : Int)) ∧ ((-9223372036854775808 : Int) ≤ b ∧ b ≤
  (9223372036854775807 : Int)) ∧ True → ((-9223372036854775808 : Int) ≤ c ∧ c ≤ (9223372036854775807 : Int)) ∧ ((-9223372036854775808 : Int) ≤ d ∧ d ≤ (9223372036854775807 : Int)) ∧
  True → True ∧ True ∧ bif decide ¬cmpI a (0 : Int) = cmpI c (0 : Int) then True ∧ cmpI (cmpI a (0 : Int)) (cmpI c (0 : Int)) = cmpI (a * d) (c * b) else bif decide (cmpI a (0 : Int)
  = (0 : Int)) then True ∧ cmpI (cmpI a (0 : Int)) (cmpI c (0 : Int)) = cmpI (a * d) (c * b) else bif decide (rng IntKind.i64 ((0 : Int) - a)) then True ∧ bif decide (rng IntKind.i64
  ((0 : Int) - c)) then True ∧ True ∧ True ∧ True ∧ bif decide (rng IntKind.i64 (cmpI a (0 : Int) * orI (cmpI (mlH (IntKind.u64.wrap (max a ((0 : Int) - a))) (IntKind.u64.wrap d))
  (mlH (IntKind.u64.wrap (max c ((0 : Int) - c))) (IntKind.u64.wrap b))) (cmpI (mlL (IntKind.u64.wrap (max a ((0 : Int) - a))) (IntKind.u64.wrap d)) (mlL (IntKind.u64.wrap (max c ((0
  : Int) - c))) (IntKind.u64.wrap b))))) then cmpI a (0 : Int) * orI (cmpI (mlH (IntKind.u64.wrap (max a ((0 : Int) - a))) (IntKind.u64.wrap d)) (mlH (IntKind.u64.wrap (max c ((0 :
  Int) - c))) (IntKind.u64.wrap b))) (cmpI (mlL (IntKind.u64.wrap (max a ((0 : Int) - a))) (IntKind.u64.wrap d)) (mlL (IntKind.u64.wrap (max c ((0 : Int) - c))) (IntKind.u64.wrap
  b))) = cmpI (a * d) (c * b) else False else False else False
set_option maxRecDepth 100000 in
theorem scmp_P : scmp_T cmpI orI mlH mlL := by
  unfold scmp_T
  intro gl a b c d ⟨⟨p1, p2⟩, p3, p4⟩ _ _
  have s1 := sg_mul (a := a) p4.1
  have s2 := sg_mul (a := c) p2.1
  refine ⟨trivial, trivial, cs (fun h => ⟨trivial, scm_1 s1 s2 (.inl h)⟩) (fun h => cs (fun h' => ⟨trivial, scm_1 s1 s2 (.inr h')⟩) (fun h' => ?_))⟩
  have r1 : rng .i64 (0 - a) := by show _ ∧ _; omega
  have r2 : rng .i64 (0 - c) := by show _ ∧ _; omega
  have w1 : IntKind.u64.wrap (max a (0 - a)) = max a (0 - a) := wrap_eq (k := .u64) (by show _ ∧ _; omega)
  have w2 : IntKind.u64.wrap (max c (0 - c)) = max c (0 - c) := wrap_eq (k := .u64) (by show _ ∧ _; omega)
  have w3 : IntKind.u64.wrap b = b := wrap_eq (k := .u64) (by show _ ∧ _; omega)
  have w4 : IntKind.u64.wrap d = d := wrap_eq (k := .u64) (by show _ ∧ _; omega)
  have e : orI (cmpI (mlH (max a (0 - a)) d) (mlH (max c (0 - c)) b)) (cmpI (mlL (max a (0 - a)) d) (mlL (max c (0 - c)) b)) = cmpI (max a (0 - a) * d) (max c (0 - c) * b) := wide_cmp _ _
  have z := cmp_bd (a * d) (c * b)
  have r3 : rng .i64 (cmpI (a * d) (c * b)) := by show _ ∧ _; omega
  rw [w1, w2, w3, w4, e, scm_2 h h', decide_eq_true r1, decide_eq_true r2, decide_eq_true r3]
  exact ⟨trivial, trivial, trivial, trivial, trivial, rfl⟩
def scmp_S (cmpI : Int → Int → Int) (orI : Int → Int → Int) (mlH : Int → Int → Int) (mlL : Int → Int → Int) : Prop := ∀ (gl : Glob) (a b c d : Int), FrP a b ∧ FrP c d → fnK Try.prog { glob := gl, spec := lk [(55, (ssign_s cmpI)), (52, (fcmpI_s cmpI)), (53, (fcmpU_s cmpI)), (54, (fmul64_s mlH mlL))], specH := lk [(51, (fcor_s orI))], nowf := true } { nt := 65, drop := drp [(1, 129024), (2, 8257536), (3, 117440512), (4, 2198889037824), (5, 36026597995708416), (6, 36857459350400139264)] } (fun _ _ => none) 6 Try.f38 [.agg [.int .i64 a, .int .i64 b], .agg [.int .i64 c, .int .i64 d]] (.int .i64 (cmpI (a * d) (c * b)))
set_option maxRecDepth 100000 in
theorem scmp_e (cmpI : Int → Int → Int) (orI : Int → Int → Int) (mlH : Int → Int → Int) (mlL : Int → Int → Int) : scmp_T cmpI orI mlH mlL = scmp_S cmpI orI mlH mlL := by kernel_rfl
theorem scmp_v : scmp_S cmpI orI mlH mlL := @Eq.mp (scmp_T cmpI orI mlH mlL) (scmp_S cmpI orI mlH mlL) (scmp_e cmpI orI mlH mlL) scmp_P
theorem scmp_ok (gl : Glob) : SOK Try.prog gl 38 (scmp_s cmpI orI mlH mlL) := by
  refine ⟨fok Try.func38 (by kernel_rfl) (by kernel_rfl), ?_⟩
  intro xs pre r h hp
  unfold scmp_s at h
  split at h
  · simp only [Option.some.injEq, Prod.mk.injEq] at h
    obtain ⟨h1, h2⟩ := h
    subst h1 h2
    exact fnK_sound tyNil (by exact specOK rfl rfl ⟨ssign_ok gl, fcmpI_ok gl, fcmpU_ok gl, fmul64_ok gl, trivial⟩ ⟨fcor_ok gl, trivial⟩) (by kernel_rfl) Try.func38 rfl (scmp_v gl _ _ _ _ hp)
  · cases h
def rsize_s : Sp
  | [.int .i64 a] => some (-9223372036854775808 ≤ a ∧ a ≤ 9223372036854775807, .int .u64 (max a (0 - a)))
  | _ => none
set_option maxRecDepth 100000 in
def rsize_T : Prop :=
  ∀ (gl : Glob) (a : Int), (-9223372036854775808 : Int) ≤ a ∧ a ≤ (9223372036854775807 : Int) → (-9223372036854775808 : Int) ≤ a ∧ a ≤ (9223372036854775807 : Int) → bif decide (a <
  (0 : Int)) then IntKind.u64.wrap ((0 : Int) - IntKind.u64.wrap a) = max a ((0 : Int) - a) else IntKind.u64.wrap a = max a ((0 : Int) - a)
set_option maxRecDepth 100000 in
theorem rsize_P : rsize_T := by
  unfold rsize_T
  intro gl a p _
  refine cs (fun h => ?_) (fun h => ?_)
  · rw [u64_neg p.1 h, show (0 : Int) - (a + 18446744073709551616) = -a - 18446744073709551616 by omega, IntKind.wrap_u64]; omega
  · rw [u64_pos (by omega) (by omega)]; omega
def rsize_S : Prop := ∀ (gl : Glob) (a : Int), -9223372036854775808 ≤ a ∧ a ≤ 9223372036854775807 → fnK Try.prog { glob := gl, spec := lk [], specH := lk [], nowf := true } { nt := 10, drop := drp [(1, 8), (2, 224), (3, 768)] } (fun _ _ => none) 6 Try.f63 [.int .i64 a] (.int .u64 (max a (0 - a)))
set_option maxRecDepth 100000 in
theorem rsize_e : rsize_T = rsize_S := by kernel_rfl
theorem rsize_v : rsize_S := @Eq.mp (rsize_T) (rsize_S) (rsize_e) rsize_P
theorem rsize_ok (gl : Glob) : SOK Try.prog gl 63 rsize_s := by
  refine ⟨fok Try.func63 (by kernel_rfl) (by kernel_rfl), ?_⟩
  intro xs pre r h hp
  unfold rsize_s at h
  split at h
  · simp only [Option.some.injEq, Prod.mk.injEq] at h
    obtain ⟨h1, h2⟩ := h
    subst h1 h2
    exact fnK_sound tyNil (by exact specOK rfl rfl trivial trivial) (by kernel_rfl) Try.func63 rfl (rsize_v gl _ hp)
  · cases h
def rcmp22_s : Sp
  | [.agg [.int .i64 a, .int .u64 b], .agg [.int .i64 c, .int .u64 d]] => some (True, .int .i64 (orI (cmpI a c) (cmpI b d)))
  | _ => none
set_option maxRecDepth 100000 in
def rcmp22_T : Prop :=
  ∀ (gl : Glob) (a b c d : Int), ((-9223372036854775808 : Int) ≤ a ∧ a ≤ (9223372036854775807 : Int)) ∧ ((0 : Int) ≤ b ∧ b ≤ (18446744073709551615 : Int)) ∧ True →
  ((-9223372036854775808 : Int) ≤ c ∧ c ≤ (9223372036854775807 : Int)) ∧ ((0 : Int) ≤ d ∧ d ≤ (18446744073709551615 : Int)) ∧ True → bif decide (a < c) then (-1 : Int) = orI (cmpI a
  c) (cmpI b d) else bif decide (a = c) then bif decide (b < d) then (-1 : Int) = orI (cmpI a c) (cmpI b d) else bif decide (a = c) && (decide (b = d) && true) then (0 : Int) = orI
  (cmpI a c) (cmpI b d) else (1 : Int) = orI (cmpI a c) (cmpI b d) else bif decide (a = c) && (decide (b = d) && true) then (0 : Int) = orI (cmpI a c) (cmpI b d) else (1 : Int) = orI
  (cmpI a c) (cmpI b d)
set_option maxRecDepth 100000 in
theorem rcmp22_P : rcmp22_T := by
  unfold rcmp22_T
  intro gl a b c d _ _
  refine cs (fun h => ?_) (fun h => cs (fun k => cs (fun m => ?_) (fun m => ?_)) (fun k => ?_))
  · rw [cmp_lt h]; rfl
  · rw [cmp_eq k, cmp_lt m]; rfl
  · rw [decide_eq_true k]
    by_cases e : b = d
    · rw [decide_eq_true e, cmp_eq k, cmp_eq e]; rfl
    · rw [decide_eq_false e, cmp_eq k, cmp_gt (by omega)]; rfl
  · rw [decide_eq_false k, cmp_gt (show c < a by omega)]; rfl
def rcmp22_S : Prop := ∀ (gl : Glob) (a b c d : Int), fnK Try.prog { glob := gl, spec := lk [], specH := lk [], nowf := true } { nt := 29, drop := drp [(1, 33554368), (3, 469762048)], tys := [59] } (fun _ _ => none) 6 Try.f56 [.agg [.int .i64 a, .int .u64 b], .agg [.int .i64 c, .int .u64 d]] (.int .i64 (orI (cmpI a c) (cmpI b d)))
set_option maxRecDepth 100000 in
theorem rcmp22_e : rcmp22_T = rcmp22_S := by kernel_rfl
theorem rcmp22_v : rcmp22_S := @Eq.mp (rcmp22_T) (rcmp22_S) (rcmp22_e) rcmp22_P
theorem rcmp22_ok (gl : Glob) : SOK Try.prog gl 56 rcmp22_s := by
  refine ⟨fok Try.func56 (by kernel_rfl) (by kernel_rfl), ?_⟩
  intro xs pre r h hp
  unfold rcmp22_s at h
  split at h
  · simp only [Option.some.injEq, Prod.mk.injEq] at h
    obtain ⟨h1, h2⟩ := h
    subst h1 h2
    exact fnK_sound (tyOf (by kernel_rfl)) (by exact specOK rfl rfl trivial trivial) (by kernel_rfl) Try.func56 rfl (rcmp22_v gl _ _ _ _)
  · cases h
end Go.Proofs.Ytjllgdpnbllnjaa
