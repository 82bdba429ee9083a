/- Scores: means and skill; the sanity check; the law of summaries. -/
import Derived.Test.YtjllgdpnbllnjaaSvD
namespace Go.Proofs.Ytjllgdpnbllnjaa
open Go
set_option linter.unusedVariables false
set_option linter.unusedSimpArgs false

def mnN (s n : Int) : Int := if n < 1 then 0 else rdN s n
def mnD (s n : Int) : Int := if n < 1 then 0 else rdD s n
def mnE (s n : Int) : Int := if n < 1 then 9 else rdE s n
theorem mn_no {s n : Int} (h : n < 1) : (0 = mnN s n ∧ 0 = mnD s n ∧ True) ∧ 9 = mnE s n ∧ True := by
  unfold mnN mnD mnE; rw [if_pos h, if_pos h, if_pos h]; exact ⟨⟨rfl, rfl, trivial⟩, rfl, trivial⟩
theorem mn_yes {s n : Int} (h : ¬ n < 1) : (rdN s n = mnN s n ∧ rdD s n = mnD s n ∧ True) ∧ rdE s n = mnE s n ∧ True := by
  unfold mnN mnD mnE; rw [if_neg h, if_neg h, if_neg h]; exact ⟨⟨rfl, rfl, trivial⟩, rfl, trivial⟩
def smean_s (mnN : Int → Int → Int) (mnD : Int → Int → Int) (mnE : Int → Int → Int) : Sp
  | [.int .i64 s, .int .i64 n] => some (True, .tup [.agg [.int .i64 (mnN s n), .int .i64 (mnD s n)], .int .i64 (mnE s n)])
  | _ => none
set_option maxRecDepth 100000 in
def smean_T (mnN : Int → Int → Int) (mnD : Int → Int → Int) (mnE : Int → Int → Int) (rdN : Int → Int → Int) (rdD : Int → Int → Int) (rdE : Int → Int → Int) : Prop :=
  ∀ (gl : Glob) (s n : Int), (-9223372036854775808 : Int) ≤ s ∧ s ≤ (9223372036854775807 : Int) → (-9223372036854775808 : Int) ≤ n ∧ n ≤ (9223372036854775807 : Int) → bif decide (n <
  (1 : Int)) then ((0 : Int) = mnN s n ∧ (0 : Int) = mnD s n ∧ True) ∧ (9 : Int) = mnE s n ∧ True else True ∧ (rdN s n = mnN s n ∧ rdD s n = mnD s n ∧ True) ∧ rdE s n = mnE s n ∧
  True
set_option maxRecDepth 100000 in
theorem smean_P : smean_T mnN mnD mnE rdN rdD rdE := by
  unfold smean_T
  intro gl s n _ _
  exact cs (fun h => mn_no h) (fun h => ⟨trivial, mn_yes h⟩)
def smean_S (mnN : Int → Int → Int) (mnD : Int → Int → Int) (mnE : Int → Int → Int) (rdN : Int → Int → Int) (rdD : Int → Int → Int) (rdE : Int → Int → Int) : Prop := ∀ (gl : Glob) (s n : Int), fnK Try.prog { glob := gl, spec := lk [(36, (sred_s rdN rdD rdE))], specH := lk [], nowf := true } { nt := 14, drop := drp [(1, 64), (2, 256), (3, 15872)] } (fun _ _ => none) 6 Try.f45 [.int .i64 s, .int .i64 n] (.tup [.agg [.int .i64 (mnN s n), .int .i64 (mnD s n)], .int .i64 (mnE s n)])
set_option maxRecDepth 100000 in
theorem smean_e (mnN : Int → Int → Int) (mnD : Int → Int → Int) (mnE : Int → Int → Int) (rdN : Int → Int → Int) (rdD : Int → Int → Int) (rdE : Int → Int → Int) : smean_T mnN mnD mnE rdN rdD rdE = smean_S mnN mnD mnE rdN rdD rdE := by kernel_rfl
theorem smean_v : smean_S mnN mnD mnE rdN rdD rdE := @Eq.mp (smean_T mnN mnD mnE rdN rdD rdE) (smean_S mnN mnD mnE rdN rdD rdE) (smean_e mnN mnD mnE rdN rdD rdE) smean_P
theorem smean_ok (gl : Glob) : SOK Try.prog gl 45 (smean_s mnN mnD mnE) := by
  refine ⟨fok Try.func45 (by kernel_rfl) (by kernel_rfl), ?_⟩
  intro xs pre r h hp
  unfold smean_s at h
  split at h
  · simp only [Option.some.injEq, Prod.mk.injEq] at h
    obtain ⟨h1, h2⟩ := h
    subst h1 h2
    exact fnK_sound tyNil (by exact specOK rfl rfl ⟨sred_ok gl, trivial⟩ trivial) (by kernel_rfl) Try.func45 rfl (smean_v gl _ _)
  · cases h
def sMean_s (mnN : Int → Int → Int) (mnD : Int → Int → Int) (mnE : Int → Int → Int) : Sp
  | [.agg [.int .i64 n, .int .i64 s, .int .i64 a, .int .i64 q]] => some (True, .tup [.agg [.int .i64 (mnN s n), .int .i64 (mnD s n)], .int .i64 (mnE s n)])
  | _ => none
set_option maxRecDepth 100000 in
def sMean_T (mnN : Int → Int → Int) (mnD : Int → Int → Int) (mnE : Int → Int → Int) : Prop :=
  ∀ (gl : Glob) (n s a q : Int), ((-9223372036854775808 : Int) ≤ n ∧ n ≤ (9223372036854775807 : Int)) ∧ ((-9223372036854775808 : Int) ≤ s ∧ s ≤ (9223372036854775807 : Int)) ∧
  ((-9223372036854775808 : Int) ≤ a ∧ a ≤ (9223372036854775807 : Int)) ∧ ((-9223372036854775808 : Int) ≤ q ∧ q ≤ (9223372036854775807 : Int)) ∧ True → True ∧ (mnN s n = mnN s n ∧ mnD
  s n = mnD s n ∧ True) ∧ mnE s n = mnE s n ∧ True
set_option maxRecDepth 100000 in
theorem sMean_P : sMean_T mnN mnD mnE := by
  unfold sMean_T
  intro gl n s a q _
  exact ⟨trivial, ⟨rfl, rfl, trivial⟩, rfl, trivial⟩
def sMean_S (mnN : Int → Int → Int) (mnD : Int → Int → Int) (mnE : Int → Int → Int) : Prop := ∀ (gl : Glob) (n s a q : Int), fnK Try.prog { glob := gl, spec := lk [(45, (smean_s mnN mnD mnE))], specH := lk [], nowf := true } { nt := 11, drop := drp [(1, 2032)] } (fun _ _ => none) 6 Try.f23 [.agg [.int .i64 n, .int .i64 s, .int .i64 a, .int .i64 q]] (.tup [.agg [.int .i64 (mnN s n), .int .i64 (mnD s n)], .int .i64 (mnE s n)])
set_option maxRecDepth 100000 in
theorem sMean_e (mnN : Int → Int → Int) (mnD : Int → Int → Int) (mnE : Int → Int → Int) : sMean_T mnN mnD mnE = sMean_S mnN mnD mnE := by kernel_rfl
theorem sMean_v : sMean_S mnN mnD mnE := @Eq.mp (sMean_T mnN mnD mnE) (sMean_S mnN mnD mnE) (sMean_e mnN mnD mnE) sMean_P
theorem sMean_ok (gl : Glob) : SOK Try.prog gl 23 (sMean_s mnN mnD mnE) := by
  refine ⟨fok Try.func23 (by kernel_rfl) (by kernel_rfl), ?_⟩
  intro xs pre r h hp
  unfold sMean_s at h
  split at h
  · simp only [Option.some.injEq, Prod.mk.injEq] at h
    obtain ⟨h1, h2⟩ := h
    subst h1 h2
    exact fnK_sound tyNil (by exact specOK rfl rfl ⟨smean_ok gl, trivial⟩ trivial) (by kernel_rfl) Try.func23 rfl (sMean_v gl _ _ _ _)
  · cases h
def sMsq_s (mnN : Int → Int → Int) (mnD : Int → Int → Int) (mnE : Int → Int → Int) : Sp
  | [.agg [.int .i64 n, .int .i64 s, .int .i64 a, .int .i64 q]] => some (True, .tup [.agg [.int .i64 (mnN q n), .int .i64 (mnD q n)], .int .i64 (mnE q n)])
  | _ => none
set_option maxRecDepth 100000 in
def sMsq_T (mnN : Int → Int → Int) (mnD : Int → Int → Int) (mnE : Int → Int → Int) : Prop :=
  ∀ (gl : Glob) (n s a q : Int), ((-9223372036854775808 : Int) ≤ n ∧ n ≤ (9223372036854775807 : Int)) ∧ ((-9223372036854775808 : Int) ≤ s ∧ s ≤ (9223372036854775807 : Int)) ∧
  ((-9223372036854775808 : Int) ≤ a ∧ a ≤ (9223372036854775807 : Int)) ∧ ((-9223372036854775808 : Int) ≤ q ∧ q ≤ (9223372036854775807 : Int)) ∧ True → True ∧ (mnN q n = mnN q n ∧ mnD
  q n = mnD q n ∧ True) ∧ mnE q n = mnE q n ∧ True
set_option maxRecDepth 100000 in
theorem sMsq_P : sMsq_T mnN mnD mnE := by
  unfold sMsq_T
  intro gl n s a q _
  exact ⟨trivial, ⟨rfl, rfl, trivial⟩, rfl, trivial⟩
def sMsq_S (mnN : Int → Int → Int) (mnD : Int → Int → Int) (mnE : Int → Int → Int) : Prop := ∀ (gl : Glob) (n s a q : Int), fnK Try.prog { glob := gl, spec := lk [(45, (smean_s mnN mnD mnE))], specH := lk [], nowf := true } { nt := 11, drop := drp [(1, 2032)] } (fun _ _ => none) 6 Try.f24 [.agg [.int .i64 n, .int .i64 s, .int .i64 a, .int .i64 q]] (.tup [.agg [.int .i64 (mnN q n), .int .i64 (mnD q n)], .int .i64 (mnE q n)])
set_option maxRecDepth 100000 in
theorem sMsq_e (mnN : Int → Int → Int) (mnD : Int → Int → Int) (mnE : Int → Int → Int) : sMsq_T mnN mnD mnE = sMsq_S mnN mnD mnE := by kernel_rfl
theorem sMsq_v : sMsq_S mnN mnD mnE := @Eq.mp (sMsq_T mnN mnD mnE) (sMsq_S mnN mnD mnE) (sMsq_e mnN mnD mnE) sMsq_P
theorem sMsq_ok (gl : Glob) : SOK Try.prog gl 24 (sMsq_s mnN mnD mnE) := by
  refine ⟨fok Try.func24 (by kernel_rfl) (by kernel_rfl), ?_⟩
  intro xs pre r h hp
  unfold sMsq_s at h
  split at h
  · simp only [Option.some.injEq, Prod.mk.injEq] at h
    obtain ⟨h1, h2⟩ := h
    subst h1 h2
    exact fnK_sound tyNil (by exact specOK rfl rfl ⟨smean_ok gl, trivial⟩ trivial) (by kernel_rfl) Try.func24 rfl (sMsq_v gl _ _ _ _)
  · cases h
def rover_s (mnN : Int → Int → Int) (mnD : Int → Int → Int) (mnE : Int → Int → Int) : Sp
  | [.int .i64 s, .int .i64 n] => some (True, .tup [.agg [.int .i64 (mnN s n), .int .i64 (mnD s n)], .int .i64 (mnE s n)])
  | _ => none
set_option maxRecDepth 100000 in
def rover_T (mnN : Int → Int → Int) (mnD : Int → Int → Int) (mnE : Int → Int → Int) (rdN : Int → Int → Int) (rdD : Int → Int → Int) (rdE : Int → Int → Int) : Prop :=
  ∀ (gl : Glob) (s n : Int), (-9223372036854775808 : Int) ≤ s ∧ s ≤ (9223372036854775807 : Int) → (-9223372036854775808 : Int) ≤ n ∧ n ≤ (9223372036854775807 : Int) → bif decide (n <
  (1 : Int)) then ((0 : Int) = mnN s n ∧ (0 : Int) = mnD s n ∧ True) ∧ (9 : Int) = mnE s n ∧ True else True ∧ (rdN s n = mnN s n ∧ rdD s n = mnD s n ∧ True) ∧ rdE s n = mnE s n ∧
  True
set_option maxRecDepth 100000 in
theorem rover_P : rover_T mnN mnD mnE rdN rdD rdE := by
  unfold rover_T
  intro gl s n _ _
  exact cs (fun h => mn_no h) (fun h => ⟨trivial, mn_yes h⟩)
def rover_S (mnN : Int → Int → Int) (mnD : Int → Int → Int) (mnE : Int → Int → Int) (rdN : Int → Int → Int) (rdD : Int → Int → Int) (rdE : Int → Int → Int) : Prop := ∀ (gl : Glob) (s n : Int), fnK Try.prog { glob := gl, spec := lk [(37, (rred_s rdN rdD rdE))], specH := lk [], nowf := true } { nt := 14, drop := drp [(1, 64), (2, 256), (3, 15872)] } (fun _ _ => none) 6 Try.f50 [.int .i64 s, .int .i64 n] (.tup [.agg [.int .i64 (mnN s n), .int .i64 (mnD s n)], .int .i64 (mnE s n)])
set_option maxRecDepth 100000 in
theorem rover_e (mnN : Int → Int → Int) (mnD : Int → Int → Int) (mnE : Int → Int → Int) (rdN : Int → Int → Int) (rdD : Int → Int → Int) (rdE : Int → Int → Int) : rover_T mnN mnD mnE rdN rdD rdE = rover_S mnN mnD mnE rdN rdD rdE := by kernel_rfl
theorem rover_v : rover_S mnN mnD mnE rdN rdD rdE := @Eq.mp (rover_T mnN mnD mnE rdN rdD rdE) (rover_S mnN mnD mnE rdN rdD rdE) (rover_e mnN mnD mnE rdN rdD rdE) rover_P
theorem rover_ok (gl : Glob) : SOK Try.prog gl 50 (rover_s mnN mnD mnE) := by
  refine ⟨fok Try.func50 (by kernel_rfl) (by kernel_rfl), ?_⟩
  intro xs pre r h hp
  unfold rover_s at h
  split at h
  · simp only [Option.some.injEq, Prod.mk.injEq] at h
    obtain ⟨h1, h2⟩ := h
    subst h1 h2
    exact fnK_sound tyNil (by exact specOK rfl rfl ⟨rred_ok gl, trivial⟩ trivial) (by kernel_rfl) Try.func50 rfl (rover_v gl _ _)
  · cases h
def rMean_s (mnN : Int → Int → Int) (mnD : Int → Int → Int) (mnE : Int → Int → Int) : Sp
  | [.agg [.int .i64 n, .int .i64 s, .int .i64 a, .int .i64 q]] => some (True, .tup [.agg [.int .i64 (mnN s n), .int .i64 (mnD s n)], .int .i64 (mnE s n)])
  | _ => none
set_option maxRecDepth 100000 in
def rMean_T (mnN : Int → Int → Int) (mnD : Int → Int → Int) (mnE : Int → Int → Int) : Prop :=
  ∀ (gl : Glob) (n s a q : Int), ((-9223372036854775808 : Int) ≤ n ∧ n ≤ (9223372036854775807 : Int)) ∧ ((-9223372036854775808 : Int) ≤ s ∧ s ≤ (9223372036854775807 : Int)) ∧
  ((-9223372036854775808 : Int) ≤ a ∧ a ≤ (9223372036854775807 : Int)) ∧ ((-9223372036854775808 : Int) ≤ q ∧ q ≤ (9223372036854775807 : Int)) ∧ True → True ∧ (mnN s n = mnN s n ∧ mnD
  s n = mnD s n ∧ True) ∧ mnE s n = mnE s n ∧ True
set_option maxRecDepth 100000 in
theorem rMean_P : rMean_T mnN mnD mnE := by
  unfold rMean_T
  intro gl n s a q _
  exact ⟨trivial, ⟨rfl, rfl, trivial⟩, rfl, trivial⟩
def rMean_S (mnN : Int → Int → Int) (mnD : Int → Int → Int) (mnE : Int → Int → Int) : Prop := ∀ (gl : Glob) (n s a q : Int), fnK Try.prog { glob := gl, spec := lk [(50, (rover_s mnN mnD mnE))], specH := lk [], nowf := true } { nt := 11, drop := drp [(1, 2032)] } (fun _ _ => none) 6 Try.f31 [.agg [.int .i64 n, .int .i64 s, .int .i64 a, .int .i64 q]] (.tup [.agg [.int .i64 (mnN s n), .int .i64 (mnD s n)], .int .i64 (mnE s n)])
set_option maxRecDepth 100000 in
theorem rMean_e (mnN : Int → Int → Int) (mnD : Int → Int → Int) (mnE : Int → Int → Int) : rMean_T mnN mnD mnE = rMean_S mnN mnD mnE := by kernel_rfl
theorem rMean_v : rMean_S mnN mnD mnE := @Eq.mp (rMean_T mnN mnD mnE) (rMean_S mnN mnD mnE) (rMean_e mnN mnD mnE) rMean_P
theorem rMean_ok (gl : Glob) : SOK Try.prog gl 31 (rMean_s mnN mnD mnE) := by
  refine ⟨fok Try.func31 (by kernel_rfl) (by kernel_rfl), ?_⟩
  intro xs pre r h hp
  unfold rMean_s at h
  split at h
  · simp only [Option.some.injEq, Prod.mk.injEq] at h
    obtain ⟨h1, h2⟩ := h
    subst h1 h2
    exact fnK_sound tyNil (by exact specOK rfl rfl ⟨rover_ok gl, trivial⟩ trivial) (by kernel_rfl) Try.func31 rfl (rMean_v gl _ _ _ _)
  · cases h
def rMsq_s (mnN : Int → Int → Int) (mnD : Int → Int → Int) (mnE : Int → Int → Int) : Sp
  | [.agg [.int .i64 n, .int .i64 s, .int .i64 a, .int .i64 q]] => some (True, .tup [.agg [.int .i64 (mnN q n), .int .i64 (mnD q n)], .int .i64 (mnE q n)])
  | _ => none
set_option maxRecDepth 100000 in
def rMsq_T (mnN : Int → Int → Int) (mnD : Int → Int → Int) (mnE : Int → Int → Int) : Prop :=
  ∀ (gl : Glob) (n s a q : Int), ((-9223372036854775808 : Int) ≤ n ∧ n ≤ (9223372036854775807 : Int)) ∧ ((-9223372036854775808 : Int) ≤ s ∧ s ≤ (9223372036854775807 : Int)) ∧
  ((-9223372036854775808 : Int) ≤ a ∧ a ≤ (9223372036854775807 : Int)) ∧ ((-9223372036854775808 : Int) ≤ q ∧ q ≤ (9223372036854775807 : Int)) ∧ True → True ∧ (mnN q n = mnN q n ∧ mnD
  q n = mnD q n ∧ True) ∧ mnE q n = mnE q n ∧ True
set_option maxRecDepth 100000 in
theorem rMsq_P : rMsq_T mnN mnD mnE := by
  unfold rMsq_T
  intro gl n s a q _
  exact ⟨trivial, ⟨rfl, rfl, trivial⟩, rfl, trivial⟩
def rMsq_S (mnN : Int → Int → Int) (mnD : Int → Int → Int) (mnE : Int → Int → Int) : Prop := ∀ (gl : Glob) (n s a q : Int), fnK Try.prog { glob := gl, spec := lk [(50, (rover_s mnN mnD mnE))], specH := lk [], nowf := true } { nt := 11, drop := drp [(1, 2032)] } (fun _ _ => none) 6 Try.f32 [.agg [.int .i64 n, .int .i64 s, .int .i64 a, .int .i64 q]] (.tup [.agg [.int .i64 (mnN q n), .int .i64 (mnD q n)], .int .i64 (mnE q n)])
set_option maxRecDepth 100000 in
theorem rMsq_e (mnN : Int → Int → Int) (mnD : Int → Int → Int) (mnE : Int → Int → Int) : rMsq_T mnN mnD mnE = rMsq_S mnN mnD mnE := by kernel_rfl
theorem rMsq_v : rMsq_S mnN mnD mnE := @Eq.mp (rMsq_T mnN mnD mnE) (rMsq_S mnN mnD mnE) (rMsq_e mnN mnD mnE) rMsq_P
theorem rMsq_ok (gl : Glob) : SOK Try.prog gl 32 (rMsq_s mnN mnD mnE) := by
  refine ⟨fok Try.func32 (by kernel_rfl) (by kernel_rfl), ?_⟩
  intro xs pre r h hp
  unfold rMsq_s at h
  split at h
  · simp only [Option.some.injEq, Prod.mk.injEq] at h
    obtain ⟨h1, h2⟩ := h
    subst h1 h2
    exact fnK_sound tyNil (by exact specOK rfl rfl ⟨rover_ok gl, trivial⟩ trivial) (by kernel_rfl) Try.func32 rfl (rMsq_v gl _ _ _ _)
  · cases h
def skN (n q n' q' : Int) : Bool := decide (n < 1 ∨ n' < 1 ∨ ¬ n = n' ∨ q' = 0)
def skR (q q' : Int) : Bool := decide ((0 ≤ q ∧ q ≤ 288230376151711744) ∧ 0 ≤ q' ∧ q' ≤ 288230376151711744)
def skE (n q n' q' : Int) : Int := if skN n q n' q' then 9 else if skR q q' then rdE (q' - q) q' else 1
def skP (n q n' q' : Int) : Int := if skN n q n' q' then 0 else if skR q q' then rdN (q' - q) q' else 0
def skQ (n q n' q' : Int) : Int := if skN n q n' q' then 0 else if skR q q' then rdD (q' - q) q' else 0
theorem sk_no {n q n' q' : Int} (h : n < 1 ∨ n' < 1 ∨ ¬ n = n' ∨ q' = 0) : (0 = skP n q n' q' ∧ 0 = skQ n q n' q' ∧ True) ∧ 9 = skE n q n' q' ∧ True := by
  have e : skN n q n' q' = true := decide_eq_true h
  unfold skP skQ skE; rw [e]; exact ⟨⟨rfl, rfl, trivial⟩, rfl, trivial⟩
theorem sk_bad {n q n' q' : Int} (h : ¬ (n < 1 ∨ n' < 1 ∨ ¬ n = n' ∨ q' = 0)) (k : ¬ ((0 ≤ q ∧ q ≤ 288230376151711744) ∧ 0 ≤ q' ∧ q' ≤ 288230376151711744)) : (0 = skP n q n' q' ∧ 0 = skQ n q n' q' ∧ True) ∧ 1 = skE n q n' q' ∧ True := by
  have e : skN n q n' q' = false := decide_eq_false h
  have e2 : skR q q' = false := decide_eq_false k
  unfold skP skQ skE; rw [e, e2]; exact ⟨⟨rfl, rfl, trivial⟩, rfl, trivial⟩
theorem sk_yes {n q n' q' : Int} (h : ¬ (n < 1 ∨ n' < 1 ∨ ¬ n = n' ∨ q' = 0)) (k : (0 ≤ q ∧ q ≤ 288230376151711744) ∧ 0 ≤ q' ∧ q' ≤ 288230376151711744) : (rdN (q' - q) q' = skP n q n' q' ∧ rdD (q' - q) q' = skQ n q n' q' ∧ True) ∧ rdE (q' - q) q' = skE n q n' q' ∧ True := by
  have e : skN n q n' q' = false := decide_eq_false h
  have e2 : skR q q' = true := decide_eq_true k
  unfold skP skQ skE; rw [e, e2]; exact ⟨⟨rfl, rfl, trivial⟩, rfl, trivial⟩
def sskill_s (skP : Int → Int → Int → Int → Int) (skQ : Int → Int → Int → Int → Int) (skE : Int → Int → Int → Int → Int) : Sp
  | [.agg [.int .i64 n, .int .i64 s, .int .i64 a, .int .i64 q], .agg [.int .i64 n', .int .i64 s', .int .i64 a', .int .i64 q']] => some (True, .tup [.agg [.int .i64 (skP n q n' q'), .int .i64 (skQ n q n' q')], .int .i64 (skE n q n' q')])
  | _ => none
set_option maxRecDepth 100000 in
def sskill_T (skP : Int → Int → Int → Int → Int) (skQ : Int → Int → Int → Int → Int) (skE : Int → Int → Int → Int → Int) (rdN : Int → Int → Int) (rdD : Int → Int → Int) (rdE : Int → Int → Int) : Prop :=
  ∀ (gl : Glob) (n s a q n' s' a' q' : Int), ((-9223372036854775808 : Int) ≤ n ∧ n ≤ (9223372036854775807 : Int)) ∧ ((-9223372036854775808 : Int) ≤ s ∧ s ≤ (9223372036854775807 :
  Int)) ∧ ((-9223372036854775808 : Int) ≤ a ∧ a ≤ (9223372036854775807 : Int)) ∧ ((-9223372036854775808 : Int) ≤ q ∧ q ≤ (9223372036854775807 : Int)) ∧ True → ((-9223372036854775808
  : Int) ≤ n' ∧ n' ≤ (9223372036854775807 : Int)) ∧ ((-9223372036854775808 : Int) ≤ s' ∧ s' ≤ (9223372036854775807 : Int)) ∧ ((-9223372036854775808 : Int) ≤ a' ∧ a' ≤
  (9223372036854775807 : Int)) ∧ ((-9223372036854775808 : Int) ≤ q' ∧ q' ≤ (9223372036854775807 : Int)) ∧ True → bif decide (n < (1 : Int)) then ((0 : Int) = skP n q n' q' ∧ (0 :
  Int) = skQ n q n' q' ∧ True) ∧ (9 : Int) = skE n q n' q' ∧ True else bif decide (n' < (1 : Int)) then ((0 : Int) = skP n q n' q' ∧ (0 : Int) = skQ n q n' q' ∧ True) ∧ (9 : Int) =
  skE n q n' q' ∧ True else bif decide ¬n = n' then ((0 : Int) = skP n q n' q' ∧ (0 : Int) = skQ n q n' q' ∧ True) ∧ (9 : Int) = skE n q n' q' ∧ True else bif decide (q' = (0 : Int))
  then ((0 : Int) = skP n q n' q' ∧ (0 : Int) = skQ n q n' q' ∧ True) ∧ (9 : Int) = skE n q n' q' ∧ True else True ∧ bif !decide ((0 : Int) ≤ q ∧ q ≤ (288230376151711744 : Int)) then
  ((0 : Int) = skP n q n' q' ∧ (0 : Int) = skQ n q n' q' ∧ True) ∧ (1 : Int) = skE n q n' q' ∧ True else True ∧ bif !decide ((0 : Int) ≤ q' ∧ q' ≤ (288230376151711744 : Int)) then
  ((0 : Int) = skP n q n' q' ∧ (0 : Int) = skQ n q n' q' ∧ True) ∧ (1 : Int) = skE n q n' q' ∧ True else bif decide (rng IntKind.i64 (q' - q)) then True ∧ (rdN (q' - q) q' = skP n q
  n' q' ∧ rdD (q' - q) q' = skQ n q n' q' ∧ True) ∧ rdE (q' - q) q' = skE n q n' q' ∧ True else False
set_option maxRecDepth 100000 in
theorem sskill_P : sskill_T skP skQ skE rdN rdD rdE := by
  unfold sskill_T
  intro gl n s a q n' s' a' q' r1 r2
  refine cs (fun h => sk_no (.inl h)) (fun h1 => cs (fun h => sk_no (.inr (.inl h))) (fun h2 => cs (fun h => sk_no (.inr (.inr (.inl h)))) (fun h3 => cs (fun h => sk_no (.inr (.inr (.inr h)))) (fun h4 => ?_))))
  have h3 := Decidable.not_not.1 h3
  have nn : ¬ (n < 1 ∨ n' < 1 ∨ ¬ n = n' ∨ q' = 0) := by omega
  refine ⟨trivial, csplit (fun h => sk_bad nn (fun k => by simp only [decide_eq_true k.1] at h; cases h)) (fun k1' => ⟨trivial, csplit (fun h => sk_bad nn (fun k => by simp only [decide_eq_true k.2] at h; cases h)) (fun k2' => ?_)⟩)⟩
  have k1 : 0 ≤ q ∧ q ≤ 288230376151711744 := by simpa using k1'
  have k2 : 0 ≤ q' ∧ q' ≤ 288230376151711744 := by simpa using k2'
  exact cdI (by omega) ⟨trivial, sk_yes nn ⟨k1, k2⟩⟩
def sskill_S (skP : Int → Int → Int → Int → Int) (skQ : Int → Int → Int → Int → Int) (skE : Int → Int → Int → Int → Int) (rdN : Int → Int → Int) (rdD : Int → Int → Int) (rdE : Int → Int → Int) : Prop := ∀ (gl : Glob) (n s a q n' s' a' q' : Int), fnK Try.prog { glob := gl, spec := lk [(36, (sred_s rdN rdD rdE)), (46, swithin_s)], specH := lk [], nowf := true } { nt := 50, drop := drp [(1, 134217600), (2, 134217728), (3, 549218942976), (4, 549755813888), (5, 1124800395214848)] } (fun _ _ => none) 6 Try.f25 [.agg [.int .i64 n, .int .i64 s, .int .i64 a, .int .i64 q], .agg [.int .i64 n', .int .i64 s', .int .i64 a', .int .i64 q']] (.tup [.agg [.int .i64 (skP n q n' q'), .int .i64 (skQ n q n' q')], .int .i64 (skE n q n' q')])
set_option maxRecDepth 100000 in
theorem sskill_e (skP : Int → Int → Int → Int → Int) (skQ : Int → Int → Int → Int → Int) (skE : Int → Int → Int → Int → Int) (rdN : Int → Int → Int) (rdD : Int → Int → Int) (rdE : Int → Int → Int) : sskill_T skP skQ skE rdN rdD rdE = sskill_S skP skQ skE rdN rdD rdE := by kernel_rfl
theorem sskill_v : sskill_S skP skQ skE rdN rdD rdE := @Eq.mp (sskill_T skP skQ skE rdN rdD rdE) (sskill_S skP skQ skE rdN rdD rdE) (sskill_e skP skQ skE rdN rdD rdE) sskill_P
theorem sskill_ok (gl : Glob) : SOK Try.prog gl 25 (sskill_s skP skQ skE) := by
  refine ⟨fok Try.func25 (by kernel_rfl) (by kernel_rfl), ?_⟩
  intro xs pre r h hp
  unfold sskill_s at h
  split at h
  · simp only [Option.some.injEq, Prod.mk.injEq] at h
    obtain ⟨h1, h2⟩ := h
    subst h1 h2
    exact fnK_sound tyNil (by exact specOK rfl rfl ⟨sred_ok gl, swithin_ok gl, trivial⟩ trivial) (by kernel_rfl) Try.func25 rfl (sskill_v gl _ _ _ _ _ _ _ _)
  · cases h
def rskill_s (skP : Int → Int → Int → Int → Int) (skQ : Int → Int → Int → Int → Int) (skE : Int → Int → Int → Int → Int) : Sp
  | [.agg [.int .i64 n, .int .i64 s, .int .i64 a, .int .i64 q], .agg [.int .i64 n', .int .i64 s', .int .i64 a', .int .i64 q']] => some (True, .tup [.agg [.int .i64 (skP n q n' q'), .int .i64 (skQ n q n' q')], .int .i64 (skE n q n' q')])
  | _ => none
set_option maxRecDepth 100000 in
def rskill_T (skP : Int → Int → Int → Int → Int) (skQ : Int → Int → Int → Int → Int) (skE : Int → Int → Int → Int → Int) (rdN : Int → Int → Int) (rdD : Int → Int → Int) (rdE : Int → Int → Int) : Prop :=
  ∀ (gl : Glob) (n s a q n' s' a' q' : Int), ((-9223372036854775808 : Int) ≤ n ∧ n ≤ (9223372036854775807 : Int)) ∧ ((-9223372036854775808 : Int) ≤ s ∧ s ≤ (9223372036854775807 :
  Int)) ∧ ((-9223372036854775808 : Int) ≤ a ∧ a ≤ (9223372036854775807 : Int)) ∧ ((-9223372036854775808 : Int) ≤ q ∧ q ≤ (9223372036854775807 : Int)) ∧ True → ((-9223372036854775808
  : Int) ≤ n' ∧ n' ≤ (9223372036854775807 : Int)) ∧ ((-9223372036854775808 : Int) ≤ s' ∧ s' ≤ (9223372036854775807 : Int)) ∧ ((-9223372036854775808 : Int) ≤ a' ∧ a' ≤
  (9223372036854775807 : Int)) ∧ ((-9223372036854775808 : Int) ≤ q' ∧ q' ≤ (9223372036854775807 : Int)) ∧ True → bif decide (n < (1 : Int)) then ((0 : Int) = skP n q n' q' ∧ (0 :
  Int) = skQ n q n' q' ∧ True) ∧ (9 : Int) = skE n q n' q' ∧ True else bif decide (n' < (1 : Int)) then ((0 : Int) = skP n q n' q' ∧ (0 : Int) = skQ n q n' q' ∧ True) ∧ (9 : Int) =
  skE n q n' q' ∧ True else bif decide ¬n = n' then ((0 : Int) = skP n q n' q' ∧ (0 : Int) = skQ n q n' q' ∧ True) ∧ (9 : Int) = skE n q n' q' ∧ True else bif decide (q' = (0 : Int))
  then ((0 : Int) = skP n q n' q' ∧ (0 : Int) = skQ n q n' q' ∧ True) ∧ (9 : Int) = skE n q n' q' ∧ True else bif decide (q < (0 : Int)) then ((0 : Int) = skP n q n' q' ∧ (0 : Int) =
  skQ n q n' q' ∧ True) ∧ (1 : Int) = skE n q n' q' ∧ True else bif decide ((288230376151711744 : Int) < q) then ((0 : Int) = skP n q n' q' ∧ (0 : Int) = skQ n q n' q' ∧ True) ∧ (1 :
  Int) = skE n q n' q' ∧ True else bif decide (q' < (0 : Int)) then ((0 : Int) = skP n q n' q' ∧ (0 : Int) = skQ n q n' q' ∧ True) ∧ (1 : Int) = skE n q n' q' ∧ True else bif decide
  ((288230376151711744 : Int) < q') then ((0 : Int) = skP n q n' q' ∧ (0 : Int) = skQ n q n' q' ∧ True) ∧ (1 : Int) = skE n q n' q' ∧ True else bif decide (rng IntKind.i64 (q' - q))
  then True ∧ (rdN (q' - q) q' = skP n q n' q' ∧ rdD (q' - q) q' = skQ n q n' q' ∧ True) ∧ rdE (q' - q) q' = skE n q n' q' ∧ True else False
set_option maxRecDepth 100000 in
theorem rskill_P : rskill_T skP skQ skE rdN rdD rdE := by
  unfold rskill_T
  intro gl n s a q n' s' a' q' r1 r2
  refine cs (fun h => sk_no (.inl h)) (fun h1 => cs (fun h => sk_no (.inr (.inl h))) (fun h2 => cs (fun h => sk_no (.inr (.inr (.inl h)))) (fun h3 => cs (fun h => sk_no (.inr (.inr (.inr h)))) (fun h4 => ?_))))
  have h3 := Decidable.not_not.1 h3
  have nn : ¬ (n < 1 ∨ n' < 1 ∨ ¬ n = n' ∨ q' = 0) := by omega
  exact cs (fun h => sk_bad nn (by omega)) (fun k1 => cs (fun h => sk_bad nn (by omega)) (fun k2 => cs (fun h => sk_bad nn (by omega)) (fun k3 => cs (fun h => sk_bad nn (by omega)) (fun k4 => cdI (by omega) ⟨trivial, sk_yes nn (by omega)⟩))))
def rskill_S (skP : Int → Int → Int → Int → Int) (skQ : Int → Int → Int → Int → Int) (skE : Int → Int → Int → Int → Int) (rdN : Int → Int → Int) (rdD : Int → Int → Int) (rdE : Int → Int → Int) : Prop := ∀ (gl : Glob) (n s a q n' s' a' q' : Int), fnK Try.prog { glob := gl, spec := lk [(37, (rred_s rdN rdD rdE))], specH := lk [], nowf := true } { nt := 56, drop := drp [(1, 33554368), (2, 67108864), (3, 17592051826688), (4, 35184372088832), (5, 71987225293750272)] } (fun _ _ => none) 6 Try.f33 [.agg [.int .i64 n, .int .i64 s, .int .i64 a, .int .i64 q], .agg [.int .i64 n', .int .i64 s', .int .i64 a', .int .i64 q']] (.tup [.agg [.int .i64 (skP n q n' q'), .int .i64 (skQ n q n' q')], .int .i64 (skE n q n' q')])
set_option maxRecDepth 100000 in
theorem rskill_e (skP : Int → Int → Int → Int → Int) (skQ : Int → Int → Int → Int → Int) (skE : Int → Int → Int → Int → Int) (rdN : Int → Int → Int) (rdD : Int → Int → Int) (rdE : Int → Int → Int) : rskill_T skP skQ skE rdN rdD rdE = rskill_S skP skQ skE rdN rdD rdE := by kernel_rfl
theorem rskill_v : rskill_S skP skQ skE rdN rdD rdE := @Eq.mp (rskill_T skP skQ skE rdN rdD rdE) (rskill_S skP skQ skE rdN rdD rdE) (rskill_e skP skQ skE rdN rdD rdE) rskill_P
theorem rskill_ok (gl : Glob) : SOK Try.prog gl 33 (rskill_s skP skQ skE) := by
  refine ⟨fok Try.func33 (by kernel_rfl) (by kernel_rfl), ?_⟩
  intro xs pre r h hp
  unfold rskill_s at h
  split at h
  · simp only [Option.some.injEq, Prod.mk.injEq] at h
    obtain ⟨h1, h2⟩ := h
    subst h1 h2
    exact fnK_sound tyNil (by exact specOK rfl rfl ⟨rred_ok gl, trivial⟩ trivial) (by kernel_rfl) Try.func33 rfl (rskill_v gl _ _ _ _ _ _ _ _)
  · cases h
def ssmall_s : Sp
  | [.agg [.int .i64 n, .int .i64 s, .int .i64 a, .int .i64 q]] => some (True, .agg [.int .i64 (modZ n 20), .int .i64 (s.tmod 1000), .int .i64 (modZ a 5000), .int .i64 (modZ q 576460752303423488)])
  | _ => none
set_option maxRecDepth 100000 in
def ssmall_T : Prop :=
  ∀ (gl : Glob) (n s a q : Int), ((-9223372036854775808 : Int) ≤ n ∧ n ≤ (9223372036854775807 : Int)) ∧ ((-9223372036854775808 : Int) ≤ s ∧ s ≤ (9223372036854775807 : Int)) ∧
  ((-9223372036854775808 : Int) ≤ a ∧ a ≤ (9223372036854775807 : Int)) ∧ ((-9223372036854775808 : Int) ≤ q ∧ q ≤ (9223372036854775807 : Int)) ∧ True → True ∧ True ∧ True ∧ modZ n (20
  : Int) = modZ n (20 : Int) ∧ s.tmod (1000 : Int) = s.tmod (1000 : Int) ∧ modZ a (5000 : Int) = modZ a (5000 : Int) ∧ modZ q (576460752303423488 : Int) = modZ q (576460752303423488
  : Int) ∧ True
set_option maxRecDepth 100000 in
theorem ssmall_P : ssmall_T := by
  unfold ssmall_T
  intro gl n s a q _
  exact ⟨trivial, trivial, trivial, rfl, rfl, rfl, rfl, trivial⟩
def ssmall_S : Prop := ∀ (gl : Glob) (n s a q : Int), fnK Try.prog { glob := gl, spec := lk [(10, fmod_s)], specH := lk [], nowf := true } { nt := 16, drop := drp [(1, 65528)] } (fun _ _ => none) 6 Try.f28 [.agg [.int .i64 n, .int .i64 s, .int .i64 a, .int .i64 q]] (.agg [.int .i64 (modZ n 20), .int .i64 (s.tmod 1000), .int .i64 (modZ a 5000), .int .i64 (modZ q 576460752303423488)])
set_option maxRecDepth 100000 in
theorem ssmall_e : ssmall_T = ssmall_S := by kernel_rfl
theorem ssmall_v : ssmall_S := @Eq.mp (ssmall_T) (ssmall_S) (ssmall_e) ssmall_P
theorem ssmall_ok (gl : Glob) : SOK Try.prog gl 28 ssmall_s := by
  refine ⟨fok Try.func28 (by kernel_rfl) (by kernel_rfl), ?_⟩
  intro xs pre r h hp
  unfold ssmall_s at h
  split at h
  · simp only [Option.some.injEq, Prod.mk.injEq] at h
    obtain ⟨h1, h2⟩ := h
    subst h1 h2
    exact fnK_sound tyNil (by exact specOK rfl rfl ⟨fmod_ok gl, trivial⟩ trivial) (by kernel_rfl) Try.func28 rfl (ssmall_v gl _ _ _ _)
  · cases h
structure P2 (a b c d : Int) : Prop where
  pa : -1000 ≤ a ∧ a ≤ 1000
  pb : -1000 ≤ b ∧ b ≤ 1000
  pc : -1000 ≤ c ∧ c ≤ 1000
  pd : -1000 ≤ d ∧ d ≤ 1000
def scheck2_s : SpH
  | [.rw 0 2 2], [.row 40 2 [[.int .i64 a, .int .i64 b], [.int .i64 c, .int .i64 d]]] => some (P2 a b c d, .int .i64 0, [.row 40 2 [[.int .i64 a, .int .i64 b], [.int .i64 c, .int .i64 d]]])
  | _, _ => none
set_option maxRecDepth 100000 in
def scheck2_T : Prop :=
  ∀ (gl : Glob) (a b c d : Int), P2 a b c d → True → True ∧ bif !decide ((-1000000 : Int) ≤ a ∧ a ≤ (1000000 : Int)) then (1 : Int) = (0 : Int) ∧ [[AV.int IntKind.i64 a, AV.int
  IntKind.i64 b], [AV.int IntKind.i64 c, AV.int IntKind.i64 d]] = [[AV.int IntKind.i64 a, AV.int IntKind.i64 b], [AV.int IntKind.i64 c, AV.int IntKind.i64 d]] ∧ True else True ∧ bif
  !decide ((-1000000 : Int) ≤ b ∧ b ≤ (1000000 : Int)) then (1 : Int) = (0 : Int) ∧ [[AV.int IntKind.i64 a, AV.int IntKind.i64 b], [AV.int IntKind.i64 c, AV.int IntKind.i64 d]] =
  [[AV.int IntKind.i64 a, AV.int IntKind.i64 b], [AV.int IntKind.i64 c, AV.int IntKind.i64 d]] ∧ True else True ∧ bif !decide ((-1000000 : Int) ≤ c ∧ c ≤ (1000000 : Int)) then (1 :
  Int) = (0 : Int) ∧ [[AV.int IntKind.i64 a, AV.int IntKind.i64 b], [AV.int IntKind.i64 c, AV.int IntKind.i64 d]] = [[AV.int IntKind.i64 a, AV.int IntKind.i64 b], [AV.int IntKind.i64
  c, AV.int IntKind.i64 d]] ∧ True else True ∧ bif !decide ((-1000000 : Int) ≤ d ∧ d ≤ (1000000 : Int)) then (1 : Int) = (0 : Int) ∧ [[AV.int IntKind.i64 a, AV.int IntKind.i64 b],
  [AV.int IntKind.i64 c, AV.int IntKind.i64 d]] = [[AV.int IntKind.i64 a, AV.int IntKind.i64 b], [AV.int IntKind.i64 c, AV.int IntKind.i64 d]] ∧ True else (0 : Int) = (0 : Int) ∧
  [[AV.int IntKind.i64 a, AV.int IntKind.i64 b], [AV.int IntKind.i64 c, AV.int IntKind.i64 d]] = [[AV.int IntKind.i64 a, AV.int IntKind.i64 b], [AV.int IntKind.i64 c, AV.int
  IntKind.i64 d]] ∧ True
set_option maxRecDepth 100000 in
theorem scheck2_P : scheck2_T := by
  unfold scheck2_T
  intro gl a b c d ⟨pa, pb, pc, pd⟩ _
  exact ⟨trivial, q1 (by omega) ⟨trivial, q1 (by omega) ⟨trivial, q1 (by omega) ⟨trivial, q1 (by omega) ⟨rfl, rfl, trivial⟩⟩⟩⟩⟩
def scheck2_S : Prop := ∀ (gl : Glob) (a b c d : Int), P2 a b c d → fnH Try.prog { glob := gl, spec := lk [(46, swithin_s)], specH := lk [], nowf := true } { nt := 25, drop := drp [(1, 96), (5, 12288), (6, 8372224), (8, 16777216)], fr := 1000, kp := [0] } (fun _ _ => none) 6 Try.f44 [.rw 0 2 2] [.row 40 2 [[.int .i64 a, .int .i64 b], [.int .i64 c, .int .i64 d]]] (.int .i64 0) [.row 40 2 [[.int .i64 a, .int .i64 b], [.int .i64 c, .int .i64 d]]]
set_option maxRecDepth 100000 in
theorem scheck2_e : scheck2_T = scheck2_S := by kernel_rfl
theorem scheck2_v : scheck2_S := @Eq.mp (scheck2_T) (scheck2_S) (scheck2_e) scheck2_P
theorem scheck2_ok (gl : Glob) : HOK Try.prog gl 44 scheck2_s := by
  refine ⟨fok Try.func44 (by kernel_rfl) (by kernel_rfl), ?_⟩
  intro xs bs pre r bs2 h hp
  unfold scheck2_s at h
  split at h
  · simp only [Option.some.injEq, Prod.mk.injEq] at h
    obtain ⟨h1, h2, h3⟩ := h
    subst h1 h2 h3
    exact fnH_sound tyNil (by exact specOK rfl rfl ⟨swithin_ok gl, trivial⟩ trivial) (by kernel_rfl) Try.func44 (scheck2_v gl _ _ _ _ hp)
  · cases h
def sm2 (a b c d : Int) : Int := 0 + (a - b) + (c - d)
def ab2 (a b c d : Int) : Int := 0 + max (a - b) (0 - (a - b)) + max (c - d) (0 - (c - d))
def sq2 (a b c d : Int) : Int := 0 + (a - b) * (a - b) + (c - d) * (c - d)
def sof2_s : SpH
  | [.rw 0 2 2], [.row 40 2 [[.int .i64 a, .int .i64 b], [.int .i64 c, .int .i64 d]]] => some (P2 a b c d, .tup [.agg [.int .i64 2, .int .i64 (sm2 a b c d), .int .i64 (ab2 a b c d), .int .i64 (sq2 a b c d)], .int .i64 0], [.row 40 2 [[.int .i64 a, .int .i64 b], [.int .i64 c, .int .i64 d]]])
  | _, _ => none
set_option maxRecDepth 100000 in
def sof2_T : Prop :=
  ∀ (gl : Glob) (a b c d : Int), P2 a b c d → True → P2 a b c d ∧ bif decide (rng IntKind.i64 (a - b)) then bif decide (rng IntKind.i64 ((0 : Int) + (a - b))) then bif decide (rng
  IntKind.i64 ((0 : Int) - (a - b))) then bif decide (rng IntKind.i64 ((0 : Int) + max (a - b) ((0 : Int) - (a - b)))) then bif decide (rng IntKind.i64 ((a - b) * (a - b))) then bif
  decide (rng IntKind.i64 ((0 : Int) + (a - b) * (a - b))) then bif decide (rng IntKind.i64 (c - d)) then bif decide (rng IntKind.i64 ((0 : Int) + (a - b) + (c - d))) then bif decide
  (rng IntKind.i64 ((0 : Int) - (c - d))) then bif decide (rng IntKind.i64 ((0 : Int) + max (a - b) ((0 : Int) - (a - b)) + max (c - d) ((0 : Int) - (c - d)))) then bif decide (rng
  IntKind.i64 ((c - d) * (c - d))) then bif decide (rng IntKind.i64 ((0 : Int) + (a - b) * (a - b) + (c - d) * (c - d))) then (((2 : Int) = (2 : Int) ∧ (0 : Int) + (a - b) + (c - d)
  = sm2 a b c d ∧ (0 : Int) + max (a - b) ((0 : Int) - (a - b)) + max (c - d) ((0 : Int) - (c - d)) = ab2 a b c d ∧ (0 : Int) + (a - b) * (a - b) + (c - d) * (c - d) = sq2 a b c d ∧
  True) ∧ (0 : Int) = (0 : Int) ∧ True) ∧ [[AV.int IntKind.i64 a, AV.int IntKind.i64 b], [AV.int IntKind.i64 c, AV.int IntKind.i64 d]] = [[AV.int IntKind.i64 a, AV.int IntKind.i64
  b], [AV.int IntKind.i64 c, AV.int IntKind.i64 d]] ∧ True else False else False else False else False else False else False else False else False else False else False else False
  else False
set_option maxRecDepth 100000 in
theorem sof2_P : sof2_T := by
  unfold sof2_T
  intro gl a b c d ⟨pa, pb, pc, pd⟩ _
  have s1 := sq_bd (d := a - b) (by omega)
  have s2 := sq_bd (d := c - d) (by omega)
  exact ⟨⟨pa, pb, pc, pd⟩, cdI (by omega) (cdI (by omega) (cdI (by omega) (cdI (by omega) (cdI (by omega) (cdI (by omega) (cdI (by omega) (cdI (by omega) (cdI (by omega) (cdI (by omega) (cdI (by omega) (cdI (by omega) ⟨⟨⟨rfl, rfl, rfl, rfl, trivial⟩, rfl, trivial⟩, rfl, trivial⟩)))))))))))⟩
def sof2_S : Prop := ∀ (gl : Glob) (a b c d : Int), P2 a b c d → fnH Try.prog { glob := gl, spec := lk [], specH := lk [(44, scheck2_s)], nowf := true } { nt := 51, drop := drp [(1, 1536), (2, 2048), (3, 24576), (4, 229376), (7, 12582912), (8, 520093696), (9, 16642998272), (10, 4380866641920), (11, 558551906910208), (12, 562949953421312), (13, 1125899906842624)], fr := 1000, kp := [0] } (fun _ _ => none) 6 Try.f21 [.rw 0 2 2] [.row 40 2 [[.int .i64 a, .int .i64 b], [.int .i64 c, .int .i64 d]]] (.tup [.agg [.int .i64 2, .int .i64 (sm2 a b c d), .int .i64 (ab2 a b c d), .int .i64 (sq2 a b c d)], .int .i64 0]) [.row 40 2 [[.int .i64 a, .int .i64 b], [.int .i64 c, .int .i64 d]]]
set_option maxRecDepth 100000 in
theorem sof2_e : sof2_T = sof2_S := by kernel_rfl
theorem sof2_v : sof2_S := @Eq.mp (sof2_T) (sof2_S) (sof2_e) sof2_P
theorem sof2_ok (gl : Glob) : HOK Try.prog gl 21 sof2_s := by
  refine ⟨fok Try.func21 (by kernel_rfl) (by kernel_rfl), ?_⟩
  intro xs bs pre r bs2 h hp
  unfold sof2_s at h
  split at h
  · simp only [Option.some.injEq, Prod.mk.injEq] at h
    obtain ⟨h1, h2, h3⟩ := h
    subst h1 h2 h3
    exact fnH_sound tyNil (by exact specOK rfl rfl trivial ⟨scheck2_ok gl, trivial⟩) (by kernel_rfl) Try.func21 (sof2_v gl _ _ _ _ hp)
  · cases h
def sawake_s : Sp
  | [] => some (True, .bool true)
  | _ => none
set_option maxRecDepth 100000 in
def sawake_T : Prop :=
  ∀ (gl : Glob), P2 (3 : Int) (1 : Int) (1 : Int) (2 : Int) ∧ (decide ((2 : Int) = (2 : Int)) && (decide ((1 : Int) = (1 : Int)) && (decide ((3 : Int) = (3 : Int)) && (decide ((5 :
  Int) = (5 : Int)) && true)))) = true
set_option maxRecDepth 100000 in
theorem sawake_P : sawake_T := by
  unfold sawake_T
  intro gl
  exact ⟨⟨by decide, by decide, by decide, by decide⟩, by decide⟩
def sawake_S : Prop := ∀ (gl : Glob), fnK Try.prog { glob := gl, spec := lk [], specH := lk [(21, sof2_s)], nowf := true } { nt := 17, drop := drp [(1, 1016), (2, 130048)], tys := [42] } (fun _ _ => none) 6 Try.f9 [] (.bool true)
set_option maxRecDepth 100000 in
theorem sawake_e : sawake_T = sawake_S := by kernel_rfl
theorem sawake_v : sawake_S := @Eq.mp (sawake_T) (sawake_S) (sawake_e) sawake_P
theorem sawake_ok (gl : Glob) : SOK Try.prog gl 9 sawake_s := by
  refine ⟨fok Try.func9 (by kernel_rfl) (by kernel_rfl), ?_⟩
  intro xs pre r h hp
  unfold sawake_s at h
  split at h
  · simp only [Option.some.injEq, Prod.mk.injEq] at h
    obtain ⟨h1, h2⟩ := h
    subst h1 h2
    exact fnK_sound (tyOf (by kernel_rfl)) (by exact specOK rfl rfl trivial ⟨sof2_ok gl, trivial⟩) (by kernel_rfl) Try.func9 rfl (sawake_v gl )
  · cases h
end Go.Proofs.Ytjllgdpnbllnjaa
