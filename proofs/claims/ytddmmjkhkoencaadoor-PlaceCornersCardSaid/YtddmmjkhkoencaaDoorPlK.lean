/- The law PlaceCorners: its walk, vertex by vertex. -/
import Derived.Test.YtddmmjkhkoencaaDoorPlE
namespace Go.Proofs.YtddmmjkhkoencaaDoor
open Go
set_option linter.unusedVariables false
set_option linter.unusedSimpArgs false

def modv_s (x v : Int) : Sp
  | [.int .i64 y, .int .i64 n] => some (y = x ∧ n = 12, .int .i64 v)
  | _ => none
structure VerQ (v v' : Int) : Prop where
  e : v' = v
def cutV (v : Int) : LInv := ⟨Int, fun v' => ⟨[(3, .int .i64 v')], []⟩, VerQ v, fun _ => 0, some [0, 1, 2, 3, 4, 5, 6, 7, 8, 9, 10, 11]⟩
set_option maxRecDepth 100000 in
def cornersL_T : Prop :=
  ∀ (x v : Int), (0 : Int) ≤ v ∧ v < (12 : Int) → (-9223372036854775808 : Int) ≤ x ∧ x ≤ (9223372036854775807 : Int) → ((x = x ∧ (12 : Int) = (12 : Int)) ∧ ∃ x, VerQ v x ∧ (v = x ∧
  True) ∧ True) ∧ (∀ (x : Int), VerQ v x → x = (0 : Int) ∨ x = (1 : Int) ∨ x = (2 : Int) ∨ x = (3 : Int) ∨ x = (4 : Int) ∨ x = (5 : Int) ∨ x = (6 : Int) ∨ x = (7 : Int) ∨ x = (8 :
  Int) ∨ x = (9 : Int) ∨ x = (10 : Int) ∨ x = (11 : Int) ∨ False) ∧ (VerQ v (0 : Int) → True ∧ True ∧ True ∧ True ∧ True ∧ True ∧ True ∧ True ∧ True ∧ True ∧ True ∧ True ∧ True ∧
  True ∧ True ∧ True ∧ True ∧ True ∧ True ∧ True ∧ True ∧ True ∧ True ∧ True ∧ True ∧ True ∧ True ∧ True ∧ True ∧ True ∧ True ∧ true = true) ∧ (VerQ v (1 : Int) → True ∧ True ∧ True
  ∧ True ∧ True ∧ True ∧ True ∧ True ∧ True ∧ True ∧ True ∧ True ∧ True ∧ True ∧ True ∧ True ∧ True ∧ True ∧ True ∧ True ∧ True ∧ True ∧ True ∧ True ∧ True ∧ True ∧ True ∧ True ∧
  True ∧ True ∧ True ∧ true = true) ∧ (VerQ v (2 : Int) → True ∧ True ∧ True ∧ True ∧ True ∧ True ∧ True ∧ True ∧ True ∧ True ∧ True ∧ True ∧ True ∧ True ∧ True ∧ True ∧ True ∧ True
  ∧ True ∧ True ∧ True ∧ True ∧ True ∧ True ∧ True ∧ True ∧ True ∧ True ∧ True ∧ True ∧ True ∧ true = true) ∧ (VerQ v (3 : Int) → True ∧ True ∧ True ∧ True ∧ True ∧ True ∧ True ∧
  True ∧ True ∧ True ∧ True ∧ True ∧ True ∧ True ∧ True ∧ True ∧ True ∧ True ∧ True ∧ True ∧ True ∧ True ∧ True ∧ True ∧ True ∧ True ∧ True ∧ True ∧ True ∧ True ∧ True ∧ true = true)
  ∧ (VerQ v (4 : Int) → True ∧ True ∧ True ∧ True ∧ True ∧ True ∧ True ∧ True ∧ True ∧ True ∧ True ∧ True ∧ True ∧ True ∧ True ∧ True ∧ True ∧ True ∧ True ∧ True ∧ True ∧ True ∧ True
  ∧ True ∧ True ∧ True ∧ True ∧ True ∧ True ∧ True ∧ True ∧ true = true) ∧ (VerQ v (5 : Int) → True ∧ True ∧ True ∧ True ∧ True ∧ True ∧ True ∧ True ∧ True ∧ True ∧ True ∧ True ∧
  True ∧ True ∧ True ∧ True ∧ True ∧ True ∧ True ∧ True ∧ True ∧ True ∧ True ∧ True ∧ True ∧ True ∧ True ∧ True ∧ True ∧ True ∧ True ∧ true = true) ∧ (VerQ v (6 : Int) → True ∧ True
  ∧ True ∧ True ∧ True ∧ True ∧ True ∧ True ∧ True ∧ True ∧ True ∧ True ∧ True ∧ True ∧ True ∧ True ∧ True ∧ True ∧ True ∧ True ∧ True ∧ True ∧ True ∧ True ∧ True ∧ True ∧ True ∧
  True ∧ True ∧ True ∧ True ∧ true = true) ∧ (VerQ v (7 : Int) → True ∧ True ∧ True ∧ True ∧ True ∧ True ∧ True ∧ True ∧ True ∧ True ∧ True ∧ True ∧ True ∧ True ∧ True ∧ True ∧ True
  ∧ True ∧ True ∧ True ∧ True ∧ True ∧ True ∧ True ∧ True ∧ True ∧ True ∧ True ∧ True ∧ True ∧ True ∧ true = true) ∧ (VerQ v (8 : Int) → True ∧ True ∧ True ∧ True ∧ True ∧ True ∧
  True ∧ True ∧ True ∧ True ∧ True ∧ True ∧ True ∧ True ∧ True ∧ True ∧ True ∧ True ∧ True ∧ True ∧ True ∧ True ∧ True ∧ True ∧ True ∧ True ∧ True ∧ True ∧ True ∧ True ∧ True ∧ true
  = true) ∧ (VerQ v (9 : Int) → True ∧ True ∧ True ∧ True ∧ True ∧ True ∧ True ∧ True ∧ True ∧ True ∧ True ∧ True ∧ True ∧ True ∧ True ∧ True ∧ True ∧ True ∧ True ∧ True ∧ True ∧
  True ∧ True ∧ True ∧ True ∧ True ∧ True ∧ True ∧ True ∧ True ∧ True ∧ true = true) ∧ (VerQ v (10 : Int) → True ∧ True ∧ True ∧ True ∧ True ∧ True ∧ True ∧ True ∧ True ∧ True ∧ True
  ∧ True ∧ True ∧ True ∧ True ∧ True ∧ True ∧ True ∧ True ∧ True ∧ True ∧ True ∧ True ∧ True ∧ True ∧ True ∧ True ∧ True ∧ True ∧ True ∧ True ∧ true = true) ∧ (VerQ v (11 : Int) →
  True ∧ True ∧ True ∧ True ∧ True ∧ True ∧ True ∧ True ∧ True ∧ True ∧ True ∧ True ∧ True ∧ True ∧ True ∧ True ∧ True ∧ True ∧ True ∧ True ∧ True ∧ True ∧ True ∧ True ∧ True ∧ True
  ∧ True ∧ True ∧ True ∧ True ∧ True ∧ true = true) ∧ True
set_option maxRecDepth 100000 in
theorem cornersL_P : cornersL_T := by
  unfold cornersL_T
  intro x v hv _
  repeat' (first | exact trivial | rfl | apply And.intro | (refine ⟨v, ⟨rfl⟩, ?_⟩) | intro _ | (have := ‹VerQ _ _›.e; omega))
def cornersL_S : Prop := ∀ x v : Int, 0 ≤ v ∧ v < 12 → fnK Tryd.prog { glob := glb, spec := lk [(16, corners_s), (12, normal_s vld nrm), (17, format_s vld fmt), (15, modv_s x v), (14, awake_s)], nowf := true, eager := true } { nt := 98, drop := drp [(1, 786432), (5, 1048576), (6, 12582912), (7, 520093696), (8, 536870912), (11, 2147483648), (12, 25769803776), (13, 515396075520), (14, 1099511627776), (15, 6597069766656), (16, 2243003720663040), (17, 69805794224242688), (18, 2233785415175766016), (19, 75555557882905109725184), (23, 7253554917687775048237056), (24, 29014219670751100192948224), (26, 77371252455336267181195264), (27, 4797017652230848565234106368), (28, 311960889899915829274579304448)], tys := [26] } (invs [(100002, cutV v)]) 22 Tryd.f4 [.int .i64 x] (.bool true)
set_option maxRecDepth 100000 in
theorem cornersL_e : cornersL_T = cornersL_S := by kernel_rfl
theorem cornersL : cornersL_S := @Eq.mp (cornersL_T) (cornersL_S) (cornersL_e) cornersL_P
theorem modv_ok (gl : Glob) (x : Int) : SOK Tryd.prog gl 15 (modv_s x (modZ x 12)) := by
  refine ⟨(mod_ok gl).1, ?_⟩
  intro xs pre r h hp
  unfold modv_s at h
  split at h
  · simp only [Option.some.injEq, Prod.mk.injEq] at h
    obtain ⟨h1, h2⟩ := h
    subst h1
    obtain ⟨rfl, rfl⟩ := hp
    subst h2
    exact (mod_ok gl).2 _ _ _ rfl trivial
  · cases h
theorem corners_law (x : Int) : PureC Tryd.prog glb 4 [.int .i64 x] (.bool true) :=
  fnK_sound (tyOf (by kernel_rfl)) (by exact specOK (l' := []) rfl rfl ⟨corners_ok, normal_ok, format_ok glb, modv_ok glb x, awake_ok, trivial⟩ trivial) (by kernel_rfl) Tryd.func4 rfl (cornersL x (modZ x 12) (by unfold modZ; rw [if_neg (by omega)]; omega))
end Go.Proofs.YtddmmjkhkoencaaDoor
