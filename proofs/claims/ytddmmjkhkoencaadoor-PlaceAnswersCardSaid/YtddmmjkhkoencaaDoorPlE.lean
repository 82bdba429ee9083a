/- Places: awake. -/
import Derived.Test.YtddmmjkhkoencaaDoorPlD
namespace Go.Proofs.YtddmmjkhkoencaaDoor
open Go
set_option linter.unusedVariables false
set_option linter.unusedSimpArgs false

def awake_s : Sp
  | [] => some (True, .bool true)
  | _ => none
set_option maxRecDepth 100000 in
def awake_T : Prop :=
  True ∧ True ∧ True ∧ ∃ n n_1 n_2 n_3, List.take [AV.int IntKind.i64 n, AV.int IntKind.i64 n_1, AV.int IntKind.i64 n_2, AV.int IntKind.i64 n_3].length ((adr (5 : Int) (420 : Int)
  (420 : Int) (0 : Int)).getD (1 : Nat) []) = [AV.int IntKind.i64 n, AV.int IntKind.i64 n_1, AV.int IntKind.i64 n_2, AV.int IntKind.i64 n_3] ∧ (decide (n = (14 : Int)) && (decide
  (n_1 = (0 : Int)) && (decide (n_2 = (420 : Int)) && (decide (n_3 = (420 : Int)) && true)))) = true
set_option maxRecDepth 100000 in
theorem awake_P : awake_T := by
  unfold awake_T
  exact ⟨trivial, trivial, trivial, 14, 0, 420, 420, by kernel_rfl, by decide⟩
def awake_S : Prop := fnK Tryd.prog { glob := glb, spec := lk [(12, (normal_s Go.Proofs.YtddmmjkhkoencaaDoor.vld Go.Proofs.YtddmmjkhkoencaaDoor.nrm)), (17, (format_s Go.Proofs.YtddmmjkhkoencaaDoor.vld Go.Proofs.YtddmmjkhkoencaaDoor.fmt)), (11, (addresses_s Go.Proofs.YtddmmjkhkoencaaDoor.vld Go.Proofs.YtddmmjkhkoencaaDoor.adr))], specH := lk [], shape := [49], nowf := true } { nt := 53, drop := drp [(1, 3968), (2, 126976), (3, 4063232), (4, 9007199250546688)], tys := [26] } (fun _ _ => none) 6 Tryd.f14 [] (.bool true)
set_option maxRecDepth 100000 in
theorem awake_e : awake_T = awake_S := by kernel_rfl
theorem awake_v : awake_S := @Eq.mp (awake_T) (awake_S) (awake_e) awake_P
theorem awake_ok : SOK Tryd.prog glb 14 awake_s := by
  refine ⟨fok Tryd.func14 (by kernel_rfl) (by kernel_rfl), ?_⟩
  intro xs pre r h hp
  unfold awake_s at h
  split at h
  · simp only [Option.some.injEq, Prod.mk.injEq] at h
    obtain ⟨h1, h2⟩ := h
    subst h1 h2
    exact fnK_sound (tyOf (by kernel_rfl)) (by exact specOK rfl rfl ⟨normal_ok, format_ok glb, addresses_ok, trivial⟩ trivial) (by kernel_rfl) Tryd.func14 rfl (awake_v  )
  · cases h
end Go.Proofs.YtddmmjkhkoencaaDoor
