/- ScoreTables: for every input the law ScoreTables returns true, and its arguments read afterwards as before. No condition. -/
import Derived.Test.YtjllgdpnbllnjaaScK
import Derived.Test.YtjllgdpnbllnjaaAgg
namespace Go.Proofs.Ytjllgdpnbllnjaa.scoreTables
open Go.Joins Go.ChangeShapes Go.WideShapes Go.ChangeAt Go.RowKit
open Go.ChangeMaps (open_string)
set_option linter.unusedVariables false

theorem walk (x0_0 x0_1 x0_2 x0_3 : Int) (w : World) (wx0_0 : (Lit.int .i64 x0_0).wf = true) (wx0_1 : (Lit.int .i64 x0_1).wf = true) (wx0_2 : (Lit.int .i64 x0_2).wf = true) (wx0_3 : (Lit.int .i64 x0_3).wf = true) :
    Calls Try.prog 3 #[.agg #[.int .i64 x0_0, .int .i64 x0_1, .int .i64 x0_2, .int .i64 x0_3]] w fun e w' => e = .returned (.bool true) ∧ Below w.heap.size w w' := tables_wf x0_0 x0_1 x0_2 x0_3 w wx0_0 wx0_1 wx0_2 wx0_3

set_option maxRecDepth 100000 in
theorem lifted (os : Os) (started : os.Started) (H : Type) (enc : TypeId × Value → H) :
    ReturnsInHanded {} Try.checked os 3 .any (Rows.scoreTablesSpec.pre6 enc Try.prog Try.f3 Rows.scoreTablesRow.domain false) (Rows.scoreTablesSpec.post enc Try.prog Try.f3 false true false false) := by
  refine returnsInHanded_of_change (C := Try.checked) own started (by kernel_rfl) Try.func3
    (ChangeSpec.witness6 (enc := enc) (C := Try.checked) false ⟨#[], #[.agg #[.int .i64 0, .int .i64 0, .int .i64 0, .int .i64 0]], []⟩ 8 (by kernel_rfl) (by kernel_rfl) (by kernel_rfl) (by kernel_rfl)) ?_
  intro W base args ds gs before hval0 hW hcnd _
  have hval : ∀ (j : Nat) t v, Try.f3.params[j]? = some t → args[j]? = some v → Value.okWide Try.prog W .any base t v := hval0
  have hW' := hW
  obtain ⟨p, q, hA0, hV, rfl, hfz, hnd⟩ := hW
  have hA : DataW.TrodAll enc Try.prog W 0 (fun _ => true) true Try.f3.params.toList args.toList ds p := hA0
  rw [Try.params3] at hA hval
  obtain ⟨v0, vs0, d0, ds0, p0, q0, hargs, rfl, rfl, h0, r0⟩ := trodAll_cons hA
  obtain ⟨rfl, rfl, rfl⟩ := trodAll_nil r0
  obtain rfl : args = #[v0] := by cases args; simp_all
  obtain ⟨rfl, rfl⟩ := trodVars_none hV
  have k0 := h0
  have lt0 : ∀ x ∈ p0, x.block < W.heap.size := by obtain ⟨m, hm⟩ := k0; exact DataW.trod_lt m _ _ _ hm
  obtain ⟨zs0, rfl, hl0, hw0⟩ := agg_ints Try.underlying23 (by kernel_rfl) (by kernel_rfl) (by kernel_rfl) (hval 0 23 v0 rfl rfl) h0
  obtain ⟨x0_0, x0_1, x0_2, x0_3, rfl⟩ := len4 hl0
  have wx0_0 := hw0 x0_0 (by simp)
  have wx0_1 := hw0 x0_1 (by simp)
  have wx0_2 := hw0 x0_2 (by simp)
  have wx0_3 := hw0 x0_3 (by simp)
  clear hA0 hval0
  refine (walk x0_0 x0_1 x0_2 x0_3 W wx0_0 wx0_1 wx0_2 wx0_3).mono fun e W' ⟨he, bel⟩ => ?_
  subst he
  exact ⟨_, rfl, _, _, _, [], _, [], hW', trodAll_mk1 (shut_bool Try.underlying4 _), (trodAll_cons_mk (Below.trod laidOut (by kernel_rfl) (of_decide_eq_true (by kernel_rfl)) k0 bel lt0) trodAll_mk0), rfl, bel.frame _, fun h => by cases h⟩

theorem proved : Rows.ScoreTablesSaid :=
  OpenClaim.holds_of_wide 3 Try.f3 rfl rfl rfl rfl rfl rfl rfl ⟨rfl, rfl, rfl, rfl, rfl⟩ rfl rfl rfl rfl rfl (by kernel_rfl) Try.func3 (by kernel_rfl)
    (of_decide_eq_true (by kernel_rfl)) (by unfold Func.isWrapper; first | (rw [if_pos (by decide +kernel)]; kernel_rfl) | (rw [if_neg (by decide +kernel)]; exact ⟨rfl, rfl⟩))
    (fun os started H enc _ => lifted os started H enc)
#print axioms proved
end Go.Proofs.Ytjllgdpnbllnjaa.scoreTables
