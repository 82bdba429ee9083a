/- BitsAnswers: for every input the law returns true, and its arguments read afterwards as before. No condition. -/
import Derived.Test.YtkbfldgebcpigaaBtN
import Derived.Test.YtkbfldgebcpigaaVz
import Derived.Test.YtkbfldgebcpigaaRows
namespace Go.Proofs.Ytkbfldgebcpigaa.bitsAnswers
open Go.ChangeShapes Go.WideShapes Go.ChangeAt Go.RowKit
set_option linter.unusedVariables false
set_option linter.unusedSimpArgs false

theorem own : ownKnob Try.prog.godebug = none := by kernel_rfl
theorem laidOut : laidOutB Try.prog = true := by kernel_rfl
set_option maxRecDepth 100000 in
theorem law : ShAll Try.prog [28, 22, 3, 3, 3] fun xs => PureC Try.prog (fun _ => none) 7 xs (.bool true) := by
  intro cs0 g0
  have e0 : Sh Try.prog 50 28 cs0 = (∃ ys2 zs2, (∃ xs3 : List (List AV), xs3.length ≤ 9223372036854775807 ∧ (∀ x3 ∈ xs3, ∃ z4, rng .u8 z4 ∧ x3 = [.int .u8 z4]) ∧ ys2 = [.sl 1 false xs3]) ∧ (∃ ys5 zs5, (∃ z6, rng .i64 z6 ∧ ys5 = [.int .i64 z6]) ∧ (zs5 = []) ∧ zs2 = ys5 ++ zs5) ∧ cs0 = ys2 ++ zs2) := by kernel_rfl
  rw [e0] at g0
  obtain ⟨_, _, ⟨a0_0, h0_0L, h0_0, rfl⟩, ⟨_, _, ⟨a0_1, h0_1, rfl⟩, rfl, rfl⟩, rfl⟩ := g0
  intro cs1 g1
  have e1 : Sh Try.prog 50 22 cs1 = (∃ xs1 : List (List AV), xs1.length ≤ 9223372036854775807 ∧ (∀ x1 ∈ xs1, ∃ z2, rng .i64 z2 ∧ x1 = [.int .i64 z2]) ∧ cs1 = [.sl 1 false xs1]) := by kernel_rfl
  rw [e1] at g1
  obtain ⟨a1, h1L, h1, rfl⟩ := g1
  intro cs2 g2
  have e2 : Sh Try.prog 50 3 cs2 = (∃ z1, rng .i64 z1 ∧ cs2 = [.int .i64 z1]) := by kernel_rfl
  rw [e2] at g2
  obtain ⟨a2, h2, rfl⟩ := g2
  intro cs3 g3
  have e3 : Sh Try.prog 50 3 cs3 = (∃ z1, rng .i64 z1 ∧ cs3 = [.int .i64 z1]) := by kernel_rfl
  rw [e3] at g3
  obtain ⟨a3, h3, rfl⟩ := g3
  intro cs4 g4
  have e4 : Sh Try.prog 50 3 cs4 = (∃ z1, rng .i64 z1 ∧ cs4 = [.int .i64 z1]) := by kernel_rfl
  rw [e4] at g4
  obtain ⟨a4, h4, rfl⟩ := g4
  have m0 : mkA Try.prog 28 (([.sl 1 false a0_0] ++ ([.int .i64 a0_1] ++ []))) = .agg [.sl 1 false a0_0, .int .i64 a0_1] := by kernel_rfl
  have m1 : mkA Try.prog 22 ([.sl 1 false a1]) = .sl 1 false a1 := by kernel_rfl
  have m2 : mkA Try.prog 3 ([.int .i64 a2]) = .int .i64 a2 := by kernel_rfl
  have m3 : mkA Try.prog 3 ([.int .i64 a3]) = .int .i64 a3 := by kernel_rfl
  have m4 : mkA Try.prog 3 ([.int .i64 a4]) = .int .i64 a4 := by kernel_rfl
  show PureC Try.prog (fun _ => none) 7 [mkA Try.prog 28 _, mkA Try.prog 22 _, mkA Try.prog 3 _, mkA Try.prog 3 _, mkA Try.prog 3 _] (.bool true)
  rw [m0, m1, m2, m3, m4]
  exact ((lansw_ok _).2 _ _ _ rfl ⟨intsA_of h1, byt_of h0_0L h0_0⟩)

set_option maxRecDepth 100000 in
theorem lifted (os : Os) (started : os.Started) (H : Type) (enc : TypeId × Value → H) :
    ReturnsInHanded {} Try.checked os 7 .any ((Rows.bitsAnswersSpec).pre6 enc Try.prog Try.f7 Rows.bitsAnswersRow.domain false) ((Rows.bitsAnswersSpec).post enc Try.prog Try.f7 false true false false) := by
  refine returnsInHanded_of_change (C := Try.checked) own started (by kernel_rfl) Try.func7
    (ChangeSpec.witness6 (enc := enc) (C := Try.checked) false ⟨#[], #[.agg #[.slice none 0 0, .int .i64 0], .slice none 0 0, .int .i64 0, .int .i64 0, .int .i64 0], []⟩ 8 (by kernel_rfl) (by kernel_rfl) (by kernel_rfl) (by kernel_rfl)) ?_
  intro W base args ds gs before hval0 hW _ _
  have hval : ∀ (j : Nat) t v, Try.f7.params[j]? = some t → args[j]? = some v → Value.okWide Try.prog W .any base t v := hval0
  have hW' := hW
  obtain ⟨p, q, hA0, hV, rfl, hfz, hnd⟩ := hW
  have hA : DataW.TrodAll enc Try.prog W 0 (fun _ => true) true Try.f7.params.toList args.toList ds p := hA0
  rw [Try.params7] at hA hval
  obtain ⟨rfl, rfl⟩ := trodVars_none hV
  have hA2 : DataW.TrodAll enc Try.prog W 0 (fun _ => true) true [28, 22, 3, 3, 3] args.toList ds p := hA
  have hL1 := hA2
  obtain ⟨v0, vs0, d0, ds0, p0, q0, hargs0, rfl, rfl, h0, r0⟩ := trodAll_cons hL1
  obtain ⟨v1, vs1, d1, ds1, p1, q1, hargs1, rfl, rfl, h1, r1⟩ := trodAll_cons r0
  obtain ⟨v2, vs2, d2, ds2, p2, q2, hargs2, rfl, rfl, h2, r2⟩ := trodAll_cons r1
  obtain ⟨v3, vs3, d3, ds3, p3, q3, hargs3, rfl, rfl, h3, r3⟩ := trodAll_cons r2
  obtain ⟨v4, vs4, d4, ds4, p4, q4, hargs4, rfl, rfl, h4, r4⟩ := trodAll_cons r3
  obtain ⟨hlast, rfl, rfl⟩ := trodAll_nil r4
  have hw := law_calls (gl := (fun _ => none)) (f := 7) (by kernel_rfl) (fun g cs h => by cases h) law hA2 (fun j t v ht hv => hval j t v (by simpa using ht) (by simpa using hv))
  refine hw.mono fun e W' ⟨he, bel⟩ => ?_
  subst he
  have stay := trodAll_stay laidOut bel _ _ _ _ (by kernel_rfl) hA2
  exact ⟨_, rfl, _, _, _, [], _, [], hW', trodAll_mk1 (shut_bool Try.underlying4 _), stay, rfl, bel.frame _, fun h => by cases h⟩

theorem proved : Rows.BitsAnswersSaid :=
  OpenClaim.holds_of_wide 7 Try.f7 rfl rfl rfl rfl rfl rfl rfl ⟨rfl, rfl, rfl, rfl, rfl⟩ rfl rfl rfl rfl rfl (by kernel_rfl) Try.func7 (by kernel_rfl)
    (of_decide_eq_true (by kernel_rfl)) (by unfold Func.isWrapper; first | (rw [if_pos (by decide +kernel)]; kernel_rfl) | (rw [if_neg (by decide +kernel)]; exact ⟨rfl, rfl⟩))
    (fun os started H enc _ => lifted os started H enc)
#print axioms proved
end Go.Proofs.Ytkbfldgebcpigaa.bitsAnswers
