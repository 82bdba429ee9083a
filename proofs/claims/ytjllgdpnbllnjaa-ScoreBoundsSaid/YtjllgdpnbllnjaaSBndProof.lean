/- ScoreBounds: for every input the law returns true, and its arguments read afterwards as before. No condition. -/
import Derived.Test.YtjllgdpnbllnjaaSvO
import Derived.Test.YtjllgdpnbllnjaaVz
import Derived.Test.YtjllgdpnbllnjaaRows
namespace Go.Proofs.Ytjllgdpnbllnjaa.scoreBounds
open Go.ChangeShapes Go.WideShapes Go.ChangeAt Go.RowKit
set_option linter.unusedVariables false
set_option linter.unusedSimpArgs false

theorem own : ownKnob Try.prog.godebug = none := by kernel_rfl
theorem laidOut : laidOutB Try.prog = true := by kernel_rfl
theorem law : ShAll Try.prog [33, 33, 5] fun xs => PureC Try.prog (fun _ => none) 8 xs (.bool true) := by
  intro cs0 g0
  have e0 : Sh Try.prog 50 33 cs0 = (∃ xs1 : List (List AV), xs1.length ≤ 9223372036854775807 ∧ (∀ x1 ∈ xs1, ∃ z2, rng .u8 z2 ∧ x1 = [.int .u8 z2]) ∧ cs0 = [.sl 1 false xs1]) := by kernel_rfl
  rw [e0] at g0
  obtain ⟨a0, h0L, h0, rfl⟩ := g0
  intro cs1 g1
  have e1 : Sh Try.prog 50 33 cs1 = (∃ xs1 : List (List AV), xs1.length ≤ 9223372036854775807 ∧ (∀ x1 ∈ xs1, ∃ z2, rng .u8 z2 ∧ x1 = [.int .u8 z2]) ∧ cs1 = [.sl 1 false xs1]) := by kernel_rfl
  rw [e1] at g1
  obtain ⟨a1, h1L, h1, rfl⟩ := g1
  intro cs2 g2
  have e2 : Sh Try.prog 50 5 cs2 = (∃ z1, rng .u8 z1 ∧ cs2 = [.int .u8 z1]) := by kernel_rfl
  rw [e2] at g2
  obtain ⟨a2, h2, rfl⟩ := g2
  have m0 : mkA Try.prog 33 ([.sl 1 false a0]) = .sl 1 false a0 := by kernel_rfl
  have m1 : mkA Try.prog 33 ([.sl 1 false a1]) = .sl 1 false a1 := by kernel_rfl
  have m2 : mkA Try.prog 5 ([.int .u8 a2]) = .int .u8 a2 := by kernel_rfl
  show PureC Try.prog (fun _ => none) 8 [mkA Try.prog 33 _, mkA Try.prog 33 _, mkA Try.prog 5 _] (.bool true)
  rw [m0, m1, m2]
  exact (bounds_law _ _ _ _ _ _ (bytA_of h0) (bytA_of h1))

set_option maxRecDepth 100000 in
theorem lifted (os : Os) (started : os.Started) (H : Type) (enc : TypeId × Value → H) :
    ReturnsInHanded {} Try.checked os 8 .any ((Rows.scoreBoundsSpec).pre6 enc Try.prog Try.f8 Rows.scoreBoundsRow.domain false) ((Rows.scoreBoundsSpec).post enc Try.prog Try.f8 false true false false) := by
  refine returnsInHanded_of_change (C := Try.checked) own started (by kernel_rfl) Try.func8
    (ChangeSpec.witness6 (enc := enc) (C := Try.checked) false ⟨#[], #[.slice none 0 0, .slice none 0 0, .int .u8 0], []⟩ 8 (by kernel_rfl) (by kernel_rfl) (by kernel_rfl) (by kernel_rfl)) ?_
  intro W base args ds gs before hval0 hW _ _
  have hval : ∀ (j : Nat) t v, Try.f8.params[j]? = some t → args[j]? = some v → Value.okWide Try.prog W .any base t v := hval0
  have hW' := hW
  obtain ⟨p, q, hA0, hV, rfl, hfz, hnd⟩ := hW
  have hA : DataW.TrodAll enc Try.prog W 0 (fun _ => true) true Try.f8.params.toList args.toList ds p := hA0
  rw [Try.params8] at hA hval
  obtain ⟨rfl, rfl⟩ := trodVars_none hV
  have hA2 : DataW.TrodAll enc Try.prog W 0 (fun _ => true) true [33, 33, 5] args.toList ds p := hA
  have hL1 := hA2
  obtain ⟨v0, vs0, d0, ds0, p0, q0, hargs0, rfl, rfl, h0, r0⟩ := trodAll_cons hL1
  obtain ⟨v1, vs1, d1, ds1, p1, q1, hargs1, rfl, rfl, h1, r1⟩ := trodAll_cons r0
  obtain ⟨v2, vs2, d2, ds2, p2, q2, hargs2, rfl, rfl, h2, r2⟩ := trodAll_cons r1
  obtain ⟨hlast, rfl, rfl⟩ := trodAll_nil r2
  have hw := law_calls (gl := (fun _ => none)) (f := 8) (by kernel_rfl) (fun g cs h => by cases h) law hA2 (fun j t v ht hv => hval j t v (by simpa using ht) (by simpa using hv))
  refine hw.mono fun e W' ⟨he, bel⟩ => ?_
  subst he
  have stay := trodAll_stay laidOut bel _ _ _ _ (by kernel_rfl) hA2
  exact ⟨_, rfl, _, _, _, [], _, [], hW', trodAll_mk1 (shut_bool Try.underlying4 _), stay, rfl, bel.frame _, fun h => by cases h⟩

theorem proved : Rows.ScoreBoundsSaid :=
  OpenClaim.holds_of_wide 8 Try.f8 rfl rfl rfl rfl rfl rfl rfl ⟨rfl, rfl, rfl, rfl, rfl⟩ rfl rfl rfl rfl rfl (by kernel_rfl) Try.func8 (by kernel_rfl)
    (of_decide_eq_true (by kernel_rfl)) (by unfold Func.isWrapper; first | (rw [if_pos (by decide +kernel)]; kernel_rfl) | (rw [if_neg (by decide +kernel)]; exact ⟨rfl, rfl⟩))
    (fun os started H enc _ => lifted os started H enc)
#print axioms proved
end Go.Proofs.Ytjllgdpnbllnjaa.scoreBounds
