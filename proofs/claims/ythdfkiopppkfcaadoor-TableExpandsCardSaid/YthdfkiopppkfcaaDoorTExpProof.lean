/- TableExpands: for every input the law returns true, and its arguments read afterwards as before. The package variables that the row lists are tied to the program's text by the given tie. -/
import Derived.Test.YthdfkiopppkfcaaDoorTbH
import Derived.Test.YthdfkiopppkfcaaDoorW1
import Derived.Test.YthdfkiopppkfcaaDoorCards
import Derived.Test.YthdfkiopppkfcaaDoorTie
import Derived.Stop.Joined
namespace Go.Proofs.YthdfkiopppkfcaaDoor.tableExpands
open Go.ChangeShapes Go.WideShapes Go.ChangeAt Go.RowKit
set_option linter.unusedVariables false
set_option linter.unusedSimpArgs false

theorem own : ownKnob Tryd.prog.godebug = none := by kernel_rfl
theorem laidOut : laidOutB Tryd.prog = true := by kernel_rfl
set_option maxRecDepth 100000 in
theorem law : ShAllB Tryd.prog [30, 24, 24, 3] fun xs => PureC Tryd.prog glb 7 xs (.bool true) := by
  intro cs0 g0
  have e0 : ShB Tryd.prog 50 30 cs0 = (∃ ys2 zs2, (∃ z3, rng .i64 z3 ∧ ys2 = [.int .i64 z3]) ∧ (∃ ys4 zs4, (∃ xs5 : List (List AV), xs5.length ≤ 140737488355328 ∧ (∀ x5 ∈ xs5, ∃ ys7 zs7, (∃ z8, rng .i64 z8 ∧ ys7 = [.int .i64 z8]) ∧ (∃ ys9 zs9, (∃ z10, rng .i64 z10 ∧ ys9 = [.int .i64 z10]) ∧ (∃ ys11 zs11, (∃ z12, rng .i64 z12 ∧ ys11 = [.int .i64 z12]) ∧ (∃ ys13 zs13, (∃ z14, rng .i64 z14 ∧ ys13 = [.int .i64 z14]) ∧ (∃ ys15 zs15, (∃ z16, rng .i64 z16 ∧ ys15 = [.int .i64 z16]) ∧ (zs15 = []) ∧ zs13 = ys15 ++ zs15) ∧ zs11 = ys13 ++ zs13) ∧ zs9 = ys11 ++ zs11) ∧ zs7 = ys9 ++ zs9) ∧ x5 = ys7 ++ zs7) ∧ ys4 = [.sl 5 false xs5]) ∧ (∃ ys18 zs18, (∃ xs19 : List (List AV), xs19.length ≤ 140737488355328 ∧ (∀ x19 ∈ xs19, ∃ ys21 zs21, (∃ z22, rng .i64 z22 ∧ ys21 = [.int .i64 z22]) ∧ (∃ ys23 zs23, (∃ xs24 : List (List AV), xs24.length ≤ 140737488355328 ∧ (∀ x24 ∈ xs24, ∃ z25, rng .i64 z25 ∧ x24 = [.int .i64 z25]) ∧ ys23 = [.sl 1 false xs24]) ∧ (zs23 = []) ∧ zs21 = ys23 ++ zs23) ∧ x19 = ys21 ++ zs21) ∧ ys18 = [.sl 2 false xs19]) ∧ (zs18 = []) ∧ zs4 = ys18 ++ zs18) ∧ zs2 = ys4 ++ zs4) ∧ cs0 = ys2 ++ zs2) := by kernel_rfl
  rw [e0] at g0
  obtain ⟨_, _, ⟨a0_0, h0_0, rfl⟩, ⟨_, _, ⟨a0_1, h0_1L, h0_1, rfl⟩, ⟨_, _, ⟨a0_2, h0_2L, h0_2, rfl⟩, rfl, rfl⟩, rfl⟩, rfl⟩ := g0
  intro cs1 g1
  have e1 : ShB Tryd.prog 50 24 cs1 = (∃ xs1 : List (List AV), xs1.length ≤ 140737488355328 ∧ (∀ x1 ∈ xs1, ∃ z2, rng .i64 z2 ∧ x1 = [.int .i64 z2]) ∧ cs1 = [.sl 1 false xs1]) := by kernel_rfl
  rw [e1] at g1
  obtain ⟨a1, h1L, h1, rfl⟩ := g1
  intro cs2 g2
  have e2 : ShB Tryd.prog 50 24 cs2 = (∃ xs1 : List (List AV), xs1.length ≤ 140737488355328 ∧ (∀ x1 ∈ xs1, ∃ z2, rng .i64 z2 ∧ x1 = [.int .i64 z2]) ∧ cs2 = [.sl 1 false xs1]) := by kernel_rfl
  rw [e2] at g2
  obtain ⟨a2, h2L, h2, rfl⟩ := g2
  intro cs3 g3
  have e3 : ShB Tryd.prog 50 3 cs3 = (∃ z1, rng .i64 z1 ∧ cs3 = [.int .i64 z1]) := by kernel_rfl
  rw [e3] at g3
  obtain ⟨a3, h3, rfl⟩ := g3
  have m0 : mkA Tryd.prog 30 (([.int .i64 a0_0] ++ ([.sl 5 false a0_1] ++ ([.sl 2 false a0_2] ++ [])))) = .agg [.int .i64 a0_0, .sl 5 false a0_1, .sl 2 false a0_2] := by kernel_rfl
  have m1 : mkA Tryd.prog 24 ([.sl 1 false a1]) = .sl 1 false a1 := by kernel_rfl
  have m2 : mkA Tryd.prog 24 ([.sl 1 false a2]) = .sl 1 false a2 := by kernel_rfl
  have m3 : mkA Tryd.prog 3 ([.int .i64 a3]) = .int .i64 a3 := by kernel_rfl
  show PureC Tryd.prog glb 7 [mkA Tryd.prog 30 _, mkA Tryd.prog 24 _, mkA Tryd.prog 24 _, mkA Tryd.prog 3 _] (.bool true)
  rw [m0, m1, m2, m3]
  exact ((lexp_ok).2 _ _ _ rfl (expP_of h0_0 h0_1L h0_1 h0_2L h0_2 h1L h1 h2 h3))

def laidL : List (String × DataW Unit) := [("synoptic/element.bounds", Rows.laid_synoptic_element_bounds)]
theorem door_met (os : Os) (args : Array Value) : laidMetH Tryd.prog laidL ((World.doorLaid Tryd.prog 400 os).forCall (fun _ _ => 0) ⟨#[], args, []⟩).memory :=
  laidMetH_of_parts3 (fuel := 8) (laidMet_of_run' 8 (by kernel_rfl) (by kernel_rfl)) (by kernel_rfl) (by kernel_rfl)
theorem of_laid {W : World} (h : laidMetH Tryd.prog laidL W) : GOKg glb (pinAll W) := by
  rw [MakeChecks.laidMetH_plain _ _ _ (by kernel_rfl)] at h
  obtain ⟨ps, ⟨g0, t0, cs0, f0, p0, q0, hg0, ht0, hv0, hd0, _, _⟩, _, _⟩ := h
  obtain rfl := Option.some.inj ((show Tryd.prog.globalNamed "synoptic/element.bounds" = some 0 by kernel_rfl).symm.trans hg0)
  obtain rfl := Option.some.inj ((show (Tryd.prog.globals[0]?).map (·.type) = some 99 by kernel_rfl).symm.trans ht0)
  have c0 := glob_cells (fun i => World.var?_cell hg0 hv0 i) (flat_of_trod (S := pinAll W) 20 99 _ _ _ (by kernel_rfl) hd0) (by kernel_rfl)
  intro g cs hcs
  unfold glb at hcs
  by_cases k0 : g = 0
  · subst k0
    have e : cs = flatD (H := Unit) Rows.laid_synoptic_element_bounds := by
      have : some cs = some (flatD (H := Unit) Rows.laid_synoptic_element_bounds) := hcs.symm.trans (by kernel_rfl)
      exact Option.some.inj this
    rw [e]; exact c0
  all_goals (simp [nbeq_ne k0] at hcs)

set_option maxRecDepth 100000 in
theorem lifted (os : Os) (started : os.Started) (H : Type) (enc : TypeId × Value → H) :
    ReturnsInHanded {} Tryd.checked os 7 .any (fun w args => ((Rows.tableExpandsSpec).pre enc Tryd.prog Tryd.f7 [] false w args ∧ laidMetH Tryd.prog laidL w) ∧ sizedMet enc Tryd.prog Tryd.f7 (OpenSpec.ofChange Rows.tableExpandsSpec) false w args)
      ((Rows.tableExpandsSpec).post enc Tryd.prog Tryd.f7 false true false false) := by
  refine returnsInHanded_of_change_and (C := Tryd.checked) (X := fun w _ => laidMetH Tryd.prog laidL w) (fun _ _ _ hh h => h.of_heap hh) own started (by kernel_rfl) Tryd.func7
    (ChangeSpec.witness_shaped (enc := enc) (C := Tryd.checked) (os := os) (X := fun w _ => laidMetH Tryd.prog laidL w) false (World.doorLaid Tryd.prog 400 os) #[.agg #[.int .i64 0, .slice none 0 0, .slice none 0 0], .slice none 0 0, .slice none 0 0, .int .i64 0] 8 rfl (World.shaped_of_RefB (by kernel_rfl) (by kernel_rfl)) (by kernel_rfl) (by kernel_rfl) (by kernel_rfl) (door_met os _)) ?_
  intro W base args ds gs before hval0 hW _ hz hL _
  have hval : ∀ (j : Nat) t v, Tryd.f7.params[j]? = some t → args[j]? = some v → Value.okWide Tryd.prog W .any base t v := hval0
  have hW' := hW
  obtain ⟨p, q, hA0, hV, rfl, hfz, hnd⟩ := hW
  have hA : DataW.TrodAll enc Tryd.prog W 0 (fun _ => true) true Tryd.f7.params.toList args.toList ds p := hA0
  rw [Tryd.params7] at hA hval hz
  obtain ⟨rfl, rfl⟩ := trodVars_none hV
  have hA2 : DataW.TrodAll enc Tryd.prog W 0 (fun _ => true) true [30, 24, 24, 3] args.toList ds p := hA
  have hL1 := hA2
  have hw0 : ∀ k ∈ DataW.weightsEach Tryd.prog [30, 24, 24, 3] ds, k ≤ reachBytes := fun k hk => by
    have := List.all_eq_true.1 hz k (wE_app hk)
    simpa using this
  obtain ⟨v0, vs0, d0, ds0, p0, q0, hargs0, rfl, rfl, h0, r0⟩ := trodAll_cons hL1
  obtain ⟨v1, vs1, d1, ds1, p1, q1, hargs1, rfl, rfl, h1, r1⟩ := trodAll_cons r0
  obtain ⟨v2, vs2, d2, ds2, p2, q2, hargs2, rfl, rfl, h2, r2⟩ := trodAll_cons r1
  obtain ⟨v3, vs3, d3, ds3, p3, q3, hargs3, rfl, rfl, h3, r3⟩ := trodAll_cons r2
  obtain ⟨hlast, rfl, rfl⟩ := trodAll_nil r3
  have hw := law_callsB (gl := glb) (f := 7) (by kernel_rfl) hw0 (of_laid hL) law hA2 (fun j t v ht hv => hval j t v (by simpa using ht) (by simpa using hv))
  refine hw.mono fun e W' ⟨he, bel⟩ => ?_
  subst he
  have stay := trodAll_stay laidOut bel _ _ _ _ (by kernel_rfl) hA2
  exact ⟨_, rfl, _, _, _, [], _, [], hW', trodAll_mk1 (shut_bool Tryd.underlying4 _), stay, rfl, bel.frame _, fun h => by cases h⟩

theorem row_holds : Rows.TableExpandsSaid :=
  OpenClaim.holds_of_wide 7 Tryd.f7 rfl rfl rfl rfl rfl rfl rfl ⟨rfl, rfl, rfl, rfl, rfl⟩ rfl rfl rfl rfl rfl (by kernel_rfl) Tryd.func7 (by kernel_rfl)
    (of_decide_eq_true (by kernel_rfl)) (by unfold Func.isWrapper; first | (rw [if_pos (by decide +kernel)]; kernel_rfl) | (rw [if_neg (by decide +kernel)]; exact ⟨rfl, rfl⟩))
    (fun os started H enc _ => lifted os started H enc)
theorem proved : Rows.TableExpandsCardSaid :=
  Claim7.holds_tied_plain_at .later [] [.data] true (true, "94063ac6e77091e4154eeea84c6c89d25ff870a1438f388d021ecedf7ce431df") false
    row_holds (fun _ h => by cases h) (by kernel_rfl) (fun _ h => by cases h) tableExpands_row_tie rfl ⟨rfl, rfl⟩ (by kernel_rfl) rfl
    (fun f fn hf hfn => by
      obtain rfl : f = 7 := Option.some.inj ((show Tryd.prog.funcNamed "synoptic/synopticlaw08.TableExpands" = some 7 by kernel_rfl).symm.trans hf) |>.symm
      obtain rfl : fn = Tryd.f7 := (Option.some.inj (Tryd.func7.symm.trans hfn)).symm
      exact ⟨by kernel_rfl, fun j t ht => by
        rw [Tryd.params7] at ht
        have hm : t ∈ [30, 24, 24, 3] := by simpa using Array.mem_of_getElem? ht
        have hall : ([30, 24, 24, 3].all fun u => !Tryd.prog.wantsStandIn u) = true := by kernel_rfl
        exact (show Tryd.prog.wantsStandIn t = false by simpa using List.all_eq_true.1 hall t hm)⟩)
    (by kernel_rfl)
#print axioms proved
end Go.Proofs.YthdfkiopppkfcaaDoor.tableExpands
