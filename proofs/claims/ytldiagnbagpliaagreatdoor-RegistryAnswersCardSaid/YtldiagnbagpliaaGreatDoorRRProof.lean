import Derived.Test.YtldiagnbagpliaaGreatDoorRRh
import Derived.Test.YtldiagnbagpliaaGreatDoorCards
import Derived.Test.YtldiagnbagpliaaGreatDoorTie
import Derived.Stop.Joined
namespace Go.Proofs.YtldiagnbagpliaaGreatDoor.registryAnswers
open Go.ChangeShapes Go.WideShapes Go.ChangeAt Go.RowKit
set_option linter.unusedVariables false
set_option linter.unusedSimpArgs false
theorem own : ownKnob Tryz.prog.godebug = none := by kernel_rfl
theorem laidOut : laidOutB Tryz.prog = true := by kernel_rfl
set_option maxRecDepth 100000 in
theorem law : ShAllB Tryz.prog [24, 49, 30, 3, 3, 9] fun xs => PureC Tryz.prog glb 6 xs (.bool true) := by
  intro cs0 g0
  have e0 : ShB Tryz.prog 50 24 cs0 = (∃ ys2 zs2, (∃ xs3 : List (List AV), xs3.length ≤ 140737488355328 ∧ (∀ x3 ∈ xs3, ∃ ys5 zs5, (∃ z6, rng .i64 z6 ∧ ys5 = [.int .i64 z6]) ∧ (∃ ys7 zs7, (∃ s8 : ByteArray, s8.size ≤ 140737488355328 ∧ ys7 = [.str s8]) ∧ (∃ ys9 zs9, (∃ xs10 : List (List AV), xs10.length ≤ 140737488355328 ∧ (∀ x10 ∈ xs10, ∃ ys12 zs12, (∃ z13, rng .i64 z13 ∧ ys12 = [.int .i64 z13]) ∧ (∃ ys14 zs14, (∃ b15, ys14 = [.bool b15]) ∧ (∃ ys16 zs16, (∃ ys18 zs18, (∃ z19, rng .i64 z19 ∧ ys18 = [.int .i64 z19]) ∧ (∃ ys20 zs20, (∃ z21, rng .i64 z21 ∧ ys20 = [.int .i64 z21]) ∧ (∃ ys22 zs22, (∃ z23, rng .i64 z23 ∧ ys22 = [.int .i64 z23]) ∧ (∃ ys24 zs24, (∃ z25, rng .i64 z25 ∧ ys24 = [.int .i64 z25]) ∧ (zs24 = []) ∧ zs22 = ys24 ++ zs24) ∧ zs20 = ys22 ++ zs22) ∧ zs18 = ys20 ++ zs20) ∧ ys16 = ys18 ++ zs18) ∧ (∃ ys27 zs27, (∃ xs28 : List (List AV), xs28.length ≤ 140737488355328 ∧ (∀ x28 ∈ xs28, ∃ ys30 zs30, (∃ z31, rng .i64 z31 ∧ ys30 = [.int .i64 z31]) ∧ (∃ ys32 zs32, (∃ z33, rng .i64 z33 ∧ ys32 = [.int .i64 z33]) ∧ (zs32 = []) ∧ zs30 = ys32 ++ zs32) ∧ x28 = ys30 ++ zs30) ∧ ys27 = [.sl 2 false xs28]) ∧ (zs27 = []) ∧ zs16 = ys27 ++ zs27) ∧ zs14 = ys16 ++ zs16) ∧ zs12 = ys14 ++ zs14) ∧ x10 = ys12 ++ zs12) ∧ ys9 = [.sl 7 false xs10]) ∧ (zs9 = []) ∧ zs7 = ys9 ++ zs9) ∧ zs5 = ys7 ++ zs7) ∧ x3 = ys5 ++ zs5) ∧ ys2 = [.sl 3 false xs3]) ∧ (zs2 = []) ∧ cs0 = ys2 ++ zs2) := by kernel_rfl
  rw [e0] at g0
  obtain ⟨_, _, ⟨a0_0, h0_0L, h0_0, rfl⟩, rfl, rfl⟩ := g0
  intro cs1 g1
  have e1 : ShB Tryz.prog 50 49 cs1 = (∃ ys2 zs2, (∃ z3, rng .i64 z3 ∧ ys2 = [.int .i64 z3]) ∧ (∃ ys4 zs4, (∃ b5, ys4 = [.bool b5]) ∧ (∃ ys6 zs6, (∃ ys8 zs8, (∃ z9, rng .i64 z9 ∧ ys8 = [.int .i64 z9]) ∧ (∃ ys10 zs10, (∃ z11, rng .i64 z11 ∧ ys10 = [.int .i64 z11]) ∧ (∃ ys12 zs12, (∃ z13, rng .i64 z13 ∧ ys12 = [.int .i64 z13]) ∧ (∃ ys14 zs14, (∃ z15, rng .i64 z15 ∧ ys14 = [.int .i64 z15]) ∧ (zs14 = []) ∧ zs12 = ys14 ++ zs14) ∧ zs10 = ys12 ++ zs12) ∧ zs8 = ys10 ++ zs10) ∧ ys6 = ys8 ++ zs8) ∧ (∃ ys17 zs17, (∃ xs18 : List (List AV), xs18.length ≤ 140737488355328 ∧ (∀ x18 ∈ xs18, ∃ ys20 zs20, (∃ z21, rng .i64 z21 ∧ ys20 = [.int .i64 z21]) ∧ (∃ ys22 zs22, (∃ z23, rng .i64 z23 ∧ ys22 = [.int .i64 z23]) ∧ (zs22 = []) ∧ zs20 = ys22 ++ zs22) ∧ x18 = ys20 ++ zs20) ∧ ys17 = [.sl 2 false xs18]) ∧ (zs17 = []) ∧ zs6 = ys17 ++ zs17) ∧ zs4 = ys6 ++ zs6) ∧ zs2 = ys4 ++ zs4) ∧ cs1 = ys2 ++ zs2) := by kernel_rfl
  rw [e1] at g1
  obtain ⟨_, _, ⟨a1_0, h1_0, rfl⟩, ⟨_, _, ⟨a1_1, rfl⟩, ⟨_, _, ⟨_, _, ⟨a1_2_0, h1_2_0, rfl⟩, ⟨_, _, ⟨a1_2_1, h1_2_1, rfl⟩, ⟨_, _, ⟨a1_2_2, h1_2_2, rfl⟩, ⟨_, _, ⟨a1_2_3, h1_2_3, rfl⟩, rfl, rfl⟩, rfl⟩, rfl⟩, rfl⟩, ⟨_, _, ⟨a1_3, h1_3L, h1_3, rfl⟩, rfl, rfl⟩, rfl⟩, rfl⟩, rfl⟩ := g1
  intro cs2 g2
  have e2 : ShB Tryz.prog 50 30 cs2 = (∃ xs1 : List (List AV), xs1.length ≤ 140737488355328 ∧ (∀ x1 ∈ xs1, ∃ z2, rng .i64 z2 ∧ x1 = [.int .i64 z2]) ∧ cs2 = [.sl 1 false xs1]) := by kernel_rfl
  rw [e2] at g2
  obtain ⟨a2, h2L, h2, rfl⟩ := g2
  intro cs3 g3
  have e3 : ShB Tryz.prog 50 3 cs3 = (∃ z1, rng .i64 z1 ∧ cs3 = [.int .i64 z1]) := by kernel_rfl
  rw [e3] at g3
  obtain ⟨a3, h3, rfl⟩ := g3
  intro cs4 g4
  have e4 : ShB Tryz.prog 50 3 cs4 = (∃ z1, rng .i64 z1 ∧ cs4 = [.int .i64 z1]) := by kernel_rfl
  rw [e4] at g4
  obtain ⟨a4, h4, rfl⟩ := g4
  intro cs5 g5
  have e5 : ShB Tryz.prog 50 9 cs5 = (∃ s1 : ByteArray, s1.size ≤ 140737488355328 ∧ cs5 = [.str s1]) := by kernel_rfl
  rw [e5] at g5
  obtain ⟨a5, h5, rfl⟩ := g5
  have m0 : mkA Tryz.prog 24 (([.sl 3 false a0_0] ++ [])) = .agg [.sl 3 false a0_0] := by kernel_rfl
  have m1 : mkA Tryz.prog 49 (([.int .i64 a1_0] ++ ([.bool a1_1] ++ (([.int .i64 a1_2_0] ++ ([.int .i64 a1_2_1] ++ ([.int .i64 a1_2_2] ++ ([.int .i64 a1_2_3] ++ [])))) ++ ([.sl 2 false a1_3] ++ []))))) = .agg [.int .i64 a1_0, .bool a1_1, .int .i64 a1_2_0, .int .i64 a1_2_1, .int .i64 a1_2_2, .int .i64 a1_2_3, .sl 2 false a1_3] := by kernel_rfl
  have m2 : mkA Tryz.prog 30 ([.sl 1 false a2]) = .sl 1 false a2 := by kernel_rfl
  have m3 : mkA Tryz.prog 3 ([.int .i64 a3]) = .int .i64 a3 := by kernel_rfl
  have m4 : mkA Tryz.prog 3 ([.int .i64 a4]) = .int .i64 a4 := by kernel_rfl
  have m5 : mkA Tryz.prog 9 ([.str a5]) = .str a5 := by kernel_rfl
  show PureC Tryz.prog glb 6 [mkA Tryz.prog 24 _, mkA Tryz.prog 49 _, mkA Tryz.prog 30 _, mkA Tryz.prog 3 _, mkA Tryz.prog 3 _, mkA Tryz.prog 9 _] (.bool true)
  rw [m0, m1, m2, m3, m4, m5]
  exact (lanswersR_ok.2 _ _ _ rfl ⟨stsa_of h0_0L h0_0, rda_of h1_3L h1_3, intsA_of h2⟩)
def laidL : List (String × DataW Unit) := [("synoptic/place.corners", Rows.laid_synoptic_place_corners), ("synoptic/element.bounds", Rows.laid_synoptic_element_bounds)]
theorem door_met (os : Os) (args : Array Value) : laidMetH Tryz.prog laidL ((World.doorLaid Tryz.prog 400 os).forCall (fun _ _ => 0) ⟨#[], args, []⟩).memory :=
  laidMetH_of_parts3 (fuel := 8) (laidMet_of_run' 8 (by kernel_rfl) (by kernel_rfl)) (by kernel_rfl) (by kernel_rfl)
theorem of_laid {W : World} (h : laidMetH Tryz.prog laidL W) : GOKg glb (pinAll W) := by
  rw [MakeChecks.laidMetH_plain _ _ _ (by kernel_rfl)] at h
  obtain ⟨ps, ⟨g0, t0, cs0, f0, p0, q0, hg0, ht0, hv0, hd0, ⟨g1, t1, cs1, f1, p1, q1, hg1, ht1, hv1, hd1, _, _⟩, _⟩, _, _⟩ := h
  obtain rfl := Option.some.inj ((show Tryz.prog.globalNamed "synoptic/place.corners" = some 1 by kernel_rfl).symm.trans hg0)
  obtain rfl := Option.some.inj ((show (Tryz.prog.globals[1]?).map (·.type) = some 159 by kernel_rfl).symm.trans ht0)
  have c0 := glob_cells (fun i => World.var?_cell hg0 hv0 i) (flat_of_trod (S := pinAll W) 20 159 _ _ _ (by kernel_rfl) hd0) (by kernel_rfl)
  obtain rfl := Option.some.inj ((show Tryz.prog.globalNamed "synoptic/element.bounds" = some 0 by kernel_rfl).symm.trans hg1)
  obtain rfl := Option.some.inj ((show (Tryz.prog.globals[0]?).map (·.type) = some 154 by kernel_rfl).symm.trans ht1)
  have c1 := glob_cells (fun i => World.var?_cell hg1 hv1 i) (flat_of_trod (S := pinAll W) 20 154 _ _ _ (by kernel_rfl) hd1) (by kernel_rfl)
  intro g cs hcs
  unfold glb at hcs
  by_cases k0 : g = 1
  · subst k0
    have e : cs = flatD (H := Unit) Rows.laid_synoptic_place_corners := by
      have : some cs = some (flatD (H := Unit) Rows.laid_synoptic_place_corners) := hcs.symm.trans (by kernel_rfl)
      exact Option.some.inj this
    rw [e]; exact c0
  by_cases k1 : g = 0
  · subst k1
    have e : cs = flatD (H := Unit) Rows.laid_synoptic_element_bounds := by
      have : some cs = some (flatD (H := Unit) Rows.laid_synoptic_element_bounds) := hcs.symm.trans (by kernel_rfl)
      exact Option.some.inj this
    rw [e]; exact c1
  all_goals (simp [nbeq_ne k0, nbeq_ne k1] at hcs)
set_option maxRecDepth 100000 in
theorem lifted (os : Os) (started : os.Started) (H : Type) (enc : TypeId × Value → H) :
    ReturnsInHanded {} Tryz.checked os 6 .any (fun w args => ((Rows.registryAnswersSpec).pre enc Tryz.prog Tryz.f6 [] false w args ∧ laidMetH Tryz.prog laidL w) ∧ sizedMet enc Tryz.prog Tryz.f6 (OpenSpec.ofChange Rows.registryAnswersSpec) false w args)
      ((Rows.registryAnswersSpec).post enc Tryz.prog Tryz.f6 false true false false) := by
  refine returnsInHanded_of_change_and (C := Tryz.checked) (X := fun w _ => laidMetH Tryz.prog laidL w) (fun _ _ _ hh h => h.of_heap hh) own started (by kernel_rfl) Tryz.func6
    (ChangeSpec.witness_shaped (enc := enc) (C := Tryz.checked) (os := os) (X := fun w _ => laidMetH Tryz.prog laidL w) false (World.doorLaid Tryz.prog 400 os) #[.agg #[.slice none 0 0], .agg #[.int .i64 0, .bool false, .int .i64 0, .int .i64 0, .int .i64 0, .int .i64 0, .slice none 0 0], .slice none 0 0, .int .i64 0, .int .i64 0, .string ⟨#[]⟩] 8 rfl (World.shaped_of_RefB (by kernel_rfl) (by kernel_rfl)) (by kernel_rfl) (by kernel_rfl) (by kernel_rfl) (door_met os _)) ?_
  intro W base args ds gs before hval0 hW _ hz hL _
  have hval : ∀ (j : Nat) t v, Tryz.f6.params[j]? = some t → args[j]? = some v → Value.okWide Tryz.prog W .any base t v := hval0
  have hW' := hW
  obtain ⟨p, q, hA0, hV, rfl, hfz, hnd⟩ := hW
  have hA : DataW.TrodAll enc Tryz.prog W 0 (fun _ => true) true Tryz.f6.params.toList args.toList ds p := hA0
  rw [Tryz.params6] at hA hval hz
  obtain ⟨rfl, rfl⟩ := trodVars_none hV
  have hA2 : DataW.TrodAll enc Tryz.prog W 0 (fun _ => true) true [24, 49, 30, 3, 3, 9] args.toList ds p := hA
  have hL1 := hA2
  have hw0 : ∀ k ∈ DataW.weightsEach Tryz.prog [24, 49, 30, 3, 3, 9] ds, k ≤ reachBytes := fun k hk => by
    have := List.all_eq_true.1 hz k (wE_app hk)
    simpa using this
  obtain ⟨v0, vs0, d0, ds0, p0, q0, hargs0, rfl, rfl, h0, r0⟩ := trodAll_cons hL1
  obtain ⟨v1, vs1, d1, ds1, p1, q1, hargs1, rfl, rfl, h1, r1⟩ := trodAll_cons r0
  obtain ⟨v2, vs2, d2, ds2, p2, q2, hargs2, rfl, rfl, h2, r2⟩ := trodAll_cons r1
  obtain ⟨v3, vs3, d3, ds3, p3, q3, hargs3, rfl, rfl, h3, r3⟩ := trodAll_cons r2
  obtain ⟨v4, vs4, d4, ds4, p4, q4, hargs4, rfl, rfl, h4, r4⟩ := trodAll_cons r3
  obtain ⟨v5, vs5, d5, ds5, p5, q5, hargs5, rfl, rfl, h5, r5⟩ := trodAll_cons r4
  obtain ⟨hlast, rfl, rfl⟩ := trodAll_nil r5
  have hw := law_callsB (gl := glb) (f := 6) (by kernel_rfl) hw0 (of_laid hL) law hA2 (fun j t v ht hv => hval j t v (by simpa using ht) (by simpa using hv))
  refine hw.mono fun e W' ⟨he, bel⟩ => ?_
  subst he
  have stay := trodAll_stay laidOut bel _ _ _ _ (by kernel_rfl) hA2
  exact ⟨_, rfl, _, _, _, [], _, [], hW', trodAll_mk1 (shut_bool Tryz.underlying4 _), stay, rfl, bel.frame _, fun h => by cases h⟩
theorem row_holds : Rows.RegistryAnswersSaid :=
  OpenClaim.holds_of_wide 6 Tryz.f6 rfl rfl rfl rfl rfl rfl rfl ⟨rfl, rfl, rfl, rfl, rfl⟩ rfl rfl rfl rfl rfl (by kernel_rfl) Tryz.func6 (by kernel_rfl)
    (of_decide_eq_true (by kernel_rfl)) (by unfold Func.isWrapper; first | (rw [if_pos (by decide +kernel)]; kernel_rfl) | (rw [if_neg (by decide +kernel)]; exact ⟨rfl, rfl⟩))
    (fun os started H enc _ => lifted os started H enc)
theorem proved : Rows.RegistryAnswersCardSaid :=
  Claim7.holds_tied_plain_at .later [] [.data, .data] true (true, "02ce36c2e50ad3106e7d05f1eff0183688bfe0ac972139819ed3da9bdf23355c") false
    row_holds (fun _ h => by cases h) (by kernel_rfl) (fun _ h => by cases h) registryAnswers_row_tie rfl ⟨rfl, rfl⟩ (by kernel_rfl) rfl
    (fun f fn hf hfn => by
      obtain rfl : f = 6 := Option.some.inj ((show Tryz.prog.funcNamed "synoptic/synopticlaw11.RegistryAnswers" = some 6 by kernel_rfl).symm.trans hf) |>.symm
      obtain rfl : fn = Tryz.f6 := (Option.some.inj (Tryz.func6.symm.trans hfn)).symm
      exact ⟨by kernel_rfl, fun j t ht => by
        rw [Tryz.params6] at ht
        have hm : t ∈ [24, 49, 30, 3, 3, 9] := by simpa using Array.mem_of_getElem? ht
        have hall : ([24, 49, 30, 3, 3, 9].all fun u => !Tryz.prog.wantsStandIn u) = true := by kernel_rfl
        exact (show Tryz.prog.wantsStandIn t = false by simpa using List.all_eq_true.1 hall t hm)⟩)
    (by kernel_rfl)
#print axioms proved
end Go.Proofs.YtldiagnbagpliaaGreatDoor.registryAnswers
