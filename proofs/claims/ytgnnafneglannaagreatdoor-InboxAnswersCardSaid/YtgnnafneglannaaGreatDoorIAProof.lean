import Derived.Test.YtgnnafneglannaaGreatDoorIAh
import Derived.Test.YtgnnafneglannaaGreatDoorCards
import Derived.Test.YtgnnafneglannaaGreatDoorTie
import Derived.Stop.Joined
namespace Go.Proofs.YtgnnafneglannaaGreatDoor.inboxAnswers
open Go.ChangeShapes Go.WideShapes Go.ChangeAt Go.RowKit
set_option linter.unusedVariables false
set_option linter.unusedSimpArgs false
theorem own : ownKnob Tryz.prog.godebug = none := by kernel_rfl
theorem laidOut : laidOutB Tryz.prog = true := by kernel_rfl
set_option maxRecDepth 100000 in
theorem law : ShAll Tryz.prog [22, 29, 31, 32] fun xs => PureC Tryz.prog glb 3 xs (.bool true) := by
  intro cs0 g0
  have e0 : Sh Tryz.prog 50 22 cs0 = (∃ xs1 : List (List AV), xs1.length ≤ 9223372036854775807 ∧ (∀ x1 ∈ xs1, ∃ ys3 zs3, (∃ ys5 zs5, (∃ z6, rng .i64 z6 ∧ ys5 = [.int .i64 z6]) ∧ (∃ ys7 zs7, (∃ s8 : ByteArray, s8.size ≤ 9223372036854775807 ∧ ys7 = [.str s8]) ∧ (∃ ys9 zs9, (∃ z10, rng .i64 z10 ∧ ys9 = [.int .i64 z10]) ∧ (∃ ys11 zs11, (∃ ys13 zs13, (∃ z14, rng .i64 z14 ∧ ys13 = [.int .i64 z14]) ∧ (∃ ys15 zs15, (∃ z16, rng .i64 z16 ∧ ys15 = [.int .i64 z16]) ∧ (∃ ys17 zs17, (∃ z18, rng .i64 z18 ∧ ys17 = [.int .i64 z18]) ∧ (∃ ys19 zs19, (∃ z20, rng .i64 z20 ∧ ys19 = [.int .i64 z20]) ∧ (zs19 = []) ∧ zs17 = ys19 ++ zs19) ∧ zs15 = ys17 ++ zs17) ∧ zs13 = ys15 ++ zs15) ∧ ys11 = ys13 ++ zs13) ∧ (∃ ys22 zs22, (∃ xs23 : List (List AV), xs23.length ≤ 9223372036854775807 ∧ (∀ x23 ∈ xs23, ∃ ys25 zs25, (∃ z26, rng .i64 z26 ∧ ys25 = [.int .i64 z26]) ∧ (∃ ys27 zs27, (∃ z28, rng .i64 z28 ∧ ys27 = [.int .i64 z28]) ∧ (zs27 = []) ∧ zs25 = ys27 ++ zs27) ∧ x23 = ys25 ++ zs25) ∧ ys22 = [.sl 2 false xs23]) ∧ (zs22 = []) ∧ zs11 = ys22 ++ zs22) ∧ zs9 = ys11 ++ zs11) ∧ zs7 = ys9 ++ zs9) ∧ zs5 = ys7 ++ zs7) ∧ ys3 = ys5 ++ zs5) ∧ (∃ ys31 zs31, (∃ z32, rng .i64 z32 ∧ ys31 = [.int .i64 z32]) ∧ (∃ ys33 zs33, (∃ z34, rng .i64 z34 ∧ ys33 = [.int .i64 z34]) ∧ (zs33 = []) ∧ zs31 = ys33 ++ zs33) ∧ zs3 = ys31 ++ zs31) ∧ x1 = ys3 ++ zs3) ∧ cs0 = [.sl 10 false xs1]) := by kernel_rfl
  rw [e0] at g0
  obtain ⟨a0, h0L, h0, rfl⟩ := g0
  intro cs1 g1
  have e1 : Sh Tryz.prog 50 29 cs1 = (∃ ys2 zs2, (∃ ys4 zs4, (∃ z5, rng .i64 z5 ∧ ys4 = [.int .i64 z5]) ∧ (∃ ys6 zs6, (∃ s7 : ByteArray, s7.size ≤ 9223372036854775807 ∧ ys6 = [.str s7]) ∧ (∃ ys8 zs8, (∃ z9, rng .i64 z9 ∧ ys8 = [.int .i64 z9]) ∧ (∃ ys10 zs10, (∃ ys12 zs12, (∃ z13, rng .i64 z13 ∧ ys12 = [.int .i64 z13]) ∧ (∃ ys14 zs14, (∃ z15, rng .i64 z15 ∧ ys14 = [.int .i64 z15]) ∧ (∃ ys16 zs16, (∃ z17, rng .i64 z17 ∧ ys16 = [.int .i64 z17]) ∧ (∃ ys18 zs18, (∃ z19, rng .i64 z19 ∧ ys18 = [.int .i64 z19]) ∧ (zs18 = []) ∧ zs16 = ys18 ++ zs18) ∧ zs14 = ys16 ++ zs16) ∧ zs12 = ys14 ++ zs14) ∧ ys10 = ys12 ++ zs12) ∧ (∃ ys21 zs21, (∃ xs22 : List (List AV), xs22.length ≤ 9223372036854775807 ∧ (∀ x22 ∈ xs22, ∃ ys24 zs24, (∃ z25, rng .i64 z25 ∧ ys24 = [.int .i64 z25]) ∧ (∃ ys26 zs26, (∃ z27, rng .i64 z27 ∧ ys26 = [.int .i64 z27]) ∧ (zs26 = []) ∧ zs24 = ys26 ++ zs26) ∧ x22 = ys24 ++ zs24) ∧ ys21 = [.sl 2 false xs22]) ∧ (zs21 = []) ∧ zs10 = ys21 ++ zs21) ∧ zs8 = ys10 ++ zs10) ∧ zs6 = ys8 ++ zs8) ∧ zs4 = ys6 ++ zs6) ∧ ys2 = ys4 ++ zs4) ∧ (∃ ys30 zs30, (∃ z31, rng .i64 z31 ∧ ys30 = [.int .i64 z31]) ∧ (∃ ys32 zs32, (∃ z33, rng .i64 z33 ∧ ys32 = [.int .i64 z33]) ∧ (zs32 = []) ∧ zs30 = ys32 ++ zs32) ∧ zs2 = ys30 ++ zs30) ∧ cs1 = ys2 ++ zs2) := by kernel_rfl
  rw [e1] at g1
  obtain ⟨_, _, ⟨_, _, ⟨a1_0_0, h1_0_0, rfl⟩, ⟨_, _, ⟨a1_0_1, h1_0_1, rfl⟩, ⟨_, _, ⟨a1_0_2, h1_0_2, rfl⟩, ⟨_, _, ⟨_, _, ⟨a1_0_3_0, h1_0_3_0, rfl⟩, ⟨_, _, ⟨a1_0_3_1, h1_0_3_1, rfl⟩, ⟨_, _, ⟨a1_0_3_2, h1_0_3_2, rfl⟩, ⟨_, _, ⟨a1_0_3_3, h1_0_3_3, rfl⟩, rfl, rfl⟩, rfl⟩, rfl⟩, rfl⟩, ⟨_, _, ⟨a1_0_4, h1_0_4L, h1_0_4, rfl⟩, rfl, rfl⟩, rfl⟩, rfl⟩, rfl⟩, rfl⟩, ⟨_, _, ⟨a1_1, h1_1, rfl⟩, ⟨_, _, ⟨a1_2, h1_2, rfl⟩, rfl, rfl⟩, rfl⟩, rfl⟩ := g1
  intro cs2 g2
  have e2 : Sh Tryz.prog 50 31 cs2 = (∃ ys2 zs2, (∃ z3, rng .i64 z3 ∧ ys2 = [.int .i64 z3]) ∧ (∃ ys4 zs4, (∃ z5, rng .i64 z5 ∧ ys4 = [.int .i64 z5]) ∧ (∃ ys6 zs6, (∃ z7, rng .i64 z7 ∧ ys6 = [.int .i64 z7]) ∧ (zs6 = []) ∧ zs4 = ys6 ++ zs6) ∧ zs2 = ys4 ++ zs4) ∧ cs2 = ys2 ++ zs2) := by kernel_rfl
  rw [e2] at g2
  obtain ⟨_, _, ⟨a2_0, h2_0, rfl⟩, ⟨_, _, ⟨a2_1, h2_1, rfl⟩, ⟨_, _, ⟨a2_2, h2_2, rfl⟩, rfl, rfl⟩, rfl⟩, rfl⟩ := g2
  intro cs3 g3
  have e3 : Sh Tryz.prog 50 32 cs3 = (∃ xs1 : List (List AV), xs1.length ≤ 9223372036854775807 ∧ (∀ x1 ∈ xs1, ∃ z2, rng .i64 z2 ∧ x1 = [.int .i64 z2]) ∧ cs3 = [.sl 1 false xs1]) := by kernel_rfl
  rw [e3] at g3
  obtain ⟨a3, h3L, h3, rfl⟩ := g3
  have m0 : mkA Tryz.prog 22 ([.sl 10 false a0]) = .sl 10 false a0 := by kernel_rfl
  have m1 : mkA Tryz.prog 29 ((([.int .i64 a1_0_0] ++ ([.str a1_0_1] ++ ([.int .i64 a1_0_2] ++ (([.int .i64 a1_0_3_0] ++ ([.int .i64 a1_0_3_1] ++ ([.int .i64 a1_0_3_2] ++ ([.int .i64 a1_0_3_3] ++ [])))) ++ ([.sl 2 false a1_0_4] ++ []))))) ++ ([.int .i64 a1_1] ++ ([.int .i64 a1_2] ++ [])))) = .agg [.int .i64 a1_0_0, .str a1_0_1, .int .i64 a1_0_2, .int .i64 a1_0_3_0, .int .i64 a1_0_3_1, .int .i64 a1_0_3_2, .int .i64 a1_0_3_3, .sl 2 false a1_0_4, .int .i64 a1_1, .int .i64 a1_2] := by kernel_rfl
  have m2 : mkA Tryz.prog 31 (([.int .i64 a2_0] ++ ([.int .i64 a2_1] ++ ([.int .i64 a2_2] ++ [])))) = .agg [.int .i64 a2_0, .int .i64 a2_1, .int .i64 a2_2] := by kernel_rfl
  have m3 : mkA Tryz.prog 32 ([.sl 1 false a3]) = .sl 1 false a3 := by kernel_rfl
  show PureC Tryz.prog glb 3 [mkA Tryz.prog 22 _, mkA Tryz.prog 29 _, mkA Tryz.prog 31 _, mkA Tryz.prog 32 _] (.bool true)
  rw [m0, m1, m2, m3]
  exact (lanswers_ok.2 _ _ _ rfl ⟨intsA_of h3, its_of h0L h0, rds_of h1_0_4L h1_0_4⟩)
def laidL : List (String × DataW Unit) := [("synoptic/place.corners", Rows.laid_synoptic_place_corners), ("synoptic/element.bounds", Rows.laid_synoptic_element_bounds)]
theorem door_met (os : Os) (args : Array Value) : laidMetH Tryz.prog laidL ((World.doorLaid Tryz.prog 400 os).forCall (fun _ _ => 0) ⟨#[], args, []⟩).memory :=
  laidMetH_of_parts3 (fuel := 8) (laidMet_of_run' 8 (by kernel_rfl) (by kernel_rfl)) (by kernel_rfl) (by kernel_rfl)
theorem of_laid {W : World} (h : laidMetH Tryz.prog laidL W) : GOKg glb (pinAll W) := by
  rw [MakeChecks.laidMetH_plain _ _ _ (by kernel_rfl)] at h
  obtain ⟨ps, ⟨g0, t0, cs0, f0, p0, q0, hg0, ht0, hv0, hd0, ⟨g1, t1, cs1, f1, p1, q1, hg1, ht1, hv1, hd1, _, _⟩, _⟩, _, _⟩ := h
  obtain rfl := Option.some.inj ((show Tryz.prog.globalNamed "synoptic/place.corners" = some 0 by kernel_rfl).symm.trans hg0)
  obtain rfl := Option.some.inj ((show (Tryz.prog.globals[0]?).map (·.type) = some 136 by kernel_rfl).symm.trans ht0)
  have c0 := glob_cells (fun i => World.var?_cell hg0 hv0 i) (flat_of_trod (S := pinAll W) 20 136 _ _ _ (by kernel_rfl) hd0) (by kernel_rfl)
  obtain rfl := Option.some.inj ((show Tryz.prog.globalNamed "synoptic/element.bounds" = some 1 by kernel_rfl).symm.trans hg1)
  obtain rfl := Option.some.inj ((show (Tryz.prog.globals[1]?).map (·.type) = some 138 by kernel_rfl).symm.trans ht1)
  have c1 := glob_cells (fun i => World.var?_cell hg1 hv1 i) (flat_of_trod (S := pinAll W) 20 138 _ _ _ (by kernel_rfl) hd1) (by kernel_rfl)
  intro g cs hcs
  unfold glb at hcs
  by_cases k0 : g = 0
  · subst k0
    have e : cs = flatD (H := Unit) Rows.laid_synoptic_place_corners := by
      have : some cs = some (flatD (H := Unit) Rows.laid_synoptic_place_corners) := hcs.symm.trans (by kernel_rfl)
      exact Option.some.inj this
    rw [e]; exact c0
  by_cases k1 : g = 1
  · subst k1
    have e : cs = flatD (H := Unit) Rows.laid_synoptic_element_bounds := by
      have : some cs = some (flatD (H := Unit) Rows.laid_synoptic_element_bounds) := hcs.symm.trans (by kernel_rfl)
      exact Option.some.inj this
    rw [e]; exact c1
  all_goals (simp [nbeq_ne k0, nbeq_ne k1] at hcs)
set_option maxRecDepth 100000 in
theorem lifted (os : Os) (started : os.Started) (H : Type) (enc : TypeId × Value → H) :
    ReturnsInHanded {} Tryz.checked os 3 .any (fun w args => ((Rows.inboxAnswersSpec).pre enc Tryz.prog Tryz.f3 [] false w args ∧ laidMetH Tryz.prog laidL w) ∧ sizedMet enc Tryz.prog Tryz.f3 (OpenSpec.ofChange Rows.inboxAnswersSpec) false w args)
      ((Rows.inboxAnswersSpec).post enc Tryz.prog Tryz.f3 false true false false) := by
  refine returnsInHanded_of_change_and (C := Tryz.checked) (X := fun w _ => laidMetH Tryz.prog laidL w) (fun _ _ _ hh h => h.of_heap hh) own started (by kernel_rfl) Tryz.func3
    (ChangeSpec.witness_shaped (enc := enc) (C := Tryz.checked) (os := os) (X := fun w _ => laidMetH Tryz.prog laidL w) false (World.doorLaid Tryz.prog 400 os) #[.slice none 0 0, .agg #[.int .i64 0, .string ⟨#[]⟩, .int .i64 0, .int .i64 0, .int .i64 0, .int .i64 0, .int .i64 0, .slice none 0 0, .int .i64 0, .int .i64 0], .agg #[.int .i64 0, .int .i64 0, .int .i64 0], .slice none 0 0] 8 rfl (World.shaped_of_RefB (by kernel_rfl) (by kernel_rfl)) (by kernel_rfl) (by kernel_rfl) (by kernel_rfl) (door_met os _)) ?_
  intro W base args ds gs before hval0 hW _ hz hL _
  have hval : ∀ (j : Nat) t v, Tryz.f3.params[j]? = some t → args[j]? = some v → Value.okWide Tryz.prog W .any base t v := hval0
  have hW' := hW
  obtain ⟨p, q, hA0, hV, rfl, hfz, hnd⟩ := hW
  have hA : DataW.TrodAll enc Tryz.prog W 0 (fun _ => true) true Tryz.f3.params.toList args.toList ds p := hA0
  rw [Tryz.params3] at hA hval
  obtain ⟨rfl, rfl⟩ := trodVars_none hV
  have hA2 : DataW.TrodAll enc Tryz.prog W 0 (fun _ => true) true [22, 29, 31, 32] args.toList ds p := hA
  have hL1 := hA2
  obtain ⟨v0, vs0, d0, ds0, p0, q0, hargs0, rfl, rfl, h0, r0⟩ := trodAll_cons hL1
  obtain ⟨v1, vs1, d1, ds1, p1, q1, hargs1, rfl, rfl, h1, r1⟩ := trodAll_cons r0
  obtain ⟨v2, vs2, d2, ds2, p2, q2, hargs2, rfl, rfl, h2, r2⟩ := trodAll_cons r1
  obtain ⟨v3, vs3, d3, ds3, p3, q3, hargs3, rfl, rfl, h3, r3⟩ := trodAll_cons r2
  obtain ⟨hlast, rfl, rfl⟩ := trodAll_nil r3
  have hw := law_calls (gl := glb) (f := 3) (by kernel_rfl) (of_laid hL) law hA2 (fun j t v ht hv => hval j t v (by simpa using ht) (by simpa using hv))
  refine hw.mono fun e W' ⟨he, bel⟩ => ?_
  subst he
  have stay := trodAll_stay laidOut bel _ _ _ _ (by kernel_rfl) hA2
  exact ⟨_, rfl, _, _, _, [], _, [], hW', trodAll_mk1 (shut_bool Tryz.underlying4 _), stay, rfl, bel.frame _, fun h => by cases h⟩
theorem row_holds : Rows.InboxAnswersSaid :=
  OpenClaim.holds_of_wide 3 Tryz.f3 rfl rfl rfl rfl rfl rfl rfl ⟨rfl, rfl, rfl, rfl, rfl⟩ rfl rfl rfl rfl rfl (by kernel_rfl) Tryz.func3 (by kernel_rfl)
    (of_decide_eq_true (by kernel_rfl)) (by unfold Func.isWrapper; first | (rw [if_pos (by decide +kernel)]; kernel_rfl) | (rw [if_neg (by decide +kernel)]; exact ⟨rfl, rfl⟩))
    (fun os started H enc _ => lifted os started H enc)
theorem proved : Rows.InboxAnswersCardSaid :=
  Claim7.holds_tied_plain_at .later [] [.data, .data] true (true, "343e7904c7ae2a70b84855f5021800182def06e6e823945bb4e039c9d8b1b922") false
    row_holds (fun _ h => by cases h) (by kernel_rfl) (fun _ h => by cases h) inboxAnswers_row_tie rfl ⟨rfl, rfl⟩ (by kernel_rfl) rfl
    (fun f fn hf hfn => by
      obtain rfl : f = 3 := Option.some.inj ((show Tryz.prog.funcNamed "synoptic/synopticlaw10.InboxAnswers" = some 3 by kernel_rfl).symm.trans hf) |>.symm
      obtain rfl : fn = Tryz.f3 := (Option.some.inj (Tryz.func3.symm.trans hfn)).symm
      exact ⟨by kernel_rfl, fun j t ht => by
        rw [Tryz.params3] at ht
        have hm : t ∈ [22, 29, 31, 32] := by simpa using Array.mem_of_getElem? ht
        have hall : ([22, 29, 31, 32].all fun u => !Tryz.prog.wantsStandIn u) = true := by kernel_rfl
        exact (show Tryz.prog.wantsStandIn t = false by simpa using List.all_eq_true.1 hall t hm)⟩)
    (by kernel_rfl)
#print axioms proved
end Go.Proofs.YtgnnafneglannaaGreatDoor.inboxAnswers
