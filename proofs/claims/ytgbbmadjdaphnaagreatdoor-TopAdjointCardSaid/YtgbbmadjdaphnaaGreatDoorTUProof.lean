import Derived.Test.YtgbbmadjdaphnaaGreatDoorTUh
import Derived.Test.YtgbbmadjdaphnaaGreatDoorCards
import Derived.Test.YtgbbmadjdaphnaaGreatDoorTie
import Derived.Stop.Joined
namespace Go.Proofs.YtgbbmadjdaphnaaGreatDoor.topAdjoint
open Go.ChangeShapes Go.WideShapes Go.ChangeAt Go.RowKit
set_option linter.unusedVariables false
set_option linter.unusedSimpArgs false
theorem own : ownKnob Tryz.prog.godebug = none := by kernel_rfl
theorem laidOut : laidOutB Tryz.prog = true := by kernel_rfl
set_option maxRecDepth 100000 in
theorem law : ShAll Tryz.prog [34] fun xs => PureC Tryz.prog glb 5 xs (.bool true) := by
  intro cs0 g0
  have e0 : Sh Tryz.prog 50 34 cs0 = (∃ xs1 : List (List AV), xs1.length ≤ 9223372036854775807 ∧ (∀ x1 ∈ xs1, ∃ z2, rng .u8 z2 ∧ x1 = [.int .u8 z2]) ∧ cs0 = [.sl 1 false xs1]) := by kernel_rfl
  rw [e0] at g0
  obtain ⟨a0, h0L, h0, rfl⟩ := g0
  have m0 : mkA Tryz.prog 34 ([.sl 1 false a0]) = .sl 1 false a0 := by kernel_rfl
  show PureC Tryz.prog glb 5 [mkA Tryz.prog 34 _] (.bool true)
  rw [m0]
  exact (ltadj_ok.2 _ _ _ rfl (bytL_of h0))
def laidL : List (String × DataW Unit) := [("synoptic/place.corners", Rows.laid_synoptic_place_corners)]
theorem door_met (os : Os) (args : Array Value) : laidMetH Tryz.prog laidL ((World.doorLaid Tryz.prog 400 os).forCall (fun _ _ => 0) ⟨#[], args, []⟩).memory :=
  laidMetH_of_parts3 (fuel := 8) (laidMet_of_run' 8 (by kernel_rfl) (by kernel_rfl)) (by kernel_rfl) (by kernel_rfl)
theorem of_laid {W : World} (h : laidMetH Tryz.prog laidL W) : GOKg glb (pinAll W) := by
  rw [MakeChecks.laidMetH_plain _ _ _ (by kernel_rfl)] at h
  obtain ⟨ps, ⟨g0, t0, cs0, f0, p0, q0, hg0, ht0, hv0, hd0, _, _⟩, _, _⟩ := h
  obtain rfl := Option.some.inj ((show Tryz.prog.globalNamed "synoptic/place.corners" = some 0 by kernel_rfl).symm.trans hg0)
  obtain rfl := Option.some.inj ((show (Tryz.prog.globals[0]?).map (·.type) = some 145 by kernel_rfl).symm.trans ht0)
  have c0 := glob_cells (fun i => World.var?_cell hg0 hv0 i) (flat_of_trod (S := pinAll W) 20 145 _ _ _ (by kernel_rfl) hd0) (by kernel_rfl)
  intro g cs hcs
  unfold glb at hcs
  by_cases k0 : g = 0
  · subst k0
    have e : cs = flatD (H := Unit) Rows.laid_synoptic_place_corners := by
      have : some cs = some (flatD (H := Unit) Rows.laid_synoptic_place_corners) := hcs.symm.trans (by kernel_rfl)
      exact Option.some.inj this
    rw [e]; exact c0
  all_goals (simp [nbeq_ne k0] at hcs)
set_option maxRecDepth 100000 in
theorem lifted (os : Os) (started : os.Started) (H : Type) (enc : TypeId × Value → H) :
    ReturnsInHanded {} Tryz.checked os 5 .any (fun w args => ((Rows.topAdjointSpec).pre enc Tryz.prog Tryz.f5 [] false w args ∧ laidMetH Tryz.prog laidL w) ∧ sizedMet enc Tryz.prog Tryz.f5 (OpenSpec.ofChange Rows.topAdjointSpec) false w args)
      ((Rows.topAdjointSpec).post enc Tryz.prog Tryz.f5 false true false false) := by
  refine returnsInHanded_of_change_and (C := Tryz.checked) (X := fun w _ => laidMetH Tryz.prog laidL w) (fun _ _ _ hh h => h.of_heap hh) own started (by kernel_rfl) Tryz.func5
    (ChangeSpec.witness_shaped (enc := enc) (C := Tryz.checked) (os := os) (X := fun w _ => laidMetH Tryz.prog laidL w) false (World.doorLaid Tryz.prog 400 os) #[.slice none 0 0] 8 rfl (World.shaped_of_RefB (by kernel_rfl) (by kernel_rfl)) (by kernel_rfl) (by kernel_rfl) (by kernel_rfl) (door_met os _)) ?_
  intro W base args ds gs before hval0 hW _ hz hL _
  have hval : ∀ (j : Nat) t v, Tryz.f5.params[j]? = some t → args[j]? = some v → Value.okWide Tryz.prog W .any base t v := hval0
  have hW' := hW
  obtain ⟨p, q, hA0, hV, rfl, hfz, hnd⟩ := hW
  have hA : DataW.TrodAll enc Tryz.prog W 0 (fun _ => true) true Tryz.f5.params.toList args.toList ds p := hA0
  rw [Tryz.params5] at hA hval
  obtain ⟨rfl, rfl⟩ := trodVars_none hV
  have hA2 : DataW.TrodAll enc Tryz.prog W 0 (fun _ => true) true [34] args.toList ds p := hA
  have hL1 := hA2
  obtain ⟨v0, vs0, d0, ds0, p0, q0, hargs0, rfl, rfl, h0, r0⟩ := trodAll_cons hL1
  obtain ⟨hlast, rfl, rfl⟩ := trodAll_nil r0
  have hw := law_calls (gl := glb) (f := 5) (by kernel_rfl) (of_laid hL) law hA2 (fun j t v ht hv => hval j t v (by simpa using ht) (by simpa using hv))
  refine hw.mono fun e W' ⟨he, bel⟩ => ?_
  subst he
  have stay := trodAll_stay laidOut bel _ _ _ _ (by kernel_rfl) hA2
  exact ⟨_, rfl, _, _, _, [], _, [], hW', trodAll_mk1 (shut_bool Tryz.underlying4 _), stay, rfl, bel.frame _, fun h => by cases h⟩
theorem row_holds : Rows.TopAdjointSaid :=
  OpenClaim.holds_of_wide 5 Tryz.f5 rfl rfl rfl rfl rfl rfl rfl ⟨rfl, rfl, rfl, rfl, rfl⟩ rfl rfl rfl rfl rfl (by kernel_rfl) Tryz.func5 (by kernel_rfl)
    (of_decide_eq_true (by kernel_rfl)) (by unfold Func.isWrapper; first | (rw [if_pos (by decide +kernel)]; kernel_rfl) | (rw [if_neg (by decide +kernel)]; exact ⟨rfl, rfl⟩))
    (fun os started H enc _ => lifted os started H enc)
theorem proved : Rows.TopAdjointCardSaid :=
  Claim7.holds_tied_plain_at .later [] [.data] true (true, "4f31e86629764e64f4f6f9876acf2cc182cf1d73a66e806118e4e90bbb75bf73") false
    row_holds (fun _ h => by cases h) (by kernel_rfl) (fun _ h => by cases h) topAdjoint_row_tie rfl ⟨rfl, rfl⟩ (by kernel_rfl) rfl
    (fun f fn hf hfn => by
      obtain rfl : f = 5 := Option.some.inj ((show Tryz.prog.funcNamed "synoptic/synoptictop.TopAdjoint" = some 5 by kernel_rfl).symm.trans hf) |>.symm
      obtain rfl : fn = Tryz.f5 := (Option.some.inj (Tryz.func5.symm.trans hfn)).symm
      exact ⟨by kernel_rfl, fun j t ht => by
        rw [Tryz.params5] at ht
        have hm : t ∈ [34] := by simpa using Array.mem_of_getElem? ht
        have hall : ([34].all fun u => !Tryz.prog.wantsStandIn u) = true := by kernel_rfl
        exact (show Tryz.prog.wantsStandIn t = false by simpa using List.all_eq_true.1 hall t hm)⟩)
    (by kernel_rfl)
#print axioms proved
end Go.Proofs.YtgbbmadjdaphnaaGreatDoor.topAdjoint
