/- A function: its contract out of what its code comes to. -/
import Derived.Test.YthdfkiopppkfcaaDoorVn
namespace Go.Proofs.YthdfkiopppkfcaaDoor
open Go
open Go.RowKit (Below)
set_option linter.unusedVariables false
set_option linter.unusedSimpArgs false

/-- The results of a function. -/
def resL (P : Program) (E : Env) (st : St) : List ResultVar → (List AV → Prop) → Prop
  | [], k => k []
  | .tmp t :: l, k => resL P E st l fun rs => k (st.get t :: rs)
  | .cell a t :: l, k => aload P E none t (st.get a) (lk st.heap) fun r _ _ => resL P E st l fun rs => k (r :: rs)
def resK (P : Program) (E : Env) (st : St) (l : List ResultVar) (k : AV → Prop) : Prop :=
  resL P E st l fun rs => match rs with | [x] => k x | rs => k (.tup rs)
def resTmps : List ResultVar → List Nat
  | [] => []
  | .tmp t :: l => t :: resTmps l
  | _ :: l => resTmps l
/-- The rows that lie in the cells of a result. -/
def cellRws (st : St) : List ResultVar → List Nat
  | [] => []
  | .cell a _ :: l => (match st.get a with
    | .ptr k _ => (match lk st.heap k with
      | some (.cells cs) => rwsL cs
      | _ => [])
    | _ => []) ++ cellRws st l
  | _ :: l => cellRws st l
def resF (P : Program) (E : Env) (C : Cx) (st : St) (l : List ResultVar) (k : AV → Prop) : Prop :=
  frzN C.kp (slotRws st (resTmps l) ++ cellRws st l) st fun st => resK P E st l k
def resF2 (P : Program) (E : Env) (C : Cx) (st : St) (l : List ResultVar) (k : St → AV → Prop) : Prop :=
  frzN C.kp (cond C.own [] (slotRws st (resTmps l) ++ cellRws st l)) st fun st => resK P E st l (k st)
def slots : List AV → Nat → List (Nat × AV)
  | [], _ => []
  | x :: xs, i => (i, x) :: slots xs (i + 1)
theorem slots_lk : ∀ (xs : List AV) (i t : Nat), lk (slots xs i) t = if i ≤ t then xs[t - i]? else none
  | [], i, t => by simp [slots, lk]
  | x :: xs, i, t => by
    simp only [slots, lk]
    rw [slots_lk xs (i + 1) t]
    by_cases h : i = t
    · subst h; rw [nbeq_self]; simp
    · rw [nbeq_ne h]
      simp only [cond_false]
      by_cases h1 : i ≤ t
      · rw [if_pos (by omega), if_pos h1, show t - i = (t - (i + 1)) + 1 by omega]; simp
      · rw [if_neg (by omega), if_neg h1]
mutual
/-- The numbers of a value are of their kinds (as a hypothesis), then k. -/
def given : List AV → Prop → Prop
  | [], k => k
  | x :: xs, k => wfA x → given xs k
end
theorem given_use : ∀ {xs : List AV} {k : Prop}, given xs k → wfL xs → k
  | [], k, h, _ => h
  | x :: xs, k, h, hw => by
    simp only [given] at h
    simp only [wfL] at hw
    exact given_use (h hw.1) hw.2
def resOne (tmps : Array Value) : ResultVar → Sem Value
  | .tmp t => pure (tmps.getD t undef)
  | .cell q t => do loadVar t (← asAddr (tmps.getD q undef))
theorem results_eq (fn : Func) (tmps : Array Value) : results fn tmps = (do let vs ← fn.results.mapM (resOne tmps); pure (if h : vs.size = 1 then vs[0] else .tuple vs)) := by
  unfold results
  congr 1
theorem resL_sound {P : Program} {E : Env} {G : Gh} {C : Cx} {a : Act} {w : World} {S : Pin} {m : Nm} {st : St} (hR : Rel G C.kp st a w S m) :
    ∀ (l : List ResultVar) (k : List AV → Prop), resL P E st l k → ∃ rs vs, k rs ∧ CVl S rs m vs ∧ vs.length = l.length ∧
      (l.mapM (resOne a.tmps)).run P w = .ok vs w
  | [], k, h => ⟨[], [], h, by simp only [CVl], rfl, by simp⟩
  | .tmp t :: l, k, h => by
    simp only [resL] at h
    obtain ⟨rs, vs, h1, h2, h3, h4⟩ := resL_sound hR l _ h
    refine ⟨_, a.tmps.getD t undef :: vs, h1, ?_, by simp [h3], ?_⟩
    · simp only [CVl]; exact ⟨_, _, rfl, hR.tmps t, h2⟩
    · simp only [List.mapM_cons, resOne, Sem.run_bind, Sem.run_pure, Result.andThen_ok]
      rw [h4]; rfl
  | .cell q t :: l, k, h => by
    simp only [resL] at h
    have key : ∀ r, LoadsTo P t (match st.get q with | .ptr k off => (match lk st.heap k with | some (.cells cs) => cs.drop off | _ => []) | .ro cs => cs | _ => []) r → True := fun _ _ => trivial
    have get : ∀ (K : AV → Prop), aload P E none t (st.get q) (lk st.heap) (fun r _ _ => K r) → ∃ r, K r ∧ ∃ ad z, a.tmps.getD q undef = .pointer (some ad) ∧ (loadVar t ad).run P w = .ok z w ∧ CV S r m z := by
      intro K H
      unfold aload at H
      split at H
      · rename_i k off hx
        split at H
        · rename_i cs hk
          obtain ⟨r, h1, h2⟩ := loadK_sound H
          have hv := hR.tmps q
          rw [hx] at hv
          simp only [CV] at hv
          obtain ⟨g, hm, hv⟩ := hv
          obtain ⟨g', arr, ty, e1, e2, e3, e4⟩ := hR.held k _ hk
          rw [hm] at e1
          injection e1 with e1
          injection e1 with e1
          injection e1 with e1
          injection e1 with e1
          subst e1
          obtain ⟨z, q1, q2⟩ := run_loads (w := w) (g := g) (o := off) h2 (e3.drop off) (fun j v e => by
            rw [List.getElem?_drop] at e
            rw [cell_of_row w g (off + j) arr ty (0, 0) e2]
            simpa using e)
          refine ⟨r, h1, ⟨g, off, none⟩, z, hv, ?_, q2⟩
          simpa [Instr.loadAt, Instr.sureAddr] using q1
        · exact H.elim
      · rename_i cs hx
        obtain ⟨r, h1, h2⟩ := loadK_sound H
        have hv := hR.tmps q
        rw [hx] at hv
        simp only [CV] at hv
        obtain ⟨b, off, hv, hc⟩ := hv
        obtain ⟨vs, e1, e2⟩ := hc.vals
        obtain ⟨z, q1, q2⟩ := run_loads (w := w) (g := b) (o := off) h2 (e2.ext (Ext.refl S) (MLe.no m)) (fun j v e => (hR.agree _ _ _ (e1 j v e)).1)
        refine ⟨r, h1, ⟨b, off, none⟩, z, hv, ?_, q2⟩
        simpa [Instr.loadAt, Instr.sureAddr] using q1
      · rename_i k s Q j fo hx
        split at H
        · rename_i e s' xs hk
          obtain ⟨hs, H0⟩ := cond_F H
          have hs := Nat.eq_of_beq_eq_true hs
          subst hs
          obtain ⟨⟨hQ, hj⟩, H1⟩ := chk_iff.1 H0
          obtain ⟨r, h1, h2⟩ := loadK_sound H1
          have hv := hR.tmps q
          rw [hx] at hv
          obtain ⟨g, cur, fr, hv, e2, vs, e6, e7⟩ := prw_at (hR.held k _ hk) hQ hj hv
          obtain ⟨z, q1, q2⟩ := run_loads (w := w) (g := g) (o := j * s + fo) h2 ((e6.drop fo).ext (Ext.refl S) (rowNm_le e m)) (fun i v e => by
            rw [List.getElem?_drop] at e
            rw [cell_of_row w g _ cur _ fr e2, Nat.add_assoc]
            exact e7 _ v e)
          refine ⟨r, h1, ⟨g, j * s + fo, none⟩, z, hv, ?_, q2⟩
          simpa [Instr.loadAt, Instr.sureAddr] using q1
        · exact H.elim
      · exact H.elim
    obtain ⟨r, h, ad, z, e1, e2, e3⟩ := get _ h
    obtain ⟨rs, vs, h1, h2, h3, h4⟩ := resL_sound hR l _ h
    refine ⟨_, z :: vs, h1, ?_, by simp [h3], ?_⟩
    · simp only [CVl]; exact ⟨_, _, rfl, e3, h2⟩
    · simp only [List.mapM_cons, resOne, Sem.run_bind, e1, asAddr, Sem.run_pure, Result.andThen_ok, e2]
      rw [h4]; rfl
theorem resK_sound {P : Program} {E : Env} {G : Gh} {C : Cx} {a : Act} {w : World} {S : Pin} {m : Nm} {st : St} (hR : Rel G C.kp st a w S m) {fn : Func} {k : AV → Prop} (h : resK P E st fn.results.toList k) :
    ∃ r v, k r ∧ CV S r m v ∧ (results fn a.tmps).run P w = .ok v w := by
  unfold resK at h
  obtain ⟨rs, vs, h1, h2, h3, h4⟩ := resL_sound hR _ _ h
  have hrun : (results fn a.tmps).run P w = .ok (if h : vs.toArray.size = 1 then vs.toArray[0] else .tuple vs.toArray) w := by
    rw [results_eq, Array.mapM_eq_mapM_toList]
    simp only [Sem.run_bind, Sem.run_map]
    rw [h4]
    rfl
  have hl := h2.len
  split at h1
  · rename_i x
    simp only [CVl] at h2
    obtain ⟨u, us, rfl, hu, rfl⟩ := h2
    exact ⟨x, u, h1, hu, by rw [hrun]; simp⟩
  · rename_i hne
    refine ⟨_, .tuple vs.toArray, h1, by simp only [CV]; exact ⟨_, rfl, by simpa using h2⟩, ?_⟩
    rw [hrun]
    have : ¬ vs.toArray.size = 1 := by
      intro e
      simp at e
      rw [e] at hl
      match rs, hl with
      | [x], _ => exact hne x rfl
    rw [dif_neg this]
/-- A function whose arguments are what is xs and that answers what is r. -/
@[irreducible] def fnK (P : Program) (E : Env) (C : Cx) (inv : Nat → St → Option LInv) (fuel : Nat) (fn : Func) (xs : List AV) (r : AV) : Prop :=
  match fn.body with
  | some c => cond (Nat.beq C.nt fn.ntmps && Nat.ble xs.length fn.ntmps)
      (given xs (acode P E C inv fuel c ⟨slots xs 0, []⟩ (fun st => resF P E C st fn.results.toList fun x => strip x fun y => le y r) (fun _ _ => False) (fun st => resF P E C st fn.results.toList fun x => strip x fun y => le y r))) False
  | none => False
theorem fnK_sound {P : Program} {E : Env} {C : Cx} {inv : Nat → St → Option LInv} {fuel : Nat} (hT : TyOK P C.tys) (hS : SpecOK P E) (hM : P.follows .mixedOrders = true) {f : FuncId} {fn : Func} (hf : P.funcs[f]? = some fn) (hkp : C.kp = []) {xs : List AV} {r : AV}
    (h : fnK P E C inv fuel fn xs r) : PureC P E.glob f xs r := by
  intro w S vs hG hA hv
  unfold fnK at h
  split at h
  · rename_i c hc
    obtain ⟨hb, h⟩ := cond_F h
    simp only [Bool.and_eq_true] at hb
    have hnt := Nat.eq_of_beq_eq_true hb.1
    have hle := Nat.le_of_ble_eq_true hb.2
    have h := given_use h (wfL_cv _ _ _ hv)
    have hlen := hv.len
    simp only [Array.length_toList] at hlen
    let G : Gh := ⟨w, S, noNm, fun _ => False⟩
    have hR0 : Rel G C.kp ⟨slots xs 0, []⟩ { tmps := vs ++ Array.replicate (fn.ntmps - vs.size) undef, defers := [] } w S noNm :=
      { defers := rfl
        pin0 := Ext.refl S
        pinNew := fun _ _ _ _ => rfl
        agree := hA
        tmps := fun t => by
          unfold St.get
          rw [slots_lk]
          simp only [Nat.zero_le, if_true, Nat.sub_zero]
          cases e : xs[t]? with
          | none => simp only [CV]
          | some x =>
            obtain ⟨v, hv1, hv2⟩ := hv.get e
            have hlt : t < vs.size := by have := (List.getElem?_eq_some_iff.1 hv1).1; simpa using this
            have : vs[t]? = some v := by simpa using hv1
            simp only [Array.getD_eq_getD_getElem?, Array.getElem?_append_left hlt, this, Option.getD_some]
            exact hv2
        held := fun k b hk => by simp [lk] at hk
        inj := fun k k' b b' u u' g hk => by simp [lk] at hk
        own := fun k b u g hk => by simp [lk] at hk
        os := rfl
        tape := rfl
        output := rfl
        size := Nat.le_refl _
        frame := fun _ _ _ => rfl
        m0 := MLe.refl _
        keep := fun k u e => by cases e }
    refine calls_of_wp hf hc (Go.wp_mono (acode_sound (G := G) hT hS hM hG c _ _ _ _ h _ w S noNm hR0 ?_) ?_)
    · simp; omega
    · have fin : ∀ st a w' S' m, resF P E C st fn.results.toList (fun x => strip x fun y => le y r) → Rel G C.kp st a w' S' m → a.defers = [] ∧ ∃ v, (results fn a.tmps).run P w' = .ok v w' ∧
          ∃ u S', Ending.returned v = .returned u ∧ Below w.heap.size w w' ∧ Ext S S' ∧ (∀ b o, b < w.heap.size → S' b o = S b o) ∧ Agree S' w' ∧ CV S' r noNm u := by
        intro st0 a w' S0 m0 hk0 hR0
        obtain ⟨st, S', m, hk, hR⟩ := frzN_sound _ _ S0 m0 _ hk0 hR0
        obtain ⟨x, v, h1, h2, h3⟩ := resK_sound hR hk
        obtain ⟨y, h4, h5⟩ := strip_sound _ _ h1
        exact ⟨hR.defers, v, h3, v, S', rfl, ⟨hR.os, hR.tape, hR.output, hR.size, fun b hb => hR.frame b hb (fun q => q)⟩, hR.pin0, fun b o hb => hR.pinNew b o hb (fun q => q), hR.agree, le_sound _ _ _ _ h4 (h5 S' m v h2)⟩
      intro e a w' he
      cases e with
      | normal => obtain ⟨st, S', m, hk, hR, _⟩ := he; exact fin st a w' S' m hk hR
      | ret => obtain ⟨st, S', m, hk, hR, _⟩ := he; exact fin st a w' S' m hk hR
      | exit _ => obtain ⟨st, S', m, hk, hR, _⟩ := he; exact hk.elim
      | _ => exact he.elim
  · exact h.elim
end Go.Proofs.YthdfkiopppkfcaaDoor
