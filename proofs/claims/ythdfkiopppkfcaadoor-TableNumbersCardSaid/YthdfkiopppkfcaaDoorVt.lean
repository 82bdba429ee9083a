/- Rows, III: known for good from now on; bytes as a string. -/
import Derived.Test.YthdfkiopppkfcaaDoorVs
namespace Go.Proofs.YthdfkiopppkfcaaDoor
open Go
open Go.RowKit (Below)
set_option linter.unusedVariables false
set_option linter.unusedSimpArgs false

mutual
/-- The row k is known for good: xs. -/
def frzA (k s : Nat) (xs : List (List AV)) : AV → AV
  | .rw j s' n => cond (Nat.beq j k) (cond (Nat.beq s s') (.frz k s n xs) .dead) (.rw j s' n)
  | .mw j s' q eo n f => cond (Nat.beq j k) .dead (.mw j s' q eo n f)
  | .prw j s' q i fo => cond (Nat.beq j k) .dead (.prw j s' q i fo)
  | .agg cs => .agg (frzL k s xs cs)
  | .tup cs => .tup (frzL k s xs cs)
  | .fn f cs => .fn f (frzL k s xs cs)
  | .acc j s' ys => cond (Nat.beq j k) .dead (.acc j s' ys)
  | .frz j s' n ys => cond (Nat.beq j k) .dead (.frz j s' n ys)
  | .ptr j o => cond (Nat.beq j k) .dead (.ptr j o)
  | .ms j o n c s' => cond (Nat.beq j k) .dead (.ms j o n c s')
  | .mpv j => cond (Nat.beq j k) .dead (.mpv j)
  | .int q n => .int q n
  | .bool b => .bool b
  | .str b => .str b
  | .sl s f ys => .sl s f ys
  | .nils => .nils
  | .ro cs => .ro cs
  | .nilp => .nilp
  | .undef => .undef
  | .dead => .dead
def frzL (k s : Nat) (xs : List (List AV)) : List AV → List AV
  | [] => []
  | y :: ys => frzA k s xs y :: frzL k s xs ys
end
def frzT (k s : Nat) (xs : List (List AV)) : List (Nat × AV) → List (Nat × AV)
  | [] => []
  | (t, y) :: l => (t, frzA k s xs y) :: frzT k s xs l
def frzLL (k s : Nat) (xs : List (List AV)) : List (List AV) → List (List AV)
  | [] => []
  | y :: ys => frzL k s xs y :: frzLL k s xs ys
theorem frzL_at (k s : Nat) (xs : List (List AV)) : ∀ (l : List AV) (i : Nat), (frzL k s xs l)[i]? = (l[i]?).map (frzA k s xs)
  | [], i => by simp [frzL]
  | y :: l, 0 => by simp [frzL]
  | y :: l, i + 1 => by simp only [frzL, List.getElem?_cons_succ]; exact frzL_at k s xs l i
theorem frzLL_at (k s : Nat) (xs : List (List AV)) : ∀ (l : List (List AV)) (i : Nat), (frzLL k s xs l)[i]? = (l[i]?).map (frzL k s xs)
  | [], i => by simp [frzLL]
  | y :: l, 0 => by simp [frzLL]
  | y :: l, i + 1 => by simp only [frzLL, List.getElem?_cons_succ]; exact frzLL_at k s xs l i
theorem frzL_len (k s : Nat) (xs : List (List AV)) : ∀ (l : List AV), (frzL k s xs l).length = l.length
  | [] => rfl
  | y :: l => by simp [frzL, frzL_len k s xs l]
theorem frzLL_len (k s : Nat) (xs : List (List AV)) : ∀ (l : List (List AV)), (frzLL k s xs l).length = l.length
  | [] => rfl
  | y :: l => by simp [frzLL, frzLL_len k s xs l]
def frzB (k s : Nat) (xs : List (List AV)) : Blk → Blk
  | .cells cs => .cells (frzL k s xs cs)
  | .row e s' ys => cond (Nat.blt e 2000000) (.row e s' ys) (.row e s' (frzLL k s xs ys))
  | b => b
def frzH (k s : Nat) (xs : List (List AV)) : List (Nat × Blk) → List (Nat × Blk)
  | [] => []
  | (j, b) :: l => (j, frzB k s xs b) :: frzH k s xs l
theorem frzT_lk (k s : Nat) (xs : List (List AV)) (t : Nat) : ∀ (l : List (Nat × AV)), lk (frzT k s xs l) t = (lk l t).map (frzA k s xs)
  | [] => rfl
  | (j, y) :: l => by
    simp only [frzT, lk]
    cases Nat.beq j t with
    | true => rfl
    | false => exact frzT_lk k s xs t l
theorem frzH_lk (k s : Nat) (xs : List (List AV)) (t : Nat) : ∀ (l : List (Nat × Blk)), lk (frzH k s xs l) t = (lk l t).map (frzB k s xs)
  | [] => rfl
  | (j, y) :: l => by
    simp only [frzH, lk]
    cases Nat.beq j t with
    | true => rfl
    | false => exact frzH_lk k s xs t l
mutual
theorem frzA_cv {S S' : Pin} {m m' : Nm} {k s : Nat} {xs : List (List AV)} (hS : Ext S S') (hm : ∀ j, j ≠ k → m' j = m j)
    (hk : ∀ n v, CV S (.rw k s n) m v → CV S' (.frz k s n xs) m' v) : ∀ (x : AV) (v : Value), CV S x m v → CV S' (frzA k s xs x) m' v
  | .rw j s' n, v, h => by
    simp only [frzA]
    cases hj : Nat.beq j k with
    | true =>
      have := Nat.eq_of_beq_eq_true hj
      subst this
      simp only [cond_true]
      cases hs : Nat.beq s s' with
      | true =>
        have := Nat.eq_of_beq_eq_true hs
        subst this
        exact hk n v h
      | false => simp only [cond_false, CV]
    | false =>
      simp only [cond_false]
      exact CV.mono hS _ m m' v (fun i u hi e => ⟨u, by
        have : i ≠ k := by
          rintro rfl
          simp only [nn, Bool.not_eq_false'] at hi
          rw [hi] at hj; cases hj
        rw [hm i this]; exact e, .refl u⟩) h
  | .mw j s' q eo n f, v, h => by
    simp only [frzA]
    cases hj : Nat.beq j k with
    | true => simp only [cond_true, CV]
    | false =>
      simp only [cond_false]
      exact CV.mono hS _ m m' v (fun i u hi e => ⟨u, by
        have : i ≠ k := by
          rintro rfl
          simp only [nn, Bool.not_eq_false'] at hi
          rw [hi] at hj; cases hj
        rw [hm i this]; exact e, .refl u⟩) h
  | .prw j s' q p fo, v, h => by
    simp only [frzA]
    cases hj : Nat.beq j k with
    | true => simp only [cond_true, CV]
    | false =>
      simp only [cond_false]
      exact CV.mono hS _ m m' v (fun i u hi e => ⟨u, by
        have : i ≠ k := by
          rintro rfl
          simp only [nn, Bool.not_eq_false'] at hi
          rw [hi] at hj; cases hj
        rw [hm i this]; exact e, .refl u⟩) h
  | .mpv j, v, h => by
    simp only [frzA]
    cases hj : Nat.beq j k with
    | true => simp only [cond_true, CV]
    | false =>
      simp only [cond_false]
      exact CV.mono hS _ m m' v (fun i u hi e => ⟨u, by
        have : i ≠ k := by
          rintro rfl
          simp only [nn, Bool.not_eq_false'] at hi
          rw [hi] at hj; cases hj
        rw [hm i this]; exact e, .refl u⟩) h
  | .acc j s' ys, v, h => by
    simp only [frzA]
    cases hj : Nat.beq j k with
    | true => simp only [cond_true, CV]
    | false =>
      simp only [cond_false]
      exact CV.mono hS _ m m' v (fun i u hi e => ⟨u, by
        have : i ≠ k := by
          rintro rfl
          simp only [nn, Bool.not_eq_false'] at hi
          rw [hi] at hj; cases hj
        rw [hm i this]; exact e, .refl u⟩) h
  | .frz j s' n ys, v, h => by
    simp only [frzA]
    cases hj : Nat.beq j k with
    | true => simp only [cond_true, CV]
    | false =>
      simp only [cond_false]
      exact CV.mono hS _ m m' v (fun i u hi e => ⟨u, by
        have : i ≠ k := by
          rintro rfl
          simp only [nn, Bool.not_eq_false'] at hi
          rw [hi] at hj; cases hj
        rw [hm i this]; exact e, .refl u⟩) h
  | .ptr j o, v, h => by
    simp only [frzA]
    cases hj : Nat.beq j k with
    | true => simp only [cond_true, CV]
    | false =>
      simp only [cond_false]
      exact CV.mono hS _ m m' v (fun i u hi e => ⟨u, by
        have : i ≠ k := by
          rintro rfl
          simp only [nn, Bool.not_eq_false'] at hi
          rw [hi] at hj; cases hj
        rw [hm i this]; exact e, .refl u⟩) h
  | .ms j o n c s', v, h => by
    simp only [frzA]
    cases hj : Nat.beq j k with
    | true => simp only [cond_true, CV]
    | false =>
      simp only [cond_false]
      exact CV.mono hS _ m m' v (fun i u hi e => ⟨u, by
        have : i ≠ k := by
          rintro rfl
          simp only [nn, Bool.not_eq_false'] at hi
          rw [hi] at hj; cases hj
        rw [hm i this]; exact e, .refl u⟩) h
  | .agg cs, v, h => by
    simp only [frzA, CV] at h ⊢
    obtain ⟨us, e, hu⟩ := h
    exact ⟨us, e, frzL_cv hS hm hk cs _ hu⟩
  | .tup cs, v, h => by
    simp only [frzA, CV] at h ⊢
    obtain ⟨us, e, hu⟩ := h
    exact ⟨us, e, frzL_cv hS hm hk cs _ hu⟩
  | .fn f cs, v, h => by
    simp only [frzA, CV] at h ⊢
    obtain ⟨us, e, hu⟩ := h
    exact ⟨us, e, frzL_cv hS hm hk cs _ hu⟩
  | .int _ _, v, h => by simp only [frzA]; exact CV.mono hS _ m m' v (fun i u hi e => by simp [nn] at hi) h
  | .bool _, v, h => by simp only [frzA]; exact CV.mono hS _ m m' v (fun i u hi e => by simp [nn] at hi) h
  | .str _, v, h => by simp only [frzA]; exact CV.mono hS _ m m' v (fun i u hi e => by simp [nn] at hi) h
  | .sl _ _ _, v, h => by simp only [frzA]; exact CV.mono hS _ m m' v (fun i u hi e => by simp [nn] at hi) h
  | .nils, v, h => by simp only [frzA]; exact CV.mono hS _ m m' v (fun i u hi e => by simp [nn] at hi) h
  | .ro _, v, h => by simp only [frzA]; exact CV.mono hS _ m m' v (fun i u hi e => by simp [nn] at hi) h
  | .nilp, v, h => by simp only [frzA]; exact CV.mono hS _ m m' v (fun i u hi e => by simp [nn] at hi) h
  | .undef, v, h => by simp only [frzA]; exact CV.mono hS _ m m' v (fun i u hi e => by simp [nn] at hi) h
  | .dead, v, h => by simp only [frzA, CV]
theorem frzL_cv {S S' : Pin} {m m' : Nm} {k s : Nat} {xs : List (List AV)} (hS : Ext S S') (hm : ∀ j, j ≠ k → m' j = m j)
    (hk : ∀ n v, CV S (.rw k s n) m v → CV S' (.frz k s n xs) m' v) : ∀ (ys : List AV) (vs : List Value), CVl S ys m vs → CVl S' (frzL k s xs ys) m' vs
  | [], vs, h => by simp only [frzL, CVl] at h ⊢; exact h
  | y :: ys, vs, h => by
    simp only [frzL, CVl] at h ⊢
    obtain ⟨u, us, e, h1, h2⟩ := h
    exact ⟨u, us, e, frzA_cv hS hm hk y u h1, frzL_cv hS hm hk ys us h2⟩
end
/-- The state in which the row k is known for good. -/
def frzK (kp : List Nat) (st : St) (k : Nat) (K : St → Prop) : Prop :=
  match lk st.heap k with
  | some (.row e s xs) => cond (inL k kp || !(Nat.blt e 2000000)) False (K ⟨frzT k s xs st.tmps, ins (frzH k s xs st.heap) k (.tok e s xs.length)⟩)
  | _ => False
theorem frzK_sound {G : Gh} {kp : List Nat} {st : St} {a : Act} {w : World} {S : Pin} {m : Nm} (h : Rel G kp st a w S m) {k : Nat} {K : St → Prop} (H : frzK kp st k K) : ∃ st' S' m', K st' ∧ Rel G kp st' a w S' m' := by
  unfold frzK at H
  split at H
  · rename_i e s xs hk
    cases hin0 : (inL k kp || !(Nat.blt e 2000000)) with
    | true => rw [hin0] at H; exact H.elim
    | false =>
      rw [hin0] at H
      simp only [cond_false] at H
      simp only [Bool.or_eq_false_iff, Bool.not_eq_false'] at hin0
      obtain ⟨hin, hcl⟩ := hin0
      have hcl : e < 2000000 := Nat.le_of_ble_eq_true hcl
      have hheld := h.held k _ hk
      obtain ⟨A, c, h1, h2, h3, hlen, h4, vals, h5, h6, h7, _, h8⟩ := hheld.vals
      rw [rowNm_lo hcl] at h6
      -- what is known now
      let S' : Pin := fun b o => if A = some ⟨b, 0, none⟩ ∧ o < vals.length then vals[o]? else S b o
      let m' : Nm := m.set k (.slice A xs.length c)
      have hun : ∀ b, A = some ⟨b, 0, none⟩ → ∀ o, S b o = none := by
        intro b hb o
        rcases h4 with ⟨e1, _⟩ | ⟨g, cur, fr, e1, _, _, _, e2⟩
        · rw [hb] at e1; cases e1
        · rw [hb] at e1
          injection e1 with e1
          injection e1 with e1
          subst e1
          exact e2 o
      have hS : Ext S S' := by
        intro b o v e1
        show (if A = some ⟨b, 0, none⟩ ∧ o < vals.length then vals[o]? else S b o) = some v
        rw [if_neg]
        · exact e1
        · rintro ⟨hb, _⟩
          rw [hun b hb] at e1; cases e1
      have hfar : ∀ b, A ≠ some ⟨b, 0, none⟩ → ∀ o, S' b o = S b o := by
        intro b hb o
        show (if A = some ⟨b, 0, none⟩ ∧ o < vals.length then vals[o]? else S b o) = S b o
        rw [if_neg (fun q => hb q.1)]
      have hm : ∀ j, j ≠ k → m' j = m j := fun j hj => Nm.set_ne m _ hj
      have hkk : ∀ n v, CV S (.rw k s n) m v → CV S' (.frz k s n xs) m' v := by
        intro n v hv
        simp only [CV] at hv ⊢
        obtain ⟨⟨B, d, rfl, p1, p2, p3, p4⟩, A1, q1, c1, p5, p6, p7⟩ := hv
        refine ⟨⟨B, d, rfl⟩, fun hn => ?_⟩
        rw [h1] at p5
        injection p5 with p5
        injection p5 with _ p5
        injection p5 with e1 e2 e3
        subst e1; subst e3
        have hv := p7 (by omega)
        injection hv with e1 e3 e4
        subst e1; subst e4
        refine ⟨⟨B, d, by rw [hn], h2, h3, p3, fun ad had => ?_⟩, B, xs.length, d, Nm.set_same _ _ _, Nat.le_refl _, fun _ => by rw [hn]⟩
        obtain ⟨g, eg⟩ := p4 ad had
        subst eg
        refine ⟨fun _ => rfl, CE.mk fun j x hj => ?_⟩
        have hxl := hlen x (List.mem_of_getElem? hj)
        refine ⟨hxl, CC.mk fun i y hi => ?_⟩
        obtain ⟨u, hu, hy⟩ := h6.get (flat_get hlen hj hi)
        have hlt : j * s + i < vals.length := (List.getElem?_eq_some_iff.1 hu).1
        refine ⟨u, ?_, hy.ext hS (MLe.refl _)⟩
        show (if B = some ⟨g, 0, none⟩ ∧ 0 + j * s + i < vals.length then vals[0 + j * s + i]? else S g (0 + j * s + i)) = some u
        rw [Nat.zero_add, if_pos ⟨had, hlt⟩]
        exact hu
      refine ⟨_, S', m', H, ?_⟩
      have hl2 : ∀ j, lk (ins (frzH k s xs st.heap) k (.tok e s xs.length)) j = if j = k then some (.tok e s xs.length) else (lk st.heap j).map (frzB k s xs) := by
        intro j; rw [lk_ins]; split
        · rfl
        · exact frzH_lk k s xs j _
      have hbk : ∀ u' u g, m' k = some u' → m k = some u → bk u' = some g → bk u = some g := by
        intro u' u g e1 e2 hg
        have hmk : m' k = some (.slice A xs.length c) := Nm.set_same _ _ _
        rw [hmk] at e1
        rw [h1] at e2
        injection e1 with e1
        injection e2 with e2
        subst e1; subst e2
        cases A with
        | none => simp [bk] at hg
        | some ad => simpa [bk] using hg
      have hlk : ∀ j b, lk (ins (frzH k s xs st.heap) k (.tok e s xs.length)) j = some b → ∃ b0, lk st.heap j = some b0 := by
        intro j b hj
        rw [hl2] at hj
        split at hj
        · rename_i e; subst e; exact ⟨_, hk⟩
        · cases hq : lk st.heap j with
          | none => rw [hq] at hj; cases hj
          | some b0 => exact ⟨b0, rfl⟩
      have hbm : ∀ j u g, (∃ b0, lk st.heap j = some b0) → m' j = some u → bk u = some g → ∃ u0, m j = some u0 ∧ bk u0 = some g := by
        intro j u g _ hj hg
        by_cases e : j = k
        · subst e; exact ⟨_, h1, hbk u _ g hj h1 hg⟩
        · exact ⟨u, by rw [← hm j e]; exact hj, hg⟩
      refine { h with defers := h.defers, pin0 := h.pin0.trans hS, pinNew := ?_, agree := ?_, tmps := ?_, held := ?_, inj := ?_, own := ?_, m0 := ?_ }
      · intro b o hb hM
        by_cases hA : A = some ⟨b, 0, none⟩
        · rcases h.own k _ _ b hk h1 (by rw [hA]; rfl) with q | q
          · omega
          · exact absurd q hM
        · rw [hfar b hA]; exact h.pinNew b o hb hM
      · intro b o v e1
        by_cases hA : A = some ⟨b, 0, none⟩ ∧ o < vals.length
        · have e2 : vals[o]? = some v := by
            have : S' b o = vals[o]? := by show (if A = some ⟨b, 0, none⟩ ∧ o < vals.length then vals[o]? else S b o) = _; rw [if_pos hA]
            rw [← this]; exact e1
          exact ⟨h8 b hA.1 o v e2, h7 v (List.mem_of_getElem? e2)⟩
        · have : S' b o = S b o := by show (if A = some ⟨b, 0, none⟩ ∧ o < vals.length then vals[o]? else S b o) = _; rw [if_neg hA]
          rw [this] at e1
          exact h.agree b o v e1
      · intro t
        have := h.tmps t
        unfold St.get at this ⊢
        simp only [frzT_lk]
        cases hq : lk st.tmps t with
        | none => simp only [Option.map_none, CV]
        | some y => rw [hq] at this; exact frzA_cv hS hm hkk y _ this
      · intro j b hj
        simp only at hj
        rw [hl2] at hj
        split at hj
        · rename_i ejk
          subst ejk
          injection hj with hj
          subst hj
          refine ⟨A, c, Nm.set_same _ _ _, h2, h3, ?_⟩
          rcases h4 with h4 | ⟨g, cur, fr, e1, e2, ef, e3, e4⟩
          · exact .inl h4
          · refine .inr ⟨g, cur, fr, e1, e2, ef, e3, fun o ho => ?_⟩
            have hlt : ¬ o < vals.length := by omega
            show (if A = some ⟨g, 0, none⟩ ∧ o < vals.length then vals[o]? else S g o) = none
            rw [if_neg (fun q => hlt q.2)]
            exact e4 o
        · rename_i ejk
          cases hq : lk st.heap j with
          | none => rw [hq] at hj; cases hj
          | some b0 =>
            rw [hq] at hj
            simp only [Option.map_some, Option.some.injEq] at hj
            subst hj
            have hh := h.held j b0 hq
            have far : ∀ u g, m j = some u → bk u = some g → w.heap[g]? = w.heap[g]? ∧ ∀ o, S' g o = S g o := by
              intro u g hu hg
              refine ⟨rfl, hfar g (fun hA => ?_)⟩
              exact h.inj k j _ _ _ u g hk hq (fun q => ejk q.symm) h1 hu (by rw [hA]; rfl) hg
            cases b0 with
            | cells cs =>
              obtain ⟨g, arr, t, p1, p2, p3, p4⟩ := hh
              exact ⟨g, arr, t, by rw [hm j ejk]; exact p1, p2, frzL_cv hS hm hkk cs _ p3, fun o => ((far _ g p1 rfl).2 o).trans (p4 o)⟩
            | row e' s' ys =>
              cases hbb : Nat.blt e' 2000000 with
              | true =>
                have he' : e' < 2000000 := Nat.le_of_ble_eq_true hbb
                have e1 : frzB k s xs (.row e' s' ys) = .row e' s' ys := by simp only [frzB, hbb, cond_true]
                rw [e1]
                exact hh.keep hS (fun cs vs q => absurd q.1 (by omega)) (hm j ejk) far
              | false =>
                have he' : ¬ e' < 2000000 := fun q => by
                  have : Nat.blt e' 2000000 = true := Nat.ble_eq_true_of_le q
                  rw [hbb] at this; cases this
                have e1 : frzB k s xs (.row e' s' ys) = .row e' s' (frzLL k s xs ys) := by simp only [frzB, hbb, cond_false]
                rw [e1]
                obtain ⟨A', c', p1, p2, p3, p4⟩ := hh
                refine ⟨A', c', by rw [hm j ejk, frzLL_len]; exact p1, by rw [frzLL_len]; exact p2, p3, ?_⟩
                rcases p4 with p4 | ⟨g, cur, fr, rfl, p5, p6, p7, p8, p9⟩
                · exact .inl p4
                · refine .inr ⟨g, cur, fr, rfl, p5, p6, p7, fun o => ((far _ g p1 rfl).2 o).trans (p8 o), fun j' x hx => ?_⟩
                  rw [frzLL_at] at hx
                  cases hy : ys[j']? with
                  | none => rw [hy] at hx; cases hx
                  | some x0 =>
                    rw [hy] at hx
                    simp only [Option.map_some, Option.some.injEq] at hx
                    subst hx
                    obtain ⟨r1, r2⟩ := p9 j' x0 hy
                    refine ⟨by rw [frzL_len]; exact r1, fun i y hi => ?_⟩
                    rw [frzL_at] at hi
                    cases hz : x0[i]? with
                    | none => rw [hz] at hi; cases hi
                    | some y0 =>
                      rw [hz] at hi
                      simp only [Option.map_some, Option.some.injEq] at hi
                      subst hi
                      obtain ⟨v, q1, q2, q3⟩ := r2 i y0 hz
                      refine ⟨v, q1, q2, ?_⟩
                      rw [rowNm_hi he'] at q3 ⊢
                      exact frzA_cv hS hm hkk y0 v q3
            | tok e' s' n' => exact hh.keep hS (fun cs vs q => q.elim) (hm j ejk) far
            | mp kt et l => exact hh.keep hS (fun cs vs q => q.elim) (hm j ejk) far
            | gone => exact hh.keep hS (fun cs vs q => q.elim) (hm j ejk) far
      · intro j j' b b' u u' g hj hj' hne hu hu' hg hg'
        obtain ⟨b0, hb0⟩ := hlk j b hj
        obtain ⟨b1, hb1⟩ := hlk j' b' hj'
        obtain ⟨u0, hu0, hg0⟩ := hbm j u g ⟨b0, hb0⟩ hu hg
        obtain ⟨u1, hu1, hg1⟩ := hbm j' u' g ⟨b1, hb1⟩ hu' hg'
        exact h.inj j j' b0 b1 u0 u1 g hb0 hb1 hne hu0 hu1 hg0 hg1
      · intro j b u g hj hu hg
        obtain ⟨b0, hb0⟩ := hlk j b hj
        obtain ⟨u0, hu0, hg0⟩ := hbm j u g ⟨b0, hb0⟩ hu hg
        exact h.own j b0 u0 g hb0 hu0 hg0
      · intro j u hj
        obtain ⟨u', hu', hg⟩ := h.m0 j u hj
        have : j ≠ k := fun e => inL_mem hin (e ▸ h.keep j u hj)
        exact ⟨u', by rw [hm j this]; exact hu', hg⟩
  · exact H.elim
def stripLL : List (List AV) → (List (List AV) → Prop) → Prop
  | [], k => k []
  | x :: xs, k => stripL x fun y => stripLL xs fun l => k (y :: l)
theorem stripLL_sound : ∀ (xs : List (List AV)) (k : List (List AV) → Prop), stripLL xs k → ∃ ys, k ys ∧ ys.length = xs.length ∧ ∀ (j : Nat) (x y : List AV), xs[j]? = some x → ys[j]? = some y → ∀ S m vs, CVl S x m vs → CVl S y noNm vs
  | [], k, h => ⟨[], h, rfl, fun j x y e => by simp at e⟩
  | x :: xs, k, h => by
    simp only [stripLL] at h
    obtain ⟨y, h1, h2⟩ := stripL_sound x _ h
    obtain ⟨l, h3, h4, h5⟩ := stripLL_sound xs _ h1
    refine ⟨_, h3, by simp [h4], fun j a b e1 e2 => ?_⟩
    cases j with
    | zero => simp at e1 e2; subst e1; subst e2; exact h2
    | succ j => simp at e1 e2; exact h5 j a b e1 e2
/-- A row in which no name stands any more. -/
def closeK (st : St) (k : Nat) (K : St → Prop) : Prop := match lk st.heap k with
  | some (.row e s xs) => cond (Nat.blt e 2000000) (K st) (cond (Nat.blt e 3000000) (stripLL xs fun xs' => K (st.blk k (.row (Nat.sub e 2000000) s xs'))) False)
  | _ => K st
theorem closeK_sound {G : Gh} {kp : List Nat} {st : St} {a : Act} {w : World} {S : Pin} {m : Nm} (h : Rel G kp st a w S m) {k : Nat} {K : St → Prop} (H : closeK st k K) : ∃ st', K st' ∧ Rel G kp st' a w S m := by
  unfold closeK at H
  split at H
  · rename_i e s xs hk
    cases hb : Nat.blt e 2000000 with
    | true => rw [hb] at H; exact ⟨st, H, h⟩
    | false =>
      rw [hb] at H
      have he : ¬ e < 2000000 := fun q => by
        have : Nat.blt e 2000000 = true := Nat.ble_eq_true_of_le q
        rw [hb] at this; cases this
      obtain ⟨h3, H⟩ := cond_F H
      have h3 : e < 3000000 := Nat.le_of_ble_eq_true h3
      obtain ⟨ys, h1, h2, h4⟩ := stripLL_sound _ _ H
      refine ⟨_, h1, h.weaken (fun t v hv => hv) (fun j b hj => ?_)⟩
      simp only [St.blk, lk_ins] at hj
      by_cases ej : j = k
      · subst ej
        rw [if_pos rfl] at hj
        injection hj with hj
        subst hj
        refine ⟨⟨_, hk⟩, ?_⟩
        obtain ⟨A, c, p1, p2, p3, p4⟩ := h.held j _ hk
        have hsub : Nat.sub e 2000000 = e - 2000000 := rfl
        rw [hsub]
        refine ⟨A, c, by rw [h2]; exact p1, by rw [h2]; exact p2, p3, ?_⟩
        rcases p4 with p4 | ⟨g, cur, fr, rfl, p5, p6, p7, p8, p9⟩
        · exact .inl p4
        · have hfr : fr = (0, 0) := p6.resolve_right (by omega)
          have hty : rowTy e = rowTy (e - 2000000) := by unfold rowTy; rw [if_neg (by omega), if_neg he, if_pos (by omega)]
          rw [hty] at p5
          refine .inr ⟨g, cur, fr, rfl, p5, .inl hfr, p7, p8, fun q y hy => ?_⟩
          have hq : q < xs.length := by have := (List.getElem?_eq_some_iff.1 hy).1; omega
          have hx : xs[q]? = some xs[q] := List.getElem?_eq_getElem hq
          obtain ⟨r1, r2⟩ := p9 q _ hx
          rw [rowNm_hi he] at r2
          have hle : q * s + s ≤ cur.size := by rw [p7, ← Nat.succ_mul]; exact Nat.mul_le_mul_right s (by omega)
          have hcv : CVl S xs[q] m ((cur.toList.drop (q * s)).take s) := CVl.mk (by rw [r1, List.length_take, List.length_drop, Array.length_toList]; omega) (fun i y v e1 e2 => by
            obtain ⟨u, hu, _, hy⟩ := r2 i y e1
            rw [List.getElem?_take] at e2
            split at e2
            · rw [List.getElem?_drop] at e2
              have : cur[q * s + i]? = some v := by simpa using e2
              rw [hu] at this
              injection this with this
              subst this; exact hy
            · cases e2)
          have hcn := h4 q _ _ hx hy S m _ hcv
          have hyl : y.length = s := by have e1 := hcn.len; have e2 := hcv.len; omega
          refine ⟨hyl, fun i z hz => ?_⟩
          obtain ⟨v, hv, hzv⟩ := hcn.get hz
          have hi : i < s := by have := (List.getElem?_eq_some_iff.1 hz).1; omega
          obtain ⟨u, hu, hone, _⟩ := r2 i _ (List.getElem?_eq_getElem (show i < (xs[q]).length by omega))
          rw [List.getElem?_take, if_pos hi, List.getElem?_drop] at hv
          have hv : cur[q * s + i]? = some v := by simpa using hv
          rw [hu] at hv
          injection hv with hv
          subst hv
          rw [rowNm_lo (show e - 2000000 < 2000000 by omega)]
          exact ⟨u, hu, hone, hzv⟩
      · rw [if_neg ej] at hj
        exact ⟨⟨b, hj⟩, h.held j b hj⟩
  · exact ⟨st, H, h⟩
end Go.Proofs.YthdfkiopppkfcaaDoor
