/- Rows, III: known for good from now on; bytes as a string. -/
import Derived.Test.YtkbfldgebcpigaaVs
namespace Go.Proofs.Ytkbfldgebcpigaa
open Go
open Go.RowKit (Below)
set_option linter.unusedVariables false
set_option linter.unusedSimpArgs false

mutual
/-- The row k is known for good: xs. -/
def frzA (k s : Nat) (xs : List (List AV)) : AV → AV
  | .rw j s' n => cond (Nat.beq j k) (cond (Nat.beq s s') (.frz k s n xs) .dead) (.rw j s' n)
  | .mw j s' q eo n f => cond (Nat.beq j k) .dead (.mw j s' q eo n f)
  | .prw j s' q i fo => cond (Nat.beq j k) .dead (.prw j s' q i fo)
  | .agg cs => .agg (frzL k s xs cs)
  | .tup cs => .tup (frzL k s xs cs)
  | .fn f cs => .fn f (frzL k s xs cs)
  | .acc j s' ys => cond (Nat.beq j k) .dead (.acc j s' ys)
  | .frz j s' n ys => cond (Nat.beq j k) .dead (.frz j s' n ys)
  | .ptr j o => cond (Nat.beq j k) .dead (.ptr j o)
  | .ms j o n c s' => cond (Nat.beq j k) .dead (.ms j o n c s')
  | .int q n => .int q n
  | .bool b => .bool b
  | .str b => .str b
  | .sl s f ys => .sl s f ys
  | .nils => .nils
  | .ro cs => .ro cs
  | .nilp => .nilp
  | .undef => .undef
  | .dead => .dead
def frzL (k s : Nat) (xs : List (List AV)) : List AV → List AV
  | [] => []
  | y :: ys => frzA k s xs y :: frzL k s xs ys
end
def frzT (k s : Nat) (xs : List (List AV)) : List (Nat × AV) → List (Nat × AV)
  | [] => []
  | (t, y) :: l => (t, frzA k s xs y) :: frzT k s xs l
def frzB (k s : Nat) (xs : List (List AV)) : Blk → Blk
  | .cells cs => .cells (frzL k s xs cs)
  | b => b
def frzH (k s : Nat) (xs : List (List AV)) : List (Nat × Blk) → List (Nat × Blk)
  | [] => []
  | (j, b) :: l => (j, frzB k s xs b) :: frzH k s xs l
theorem frzT_lk (k s : Nat) (xs : List (List AV)) (t : Nat) : ∀ (l : List (Nat × AV)), lk (frzT k s xs l) t = (lk l t).map (frzA k s xs)
  | [] => rfl
  | (j, y) :: l => by
    simp only [frzT, lk]
    cases Nat.beq j t with
    | true => rfl
    | false => exact frzT_lk k s xs t l
theorem frzH_lk (k s : Nat) (xs : List (List AV)) (t : Nat) : ∀ (l : List (Nat × Blk)), lk (frzH k s xs l) t = (lk l t).map (frzB k s xs)
  | [] => rfl
  | (j, y) :: l => by
    simp only [frzH, lk]
    cases Nat.beq j t with
    | true => rfl
    | false => exact frzH_lk k s xs t l
mutual
theorem frzA_cv {S S' : Pin} {m m' : Nm} {k s : Nat} {xs : List (List AV)} (hS : Ext S S') (hm : ∀ j, j ≠ k → m' j = m j)
    (hk : ∀ n v, CV S (.rw k s n) m v → CV S' (.frz k s n xs) m' v) : ∀ (x : AV) (v : Value), CV S x m v → CV S' (frzA k s xs x) m' v
  | .rw j s' n, v, h => by
    simp only [frzA]
    cases hj : Nat.beq j k with
    | true =>
      have := Nat.eq_of_beq_eq_true hj
      subst this
      simp only [cond_true]
      cases hs : Nat.beq s s' with
      | true =>
        have := Nat.eq_of_beq_eq_true hs
        subst this
        exact hk n v h
      | false => simp only [cond_false, CV]
    | false =>
      simp only [cond_false]
      exact CV.mono hS _ m m' v (fun i u hi e => ⟨u, by
        have : i ≠ k := by
          rintro rfl
          simp only [nn, Bool.not_eq_false'] at hi
          rw [hi] at hj; cases hj
        rw [hm i this]; exact e, .refl u⟩) h
  | .mw j s' q eo n f, v, h => by
    simp only [frzA]
    cases hj : Nat.beq j k with
    | true => simp only [cond_true, CV]
    | false =>
      simp only [cond_false]
      exact CV.mono hS _ m m' v (fun i u hi e => ⟨u, by
        have : i ≠ k := by
          rintro rfl
          simp only [nn, Bool.not_eq_false'] at hi
          rw [hi] at hj; cases hj
        rw [hm i this]; exact e, .refl u⟩) h
  | .prw j s' q p fo, v, h => by
    simp only [frzA]
    cases hj : Nat.beq j k with
    | true => simp only [cond_true, CV]
    | false =>
      simp only [cond_false]
      exact CV.mono hS _ m m' v (fun i u hi e => ⟨u, by
        have : i ≠ k := by
          rintro rfl
          simp only [nn, Bool.not_eq_false'] at hi
          rw [hi] at hj; cases hj
        rw [hm i this]; exact e, .refl u⟩) h
  | .acc j s' ys, v, h => by
    simp only [frzA]
    cases hj : Nat.beq j k with
    | true => simp only [cond_true, CV]
    | false =>
      simp only [cond_false]
      exact CV.mono hS _ m m' v (fun i u hi e => ⟨u, by
        have : i ≠ k := by
          rintro rfl
          simp only [nn, Bool.not_eq_false'] at hi
          rw [hi] at hj; cases hj
        rw [hm i this]; exact e, .refl u⟩) h
  | .frz j s' n ys, v, h => by
    simp only [frzA]
    cases hj : Nat.beq j k with
    | true => simp only [cond_true, CV]
    | false =>
      simp only [cond_false]
      exact CV.mono hS _ m m' v (fun i u hi e => ⟨u, by
        have : i ≠ k := by
          rintro rfl
          simp only [nn, Bool.not_eq_false'] at hi
          rw [hi] at hj; cases hj
        rw [hm i this]; exact e, .refl u⟩) h
  | .ptr j o, v, h => by
    simp only [frzA]
    cases hj : Nat.beq j k with
    | true => simp only [cond_true, CV]
    | false =>
      simp only [cond_false]
      exact CV.mono hS _ m m' v (fun i u hi e => ⟨u, by
        have : i ≠ k := by
          rintro rfl
          simp only [nn, Bool.not_eq_false'] at hi
          rw [hi] at hj; cases hj
        rw [hm i this]; exact e, .refl u⟩) h
  | .ms j o n c s', v, h => by
    simp only [frzA]
    cases hj : Nat.beq j k with
    | true => simp only [cond_true, CV]
    | false =>
      simp only [cond_false]
      exact CV.mono hS _ m m' v (fun i u hi e => ⟨u, by
        have : i ≠ k := by
          rintro rfl
          simp only [nn, Bool.not_eq_false'] at hi
          rw [hi] at hj; cases hj
        rw [hm i this]; exact e, .refl u⟩) h
  | .agg cs, v, h => by
    simp only [frzA, CV] at h ⊢
    obtain ⟨us, e, hu⟩ := h
    exact ⟨us, e, frzL_cv hS hm hk cs _ hu⟩
  | .tup cs, v, h => by
    simp only [frzA, CV] at h ⊢
    obtain ⟨us, e, hu⟩ := h
    exact ⟨us, e, frzL_cv hS hm hk cs _ hu⟩
  | .fn f cs, v, h => by
    simp only [frzA, CV] at h ⊢
    obtain ⟨us, e, hu⟩ := h
    exact ⟨us, e, frzL_cv hS hm hk cs _ hu⟩
  | .int _ _, v, h => by simp only [frzA]; exact CV.mono hS _ m m' v (fun i u hi e => by simp [nn] at hi) h
  | .bool _, v, h => by simp only [frzA]; exact CV.mono hS _ m m' v (fun i u hi e => by simp [nn] at hi) h
  | .str _, v, h => by simp only [frzA]; exact CV.mono hS _ m m' v (fun i u hi e => by simp [nn] at hi) h
  | .sl _ _ _, v, h => by simp only [frzA]; exact CV.mono hS _ m m' v (fun i u hi e => by simp [nn] at hi) h
  | .nils, v, h => by simp only [frzA]; exact CV.mono hS _ m m' v (fun i u hi e => by simp [nn] at hi) h
  | .ro _, v, h => by simp only [frzA]; exact CV.mono hS _ m m' v (fun i u hi e => by simp [nn] at hi) h
  | .nilp, v, h => by simp only [frzA]; exact CV.mono hS _ m m' v (fun i u hi e => by simp [nn] at hi) h
  | .undef, v, h => by simp only [frzA]; exact CV.mono hS _ m m' v (fun i u hi e => by simp [nn] at hi) h
  | .dead, v, h => by simp only [frzA, CV]
theorem frzL_cv {S S' : Pin} {m m' : Nm} {k s : Nat} {xs : List (List AV)} (hS : Ext S S') (hm : ∀ j, j ≠ k → m' j = m j)
    (hk : ∀ n v, CV S (.rw k s n) m v → CV S' (.frz k s n xs) m' v) : ∀ (ys : List AV) (vs : List Value), CVl S ys m vs → CVl S' (frzL k s xs ys) m' vs
  | [], vs, h => by simp only [frzL, CVl] at h ⊢; exact h
  | y :: ys, vs, h => by
    simp only [frzL, CVl] at h ⊢
    obtain ⟨u, us, e, h1, h2⟩ := h
    exact ⟨u, us, e, frzA_cv hS hm hk y u h1, frzL_cv hS hm hk ys us h2⟩
end
/-- The state in which the row k is known for good. -/
def frzK (kp : List Nat) (st : St) (k : Nat) (K : St → Prop) : Prop :=
  match lk st.heap k with
  | some (.row e s xs) => cond (inL k kp) False (K ⟨frzT k s xs st.tmps, ins (frzH k s xs st.heap) k (.tok e s xs.length)⟩)
  | _ => False
theorem frzK_sound {G : Gh} {kp : List Nat} {st : St} {a : Act} {w : World} {S : Pin} {m : Nm} (h : Rel G kp st a w S m) {k : Nat} {K : St → Prop} (H : frzK kp st k K) : ∃ st' S' m', K st' ∧ Rel G kp st' a w S' m' := by
  unfold frzK at H
  split at H
  · rename_i e s xs hk
    cases hin : inL k kp with
    | true => rw [hin] at H; exact H.elim
    | false =>
      rw [hin] at H
      simp only [cond_false] at H
      have hheld := h.held k _ hk
      obtain ⟨A, c, h1, h2, h3, hlen, h4, vals, h5, h6, h7, _, h8⟩ := hheld.vals
      -- what is known now
      let S' : Pin := fun b o => if A = some ⟨b, 0, none⟩ ∧ o < vals.length then vals[o]? else S b o
      let m' : Nm := m.set k (.slice A xs.length c)
      have hun : ∀ b, A = some ⟨b, 0, none⟩ → ∀ o, S b o = none := by
        intro b hb o
        rcases h4 with ⟨e1, _⟩ | ⟨g, cur, fr, e1, _, _, _, e2⟩
        · rw [hb] at e1; cases e1
        · rw [hb] at e1
          injection e1 with e1
          injection e1 with e1
          subst e1
          exact e2 o
      have hS : Ext S S' := by
        intro b o v e1
        show (if A = some ⟨b, 0, none⟩ ∧ o < vals.length then vals[o]? else S b o) = some v
        rw [if_neg]
        · exact e1
        · rintro ⟨hb, _⟩
          rw [hun b hb] at e1; cases e1
      have hfar : ∀ b, A ≠ some ⟨b, 0, none⟩ → ∀ o, S' b o = S b o := by
        intro b hb o
        show (if A = some ⟨b, 0, none⟩ ∧ o < vals.length then vals[o]? else S b o) = S b o
        rw [if_neg (fun q => hb q.1)]
      have hm : ∀ j, j ≠ k → m' j = m j := fun j hj => Nm.set_ne m _ hj
      have hkk : ∀ n v, CV S (.rw k s n) m v → CV S' (.frz k s n xs) m' v := by
        intro n v hv
        simp only [CV] at hv ⊢
        obtain ⟨⟨B, d, rfl, p1, p2, p3, p4⟩, A1, q1, c1, p5, p6, p7⟩ := hv
        refine ⟨⟨B, d, rfl⟩, fun hn => ?_⟩
        rw [h1] at p5
        injection p5 with p5
        injection p5 with _ p5
        injection p5 with e1 e2 e3
        subst e1; subst e3
        have hv := p7 (by omega)
        injection hv with e1 e3 e4
        subst e1; subst e4
        refine ⟨⟨B, d, by rw [hn], h2, h3, p3, fun ad had => ?_⟩, B, xs.length, d, Nm.set_same _ _ _, Nat.le_refl _, fun _ => by rw [hn]⟩
        obtain ⟨g, eg⟩ := p4 ad had
        subst eg
        refine ⟨fun _ => rfl, CE.mk fun j x hj => ?_⟩
        have hxl := hlen x (List.mem_of_getElem? hj)
        refine ⟨hxl, CC.mk fun i y hi => ?_⟩
        obtain ⟨u, hu, hy⟩ := h6.get (flat_get hlen hj hi)
        have hlt : j * s + i < vals.length := (List.getElem?_eq_some_iff.1 hu).1
        refine ⟨u, ?_, hy.ext hS (MLe.refl _)⟩
        show (if B = some ⟨g, 0, none⟩ ∧ 0 + j * s + i < vals.length then vals[0 + j * s + i]? else S g (0 + j * s + i)) = some u
        rw [Nat.zero_add, if_pos ⟨had, hlt⟩]
        exact hu
      refine ⟨_, S', m', H, ?_⟩
      have hl2 : ∀ j, lk (ins (frzH k s xs st.heap) k (.tok e s xs.length)) j = if j = k then some (.tok e s xs.length) else (lk st.heap j).map (frzB k s xs) := by
        intro j; rw [lk_ins]; split
        · rfl
        · exact frzH_lk k s xs j _
      have hbk : ∀ u' u g, m' k = some u' → m k = some u → bk u' = some g → bk u = some g := by
        intro u' u g e1 e2 hg
        have hmk : m' k = some (.slice A xs.length c) := Nm.set_same _ _ _
        rw [hmk] at e1
        rw [h1] at e2
        injection e1 with e1
        injection e2 with e2
        subst e1; subst e2
        cases A with
        | none => simp [bk] at hg
        | some ad => simpa [bk] using hg
      have hlk : ∀ j b, lk (ins (frzH k s xs st.heap) k (.tok e s xs.length)) j = some b → ∃ b0, lk st.heap j = some b0 := by
        intro j b hj
        rw [hl2] at hj
        split at hj
        · rename_i e; subst e; exact ⟨_, hk⟩
        · cases hq : lk st.heap j with
          | none => rw [hq] at hj; cases hj
          | some b0 => exact ⟨b0, rfl⟩
      have hbm : ∀ j u g, (∃ b0, lk st.heap j = some b0) → m' j = some u → bk u = some g → ∃ u0, m j = some u0 ∧ bk u0 = some g := by
        intro j u g _ hj hg
        by_cases e : j = k
        · subst e; exact ⟨_, h1, hbk u _ g hj h1 hg⟩
        · exact ⟨u, by rw [← hm j e]; exact hj, hg⟩
      refine { h with defers := h.defers, pin0 := h.pin0.trans hS, pinNew := ?_, agree := ?_, tmps := ?_, held := ?_, inj := ?_, own := ?_, m0 := ?_ }
      · intro b o hb hM
        by_cases hA : A = some ⟨b, 0, none⟩
        · rcases h.own k _ _ b hk h1 (by rw [hA]; rfl) with q | q
          · omega
          · exact absurd q hM
        · rw [hfar b hA]; exact h.pinNew b o hb hM
      · intro b o v e1
        by_cases hA : A = some ⟨b, 0, none⟩ ∧ o < vals.length
        · have e2 : vals[o]? = some v := by
            have : S' b o = vals[o]? := by show (if A = some ⟨b, 0, none⟩ ∧ o < vals.length then vals[o]? else S b o) = _; rw [if_pos hA]
            rw [← this]; exact e1
          exact ⟨h8 b hA.1 o v e2, h7 v (List.mem_of_getElem? e2)⟩
        · have : S' b o = S b o := by show (if A = some ⟨b, 0, none⟩ ∧ o < vals.length then vals[o]? else S b o) = _; rw [if_neg hA]
          rw [this] at e1
          exact h.agree b o v e1
      · intro t
        have := h.tmps t
        unfold St.get at this ⊢
        simp only [frzT_lk]
        cases hq : lk st.tmps t with
        | none => simp only [Option.map_none, CV]
        | some y => rw [hq] at this; exact frzA_cv hS hm hkk y _ this
      · intro j b hj
        simp only at hj
        rw [hl2] at hj
        split at hj
        · rename_i ejk
          subst ejk
          injection hj with hj
          subst hj
          refine ⟨A, c, Nm.set_same _ _ _, h2, h3, ?_⟩
          rcases h4 with h4 | ⟨g, cur, fr, e1, e2, ef, e3, e4⟩
          · exact .inl h4
          · refine .inr ⟨g, cur, fr, e1, e2, ef, e3, fun o ho => ?_⟩
            have hlt : ¬ o < vals.length := by omega
            show (if A = some ⟨g, 0, none⟩ ∧ o < vals.length then vals[o]? else S g o) = none
            rw [if_neg (fun q => hlt q.2)]
            exact e4 o
        · rename_i ejk
          cases hq : lk st.heap j with
          | none => rw [hq] at hj; cases hj
          | some b0 =>
            rw [hq] at hj
            simp only [Option.map_some, Option.some.injEq] at hj
            subst hj
            have hh := h.held j b0 hq
            have far : ∀ u g, m j = some u → bk u = some g → w.heap[g]? = w.heap[g]? ∧ ∀ o, S' g o = S g o := by
              intro u g hu hg
              refine ⟨rfl, hfar g (fun hA => ?_)⟩
              exact h.inj k j _ _ _ u g hk hq (fun q => ejk q.symm) h1 hu (by rw [hA]; rfl) hg
            cases b0 with
            | cells cs =>
              obtain ⟨g, arr, t, p1, p2, p3, p4⟩ := hh
              exact ⟨g, arr, t, by rw [hm j ejk]; exact p1, p2, frzL_cv hS hm hkk cs _ p3, fun o => ((far _ g p1 rfl).2 o).trans (p4 o)⟩
            | row e' s' ys => exact hh.keep hS (fun cs vs q => by cases q) (hm j ejk) far
            | tok e' s' n' => exact hh.keep hS (fun cs vs q => by cases q) (hm j ejk) far
      · intro j j' b b' u u' g hj hj' hne hu hu' hg hg'
        obtain ⟨b0, hb0⟩ := hlk j b hj
        obtain ⟨b1, hb1⟩ := hlk j' b' hj'
        obtain ⟨u0, hu0, hg0⟩ := hbm j u g ⟨b0, hb0⟩ hu hg
        obtain ⟨u1, hu1, hg1⟩ := hbm j' u' g ⟨b1, hb1⟩ hu' hg'
        exact h.inj j j' b0 b1 u0 u1 g hb0 hb1 hne hu0 hu1 hg0 hg1
      · intro j b u g hj hu hg
        obtain ⟨b0, hb0⟩ := hlk j b hj
        obtain ⟨u0, hu0, hg0⟩ := hbm j u g ⟨b0, hb0⟩ hu hg
        exact h.own j b0 u0 g hb0 hu0 hg0
      · intro j u hj
        obtain ⟨u', hu', hg⟩ := h.m0 j u hj
        have : j ≠ k := fun e => inL_mem hin (e ▸ h.keep j u hj)
        exact ⟨u', by rw [hm j this]; exact hu', hg⟩
  · exact H.elim
end Go.Proofs.Ytkbfldgebcpigaa
