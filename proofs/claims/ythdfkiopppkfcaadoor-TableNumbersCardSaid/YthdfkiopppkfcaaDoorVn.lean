/- Code in whole; a function. -/
import Derived.Test.YthdfkiopppkfcaaDoorVm
import Derived.Deep.LoopGhost
namespace Go.Proofs.YthdfkiopppkfcaaDoor
open Go
open Go.RowKit (Below)
set_option linter.unusedVariables false
set_option linter.unusedSimpArgs false

/-! Rows that are known for good from here on. -/
mutual
def rwsA : AV → List Nat
  | .rw k _ _ => [k]
  | .agg cs => rwsL cs
  | .tup cs => rwsL cs
  | .fn _ cs => rwsL cs
  | _ => []
def rwsL : List AV → List Nat
  | [] => []
  | x :: xs => rwsA x ++ rwsL xs
end
def slotRws (st : St) : List Nat → List Nat
  | [] => []
  | t :: l => cond (Nat.ble 1000000 t) [Nat.sub t 1000000] (rwsA (st.get t)) ++ slotRws st l

/-- A slot that holds nil is from here on an own row, of no elements: slot, name, type of an element, its cells. -/
def isNils : AV → Bool
  | .nils => true
  | _ => false
def setK : List AV → Nat → AV → (List AV → Prop) → Prop
  | _ :: cs, 0, x, k => k (x :: cs)
  | c :: cs, n + 1, x, k => setK cs n x fun l => k (c :: l)
  | [], _, _, _ => False
theorem setK_set : ∀ {cs : List AV} {n : Nat} {x : AV} {k : List AV → Prop}, setK cs n x k → k (cs.set n x) ∧ n < cs.length
  | c :: cs, 0, x, k, h => by simp only [setK] at h; exact ⟨h, by simp⟩
  | c :: cs, n + 1, x, k, h => by
    simp only [setK] at h
    have := setK_set h
    exact ⟨this.1, by simp; exact this.2⟩
  | [], _, _, _, h => by simp [setK] at h
def nilAt : List AV → Nat → Bool
  | x :: _, 0 => isNils x
  | _ :: l, n + 1 => nilAt l n
  | [], _ => false
theorem nilAt_get : ∀ {cs : List AV} {n : Nat}, nilAt cs n = true → cs[n]? = some .nils
  | x :: _, 0, h => by cases x <;> first | rfl | cases h
  | _ :: l, n + 1, h => by simp only [nilAt] at h; simpa using nilAt_get h
  | [], _, h => by cases h
theorem CVl.setAt {S : Pin} {cs : List AV} {m : Nm} {vs : List Value} {n : Nat} {x : AV} (h : CVl S cs m vs) (hx : ∀ v, vs[n]? = some v → CV S x m v) : CVl S (cs.set n x) m vs := by
  refine CVl.mk (by simp; exact h.len) fun j y v e1 e2 => ?_
  rw [List.getElem?_set] at e1
  split at e1
  · rename_i hj
    subst hj
    split at e1
    · simp only [Option.some.injEq] at e1; subst e1; exact hx v e2
    · cases e1
  · obtain ⟨v', h1, h2⟩ := h.get e1
    rw [e2] at h1
    injection h1 with h1
    subst h1; exact h2
/-- The same for a cell of a block: block and cell are told in one number. -/
def empN (kp : List Nat) : List (Nat × Nat × Nat × Nat) → St → (St → Prop) → Prop
  | [], st, K => K st
  | (t, k, e, s) :: l, st, K => cond (Nat.ble 1000000 t)
    (match lk st.heap (Nat.div (Nat.sub t 1000000) 100) with
      | some (.cells cs) => cond (nilAt cs (Nat.mod t 100) && fresh kp st k && !(Nat.beq k (Nat.div (Nat.sub t 1000000) 100))) (setK cs (Nat.mod t 100) (.rw k s 0) fun cs' => match st with | ⟨tm, hp⟩ => insK hp k (.row e s []) fun hp => insK hp (Nat.div (Nat.sub t 1000000) 100) (.cells cs') fun hp => empN kp l ⟨tm, hp⟩ K) (empN kp l st K)
      | _ => False)
    (cond (isNils (st.get t) && fresh kp st k) (match st with | ⟨tm, hp⟩ => insK tm t (.rw k s 0) fun tm => insK hp k (.row e s []) fun hp => empN kp l ⟨tm, hp⟩ K) False)
theorem empN_one {G : Gh} {kp : List Nat} {a : Act} {w : World} {S : Pin} {m : Nm} {st : St} {k e s : Nat} (hf : fresh kp st k = true) (h : Rel G kp st a w S m) : Rel G kp (st.blk k (.row e s [])) a w S (m.set k (.iface 0 (.slice none 0 0))) :=
  h.fresh_ hf (Go.RowKit.Below.refl _ _) (Ext.refl S) (fun _ _ _ => rfl) h.agree (fun g hg => by simp [bk] at hg)
    ⟨none, 0, Nm.set_same _ _ _, Nat.le_refl _, by simp [maxLen], .inl ⟨rfl, rfl⟩⟩
theorem emp_rw {S : Pin} {m : Nm} {k s : Nat} : CV S (.rw k s 0) (m.set k (.iface 0 (.slice none 0 0))) (.slice none 0 0) := by
  simp only [CV]
  exact ⟨⟨none, 0, rfl, Nat.le_refl _, by simp [maxLen], fun _ => rfl, fun a e => by cases e⟩, none, 0, 0, Nm.set_same _ _ _, Nat.le_refl _, fun _ => rfl⟩
theorem empN_sound {G : Gh} {kp : List Nat} {a : Act} {w : World} : ∀ (l : List (Nat × Nat × Nat × Nat)) (st : St) (S : Pin) (m : Nm) (K : St → Prop), empN kp l st K → Rel G kp st a w S m → ∃ st' S' m', K st' ∧ Rel G kp st' a w S' m'
  | [], st, S, m, K, H, h => ⟨st, S, m, H, h⟩
  | (t, k, e, s) :: l, st, S, m, K, H, h => by
    simp only [empN] at H
    cases hb1 : Nat.ble 1000000 t with
    | true =>
      rw [hb1] at H
      simp only [cond_true] at H
      split at H
      · rename_i cs hcs
        cases hb : (nilAt cs (Nat.mod t 100) && fresh kp st k && !(Nat.beq k (Nat.div (Nat.sub t 1000000) 100))) with
        | false => rw [hb] at H; exact empN_sound l st S m K H h
        | true =>
        rw [hb] at H
        simp only [cond_true] at H
        simp only [Bool.and_eq_true, Bool.not_eq_true'] at hb
        obtain ⟨⟨hn, hf⟩, hne⟩ := hb
        obtain ⟨H, hlt⟩ := setK_set H
        have hne : Nat.div (Nat.sub t 1000000) 100 ≠ k := fun q => by rw [← q, nbeq_self] at hne; cases hne
        have h1 := empN_one (e := e) (s := s) hf h
        have h2 : Rel G kp ((st.blk k (.row e s [])).blk (Nat.div (Nat.sub t 1000000) 100) (.cells (cs.set (Nat.mod t 100) (.rw k s 0)))) a w S (m.set k (.iface 0 (.slice none 0 0))) := by
          refine h1.weaken (fun q v hq => hq) (fun j b hj => ?_)
          simp only [St.blk, lk_ins] at hj
          by_cases hjt : j = Nat.div (Nat.sub t 1000000) 100
          · subst hjt
            rw [if_pos rfl] at hj
            injection hj with hj
            subst hj
            have hk : lk (st.blk k (.row e s [])).heap (Nat.div (Nat.sub t 1000000) 100) = some (.cells cs) := by
              simp only [St.blk, lk_ins]; rw [if_neg hne]; exact hcs
            refine ⟨⟨_, hk⟩, ?_⟩
            obtain ⟨g, arr, ty, p1, p2, p3, p4⟩ := h1.held _ _ hk
            refine ⟨g, arr, ty, p1, p2, p3.setAt fun v hv => ?_, p4⟩
            obtain ⟨v', q1, q2⟩ := p3.get (nilAt_get hn)
            rw [hv] at q1
            injection q1 with q1
            subst q1
            simp only [CV] at q2
            subst q2
            exact emp_rw
          · rw [if_neg hjt] at hj
            have hk : lk (st.blk k (.row e s [])).heap j = some b := by simp only [St.blk, lk_ins]; exact hj
            exact ⟨⟨b, hk⟩, h1.held _ _ hk⟩
        obtain ⟨tm, hp⟩ := st
        simp only [insK_ins] at H
        exact empN_sound l _ S _ K H h2
      · exact H.elim
    | false =>
    rw [hb1] at H
    simp only [cond_false] at H
    obtain ⟨hb, H⟩ := cond_F H
    simp only [Bool.and_eq_true] at hb
    obtain ⟨hn, hf⟩ := hb
    have hnil : st.get t = .nils := by
      cases e : st.get t <;> rw [e] at hn <;> first | rfl | cases hn
    have h1 := empN_one (e := e) (s := s) hf h
    have hv : CV S .nils m (a.tmps.getD t undef) := hnil ▸ h.tmps t
    simp only [CV] at hv
    have h2 : Rel G kp ((st.blk k (.row e s [])).put t (.rw k s 0)) a w S (m.set k (.iface 0 (.slice none 0 0))) := by
      refine h1.weaken (fun q v hq => ?_) (fun j b hj => ⟨⟨b, hj⟩, h1.held j b hj⟩)
      rw [St.get_put]
      by_cases hqt : q = t
      · subst hqt
        rw [if_pos rfl]
        have hq' : CV S .nils (m.set k (.iface 0 (.slice none 0 0))) v := by
          have : (st.blk k (.row e s [])).get q = .nils := hnil
          rw [this] at hq; exact hq
        simp only [CV] at hq'
        subst hq'
        exact emp_rw
      · rw [if_neg hqt]; exact hq
    obtain ⟨tm, hp⟩ := st
    simp only [insK_ins] at H
    exact empN_sound l _ S _ K H h2

/-! A name is used anew: what was known under it is forgotten. -/
def killA (k : Nat) (x : AV) : AV := cond (nn k x) x .dead
def killL (k : Nat) : List AV → List AV
  | [] => []
  | x :: xs => killA k x :: killL k xs
def killT (k : Nat) : List (Nat × AV) → List (Nat × AV)
  | [] => []
  | (t, x) :: l => (t, killA k x) :: killT k l
def killLL (k : Nat) : List (List AV) → List (List AV)
  | [] => []
  | x :: xs => killL k x :: killLL k xs
theorem killL_at (k : Nat) : ∀ (l : List AV) (i : Nat), (killL k l)[i]? = (l[i]?).map (killA k)
  | [], i => by simp [killL]
  | y :: l, 0 => by simp [killL]
  | y :: l, i + 1 => by simp only [killL, List.getElem?_cons_succ]; exact killL_at k l i
theorem killLL_at (k : Nat) : ∀ (l : List (List AV)) (i : Nat), (killLL k l)[i]? = (l[i]?).map (killL k)
  | [], i => by simp [killLL]
  | y :: l, 0 => by simp [killLL]
  | y :: l, i + 1 => by simp only [killLL, List.getElem?_cons_succ]; exact killLL_at k l i
theorem killL_len (k : Nat) : ∀ (l : List AV), (killL k l).length = l.length
  | [] => rfl
  | y :: l => by simp [killL, killL_len k l]
theorem killLL_len (k : Nat) : ∀ (l : List (List AV)), (killLL k l).length = l.length
  | [] => rfl
  | y :: l => by simp [killLL, killLL_len k l]
def killB (k : Nat) : Blk → Blk
  | .cells cs => .cells (killL k cs)
  | .row e s xs => cond (Nat.blt e 2000000) (.row e s xs) (.row e s (killLL k xs))
  | b => b
def killH (k : Nat) : List (Nat × Blk) → List (Nat × Blk)
  | [] => []
  | (j, b) :: l => cond (Nat.beq j k) (killH k l) ((j, killB k b) :: killH k l)
theorem killA_cv {S : Pin} {m : Nm} {v : Value} {x : AV} (k : Nat) (h : CV S x m v) : CV S (killA k x) m v := by
  unfold killA
  cases nn k x with
  | true => exact h
  | false => simp only [cond_false, CV]
theorem killL_cv {S : Pin} {m : Nm} (k : Nat) : ∀ {xs : List AV} {vs : List Value}, CVl S xs m vs → CVl S (killL k xs) m vs
  | [], vs, h => by simp only [killL]; exact h
  | x :: xs, vs, h => by
    simp only [CVl, killL] at h ⊢
    obtain ⟨u, us, e, h1, h2⟩ := h
    exact ⟨u, us, e, killA_cv k h1, killL_cv k h2⟩
theorem killT_lk (k t : Nat) : ∀ (l : List (Nat × AV)), lk (killT k l) t = (lk l t).map (killA k)
  | [] => rfl
  | (j, x) :: l => by
    simp only [killT, lk]
    cases Nat.beq j t with
    | true => rfl
    | false => exact killT_lk k t l
theorem killH_lk (k t : Nat) : ∀ (l : List (Nat × Blk)) (b : Blk), lk (killH k l) t = some b → ∃ b0, lk l t = some b0 ∧ b = killB k b0
  | [], b, h => by simp [killH, lk] at h
  | (j, x) :: l, b, h => by
    simp only [killH] at h
    cases hj : Nat.beq j k with
    | true =>
      rw [hj] at h
      simp only [cond_true] at h
      obtain ⟨b0, h1, h2⟩ := killH_lk k t l b h
      simp only [lk]
      cases hjt : Nat.beq j t with
      | false => exact ⟨b0, h1, h2⟩
      | true =>
        have e1 := Nat.eq_of_beq_eq_true hj
        have e2 := Nat.eq_of_beq_eq_true hjt
        subst e1; subst e2
        exfalso
        have key : ∀ (l : List (Nat × Blk)), lk (killH j l) j = none := by
          intro l
          induction l with
          | nil => rfl
          | cons p l ih =>
            obtain ⟨i, y⟩ := p
            simp only [killH]
            cases hi : Nat.beq i j with
            | true => exact ih
            | false => simp only [cond_false, lk, hi]; exact ih
        rw [key] at h; cases h
    | false =>
      rw [hj] at h
      simp only [cond_false, lk] at h ⊢
      cases hjt : Nat.beq j t with
      | true =>
        rw [hjt] at h
        simp only [cond_true, Option.some.injEq] at h ⊢
        exact ⟨x, rfl, h.symm⟩
      | false =>
        rw [hjt] at h
        simp only [cond_false] at h ⊢
        exact killH_lk k t l b h
theorem kill_rel {G : Gh} {kp : List Nat} {st : St} {a : Act} {w : World} {S : Pin} {m : Nm} (h : Rel G kp st a w S m) (k : Nat) : Rel G kp ⟨killT k st.tmps, killH k st.heap⟩ a w S m := by
  refine h.weaken (fun t v hv => ?_) (fun j b hj => ?_)
  · unfold St.get at hv ⊢
    simp only [killT_lk]
    cases e : lk st.tmps t with
    | none => rw [e] at hv; exact hv
    | some x => rw [e] at hv; exact killA_cv k hv
  · obtain ⟨b0, h1, h2⟩ := killH_lk k j _ b hj
    refine ⟨⟨b0, h1⟩, ?_⟩
    have hh := h.held j b0 h1
    subst h2
    cases b0 with
    | cells cs =>
      obtain ⟨g, arr, t, p1, p2, p3, p4⟩ := hh
      exact ⟨g, arr, t, p1, p2, killL_cv k p3, p4⟩
    | row e s xs =>
      cases hb : Nat.blt e 2000000 with
      | true =>
        have e1 : killB k (.row e s xs) = .row e s xs := by simp only [killB, hb, cond_true]
        rw [e1]; exact hh
      | false =>
        have he : ¬ e < 2000000 := fun q => by
          have : Nat.blt e 2000000 = true := Nat.ble_eq_true_of_le q
          rw [hb] at this; cases this
        have e1 : killB k (.row e s xs) = .row e s (killLL k xs) := by simp only [killB, hb, cond_false]
        rw [e1]
        obtain ⟨A, c, p1, p2, p3, p4⟩ := hh
        refine ⟨A, c, by rw [killLL_len]; exact p1, by rw [killLL_len]; exact p2, p3, ?_⟩
        rcases p4 with p4 | ⟨g, cur, fr, rfl, p5, p6, p7, p8, p9⟩
        · exact .inl p4
        · refine .inr ⟨g, cur, fr, rfl, p5, p6, p7, p8, fun q x hx => ?_⟩
          rw [killLL_at] at hx
          cases hy : xs[q]? with
          | none => rw [hy] at hx; cases hx
          | some x0 =>
            rw [hy] at hx
            simp only [Option.map_some, Option.some.injEq] at hx
            subst hx
            obtain ⟨r1, r2⟩ := p9 q x0 hy
            refine ⟨by rw [killL_len]; exact r1, fun i y hi => ?_⟩
            rw [killL_at] at hi
            cases hz : x0[i]? with
            | none => rw [hz] at hi; cases hi
            | some y0 =>
              rw [hz] at hi
              simp only [Option.map_some, Option.some.injEq] at hi
              subst hi
              obtain ⟨v, q1, q2, q3⟩ := r2 i y0 hz
              rw [rowNm_hi he] at q3 ⊢
              exact ⟨v, q1, q2, killA_cv k q3⟩
    | tok e s n => exact hh
    | mp a b l => exact hh
    | gone => exact hh
/-- The names that operations make. -/
def makes (fr : Nat) : List Oper → List Nat
  | [] => []
  | o :: l => match o.op, o.dst with
    | .alloc _, some d => Nat.add fr d :: makes fr l
    | .box _ _, some d => Nat.add fr d :: makes fr l
    | .buildSlice _ _ _, some d => Nat.add fr d :: makes fr l
    | .makeSlice _ _ _, some d => Nat.add fr d :: makes fr l
    | .convert _ _ _, some d => Nat.add fr d :: makes fr l
    | .makeMap _ _, some d => Nat.add fr d :: makes fr l
    | _, _ => makes fr l
def killN (kp : List Nat) : List Nat → St → (St → Prop) → Prop
  | [], st, K => K st
  | k :: l, st, K => cond (fresh kp st k) (killN kp l st K) (forceS ⟨killT k st.tmps, killH k st.heap⟩ fun st => killN kp l st K)
theorem killN_sound {G : Gh} {kp : List Nat} {a : Act} {w : World} {S : Pin} {m : Nm} : ∀ (l : List Nat) (st : St) (K : St → Prop), killN kp l st K → Rel G kp st a w S m → ∃ st', K st' ∧ Rel G kp st' a w S m
  | [], st, K, H, h => ⟨st, H, h⟩
  | k :: l, st, K, H, h => by
    simp only [killN] at H
    cases hb : fresh kp st k with
    | true => rw [hb] at H; exact killN_sound l st K H h
    | false =>
      rw [hb] at H
      simp only [cond_false, forceS_eq] at H
      exact killN_sound l _ K H (kill_rel h k)

/-- What holds at the head of a loop: the states S x, for the x that p lets through; m goes down. -/
structure LInv where
  X : Type
  S : X → St
  p : X → Prop
  m : X → Nat
  cs : Option (List X) := none
def LInv.listed (L : LInv) (K : L.X → Prop) : List L.X → Prop
  | [] => True
  | x :: l => (L.p x → K x) ∧ L.listed K l
def inAny {α : Type} (x : α) : List α → Prop
  | [] => False
  | y :: l => x = y ∨ inAny x l
/-- For all that the place lets through: one by one if they are listed. -/
def LInv.all (L : LInv) (K : L.X → Prop) : Prop := match L.cs with
  | none => ∀ x, L.p x → K x
  | some l => (∀ x, L.p x → inAny x l) ∧ L.listed K l
theorem LInv.all_get {L : LInv} {K : L.X → Prop} (h : L.all K) (x : L.X) (hx : L.p x) : K x := by
  unfold LInv.all at h
  split at h
  · exact h x hx
  · obtain ⟨h1, h2⟩ := h
    have key : ∀ l : List L.X, inAny x l → L.listed K l → K x := by
      intro l
      induction l with
      | nil => intro h _; exact h.elim
      | cons y l ih =>
        intro h k
        rcases h with rfl | h
        · exact k.1 hx
        · exact ih h k.2
    exact key _ (h1 x hx) h2
def leT (st : St) : List (Nat × AV) → Prop
  | [] => True
  | (t, y) :: l => le (st.get t) y ∧ leT st l
def leB : Option Blk → Blk → Prop
  | some (.cells xs), .cells ys => leL xs ys
  | some (.tok e s n), .tok e' s' n' => cond (Nat.beq e e' && Nat.beq s s') (n = n') False
  | some (.row e s xs), .row e' s' ys => cond (Nat.beq e e' && Nat.beq s s') (xs = ys) False
  | some (.mp a b l), .mp a' b' l' => cond (Nat.beq a a' && Nat.beq b b') (l = l') False
  | _, _ => False
def leH (st : St) : List (Nat × Blk) → Prop
  | [] => True
  | (k, b) :: l => leB (lk st.heap k) b ∧ leH st l
def leS (st st' : St) : Prop := leT st st'.tmps ∧ leH st st'.heap
theorem leT_get {st : St} : ∀ {l : List (Nat × AV)} {t : Nat} {y : AV}, leT st l → lk l t = some y → le (st.get t) y
  | [], _, _, _, e => by simp [lk] at e
  | (j, x) :: l, t, y, h, e => by
    simp only [leT] at h
    simp only [lk] at e
    cases hj : Nat.beq j t with
    | true =>
      rw [hj] at e
      simp only [cond_true, Option.some.injEq] at e
      subst e
      have := Nat.eq_of_beq_eq_true hj
      subst this; exact h.1
    | false => rw [hj] at e; simp only [cond_false] at e; exact leT_get h.2 e
theorem leH_get {st : St} : ∀ {l : List (Nat × Blk)} {t : Nat} {y : Blk}, leH st l → lk l t = some y → leB (lk st.heap t) y
  | [], _, _, _, e => by simp [lk] at e
  | (j, x) :: l, t, y, h, e => by
    simp only [leH] at h
    simp only [lk] at e
    cases hj : Nat.beq j t with
    | true =>
      rw [hj] at e
      simp only [cond_true, Option.some.injEq] at e
      subst e
      have := Nat.eq_of_beq_eq_true hj
      subst this; exact h.1
    | false => rw [hj] at e; simp only [cond_false] at e; exact leH_get h.2 e
theorem leB_held {S : Pin} {m : Nm} {w : World} {k : Nat} {b b' : Blk} (h : leB (some b) b') (hb : Held S m w k b) : Held S m w k b' := by
  unfold leB at h
  split at h
  · rename_i xs ys e
    injection e with e
    subst e
    obtain ⟨g, arr, t, h1, h2, h3, h4⟩ := hb
    exact ⟨g, arr, t, h1, h2, leL_sound _ _ m _ h h3, h4⟩
  · rename_i e1 s n e2 s' n' e
    injection e with e
    subst e
    obtain ⟨hs, h5⟩ := cond_F h
    simp only [Bool.and_eq_true] at hs
    have hs1 := Nat.eq_of_beq_eq_true hs.1
    have hs2 := Nat.eq_of_beq_eq_true hs.2
    subst hs1; subst hs2; subst h5; exact hb
  · rename_i e1 s xs e2 s' ys e
    injection e with e
    subst e
    obtain ⟨hs, h5⟩ := cond_F h
    simp only [Bool.and_eq_true] at hs
    have hs1 := Nat.eq_of_beq_eq_true hs.1
    have hs2 := Nat.eq_of_beq_eq_true hs.2
    subst hs1; subst hs2; subst h5; exact hb
  · rename_i e1 s xs e2 s' ys e
    injection e with e
    subst e
    obtain ⟨hs, h5⟩ := cond_F h
    simp only [Bool.and_eq_true] at hs
    have hs1 := Nat.eq_of_beq_eq_true hs.1
    have hs2 := Nat.eq_of_beq_eq_true hs.2
    subst hs1; subst hs2; subst h5; exact hb
  · exact h.elim
theorem Rel.le {G : Gh} {kp : List Nat} {st st' : St} {a : Act} {w : World} {S : Pin} {m : Nm} (h : Rel G kp st a w S m) (hl : leS st st') : Rel G kp st' a w S m := by
  refine h.weaken (fun t v hv => ?_) (fun k b hk => ?_)
  · unfold St.get
    cases e : lk st'.tmps t with
    | none => simp only [CV]
    | some y => exact le_sound _ _ m v (leT_get hl.1 e) hv
  · have hb := leH_get hl.2 hk
    cases e : lk st.heap k with
    | none => rw [e] at hb; simp [leB] at hb
    | some b0 => rw [e] at hb; exact ⟨⟨b0, rfl⟩, leB_held hb (h.held k b0 e)⟩

/-- The number of the first region of a piece of code: by it loops are told apart. -/
def firstR : Code → Nat
  | .region id _ _ => id
  | .seq a _ => firstR a
  | .block _ b => firstR b
  | .loop b => firstR b
  | .cond _ a _ => firstR a
  | .scope b => firstR b
  | _ => 0
/-- A loop done at most n times, written out. -/
def unr (step : St → (St → Prop) → Prop) : Nat → St → Prop
  | 0, _ => False
  | n + 1, st => step st fun st' => unr step n st'
/-- A slot that was tested. -/
def tested (st : St) (c : Operand) (b : Bool) (k : St → Prop) : Prop := match c with | .tmp t => known st t b k | _ => k st
/-! Slots that are not looked at any more. -/
def hasB (m j : Nat) : Bool := Nat.beq (Nat.land (Nat.shiftRight m j) 1) 1
def dropT {β : Type} (m : Nat) : List (Nat × AV) → (List (Nat × AV) → Prop) → Prop
  | [], k => k []
  | (j, x) :: l, k => cond (hasB m j) (dropT (β := β) m l k) (dropT (β := β) m l fun l => k ((j, x) :: l))
def dropL (m : Nat) : List (Nat × AV) → List (Nat × AV)
  | [] => []
  | (j, x) :: l => cond (hasB m j) (dropL m l) ((j, x) :: dropL m l)
theorem dropT_eq {β : Type} (m : Nat) : ∀ (l : List (Nat × AV)) (k : List (Nat × AV) → Prop), dropT (β := β) m l k = k (dropL m l)
  | [], k => rfl
  | (j, x) :: l, k => by
    simp only [dropT, dropL]
    cases hasB m j with
    | true => exact dropT_eq m l k
    | false => exact dropT_eq m l _
theorem dropL_lk (m t : Nat) : ∀ (l : List (Nat × AV)), lk (dropL m l) t = cond (hasB m t) none (lk l t)
  | [] => by simp only [dropL, lk]; cases hasB m t <;> rfl
  | (j, x) :: l => by
    simp only [dropL]
    cases hj : hasB m j with
    | true =>
      simp only [cond_true, lk]
      rw [dropL_lk m t l]
      cases hb : Nat.beq j t with
      | true => have := Nat.eq_of_beq_eq_true hb; subst this; rw [hj]; rfl
      | false => rfl
    | false =>
      simp only [cond_false, lk]
      rw [dropL_lk m t l]
      cases hb : Nat.beq j t with
      | true => have := Nat.eq_of_beq_eq_true hb; subst this; rw [hj]; rfl
      | false => rfl
def dropK (m : Nat) (st : St) (k : St → Prop) : Prop := match st with | ⟨tm, hp⟩ => dropT (β := Unit) m tm fun tm => k ⟨tm, hp⟩
theorem dropK_sound {G : Gh} {kp : List Nat} {a : Act} {w : World} {S : Pin} {m : Nm} {d : Nat} {st : St} {k : St → Prop} (h : dropK d st k) (hR : Rel G kp st a w S m) : ∃ st', k st' ∧ Rel G kp st' a w S m := by
  obtain ⟨tm, hp⟩ := st
  simp only [dropK, dropT_eq] at h
  refine ⟨_, h, hR.weaken (fun t v hv => ?_) (fun k b hk => ⟨⟨b, hk⟩, hR.held k b hk⟩)⟩
  unfold St.get
  simp only [dropL_lk]
  cases hasB d t with
  | true => simp only [cond_true, CV]
  | false => simp only [cond_false]; exact hv
/-- A number is one of some numbers: case by case. -/
def splA (v : Int) : List Int → (Int → Prop) → Prop
  | [], _ => True
  | a :: l, K => (v = a → K a) ∧ splA v l K
theorem splA_get {v : Int} {K : Int → Prop} : ∀ {l : List Int}, inAny v l → splA v l K → K v
  | [], h, _ => h.elim
  | a :: l, h, k => by
    rcases h with rfl | h
    · exact k.1 rfl
    · exact splA_get h k.2
def spnK : List (Nat × List Int) → St → (St → Prop) → Prop
  | [], st, K => K st
  | (t, l) :: r, st, K => match st.get t with
    | .int k v => inAny v l ∧ splA v l fun a => match st with | ⟨tm, hp⟩ => insK tm t (.int k a) fun tm => spnK r ⟨tm, hp⟩ K
    | _ => False
theorem spnK_same : ∀ (l : List (Nat × List Int)) (st : St) (K : St → Prop), spnK l st K → ∃ st', K st' ∧ ∀ (G : Gh) (kp : List Nat) (a : Act) (w : World) (S : Pin) (m : Nm), Rel G kp st a w S m → Rel G kp st' a w S m
  | [], st, K, h => ⟨st, h, fun G kp a w S m hR => hR⟩
  | (t, l) :: r, ⟨tm, hp⟩, K, h => by
    simp only [spnK] at h
    split at h
    · rename_i k v hv
      obtain ⟨h1, h2⟩ := h
      have h3 := splA_get h1 h2
      rw [insK_ins] at h3
      obtain ⟨st', h4, h5⟩ := spnK_same r _ K h3
      refine ⟨st', h4, fun G kp a w S m hR => h5 G kp a w S m (hR.weaken (fun q u hu => ?_) (fun k b hk => ⟨⟨b, hk⟩, hR.held k b hk⟩))⟩
      unfold St.get
      rw [lk_ins]
      by_cases hq : q = t
      · subst hq
        rw [if_pos rfl, ← hv]; exact hu
      · rw [if_neg hq]; exact hu
    · exact h.elim
def dropS (C : Cx) (id : Nat) (st : St) (K : St → Prop) : Prop := dropK (C.drop id) st fun st => spnK (C.spl id) st K
theorem dropS_sound {G : Gh} {kp : List Nat} {a : Act} {w : World} {S : Pin} {m : Nm} {C : Cx} {id : Nat} {st : St} {k : St → Prop} (h : dropS C id st k) (hR : Rel G kp st a w S m) : ∃ st', k st' ∧ Rel G kp st' a w S m := by
  obtain ⟨s1, h1, r1⟩ := dropK_sound h hR
  obtain ⟨s2, h2, r2⟩ := spnK_same _ _ _ h1
  exact ⟨s2, h2, r2 _ _ _ _ _ _ r1⟩
def acode (P : Program) (E : Env) (C : Cx) (inv : Nat → St → Option LInv) (fuel : Nat) : Code → St → (St → Prop) → (Nat → St → Prop) → (St → Prop) → Prop
  | .skip, st, kn, _, _ => kn st
  | .label _, st, kn, _, _ => kn st
  | .region id ops draw, st, kn, _, _ => empN C.kp (C.emp id) st fun st => frzN C.kp (slotRws st (C.frz id)) st fun st => killN C.kp (makes C.fr ops.toList) st fun st => cond draw (adraw P E C ops st (fun st => dropS C id st kn)) (arun P E C ops ops.toList st (fun st => dropS C id st kn))
  | .seq a b, st, kn, ke, kr => (match inv (Nat.add 100000 (firstR b)) st with
    | some L => acode P E C inv fuel a st (fun st' => ∃ x, L.p x ∧ leS st' (L.S x)) ke kr ∧ L.all fun x => acode P E C inv fuel b (L.S x) kn ke kr
    | none => acode P E C inv fuel a st (fun st' => acode P E C inv fuel b st' kn ke kr) ke kr)
  | .cond c x y, st, kn, ke, kr => (match evO E st c with
    | .bool q => cond q (tested st c true fun st => acode P E C inv fuel x st kn ke kr) (tested st c false fun st => acode P E C inv fuel y st kn ke kr)
    | _ => False)
  | .block id b, st, kn, ke, kr => (match inv (Nat.add 200000 id) st with
    | some L => acode P E C inv fuel b st (fun st' => ∃ x, L.p x ∧ leS st' (L.S x)) (fun i st' => cond (Nat.beq i id) (∃ x, L.p x ∧ leS st' (L.S x)) (ke i st')) kr ∧ L.all fun x => kn (L.S x)
    | none => acode P E C inv fuel b st kn (fun i st' => cond (Nat.beq i id) (kn st') (ke i st')) kr)
  | .loop b, st, kn, ke, kr => (match inv (firstR b) st with
    | some L => (∃ x, L.p x ∧ leS st (L.S x)) ∧ ∀ x, L.p x → acode P E C inv fuel b (L.S x) (fun st' => ∃ y, L.p y ∧ L.m y < L.m x ∧ leS st' (L.S y)) ke kr
    | none => unr (fun st k => acode P E C inv fuel b st k ke kr) fuel st)
  | .exit id, st, _, ke, _ => ke id st
  | .ret, st, _, _, kr => kr st
  | _, _, _, _, _ => False
/-- How code may end, in the machine's words. -/
def Ends (G : Gh) (C : Cx) (kn : St → Prop) (ke : Nat → St → Prop) (kr : St → Prop) : Exit → Act → World → Prop
  | .normal, a, w => ∃ st S m, kn st ∧ Rel G C.kp st a w S m ∧ a.tmps.size = C.nt
  | .exit id, a, w => ∃ st S m, ke id st ∧ Rel G C.kp st a w S m ∧ a.tmps.size = C.nt
  | .ret, a, w => ∃ st S m, kr st ∧ Rel G C.kp st a w S m ∧ a.tmps.size = C.nt
  | _, _, _ => False
theorem tested_sound {G : Gh} {C : Cx} {E : Env} {st : St} {c : Operand} {b : Bool} {k : St → Prop} {a : Act} {w : World} {S : Pin} {m : Nm} (h : tested st c b k) (e : evO E st c = .bool b) (hR : Rel G C.kp st a w S m) : ∃ st', k st' ∧ Rel G C.kp st' a w S m := by
  unfold tested at h
  split at h
  · rw [known_eq] at h
    exact ⟨_, h, hR.known e⟩
  · exact ⟨st, h, hR⟩
theorem acode_sound {P : Program} {E : Env} {C : Cx} {inv : Nat → St → Option LInv} {fuel : Nat} (hT : TyOK P C.tys) (hS : SpecOK P E) (hM : P.follows .mixedOrders = true) {G : Gh} (hG : GOK E G.S0) :
    ∀ (c : Code) (st : St) (kn : St → Prop) (ke : Nat → St → Prop) (kr : St → Prop), acode P E C inv fuel c st kn ke kr → ∀ (a : Act) (w : World) (S : Pin) (m : Nm), Rel G C.kp st a w S m → a.tmps.size = C.nt → c.wp P (Ends G C kn ke kr) a w
  | .skip, st, kn, ke, kr, h, a, w, S, m, hR, hn => wp_skip ⟨st, S, m, h, hR, hn⟩
  | .label _, st, kn, ke, kr, h, a, w, S, m, hR, hn => wp_label ⟨st, S, m, h, hR, hn⟩
  | .region id ops draw, st, kn, ke, kr, h, a, w, S, m, hR, hn => by
    simp only [acode] at h
    obtain ⟨st, S, m, h, hR⟩ := empN_sound _ _ S m _ h hR
    obtain ⟨st, S, m, h, hR⟩ := frzN_sound _ _ S m _ h hR
    obtain ⟨st, h, hR⟩ := killN_sound _ _ _ h hR
    cases draw with
    | true => exact wp_region_any hM (adraw_sound hT hS hG h hR hn (fun st' a' w' S' m' hk hR' hn' => by obtain ⟨st2, hk, hR'⟩ := dropS_sound hk hR'; exact ⟨st2, S', m', hk, hR', hn'⟩))
    | false => exact wp_region_list (arun_sound hT hS hG _ st _ h a w S m hR hn (fun st' a' w' S' m' hk hR' hn' => by obtain ⟨st2, hk, hR'⟩ := dropS_sound hk hR'; exact ⟨st2, S', m', hk, hR', hn'⟩))
  | .seq x y, st, kn, ke, kr, h, a, w, S, m, hR, hn => by
    simp only [acode] at h
    split at h
    · rename_i L hL
      obtain ⟨h1, h2⟩ := h
      refine wp_seq (Go.wp_mono (acode_sound hT hS hM hG x st _ ke kr h1 a w S m hR hn) ?_)
      intro e a' w' he
      cases e with
      | normal => obtain ⟨st', S', m', ⟨z, hp, hle⟩, hR', hn'⟩ := he; exact acode_sound hT hS hM hG y (L.S z) kn ke kr (LInv.all_get h2 z hp) a' w' S' m' (hR'.le hle) hn'
      | exit _ => exact he
      | ret => exact he
      | _ => exact he.elim
    · refine wp_seq (Go.wp_mono (acode_sound hT hS hM hG x st _ ke kr h a w S m hR hn) ?_)
      intro e a' w' he
      cases e with
      | normal => obtain ⟨st', S', m', hk, hR', hn'⟩ := he; exact acode_sound hT hS hM hG y st' kn ke kr hk a' w' S' m' hR' hn'
      | exit _ => exact he
      | ret => exact he
      | _ => exact he.elim
  | .cond c x y, st, kn, ke, kr, h, a, w, S, m, hR, hn => by
    simp only [acode] at h
    split at h
    · rename_i q hq
      have hc := evO_cv hG hR c
      rw [hq] at hc
      simp only [CV] at hc
      cases q with
      | true =>
        obtain ⟨st', hk, hR'⟩ := tested_sound (G := G) (C := C) h hq hR
        exact wp_cond_true hc (acode_sound hT hS hM hG x st' kn ke kr hk a w S m hR' hn)
      | false =>
        obtain ⟨st', hk, hR'⟩ := tested_sound (G := G) (C := C) h hq hR
        exact wp_cond_false hc (acode_sound hT hS hM hG y st' kn ke kr hk a w S m hR' hn)
    · exact h.elim
  | .block id b, st, kn, ke, kr, h, a, w, S, m, hR, hn => by
    simp only [acode] at h
    split at h
    · rename_i L hL
      obtain ⟨h1, h2⟩ := h
      refine wp_block (Go.wp_mono (acode_sound hT hS hM hG b st _ _ kr h1 a w S m hR hn) ?_)
      intro e a' w' he
      cases e with
      | normal =>
        obtain ⟨st', S', m', ⟨z, hp, hle⟩, hR', hn'⟩ := he
        exact ⟨L.S z, S', m', LInv.all_get h2 z hp, hR'.le hle, hn'⟩
      | exit i =>
        obtain ⟨st', S', m', hk, hR', hn'⟩ := he
        simp only [Exit.inBlock]
        by_cases hi : i = id
        · subst hi
          rw [nbeq_self] at hk
          rw [if_pos rfl]
          obtain ⟨z, hp, hle⟩ := hk
          exact ⟨L.S z, S', m', LInv.all_get h2 z hp, hR'.le hle, hn'⟩
        · rw [nbeq_ne hi] at hk
          rw [if_neg hi]
          exact ⟨st', S', m', hk, hR', hn'⟩
      | ret => exact he
      | _ => exact he.elim
    · refine wp_block (Go.wp_mono (acode_sound hT hS hM hG b st _ _ kr h a w S m hR hn) ?_)
      intro e a' w' he
      cases e with
      | normal => exact he
      | exit i =>
        obtain ⟨st', S', m', hk, hR', hn'⟩ := he
        simp only [Exit.inBlock]
        by_cases hi : i = id
        · subst hi
          rw [nbeq_self] at hk
          rw [if_pos rfl]
          exact ⟨st', S', m', hk, hR', hn'⟩
        · rw [nbeq_ne hi] at hk
          rw [if_neg hi]
          exact ⟨st', S', m', hk, hR', hn'⟩
      | ret => exact he
      | _ => exact he.elim
  | .loop b, st, kn, ke, kr, h, a, w, S, m, hR, hn => by
    simp only [acode] at h
    split at h
    · rename_i L hL
      obtain ⟨⟨x, hp, hle⟩, hround⟩ := h
      refine wp_loop_ghost (fun n a w => ∃ x, L.m x = n ∧ L.p x ∧ ∃ S m, Rel G C.kp (L.S x) a w S m ∧ a.tmps.size = C.nt) (L.m x) ⟨x, rfl, hp, S, m, hR.le hle, hn⟩ ?_
      rintro _ a w ⟨x, rfl, hp, S, m, hR, hn⟩
      refine Go.wp_mono (acode_sound hT hS hM hG b (L.S x) _ ke kr (hround x hp) a w S m hR hn) ?_
      intro e a' w' he
      cases e with
      | normal =>
        obtain ⟨st', S', m', ⟨y, hy, hm, hl⟩, hR', hn'⟩ := he
        exact ⟨L.m y, hm, y, rfl, hy, S', m', hR'.le hl, hn'⟩
      | exit _ => exact he
      | ret => exact he
      | _ => exact he.elim
    · have key : ∀ n st a w S m, unr (fun st k => acode P E C inv fuel b st k ke kr) n st → Rel G C.kp st a w S m → a.tmps.size = C.nt → (Code.loop b).wp P (Ends G C kn ke kr) a w := by
        intro n st a w S m hu hR hn
        refine wp_loop_ghost (fun (x : Nat) a w => ∃ st S m, unr (fun st k => acode P E C inv fuel b st k ke kr) x st ∧ Rel G C.kp st a w S m ∧ a.tmps.size = C.nt) n ⟨st, S, m, hu, hR, hn⟩ ?_
        rintro x a w ⟨st, S, m, hu, hR, hn⟩
        cases x with
        | zero => exact hu.elim
        | succ x =>
          refine Go.wp_mono (acode_sound hT hS hM hG b st _ ke kr hu a w S m hR hn) ?_
          intro e a' w' he
          cases e with
          | normal =>
            obtain ⟨st', S', m', hk, hR', hn'⟩ := he
            exact ⟨x, Nat.lt_succ_self _, st', S', m', hk, hR', hn'⟩
          | exit _ => exact he
          | ret => exact he
          | _ => exact he.elim
      exact key _ st a w S m h hR hn
  | .exit id, st, kn, ke, kr, h, a, w, S, m, hR, hn => wp_exit ⟨st, S, m, h, hR, hn⟩
  | .ret, st, kn, ke, kr, h, a, w, S, m, hR, hn => wp_ret ⟨st, S, m, h, hR, hn⟩
  | .goto _, st, kn, ke, kr, h, a, w, S, m, hR, hn => by simp [acode] at h
  | .scope _, st, kn, ke, kr, h, a, w, S, m, hR, hn => by simp [acode] at h
  | .rangeFunc _ _ _ _, st, kn, ke, kr, h, a, w, S, m, hR, hn => by simp [acode] at h
  | .refuse _, st, kn, ke, kr, h, a, w, S, m, hR, hn => by simp [acode] at h
end Go.Proofs.YthdfkiopppkfcaaDoor
