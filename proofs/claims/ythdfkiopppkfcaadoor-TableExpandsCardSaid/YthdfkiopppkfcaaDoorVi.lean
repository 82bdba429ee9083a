/- Operations on memory, and calls by contract. -/
import Derived.Test.YthdfkiopppkfcaaDoorVh
import Derived.Laws.CopyRow
namespace Go.Proofs.YthdfkiopppkfcaaDoor
open Go
open Go.RowKit (Below)
set_option linter.unusedVariables false
set_option linter.unusedSimpArgs false

/-- Values of the form of some zeros. -/
def exSh : List Nat → List AV → (List AV → Prop) → Prop
  | _, [], k => k []
  | sz, .int kd _ :: zs, k => ∃ n : Int, exSh sz zs fun l => k (.int kd n :: l)
  | sz, .bool _ :: zs, k => ∃ b : Bool, exSh sz zs fun l => k (.bool b :: l)
  | sz, .str _ :: zs, k => ∃ s : ByteArray, exSh sz zs fun l => k (.str s :: l)
  | [], .nils :: zs, k => ∃ (s : Nat) (xs : List (List AV)), exSh [] zs fun l => k (.sl s false xs :: l)
  | s :: sz, .nils :: zs, k => ∃ xs : List (List AV), exSh sz zs fun l => k (.sl s false xs :: l)
  | _, _, _ => False
theorem exSh_sound : ∀ (sz : List Nat) (zs : List AV) (k : List AV → Prop), exSh sz zs k → ∃ l, k l
  | _, [], k, h => ⟨_, by simpa only [exSh] using h⟩
  | sz, x :: zs, k, h => by
    cases x
    case int => simp only [exSh] at h; obtain ⟨n, h⟩ := h; obtain ⟨l, hl⟩ := exSh_sound _ zs _ h; exact ⟨_, hl⟩
    case bool => simp only [exSh] at h; obtain ⟨n, h⟩ := h; obtain ⟨l, hl⟩ := exSh_sound _ zs _ h; exact ⟨_, hl⟩
    case str => simp only [exSh] at h; obtain ⟨n, h⟩ := h; obtain ⟨l, hl⟩ := exSh_sound _ zs _ h; exact ⟨_, hl⟩
    case nils =>
      cases sz with
      | nil => simp only [exSh] at h; obtain ⟨s, xs, h⟩ := h; obtain ⟨l, hl⟩ := exSh_sound _ zs _ h; exact ⟨_, hl⟩
      | cons s sz => simp only [exSh] at h; obtain ⟨xs, h⟩ := h; obtain ⟨l, hl⟩ := exSh_sound _ zs _ h; exact ⟨_, hl⟩
    all_goals (cases sz <;> simp only [exSh] at h)
/-- What is loaded out of some cells. -/
def LoadsTo (P : Program) (t : TypeId) (cs : List AV) (r : AV) : Prop :=
  (∃ d i, P.underlying t = some d ∧ isAg P t = true ∧ P.info? t = some i ∧ i.size ≤ cs.length ∧ r = .agg (cs.take i.size)) ∨ (∃ d, P.underlying t = some d ∧ isAg P t = false ∧ cs[0]? = some r)
def loadK (P : Program) (E : Env) (d : Option Nat) (t : TypeId) (cs : List AV) (K : AV → Prop) : Prop :=
  cond (match d with | some q => inT q E.shape | none => false) (zeroA P t fun zs => exSh (match d with | some q => (match lk E.slz q with | some l => l | none => []) | none => []) zs fun l => cs.take l.length = l ∧ partK P t l K) (partK P t cs K)
theorem loadK_sound {P : Program} {E : Env} {d : Option Nat} {t : TypeId} {cs : List AV} {K : AV → Prop} (h : loadK P E d t cs K) : ∃ r, K r ∧ LoadsTo P t cs r := by
  unfold loadK at h
  have key : ∀ l, cs.take l.length = l → partK P t l K → ∃ r, K r ∧ LoadsTo P t cs r := by
    intro l hl hp
    rcases partK_cases hp with ⟨d, i, h1, h2, h3, h4, h5⟩ | ⟨d, x, h1, h2, h3, h4⟩
    · refine ⟨_, h5, .inl ⟨d, i, h1, h2, h3, ?_, ?_⟩⟩
      · have : l.length ≤ cs.length := by rw [← hl]; simp; omega
        omega
      · rw [← hl, List.take_take, Nat.min_eq_left h4]
    · refine ⟨x, h4, .inr ⟨d, h1, h2, ?_⟩⟩
      rw [← hl, List.getElem?_take] at h3
      split at h3
      · exact h3
      · cases h3
  cases hb : (match d with | some q => inT q E.shape | none => false) with
  | true =>
    rw [hb] at h
    simp only [cond_true] at h
    obtain ⟨i, z, _, _, h', _⟩ := zeroA_sound h
    obtain ⟨l, h1, h2⟩ := exSh_sound _ _ _ h'
    exact key l h1 h2
  | false =>
    rw [hb] at h
    simp only [cond_false] at h
    exact key cs (List.take_length) h

theorem takeK_mono : ∀ {n : Nat} {xs : List AV} {k k' : List AV → Prop}, (∀ l, k l → k' l) → takeK n xs k → takeK n xs k'
  | 0, _, _, _, hk, h => by simp only [takeK] at h ⊢; exact hk _ h
  | _ + 1, [], _, _, _, h => by simp [takeK] at h
  | n + 1, x :: xs, k, k', hk, h => by
    simp only [takeK] at h ⊢
    exact takeK_mono (fun l hl => hk _ hl) h
theorem partK_mono {P : Program} {t : TypeId} {cs : List AV} {K K' : AV → Prop} (hK : ∀ r, K r → K' r) (h : partK P t cs K) : partK P t cs K' := by
  unfold partK at h ⊢
  cases hg : isAg P t with
  | true =>
    rw [hg] at h
    simp only [cond_true] at h ⊢
    split at h
    · exact takeK_mono (fun l hl => hK _ hl) h
    · exact h.elim
  | false =>
    rw [hg] at h
    simp only [cond_false] at h ⊢
    split at h
    · cases cs with
      | nil => exact h.elim
      | cons x xs => exact hK _ h
    · exact h.elim
theorem exSh_mono : ∀ (sz : List Nat) (zs : List AV) (k k' : List AV → Prop), (∀ l, k l → k' l) → exSh sz zs k → exSh sz zs k'
  | _, [], k, k', hk, h => by simp only [exSh] at h ⊢; exact hk _ h
  | sz, x :: zs, k, k', hk, h => by
    cases x
    case int => simp only [exSh] at h ⊢; obtain ⟨n, h⟩ := h; exact ⟨n, exSh_mono _ zs _ _ (fun l hl => hk _ hl) h⟩
    case bool => simp only [exSh] at h ⊢; obtain ⟨n, h⟩ := h; exact ⟨n, exSh_mono _ zs _ _ (fun l hl => hk _ hl) h⟩
    case str => simp only [exSh] at h ⊢; obtain ⟨n, h⟩ := h; exact ⟨n, exSh_mono _ zs _ _ (fun l hl => hk _ hl) h⟩
    case nils =>
      cases sz with
      | nil => simp only [exSh] at h ⊢; obtain ⟨s, xs, h⟩ := h; exact ⟨s, xs, exSh_mono _ zs _ _ (fun l hl => hk _ hl) h⟩
      | cons s sz => simp only [exSh] at h ⊢; obtain ⟨xs, h⟩ := h; exact ⟨xs, exSh_mono _ zs _ _ (fun l hl => hk _ hl) h⟩
    all_goals (cases sz <;> simp only [exSh] at h)
theorem loadK_mono {P : Program} {E : Env} {d : Option Nat} {t : TypeId} {cs : List AV} {K K' : AV → Prop} (hK : ∀ r, K r → K' r) (h : loadK P E d t cs K) : loadK P E d t cs K' := by
  unfold loadK at h ⊢
  cases hb : (match d with | some q => inT q E.shape | none => false) with
  | true =>
    rw [hb] at h
    simp only [cond_true] at h ⊢
    unfold zeroA at h ⊢
    split at h
    · split at h
      · exact exSh_mono _ _ _ _ (fun l hl => ⟨hl.1, partK_mono hK hl.2⟩) h
      · exact h.elim
    · exact h.elim
  | false =>
    rw [hb] at h
    simp only [cond_false] at h ⊢
    exact partK_mono hK h
theorem splK_mono : ∀ {cs : List AV} {off : Nat} {ys : List AV} {k k' : List AV → Prop}, (∀ l, k l → k' l) → splK cs off ys k → splK cs off ys k'
  | cs, 0, [], k, k', hk, h => by unfold splK at h ⊢; exact hk _ h
  | x :: cs, 0, y :: ys, k, k', hk, h => by unfold splK at h ⊢; exact splK_mono (fun l hl => hk _ hl) h
  | x :: cs, n + 1, ys, k, k', hk, h => by unfold splK at h ⊢; exact splK_mono (fun l hl => hk _ hl) h
  | [], 0, _ :: _, _, _, _, h => by unfold splK at h; exact h.elim
  | [], n + 1, ys, _, _, _, h => by unfold splK at h; cases ys <;> exact h.elim
theorem CC.vals {S : Pin} : ∀ {xs : List AV} {b o : Nat}, CC S xs b o → ∃ vs : List Value, (∀ (j : Nat) (v : Value), vs[j]? = some v → S b (o + j) = some v) ∧ CVl S xs noNm vs
  | [], _, _, _ => ⟨[], by simp, by simp only [CVl]⟩
  | x :: xs, b, o, h => by
    simp only [CC] at h
    obtain ⟨⟨u, hu, hx⟩, h2⟩ := h
    obtain ⟨vs, h3, h4⟩ := CC.vals h2
    refine ⟨u :: vs, fun j v e => ?_, by simp only [CVl]; exact ⟨u, vs, rfl, hx, h4⟩⟩
    cases j with
    | zero => simp at e; subst e; exact hu
    | succ j => simp at e; rw [← h3 j v e]; congr 1; omega
theorem CVl.take {S : Pin} {xs : List AV} {m : Nm} {vs : List Value} (h : CVl S xs m vs) (n : Nat) : CVl S (xs.take n) m (vs.take n) := by
  have := h.len
  refine CVl.mk (by simp; omega) fun j x v e1 e2 => ?_
  rw [List.getElem?_take] at e1 e2
  split at e1
  · rename_i hj
    rw [if_pos hj] at e2
    obtain ⟨u, hu, hx⟩ := h.get e1
    rw [e2] at hu
    injection hu with hu
    subst hu; exact hx
  · cases e1
theorem CVl.drop {S : Pin} {xs : List AV} {m : Nm} {vs : List Value} (h : CVl S xs m vs) (n : Nat) : CVl S (xs.drop n) m (vs.drop n) := by
  have := h.len
  refine CVl.mk (by simp; omega) fun j x v e1 e2 => ?_
  rw [List.getElem?_drop] at e1 e2
  obtain ⟨u, hu, hx⟩ := h.get e1
  rw [e2] at hu
  injection hu with hu
  subst hu; exact hx
/-- A load of what some cells hold. -/
theorem run_loads {P : Program} {t : TypeId} {cs : List AV} {r : AV} (h : LoadsTo P t cs r) {w : World} {g o : Nat} {S : Pin} {m : Nm} {vs : List Value} (hc : CVl S cs m vs)
    (hv : ∀ (j : Nat) (v : Value), vs[j]? = some v → w.cell? ⟨g, o + j, none⟩ = some v) : ∃ z, (Instr.loadAt t (.pointer (some ⟨g, o, none⟩))).run P w = .ok z w ∧ CV S r m z := by
  rcases h with ⟨d, i, h1, h2, h3, h4, rfl⟩ | ⟨d, h1, h2, h3⟩
  · refine ⟨.agg (vs.take i.size).toArray, ?_, ?_⟩
    · have hl : (vs.take i.size).length = i.size := by have := hc.len; simp; omega
      have := run_loadCells_list (P := P) w ⟨g, o, none⟩ (vs.take i.size) (fun j v e => by
        rw [add_none]
        refine hv j v ?_
        rw [List.getElem?_take] at e
        split at e
        · exact e
        · cases e)
      rw [hl] at this
      simp [Instr.loadAt, Instr.sureAddr, loadVar, run_isAgg h1, h2, sizeOf, typeInfo, h3, this]
    · simp only [CV]
      exact ⟨_, rfl, by simpa using hc.take i.size⟩
  · obtain ⟨v, hv1, hv2⟩ := hc.get h3
    have := hv 0 v hv1
    simp only [Nat.add_zero] at this
    exact ⟨v, by simp [Instr.loadAt, Instr.sureAddr, loadVar, run_isAgg h1, h2, this], hv2⟩
def aload (P : Program) (E : Env) (d : Option Nat) (t : TypeId) (x : AV) (h : Nat → Option Blk) (K : AV → List (Nat × Blk) → List Nat → Prop) : Prop :=
  match x with
  | .ptr k off => (match h k with | some (.cells cs) => loadK P E d t (cs.drop off) fun r => K r [] [k] | _ => False)
  | .ro cs => loadK P E d t cs fun r => K r [] []
  | .prw k s q j fo => (match h k with
    | some (.row _ s' xs) => cond (Nat.beq s s') (chk (q = xs.length ∧ j < xs.length) (loadK P E d t ((xs.getD j []).drop fo) fun r => K r [] [k])) False
    | _ => False)
  | _ => False
/-- The cells of an element of a row. -/
theorem row_vals {S : Pin} {m : Nm} {w : World} {k e s j : Nat} {xs : List (List AV)} (h : Held S m w k (.row e s xs)) (hj : j < xs.length) : ∃ g q d cur fr, m k = some (.iface 0 (.slice (some ⟨g, 0, none⟩) q d)) ∧ w.heap[g]? = some (.cells cur (rowTy e) fr) ∧ RowMk e cur.size fr ∧ cur.size = d * s ∧ xs.length ≤ d ∧ (xs.getD j []).length = s ∧ (∀ o, S g o = none) ∧
    ∃ vs, CVl S (xs.getD j []) (rowNm e m) vs ∧ ∀ (i : Nat) (v : Value), vs[i]? = some v → cur[j * s + i]? = some v := by
  obtain ⟨A, c, h1, h2, h3, h6⟩ := h
  obtain ⟨g, cur, fr, rfl, h7, hfr, h8, h9, h10⟩ := h6.resolve_left (fun e => by have := e.2; omega)
  have e1 : xs[j]? = some (xs.getD j []) := by rw [List.getD_eq_getElem?_getD, List.getElem?_eq_getElem hj]; rfl
  obtain ⟨hl, hv⟩ := h10 j _ e1
  have hsz : j * s + s ≤ cur.size := by
    rw [h8, ← Nat.succ_mul]; exact Nat.mul_le_mul_right s (by omega)
  refine ⟨g, xs.length, c, cur, fr, h1, h7, hfr, h8, h2, hl, h9, (cur.toList.drop (j * s)).take s, CVl.mk (by rw [hl, List.length_take, List.length_drop, Array.length_toList]; omega) (fun i y v e2 e3 => ?_), fun i v e => ?_⟩
  · obtain ⟨u, hu, _, hy⟩ := hv i y e2
    rw [List.getElem?_take] at e3
    split at e3
    · rw [List.getElem?_drop] at e3
      have : cur[j * s + i]? = some v := by simpa using e3
      rw [hu] at this
      injection this with this
      subst this; exact hy
    · cases e3
  · rw [List.getElem?_take] at e
    split at e
    · rw [List.getElem?_drop] at e
      simpa using e
    · cases e
/-- Where a pointer into a row leads. -/
theorem prw_ptr {S : Pin} {m : Nm} {k s q j fo : Nat} {v : Value} {A : Option Addr} {n c : Nat} (hm : m k = some (.iface 0 (.slice A n c))) (hq : q = n) (hv : CV S (.prw k s q j fo) m v) : ∃ g, A = some ⟨g, 0, none⟩ ∧ v = .pointer (some ⟨g, j * s + fo, none⟩) := by
  simp only [CV] at hv
  obtain ⟨a, rfl, _, A1, q1, c1, h1, _, h2⟩ := hv
  rw [hm] at h1
  injection h1 with h1
  injection h1 with _ h1
  injection h1 with h3 h4 h5
  subst h3; subst h4
  obtain ⟨g, e1, e2⟩ := h2 hq
  exact ⟨g, e1, by rw [e2]⟩
theorem prw_at {S : Pin} {m : Nm} {w : World} {k e s q j fo : Nat} {xs : List (List AV)} {v : Value} (h : Held S m w k (.row e s xs)) (hq : q = xs.length) (hj : j < xs.length) (hv : CV S (.prw k s q j fo) m v) :
    ∃ g cur fr, v = .pointer (some ⟨g, j * s + fo, none⟩) ∧ w.heap[g]? = some (.cells cur (rowTy e) fr) ∧ ∃ vs, CVl S (xs.getD j []) (rowNm e m) vs ∧ ∀ (i : Nat) (u : Value), vs[i]? = some u → cur[j * s + i]? = some u := by
  obtain ⟨g, q1, d, cur, fr, e1, e2, _, e3, _, e4, e5, vs, e6, e7⟩ := row_vals h hj
  obtain ⟨A, c, h1, _⟩ := h
  obtain ⟨g', h2, h3⟩ := prw_ptr h1 hq hv
  subst h2
  rw [h1] at e1
  injection e1 with e1
  injection e1 with _ e1
  injection e1 with e1 _ _
  injection e1 with e1
  injection e1 with e1
  subst e1
  exact ⟨g', cur, fr, h3, e2, vs, e6, e7⟩
theorem RowMk.free {e n : Nat} {fr : Nat × Nat} (h : RowMk e n fr) : ∀ o, o < n → ¬ (fr.1 ≤ o ∧ o < fr.2) := by
  intro o ho
  rcases h with rfl | ⟨_, _, h⟩
  · simp
  · omega
/-- A store of cells into a row none of whose cells is marked. -/
theorem run_storeCells_fr (P : Program) (g o : Nat) (t : TypeId) (fz : Nat × Nat) : ∀ (vs : List Value) (i : Nat) (cur : Array Value) (w : World), w.heap[g]? = some (.cells cur t fz) → (∀ j, j < cur.size → ¬ (fz.1 ≤ j ∧ j < fz.2)) → o + i + vs.length ≤ cur.size → (∀ v ∈ vs, v.oneCell' = true) →
    (storeCells ⟨g, o, none⟩ vs i).run P w = .ok () (w.setRow g (cur.toList.take (o + i) ++ vs ++ cur.toList.drop (o + i + vs.length)).toArray)
  | [], i, cur, w, hg, _, _, _ => by
    simp only [storeCells, List.append_nil, List.length_nil, Nat.add_zero, List.take_append_drop, Array.toArray_toList]
    rw [setRow_self w g cur t fz hg]
    rfl
  | v :: rest, i, cur, w, hg, hfz, hl, h1 => by
    have hi : o + i < cur.size := by simp at hl; omega
    have hcell : w.cell? ⟨g, o + i, none⟩ = some cur[o + i] := by simp [World.cell?, hg, hi]
    have hfro : w.frozen? ⟨g, o + i, none⟩ = false := by
      have := hfz _ hi
      obtain ⟨lo, up⟩ := fz
      simp only [World.frozen?, hg, Bool.and_eq_false_iff, decide_eq_false_iff_not]
      simp only at this
      omega
    have hst : (store ((⟨g, o, none⟩ : Addr).add i) v).run P w = .ok () (w.setRow g (cur.setIfInBounds (o + i) v)) := by
      rw [add_none, run_store P w _ v _ (h1 v (by simp)), hcell]
      simp [hfro, setCell_eq_setRow w g (o + i) cur t fz v hg]
    have ih := run_storeCells_fr P g o t fz rest (i + 1) (cur.setIfInBounds (o + i) v) (w.setRow g (cur.setIfInBounds (o + i) v)) (setRow_heap w g cur _ t _ hg) (by simpa using hfz) (by simp at hl ⊢; omega) (fun x hx => h1 x (by simp [hx]))
    simp only [storeCells, Sem.run_bind, hst, Result.andThen_ok, ih, setRow_setRow]
    congr 3
    have e := list_seg_step cur.toList (o + i) v rest (by simp at hl ⊢; omega)
    simpa [Array.toList_setIfInBounds, Nat.add_assoc] using e
theorem aload_sound {P : Program} {E : Env} {nt : Nat} {o : Oper} {t : TypeId} {x : Operand} {ev : Operand → AV} {h : Nat → Option Blk} {K : AV → List (Nat × Blk) → List Nat → Prop} (ho : o.op = .load t x) (hd : dstOk nt o.dst = true)
    (H : aload P E o.dst t (ev x) h K) : ∃ r rd, K r [] rd ∧ Good P E nt o ev h r [] rd := by
  unfold aload at H
  split at H
  · rename_i k off hx
    split at H
    · rename_i cs hk
      obtain ⟨r, h1, h2⟩ := loadK_sound H
      refine ⟨r, [k], h1, good_value hd fun G kp st a w S m hG hR he hrd hf => ?_⟩
      have hv := he x (by rw [ho]; simp [Op.operands])
      rw [hx] at hv
      simp only [CV] at hv
      obtain ⟨g, hm, hv⟩ := hv
      obtain ⟨g', arr, ty, e1, e2, e3, e4⟩ := hR.held k _ (by rw [hrd k (by simp)]; exact hk)
      rw [hm] at e1
      injection e1 with e1
      injection e1 with e1
      injection e1 with e1
      injection e1 with e1
      subst e1
      obtain ⟨z, q1, q2⟩ := run_loads (w := w) (g := g) (o := off) h2 (e3.drop off) (fun j v e => by
        rw [List.getElem?_drop] at e
        rw [cell_of_row w g (off + j) arr ty (0, 0) e2]
        simpa using e)
      exact ⟨z, w, S, m, by simp [execOp, ho, hv, q1], hR, q2⟩
    · exact H.elim
  · rename_i cs hx
    obtain ⟨r, h1, h2⟩ := loadK_sound H
    refine ⟨r, [], h1, good_value hd fun G kp st a w S m hG hR he hrd hf => ?_⟩
    have hv := he x (by rw [ho]; simp [Op.operands])
    rw [hx] at hv
    simp only [CV] at hv
    obtain ⟨b, off, hv, hc⟩ := hv
    obtain ⟨vs, e1, e2⟩ := hc.vals
    obtain ⟨z, q1, q2⟩ := run_loads (w := w) (g := b) (o := off) h2 (e2.ext (Ext.refl S) (MLe.no m)) (fun j v e => (hR.agree _ _ _ (e1 j v e)).1)
    exact ⟨z, w, S, m, by simp [execOp, ho, hv, q1], hR, q2⟩
  · rename_i k s q j fo hx
    split at H
    · rename_i e s' xs hk
      obtain ⟨hs, H0⟩ := cond_F H
      have hs := Nat.eq_of_beq_eq_true hs
      subst hs
      obtain ⟨⟨hq, hj⟩, H1⟩ := chk_iff.1 H0
      obtain ⟨r, h1, h2⟩ := loadK_sound H1
      refine ⟨r, [k], h1, good_value hd fun G kp st a w S m hG hR he hrd hf => ?_⟩
      have hv := he x (by rw [ho]; simp [Op.operands])
      rw [hx] at hv
      obtain ⟨g, cur, fr, hv, e2, vs, e6, e7⟩ := prw_at (hR.held k _ (by rw [hrd k (by simp)]; exact hk)) hq hj hv
      obtain ⟨z, q1, q2⟩ := run_loads (w := w) (g := g) (o := j * s + fo) h2 ((e6.drop fo).ext (Ext.refl S) (rowNm_le e m)) (fun i v e => by
        rw [List.getElem?_drop] at e
        rw [cell_of_row w g _ cur _ fr e2, Nat.add_assoc]
        exact e7 _ v e)
      exact ⟨z, w, S, m, by simp [execOp, ho, hv, q1], hR, q2⟩
    · exact H.elim
  · exact H.elim
theorem good_skip {P : Program} {E : Env} {nt : Nat} {o : Oper} {ev : Operand → AV} {h : Nat → Option Blk} {u : List (Nat × Blk)} {rd : List Nat} (hd : o.dst = none)
    (H : ∀ (G : Gh) (kp : List Nat) (st : St) (a : Act) (w : World) (S : Pin) (m : Nm), GOK E G.S0 → Rel G kp st a w S m → (∀ x ∈ o.op.operands, CV S (ev x) m (a.eval x)) → (∀ k ∈ rd, lk st.heap k = h k) → (∀ p ∈ u, p.1 ∉ rd → fresh kp st p.1 = true) →
      ∃ w' S' m', (execOp a.eval o).run P w = .ok .skip w' ∧ Rel G kp (st.blks u) a w' S' m') : Good P E nt o ev h .undef u rd := by
  intro G kp st a w S m next Q hG hR hn he hk hf hnext
  obtain ⟨w', S', m', h1, h2⟩ := H G kp st a w S m hG hR (fun x hx => he x hx ▸ evO_cv hG hR x) hk hf
  unfold Oper.wp
  rw [h1]
  refine hnext undef w' S' m' (by simp only [wfA]) ?_
  unfold St.upd
  rw [hd]
  exact h2
mutual
/-- A value without the call's own names. -/
def strip : AV → (AV → Prop) → Prop
  | .acc _ s xs, k => k (.sl s false xs)
  | .agg cs, k => stripL cs fun l => k (.agg l)
  | .fn f cs, k => stripL cs fun l => k (.fn f l)
  | .tup cs, k => stripL cs fun l => k (.tup l)
  | .int q n, k => k (.int q n)
  | .bool b, k => k (.bool b)
  | .str s, k => k (.str s)
  | .sl s f xs, k => k (.sl s f xs)
  | .nils, k => k .nils
  | .ro cs, k => k (.ro cs)
  | .nilp, k => k .nilp
  | .undef, k => k .undef
  | .dead, k => k .dead
  | .frz _ s n xs, k => chk (n = xs.length) (k (.sl s false xs))
  | _, _ => False
def stripL : List AV → (List AV → Prop) → Prop
  | [], k => k []
  | x :: xs, k => strip x fun y => stripL xs fun l => k (y :: l)
end
mutual
theorem strip_sound : ∀ (x : AV) (k : AV → Prop), strip x k → ∃ y, k y ∧ ∀ S m v, CV S x m v → CV S y noNm v
  | .acc i s xs, k, h => by
    simp only [strip] at h
    refine ⟨_, h, fun S m v hv => ?_⟩
    simp only [CV] at hv ⊢
    obtain ⟨⟨A, c, e, h1, h2, h3, h4⟩, _⟩ := hv
    exact ⟨A, c, e, h1, h2, (fun q => by cases q), h3, h4⟩
  | .agg cs, k, h => by
    simp only [strip] at h
    obtain ⟨l, h1, h2⟩ := stripL_sound cs _ h
    refine ⟨_, h1, fun S m v hv => ?_⟩
    simp only [CV] at hv ⊢
    obtain ⟨us, e, hu⟩ := hv
    exact ⟨us, e, h2 S m _ hu⟩
  | .fn f cs, k, h => by
    simp only [strip] at h
    obtain ⟨l, h1, h2⟩ := stripL_sound cs _ h
    refine ⟨_, h1, fun S m v hv => ?_⟩
    simp only [CV] at hv ⊢
    obtain ⟨us, e, hu⟩ := hv
    exact ⟨us, e, h2 S m _ hu⟩
  | .tup cs, k, h => by
    simp only [strip] at h
    obtain ⟨l, h1, h2⟩ := stripL_sound cs _ h
    refine ⟨_, h1, fun S m v hv => ?_⟩
    simp only [CV] at hv ⊢
    obtain ⟨us, e, hu⟩ := hv
    exact ⟨us, e, h2 S m _ hu⟩
  | .ptr _ _, _, h => by simp [strip] at h
  | .ms _ _ _ _ _, _, h => by simp [strip] at h
  | .rw _ _ _, _, h => by simp [strip] at h
  | .mw _ _ _ _ _ _, _, h => by simp [strip] at h
  | .prw _ _ _ _ _, _, h => by simp [strip] at h
  | .mpv _, _, h => by simp [strip] at h
  | .frz i s n xs, k, h => by
    simp only [strip] at h
    obtain ⟨hn, h'⟩ := chk_iff.1 h
    refine ⟨_, h', fun S m v hv => ?_⟩
    simp only [CV] at hv ⊢
    obtain ⟨⟨A, c, e, h1, h2, h3, h4⟩, _⟩ := hv.2 hn
    exact ⟨A, c, e, h1, h2, (fun q => by cases q), h3, h4⟩
  | .int q n, k, h => by simp only [strip] at h; exact ⟨_, h, fun S m v hv => by simp only [CV] at hv ⊢; exact hv⟩
  | .bool b, k, h => by simp only [strip] at h; exact ⟨_, h, fun S m v hv => by simp only [CV] at hv ⊢; exact hv⟩
  | .str s, k, h => by simp only [strip] at h; exact ⟨_, h, fun S m v hv => by simp only [CV] at hv ⊢; exact hv⟩
  | .sl s f xs, k, h => by simp only [strip] at h; exact ⟨_, h, fun S m v hv => by simp only [CV] at hv ⊢; exact hv⟩
  | .nils, k, h => by simp only [strip] at h; exact ⟨_, h, fun S m v hv => by simp only [CV] at hv ⊢; exact hv⟩
  | .ro cs, k, h => by simp only [strip] at h; exact ⟨_, h, fun S m v hv => by simp only [CV] at hv ⊢; exact hv⟩
  | .nilp, k, h => by simp only [strip] at h; exact ⟨_, h, fun S m v hv => by simp only [CV] at hv ⊢; exact hv⟩
  | .undef, k, h => by simp only [strip] at h; exact ⟨_, h, fun S m v hv => by simp only [CV] at hv ⊢; exact hv⟩
  | .dead, k, h => by simp only [strip] at h; exact ⟨_, h, fun S m v hv => by simp only [CV]⟩
theorem stripL_sound : ∀ (xs : List AV) (k : List AV → Prop), stripL xs k → ∃ l, k l ∧ ∀ S m vs, CVl S xs m vs → CVl S l noNm vs
  | [], k, h => by
    simp only [stripL] at h
    exact ⟨_, h, fun S m vs hv => by simp only [CVl] at hv ⊢; exact hv⟩
  | x :: xs, k, h => by
    simp only [stripL] at h
    obtain ⟨y, h1, h2⟩ := strip_sound x _ h
    obtain ⟨l, h3, h4⟩ := stripL_sound xs _ h1
    refine ⟨_, h3, fun S m vs hv => ?_⟩
    simp only [CVl] at hv ⊢
    obtain ⟨u, us, e, hu, hus⟩ := hv
    exact ⟨u, us, e, h2 S m u hu, h4 S m us hus⟩
end
/-- Values for a row: without names, unless the row may hold some. -/
def stripE (e : Nat) (xs : List AV) (k : List AV → Prop) : Prop := cond (Nat.blt e 2000000) (stripL xs k) (k xs)
theorem stripE_sound {e : Nat} {xs : List AV} {k : List AV → Prop} (h : stripE e xs k) : ∃ l, k l ∧ ∀ S m vs, CVl S xs m vs → CVl S l (rowNm e m) vs := by
  unfold stripE at h
  cases hb : Nat.blt e 2000000 with
  | true =>
    rw [hb] at h
    obtain ⟨l, h1, h2⟩ := stripL_sound _ _ h
    have he : e < 2000000 := Nat.le_of_ble_eq_true hb
    exact ⟨l, h1, fun S m vs hv => by rw [rowNm_lo he]; exact h2 S m vs hv⟩
  | false =>
    rw [hb] at h
    have he : ¬ e < 2000000 := fun q => by
      have : Nat.blt e 2000000 = true := Nat.ble_eq_true_of_le q
      rw [hb] at this; cases this
    exact ⟨xs, h, fun S m vs hv => by rw [rowNm_hi he]; exact hv⟩
/-- A row with another element j. -/
def setEl (xs : List (List AV)) (j fo : Nat) (ys : List AV) : List (List AV) := xs.set j (spl (xs.getD j []) fo ys)
def astore (P : Program) (t : TypeId) (x v : AV) (h : Nat → Option Blk) (K : List (Nat × Blk) → List Nat → Prop) : Prop :=
  match x with
  | .prw k s q j fo => (match h k, P.info? t with
    | some (.row e s' xs), some i => cond (Nat.beq s s' && Nat.beq (cellsA v).length i.size && allOne (cellsA v) && Nat.ble (fo + (cellsA v).length) s) (chk (q = xs.length ∧ j < xs.length) (stripE e (cellsA v) fun ys => K [(k, .row e s (setEl xs j fo ys))] [k])) False
    | _, _ => False)
  | .ptr k off => (match h k, P.info? t with
    | some (.cells cs), some i => cond (Nat.beq (cellsA v).length i.size && allOne (cellsA v)) (splK cs off (cellsA v) fun cs' => K [(k, .cells cs')] [k]) False
    | _, _ => False)
  | _ => False
theorem astore_sound {P : Program} {E : Env} {nt : Nat} {o : Oper} {t : TypeId} {x v : Operand} {ev : Operand → AV} {h : Nat → Option Blk} {K : List (Nat × Blk) → List Nat → Prop} (ho : o.op = .store t x v) (hd : o.dst = none)
    (H : astore P t (ev x) (ev v) h K) : ∃ u rd, K u rd ∧ (∀ p ∈ u, p.1 ∈ rd) ∧ Good P E nt o ev h .undef u rd := by
  unfold astore at H
  split at H
  · rename_i k s Q j fo hx
    split at H
    · rename_i e s' xs i hk hi
      obtain ⟨hb, H0⟩ := cond_F H
      simp only [Bool.and_eq_true] at hb
      obtain ⟨⟨⟨hs, hsz⟩, hone⟩, hfo⟩ := hb
      have hs := Nat.eq_of_beq_eq_true hs
      subst hs
      have hsz := Nat.eq_of_beq_eq_true hsz
      have hfo := Nat.le_of_ble_eq_true hfo
      obtain ⟨⟨hQ, hj⟩, H1⟩ := chk_iff.1 H0
      obtain ⟨ys, h1, hys⟩ := stripE_sound H1
      refine ⟨_, _, h1, by simp, good_skip hd fun G kp st a w S m hG hR he hrd hf => ?_⟩
      have hv := he x (by rw [ho]; simp [Op.operands])
      have hw := he v (by rw [ho]; simp [Op.operands])
      rw [hx] at hv
      have hks : lk st.heap k = some (.row e s xs) := by rw [hrd k (by simp)]; exact hk
      have hheld := hR.held k _ hks
      obtain ⟨g, q, d, cur, fr, hm, e2, hfr, e3, hxd, e4, e5, _⟩ := row_vals hheld hj
      have hv : a.eval x = .pointer (some ⟨g, j * s + fo, none⟩) := by
        have hh := hheld
        obtain ⟨A, c, p1, _⟩ := hh
        obtain ⟨g', q1, q2⟩ := prw_ptr p1 hQ hv
        subst q1
        rw [hm] at p1
        injection p1 with p1
        injection p1 with _ p1
        injection p1 with p1 _ _
        injection p1 with p1
        injection p1 with p1
        subst p1; exact q2
      obtain ⟨c1, c2⟩ := cellsA_cv hw hone
      have c3 := c1.len
      simp only [Array.length_toList] at c3
      have c4 := hys S m _ c1
      have c5 := c4.len
      simp only [Array.length_toList] at c5
      have hin : j * s + s ≤ cur.size := by rw [e3, ← Nat.succ_mul]; exact Nat.mul_le_mul_right s (by omega)
      have hst := run_storeCells_fr P g (j * s + fo) (rowTy e) fr (a.eval v).cells.toList 0 cur w e2 hfr.free (by simp; omega) c2
      simp only [Nat.add_zero] at hst
      refine ⟨w.setRow g (cur.toList.take (j * s + fo) ++ (a.eval v).cells.toList ++ cur.toList.drop (j * s + fo + (a.eval v).cells.toList.length)).toArray, S, m, ?_, ?_⟩
      · have hsn : ¬ (a.eval v).cells.size ≠ i.size := by simp; omega
        simp only [execOp, ho, hv, Instr.storeAt, Instr.sureAddr, storeVar, sizeOf, typeInfo, Sem.run_bind, Sem.run_pure, Result.andThen_ok, run_program, hi, hsn, if_false]
        rw [hst]; rfl
      · obtain ⟨A, c, p1, p2, p3, p6⟩ := hheld
        rw [hm] at p1
        injection p1 with p1
        injection p1 with _ p1
        injection p1 with pA pq pc
        subst pA; subst pc
        obtain ⟨g2, cur2, fr2, r1, r2, _, r3, r4, r5⟩ := p6.resolve_left (fun e => by have := e.2; omega)
        injection r1 with r1
        injection r1 with r1
        subst r1
        rw [e2] at r2
        injection r2 with r2
        injection r2 with r2
        subst r2
        have hlen : (setEl xs j fo ys).length = xs.length := by simp [setEl]
        have hspl : spl cur.toList (j * s + fo) (a.eval v).cells.toList = cur.toList.take (j * s + fo) ++ (a.eval v).cells.toList ++ cur.toList.drop (j * s + fo + (a.eval v).cells.toList.length) := rfl
        refine hR.writeR hks hm (by omega) rfl rfl rfl (by simp) (fun i hi => setRow_other w g i _ hi) e5 ⟨_, _, by rw [hlen, ← pq]; exact hm, by rw [hlen]; exact p2, p3, .inr ⟨g, _, fr, rfl, setRow_heap w g cur _ (rowTy e) fr e2, ?_, ?_, e5, ?_⟩⟩
        · have : (cur.toList.take (j * s + fo) ++ (a.eval v).cells.toList ++ cur.toList.drop (j * s + fo + (a.eval v).cells.toList.length)).toArray.size = cur.size := by simp; omega
          rw [this]; exact hfr
        · simp; omega
        · intro j' x' hx'
          have hjl : j' < xs.length := by have := (List.getElem?_eq_some_iff.1 hx').1; omega
          obtain ⟨o1, o2⟩ := r5 j' (xs[j']) (List.getElem?_eq_getElem hjl)
          unfold setEl at hx'
          by_cases hjj : j' = j
          · subst hjj
            rw [List.getElem?_set_self hj] at hx'
            injection hx' with hx'
            subst hx'
            have eg : xs.getD j' [] = xs[j'] := by rw [List.getD_eq_getElem?_getD, List.getElem?_eq_getElem hjl]; rfl
            refine ⟨by rw [spl_len (by rw [e4]; omega)]; exact e4, fun i' y hy => ?_⟩
            rw [spl_get (by rw [e4]; omega)] at hy
            have hil : i' < s := by
              by_cases hq : fo ≤ i' ∧ i' < fo + ys.length
              · omega
              · rw [if_neg hq] at hy; have := (List.getElem?_eq_some_iff.1 hy).1; omega
            have cell : ∀ u, (spl cur.toList (j' * s + fo) (a.eval v).cells.toList)[j' * s + i']? = some u → (cur.toList.take (j' * s + fo) ++ (a.eval v).cells.toList ++ cur.toList.drop (j' * s + fo + (a.eval v).cells.toList.length)).toArray[j' * s + i']? = some u := by
              intro u hu
              rw [hspl] at hu
              simpa using hu
            by_cases hq : fo ≤ i' ∧ i' < fo + ys.length
            · rw [if_pos hq] at hy
              obtain ⟨u, hu, hcu⟩ := c4.get hy
              refine ⟨u, cell u ?_, c2 u (List.mem_of_getElem? hu), hcu⟩
              rw [spl_get (by simp; omega), if_pos (by simp; omega), show j' * s + i' - (j' * s + fo) = i' - fo by omega]
              exact hu
            · rw [if_neg hq] at hy
              rw [eg] at hy
              obtain ⟨u, hu, huo, hcu⟩ := o2 i' y hy
              refine ⟨u, cell u ?_, huo, hcu⟩
              rw [spl_get (by simp; omega), if_neg (by simp; omega)]
              simpa using hu
          · rw [List.getElem?_set_ne (fun e => hjj e.symm), List.getElem?_eq_getElem hjl] at hx'
            injection hx' with hx'
            subst hx'
            refine ⟨o1, fun i' y hy => ?_⟩
            obtain ⟨u, hu, huo, hcu⟩ := o2 i' y hy
            refine ⟨u, ?_, huo, hcu⟩
            have hi' : i' < s := by have := (List.getElem?_eq_some_iff.1 hy).1; omega
            have hfar : ¬ (j * s + fo ≤ j' * s + i' ∧ j' * s + i' < j * s + fo + (a.eval v).cells.toList.length) := by
              rintro ⟨q1, q2⟩
              simp only [Array.length_toList] at q2
              rcases Nat.lt_or_ge j' j with hlt | hge
              · have : (j' + 1) * s ≤ j * s := Nat.mul_le_mul_right s hlt
                rw [Nat.succ_mul] at this; omega
              · have : (j + 1) * s ≤ j' * s := Nat.mul_le_mul_right s (by omega)
                rw [Nat.succ_mul] at this; omega
            have := spl_get (cs := cur.toList) (ys := (a.eval v).cells.toList) (off := j * s + fo) (by simp; omega) (j' * s + i')
            rw [if_neg hfar, hspl] at this
            have h9 : cur.toList[j' * s + i']? = some u := by simpa using hu
            rw [h9] at this
            simpa using this
    · exact H.elim
  · rename_i k off hx
    split at H
    · rename_i cs i hk hi
      obtain ⟨hb, H'⟩ := cond_F H
      simp only [Bool.and_eq_true] at hb
      have hsz := Nat.eq_of_beq_eq_true hb.1
      obtain ⟨h1, h2⟩ := splK_sound H'
      refine ⟨_, _, h1, by simp, good_skip hd fun G kp st a w S m hG hR he hrd hf => ?_⟩
      have hv := he x (by rw [ho]; simp [Op.operands])
      have hw := he v (by rw [ho]; simp [Op.operands])
      rw [hx] at hv
      simp only [CV] at hv
      obtain ⟨g, hm, hv⟩ := hv
      have hks : lk st.heap k = some (.cells cs) := by rw [hrd k (by simp)]; exact hk
      obtain ⟨g', arr, ty, e1, e2, e3, e4⟩ := hR.held k _ hks
      rw [hm] at e1
      injection e1 with e1
      injection e1 with e1
      injection e1 with e1
      injection e1 with e1
      subst e1
      obtain ⟨c1, c2⟩ := cellsA_cv hw hb.2
      have c3 := c1.len
      have a3 := e3.len
      simp only [Array.length_toList] at c3 a3
      have hst := run_storeCells_at P g off ty (a.eval v).cells.toList 0 arr w e2 (by simp; omega) c2
      simp only [Nat.add_zero] at hst
      refine ⟨w.setRow g (arr.toList.take off ++ (a.eval v).cells.toList ++ arr.toList.drop (off + (a.eval v).cells.toList.length)).toArray, S, m, ?_, ?_⟩
      · have hs : ¬ (a.eval v).cells.size ≠ i.size := by simp; omega
        simp only [execOp, ho, hv, Instr.storeAt, Instr.sureAddr, storeVar, sizeOf, typeInfo, Sem.run_bind, Sem.run_pure, Result.andThen_ok, run_program, hi, hs, if_false]
        rw [hst]; rfl
      · refine hR.write hks hm rfl rfl rfl (by simp) (fun j hj => setRow_other w g j _ hj) e4 ⟨g, _, ty, hm, setRow_heap w g arr _ ty (0, 0) e2, ?_, e4⟩
        have := e3.spl c1 h2
        simpa [spl] using this
    · exact H.elim
  · exact H.elim
def aalloc (P : Program) (nm : Nat) (t : TypeId) (K : AV → List (Nat × Blk) → List Nat → Prop) : Prop :=
  zeroA P t fun zs => cond (nnl nm zs) (K (.ptr nm 0) [(nm, .cells zs)] []) False
theorem aalloc_sound {P : Program} {E : Env} {nt nm : Nat} {o : Oper} {t : TypeId} {ev : Operand → AV} {h : Nat → Option Blk} {K : AV → List (Nat × Blk) → List Nat → Prop} (ho : o.op = .alloc t) (hd : dstOk nt o.dst = true)
    (H : aalloc P nm t K) : ∃ r b, K r [(nm, b)] [] ∧ Good P E nt o ev h r [(nm, b)] [] := by
  obtain ⟨i, z, hi, hz, H, hr⟩ := zeroA_sound H
  obtain ⟨hn, H'⟩ := cond_F H
  refine ⟨_, _, H', good_value hd fun G kp st a w S m hG hR he hrd hf => ?_⟩
  refine ⟨.pointer (some ⟨w.heap.size, 0, none⟩), w.alloc (.cells z.cells t), S, m.set nm (.pointer (some ⟨w.heap.size, 0, none⟩)), ?_, ?_, ?_⟩
  · simp [execOp, ho, Instr.alloc, hr, newVar, newRow]
  · exact hR.alloc (hf (nm, .cells (ofVs z.cells.toList)) (by simp) (by simp)) t (ofVs_cv S m _) hn
  · simp only [CV]
    exact ⟨w.heap.size, Nm.set_same _ _ _, rfl⟩
def abox (nm : Nat) (x : AV) (K : AV → List (Nat × Blk) → List Nat → Prop) : Prop :=
  cond (allOne (cellsA x) && nnl nm (cellsA x)) (K (.ptr nm 0) [(nm, .cells (cellsA x))] []) False
theorem abox_sound {P : Program} {E : Env} {nt nm : Nat} {o : Oper} {t : TypeId} {x : Operand} {ev : Operand → AV} {h : Nat → Option Blk} {K : AV → List (Nat × Blk) → List Nat → Prop} (ho : o.op = .box t x) (hd : dstOk nt o.dst = true)
    (H : abox nm (ev x) K) : ∃ r b, K r [(nm, b)] [] ∧ Good P E nt o ev h r [(nm, b)] [] := by
  obtain ⟨hb, H'⟩ := cond_F H
  simp only [Bool.and_eq_true] at hb
  refine ⟨_, _, H', good_value hd fun G kp st a w S m hG hR he hrd hf => ?_⟩
  have hv := he x (by rw [ho]; simp [Op.operands])
  obtain ⟨c1, c2⟩ := cellsA_cv hv hb.1
  refine ⟨.pointer (some ⟨w.heap.size, 0, none⟩), w.alloc (.cells (a.eval x).cells t), S, m.set nm (.pointer (some ⟨w.heap.size, 0, none⟩)), ?_, ?_, ?_⟩
  · simp [execOp, ho, Instr.box, newVar, newRow]
  · exact hR.alloc (hf (nm, .cells (cellsA (ev x))) (by simp) (by simp)) t c1 hb.2
  · simp only [CV]
    exact ⟨w.heap.size, Nm.set_same _ _ _, rfl⟩
end Go.Proofs.YthdfkiopppkfcaaDoor
