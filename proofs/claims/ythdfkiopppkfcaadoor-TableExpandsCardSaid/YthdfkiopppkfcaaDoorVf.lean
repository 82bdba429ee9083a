/- Operations that only compute, III: parts, addresses, slices, conversions; all of them in one. -/
import Derived.Test.YthdfkiopppkfcaaDoorVe
import Derived.Laws.Tables
import Derived.Laws.Slices
import Derived.Laws.CopyRow
namespace Go.Proofs.YthdfkiopppkfcaaDoor
open Go
set_option linter.unusedVariables false
set_option linter.unusedSimpArgs false

theorem add_none (g o n : Nat) : (⟨g, o, none⟩ : Addr).add n = ⟨g, o + n, none⟩ := by
  unfold Addr.add
  by_cases h : n = 0
  · simp [h]
  · simp [h]
/-- ys laid over cs from off on. -/
def spl {α : Type} (cs : List α) (off : Nat) (ys : List α) : List α := cs.take off ++ ys ++ cs.drop (off + ys.length)
theorem spl_len {α : Type} {cs ys : List α} {off : Nat} (h : off + ys.length ≤ cs.length) : (spl cs off ys).length = cs.length := by
  unfold spl; simp; omega
theorem spl_get {α : Type} {cs ys : List α} {off : Nat} (h : off + ys.length ≤ cs.length) (j : Nat) :
    (spl cs off ys)[j]? = if off ≤ j ∧ j < off + ys.length then ys[j - off]? else cs[j]? := by
  unfold spl
  rw [List.append_assoc]
  by_cases h1 : j < off
  · rw [List.getElem?_append_left (by simp; omega), List.getElem?_take, if_pos h1, if_neg (by omega)]
  · have hl : (cs.take off).length = off := by simp; omega
    rw [List.getElem?_append_right (by omega), hl]
    by_cases h2 : j < off + ys.length
    · rw [List.getElem?_append_left (by omega), if_pos ⟨by omega, h2⟩]
    · rw [List.getElem?_append_right (by omega), List.getElem?_drop, if_neg (by omega)]
      congr 1; omega
def splK : List AV → Nat → List AV → (List AV → Prop) → Prop
  | cs, 0, [], k => k cs
  | _ :: cs, 0, y :: ys, k => splK cs 0 ys fun l => k (y :: l)
  | x :: cs, n + 1, ys, k => splK cs n ys fun l => k (x :: l)
  | [], 0, _ :: _, _ => False
  | [], _ + 1, ys, k => match ys with | [] => False | _ => False
theorem splK_sound : ∀ {cs : List AV} {off : Nat} {ys : List AV} {k : List AV → Prop}, splK cs off ys k → k (spl cs off ys) ∧ off + ys.length ≤ cs.length
  | cs, 0, [], k, h => by
    unfold splK at h
    exact ⟨by simpa [spl] using h, by simp⟩
  | x :: cs, 0, y :: ys, k, h => by
    unfold splK at h
    have := splK_sound h
    refine ⟨by simpa [spl, Nat.add_comm] using this.1, by simp at this ⊢; omega⟩
  | x :: cs, n + 1, ys, k, h => by
    unfold splK at h
    have := splK_sound h
    refine ⟨?_, by simp at this ⊢; omega⟩
    have e : n + 1 + ys.length = (n + ys.length) + 1 := by omega
    simpa [spl, e] using this.1
  | [], 0, _ :: _, _, h => by unfold splK at h; exact h.elim
  | [], n + 1, ys, _, h => by unfold splK at h; cases ys <;> exact h.elim
theorem CVl.spl {S : Pin} {cs ys : List AV} {m : Nm} {us vs : List Value} {off : Nat} (h : CVl S cs m us) (k : CVl S ys m vs) (hl : off + ys.length ≤ cs.length) : CVl S (spl cs off ys) m (spl us off vs) := by
  have l1 := h.len
  have l2 := k.len
  refine CVl.mk (by rw [spl_len hl, spl_len (by omega)]; exact l1) fun j x v e1 e2 => ?_
  rw [spl_get hl] at e1
  rw [spl_get (by omega), l2] at e2
  by_cases hj : off ≤ j ∧ j < off + ys.length
  · rw [if_pos hj] at e1 e2
    obtain ⟨v', hv', hx⟩ := k.get e1
    rw [e2] at hv'
    injection hv' with hv'
    subst hv'; exact hx
  · rw [if_neg hj] at e1 e2
    obtain ⟨v', hv', hx⟩ := h.get e1
    rw [e2] at hv'
    injection hv' with hv'
    subst hv'; exact hx
/-- The cells of a value. -/
def cellsA : AV → List AV
  | .agg cs => cs
  | x => [x]
/-- A value of one cell. -/
def oneA : AV → Bool
  | .agg _ => false
  | .tup _ => false
  | .undef => false
  | .dead => false
  | _ => true
def allOne : List AV → Bool
  | [] => true
  | x :: xs => oneA x && allOne xs
theorem oneA_cv {S : Pin} {m : Nm} {x : AV} {v : Value} (h : CV S x m v) (k : oneA x = true) : v.oneCell' = true ∧ v.cells = #[v] := by
  cases x <;> simp only [oneA, Bool.false_eq_true] at k <;> simp only [CV] at h
  case int => obtain ⟨rfl, _⟩ := h; exact ⟨rfl, rfl⟩
  case bool => subst h; exact ⟨rfl, rfl⟩
  case str => obtain ⟨rfl, _⟩ := h; exact ⟨rfl, rfl⟩
  case mpv => obtain ⟨g, _, rfl⟩ := h; exact ⟨rfl, rfl⟩
  case sl => obtain ⟨A, c, rfl, _⟩ := h; exact ⟨rfl, rfl⟩
  case nils => subst h; exact ⟨rfl, rfl⟩
  case ro => obtain ⟨b, o, rfl, _⟩ := h; exact ⟨rfl, rfl⟩
  case nilp => subst h; exact ⟨rfl, rfl⟩
  case fn => obtain ⟨us, rfl, _⟩ := h; exact ⟨rfl, rfl⟩
  case ptr => obtain ⟨g, _, rfl⟩ := h; exact ⟨rfl, rfl⟩
  case acc => obtain ⟨⟨A, c, rfl, _⟩, _⟩ := h; exact ⟨rfl, rfl⟩
  case ms => obtain ⟨g, o, _, rfl, _⟩ := h; exact ⟨rfl, rfl⟩
  case rw => obtain ⟨⟨A, c, rfl, _⟩, _⟩ := h; exact ⟨rfl, rfl⟩
  case mw => obtain ⟨A, c, rfl, _⟩ := h; exact ⟨rfl, rfl⟩
  case prw => obtain ⟨a, rfl, _⟩ := h; exact ⟨rfl, rfl⟩
  case frz => obtain ⟨⟨A, c, rfl⟩, _⟩ := h; exact ⟨rfl, rfl⟩
theorem allOne_cv {S : Pin} {m : Nm} : ∀ {xs : List AV} {vs : List Value}, CVl S xs m vs → allOne xs = true → ∀ v ∈ vs, v.oneCell' = true
  | [], vs, h, _ => by simp only [CVl] at h; subst h; simp
  | x :: xs, vs, h, k => by
    simp only [CVl] at h
    obtain ⟨u, us, rfl, h1, h2⟩ := h
    simp only [allOne, Bool.and_eq_true] at k
    intro v hv
    rcases List.mem_cons.1 hv with rfl | hv
    · exact (oneA_cv h1 k.1).1
    · exact allOne_cv h2 k.2 v hv
theorem cellsA_cv {S : Pin} {m : Nm} {x : AV} {v : Value} (h : CV S x m v) (k : allOne (cellsA x) = true) : CVl S (cellsA x) m v.cells.toList ∧ ∀ u ∈ v.cells.toList, u.oneCell' = true := by
  have key : CVl S (cellsA x) m v.cells.toList := by
    cases x
    case agg cs =>
      simp only [CV] at h
      obtain ⟨us, rfl, h⟩ := h
      exact h
    all_goals
      have h' := oneA_cv h (by simpa [cellsA, allOne] using k)
      rw [h'.2]
      simp only [cellsA, CVl]
      exact ⟨v, [], rfl, h, rfl⟩
  exact ⟨key, allOne_cv key k⟩
/-- The zero of a type, its cells. -/
def zeroA (P : Program) (t : TypeId) (K : List AV → Prop) : Prop :=
  match P.info? t with
  | some i => (match i.zero with | some z => K (ofVs z.cells.toList) | none => False)
  | none => False
theorem zeroA_sound {P : Program} {t : TypeId} {K : List AV → Prop} (h : zeroA P t K) : ∃ i z, P.info? t = some i ∧ i.zero = some z ∧ K (ofVs z.cells.toList) ∧ ∀ w, (zeroValue t).run P w = .ok z w := by
  unfold zeroA at h
  split at h
  · rename_i i hi
    split at h
    · rename_i z hz
      exact ⟨i, z, hi, hz, h, fun w => by simp [zeroValue, typeInfo, hi, hz]⟩
    · exact h.elim
  · exact h.elim

def fillK (place : Nat → Option (Nat × Nat)) : List AV → List (Nat × AV) → (List AV → Prop) → Prop
  | cs, [], k => k cs
  | cs, (i, x) :: ps, k => match place i with
    | some (off, size) => forceA x fun x => cond (Nat.beq (cellsA x).length size && allOne (cellsA x)) (splK cs off (cellsA x) fun cs' => fillK place cs' ps k) False
    | none => False
theorem foldl_spl (vs : List Value) (off : Nat) : ∀ (j : Nat) (cs : Array Value), off + j + vs.length ≤ cs.size →
    ((vs.zipIdx j).foldl (fun cs (p : Value × Nat) => cs.setIfInBounds (off + p.2) p.1) cs).toList = spl cs.toList (off + j) vs := by
  induction vs with
  | nil => intro j cs _; simp [spl]
  | cons v vs ih =>
    intro j cs h
    simp only [List.zipIdx_cons, List.foldl_cons]
    simp only [List.length_cons] at h
    rw [ih (j + 1) _ (by simp; omega)]
    refine List.ext_getElem? fun q => ?_
    have hl : (cs.setIfInBounds (off + j) v).toList.length = cs.toList.length := by simp
    rw [spl_get (by rw [hl]; simp; omega), spl_get (by simp; omega)]
    simp only [List.length_cons]
    by_cases h1 : q = off + j
    · subst h1
      rw [if_neg (by omega), if_pos (by omega)]
      have h3 : off + j < cs.size := by omega
      simp [h3]
    · by_cases h2 : off + j ≤ q ∧ q < off + j + (vs.length + 1)
      · rw [if_pos (by omega), if_pos h2, show q - (off + j) = (q - (off + (j + 1))) + 1 by omega]
        simp
      · rw [if_neg (by omega), if_neg h2]
        simp only [Array.getElem?_toList]
        rw [Array.getElem?_setIfInBounds_ne (fun e => h1 e.symm)]
theorem fillK_sound {place : Nat → Option (Nat × Nat)} : ∀ (ps : List (Nat × AV)) (cs : List AV) (k : List AV → Prop), fillK place cs ps k →
    ∃ r, k r ∧ ∀ (S : Pin) (m : Nm) (us : Array Value) (vs : List (Nat × Value)), CVl S cs m us.toList → vs.length = ps.length → (∀ (j : Nat) (p : Nat × AV) (q : Nat × Value), ps[j]? = some p → vs[j]? = some q → q.1 = p.1 ∧ CV S p.2 m q.2) →
      ∃ out, Instr.fill place us vs = some out ∧ CVl S r m out.toList
  | [], cs, k, h => ⟨cs, h, fun S m us vs hu hl _ => by
      have : vs = [] := List.eq_nil_of_length_eq_zero (by simpa using hl)
      subst this
      exact ⟨us, rfl, hu⟩⟩
  | (i, x) :: ps, cs, k, h => by
    simp only [fillK] at h
    split at h
    · rename_i off size hp
      rw [forceA_eq] at h
      obtain ⟨hb, h⟩ := cond_F h
      simp only [Bool.and_eq_true] at hb
      have hsz := Nat.eq_of_beq_eq_true hb.1
      obtain ⟨h1, h2⟩ := splK_sound h
      obtain ⟨r, hr, hh⟩ := fillK_sound ps _ k h1
      refine ⟨r, hr, fun S m us vs hu hl hv => ?_⟩
      cases vs with
      | nil => simp at hl
      | cons q vs =>
        obtain ⟨i', v⟩ := q
        obtain ⟨e, hx⟩ := hv 0 _ _ rfl rfl
        simp only at e hx
        subst e
        obtain ⟨hc, _⟩ := cellsA_cv hx hb.2
        have hcl := hc.len
        have hul := hu.len
        simp only [Array.length_toList] at hcl hul
        simp only [Instr.fill, hp]
        rw [if_neg (by simp; omega)]
        have hf := foldl_spl v.cells.toList off 0 us (by simp; omega)
        have hf' : (v.cells.zipIdx.foldl (fun cs (p : Value × Nat) => cs.setIfInBounds (off + p.2) p.1) us).toList = spl us.toList off v.cells.toList := by
          rw [← Array.foldl_toList, Array.toList_zipIdx]; simpa using hf
        exact hh S m _ vs (by rw [hf']; exact hu.spl hc h2) (by simpa using hl) (fun j p q e1 e2 => hv (j + 1) p q (by simpa using e1) (by simpa using e2))
    · exact h.elim
def bldK (P : Program) (t : TypeId) (parts : List (Nat × AV)) (K : AV → Prop) : Prop :=
  match P.info? t, P.underlying t with
  | some it, some (.array _ e) =>
    (match it.zero, P.info? e with
    | some z, some ie => fillK (fun i => some (i * ie.size, ie.size)) (ofVs z.cells.toList) parts fun cs => K (.agg cs)
    | _, _ => False)
  | some it, some (.struct fields) =>
    (match it.zero, fields.toList.mapM (fun f => (P.info? f.type).map fun i => (f.offset, i.size)) with
    | some z, some places => fillK (fun i => places[i]?) (ofVs z.cells.toList) parts fun cs => K (.agg cs)
    | _, _ => False)
  | _, _ => False
theorem bldK_sound {P : Program} {t : TypeId} {ps : List (Nat × AV)} {K : AV → Prop} (h : bldK P t ps K) :
    ∃ r, K r ∧ ∀ (S : Pin) (m : Nm) (w : World) (vs : Array (Nat × Value)), vs.size = ps.length → (∀ (j : Nat) (p : Nat × AV) (q : Nat × Value), ps[j]? = some p → vs.toList[j]? = some q → q.1 = p.1 ∧ CV S p.2 m q.2) →
      ∃ v, (Instr.build t vs).run P w = .ok v w ∧ CV S r m v := by
  unfold bldK at h
  split at h
  · rename_i it n e hi hu
    split at h
    · rename_i z ie hz hie
      obtain ⟨r, hr, hh⟩ := fillK_sound ps _ _ h
      refine ⟨_, hr, fun S m w vs hl hv => ?_⟩
      obtain ⟨out, ho, hc⟩ := hh S m z.cells vs.toList (ofVs_cv S m _) (by simpa using hl) hv
      exact ⟨.agg out, run_build w t vs out (by unfold Program.built; simp only [hi, hu, hz, hie]; exact ho), by simp only [CV]; exact ⟨out, rfl, hc⟩⟩
    · exact h.elim
  · rename_i it fields hi hu
    split at h
    · rename_i z places hz hp
      obtain ⟨r, hr, hh⟩ := fillK_sound ps _ _ h
      refine ⟨_, hr, fun S m w vs hl hv => ?_⟩
      obtain ⟨out, ho, hc⟩ := hh S m z.cells vs.toList (ofVs_cv S m _) (by simpa using hl) hv
      exact ⟨.agg out, run_build w t vs out (by unfold Program.built; simp only [hi, hu, hz, hp]; simpa using ho), by simp only [CV]; exact ⟨out, rfl, hc⟩⟩
    · exact h.elim
  · exact h.elim
end Go.Proofs.YthdfkiopppkfcaaDoor
