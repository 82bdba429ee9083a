/- Arguments that came in, and package variables, as abstract values; from the contract of a law to its call. -/
import Derived.Test.YthdfkiopppkfcaaDoorVq
import Derived.ProofKit
import Derived.OpenShut
import Derived.ShutString
import Derived.ChangeOld
import Derived.Carry
import Derived.Deep.Slices
import Derived.WideShapes
import Derived.LaidMore
namespace Go.Proofs.YthdfkiopppkfcaaDoor
open Go
open Go.ChangeShapes Go.WideShapes
open Go.RowKit (Below)
set_option linter.unusedVariables false
set_option linter.unusedSimpArgs false

/-- All cells of a world. -/
def pinAll (w : World) : Pin := fun b o => match w.cell? ⟨b, o, none⟩ with | some v => cond v.oneCell' (some v) none | none => none
theorem pinAll_some {w : World} {b o : Nat} {v : Value} (h : w.cell? ⟨b, o, none⟩ = some v) (k : v.oneCell' = true) : pinAll w b o = some v := by simp [pinAll, h, k]
theorem agree_all (w : World) : Agree (pinAll w) w := by
  intro b o v h
  unfold pinAll at h
  split at h
  · next u e =>
    cases hk : u.oneCell' with
    | true => rw [hk] at h; simp only [cond_true, Option.some.injEq] at h; subst h; exact ⟨e, hk⟩
    | false => rw [hk] at h; cases h
  · cases h
def tiles (P : Program) : List Field → Nat → Nat → Bool
  | [], o, n => Nat.beq o n
  | f :: fs, o, n => Nat.beq f.offset o && tiles P fs (o + P.cellsOf f.type) n
theorem tiles_le {P : Program} : ∀ {fs : List Field} {o n : Nat}, tiles P fs o n = true → o ≤ n
  | [], o, n, h => by simp only [tiles] at h; have := Nat.eq_of_beq_eq_true h; omega
  | f :: fs, o, n, h => by
    simp only [tiles, Bool.and_eq_true] at h
    have := tiles_le h.2
    omega
/-- Types that are read so. -/
def supp (P : Program) : Nat → TypeId → Bool
  | 0, _ => false
  | n + 1, t => match P.underlying t with
    | some .bool => true
    | some (.int _) => true
    | some .string => true
    | some (.slice e) => Nat.blt 0 (P.cellsOf e) && supp P n e
    | some (.struct fs) => tiles P fs.toList 0 (P.cellsOf t) && fs.toList.all fun f => supp P n f.type
    | some (.array m e) => Nat.beq (m * P.cellsOf e) (P.cellsOf t) && supp P n e
    | _ => false
def ShF (P : Program) (sh : TypeId → List AV → Prop) : List Field → List AV → Prop
  | [], cs => cs = []
  | f :: fs, cs => ∃ ys zs, sh f.type ys ∧ ShF P sh fs zs ∧ cs = ys ++ zs
def ShE (sh : List AV → Prop) : Nat → List AV → Prop
  | 0, cs => cs = []
  | n + 1, cs => ∃ ys zs, sh ys ∧ ShE sh n zs ∧ cs = ys ++ zs
/-- The cells of a value of type t. -/
def Sh (P : Program) : Nat → TypeId → List AV → Prop
  | 0, _, _ => False
  | n + 1, t, cs => match P.underlying t with
    | some .bool => ∃ b, cs = [.bool b]
    | some (.int k) => ∃ z, rng k z ∧ cs = [.int k z]
    | some .string => ∃ s : ByteArray, s.size ≤ 9223372036854775807 ∧ cs = [.str s]
    | some (.slice e) => ∃ xs : List (List AV), xs.length ≤ 9223372036854775807 ∧ (∀ x ∈ xs, Sh P n e x) ∧ cs = [.sl (P.cellsOf e) false xs]
    | some (.struct fs) => ShF P (Sh P n) fs.toList cs
    | some (.array m e) => ShE (Sh P n e) m cs
    | _ => False
theorem shF_of {P : Program} {S : Pin} {sh : TypeId → List AV → Prop} {vs : List Value} : ∀ (fs : List Field) (o tot : Nat), tiles P fs o tot = true → vs.length = tot →
    (∀ f ∈ fs, ∃ ys, sh f.type ys ∧ allOne ys = true ∧ CVl S ys noNm ((vs.drop f.offset).take (P.cellsOf f.type))) → ∃ cs, ShF P sh fs cs ∧ allOne cs = true ∧ CVl S cs noNm (vs.drop o)
  | [], o, tot, ht, hl, _ => by
    simp only [tiles] at ht
    have := Nat.eq_of_beq_eq_true ht
    exact ⟨[], rfl, rfl, by simp only [CVl]; exact List.drop_eq_nil_of_le (by omega)⟩
  | f :: fs, o, tot, ht, hl, h => by
    simp only [tiles, Bool.and_eq_true] at ht
    obtain ⟨ho, ht⟩ := ht
    have ho := Nat.eq_of_beq_eq_true ho
    obtain ⟨ys, h1, h2, h3⟩ := h f (List.mem_cons_self ..)
    obtain ⟨zs, k1, k2, k3⟩ := shF_of fs _ tot ht hl (fun g hg => h g (List.mem_cons_of_mem _ hg))
    refine ⟨ys ++ zs, ⟨ys, zs, h1, k1, rfl⟩, allOne_append h2 k2, ?_⟩
    rw [ho] at h3
    have e : vs.drop o = (vs.drop o).take (P.cellsOf f.type) ++ vs.drop (o + P.cellsOf f.type) := by
      rw [← List.drop_drop]; exact (List.take_append_drop _ _).symm
    rw [e]
    exact CVl.append h3 k3
where allOne_append : ∀ {xs ys : List AV}, allOne xs = true → allOne ys = true → allOne (xs ++ ys) = true
  | [], ys, _, h => h
  | x :: xs, ys, h, k => by
    simp only [allOne, Bool.and_eq_true, List.cons_append] at h ⊢
    exact ⟨h.1, allOne_append h.2 k⟩
theorem shE_of {S : Pin} {sh : List AV → Prop} {s : Nat} : ∀ (n : Nat) (vs : List Value), vs.length = n * s → (∀ i, i < n → ∃ ys, sh ys ∧ allOne ys = true ∧ CVl S ys noNm ((vs.drop (i * s)).take s)) →
    ∃ cs, ShE sh n cs ∧ allOne cs = true ∧ CVl S cs noNm vs
  | 0, vs, hl, _ => ⟨[], rfl, rfl, by simp only [CVl]; exact List.eq_nil_of_length_eq_zero (by omega)⟩
  | n + 1, vs, hl, h => by
    obtain ⟨ys, h1, h2, h3⟩ := h 0 (by omega)
    have hl' : vs.length = n * s + s := by rw [hl, Nat.succ_mul]
    obtain ⟨zs, k1, k2, k3⟩ := shE_of n (vs.drop s) (by rw [List.length_drop, hl', Nat.add_sub_cancel]) (fun i hi => by
      obtain ⟨q, q1, q2, q3⟩ := h (i + 1) (by omega)
      refine ⟨q, q1, q2, ?_⟩
      rw [List.drop_drop, show s + i * s = (i + 1) * s by rw [Nat.succ_mul]; omega]
      exact q3)
    refine ⟨ys ++ zs, ⟨ys, zs, h1, k1, rfl⟩, shF_of.allOne_append h2 k2, ?_⟩
    rw [Nat.zero_mul, List.drop_zero] at h3
    have e : vs = vs.take s ++ vs.drop s := (List.take_append_drop _ _).symm
    rw [e]
    exact CVl.append h3 k3
theorem list_of {α : Type} {p : Nat → α → Prop} : ∀ (n : Nat), (∀ i, i < n → ∃ x, p i x) → ∃ xs : List α, xs.length = n ∧ ∀ i x, xs[i]? = some x → p i x
  | 0, _ => ⟨[], rfl, by simp⟩
  | n + 1, h => by
    obtain ⟨xs, h1, h2⟩ := list_of n (fun i hi => h i (by omega))
    obtain ⟨x, hx⟩ := h n (by omega)
    refine ⟨xs ++ [x], by simp [h1], fun i y hy => ?_⟩
    rcases Nat.lt_or_ge i xs.length with hi | hi
    · rw [List.getElem?_append_left hi] at hy; exact h2 i y hy
    · rw [List.getElem?_append_right hi] at hy
      rcases Nat.eq_zero_or_pos (i - xs.length) with h0 | h0
      · rw [h0] at hy
        simp only [List.getElem?_cons_zero, Option.some.injEq] at hy
        rw [← hy, show i = n by omega]; exact hx
      · rw [List.getElem?_eq_none (by simp; omega)] at hy; cases hy
section
variable {H : Type} {enc : TypeId × Value → H} {P : Program} {w : World} {base : Nat} {held : Bool}
theorem rng_wf {k : IntKind} {z : Int} (h : (Lit.int k z).wf = true) : rng k z := by
  rw [rng_iff]
  simp only [Lit.wf, Bool.and_eq_true, decide_eq_true_eq] at h
  exact h
/-- What is read as data is abstract values of its type. -/
theorem in_of_trod : ∀ (n : Nat) (t : TypeId) (fuel : Nat) (vs : List Value) (x : DataW H × List MemPlace), supp P n t = true → DataW.trod enc P w base (fun _ => true) held fuel t vs = some x →
    ∃ cs, Sh P n t cs ∧ allOne cs = true ∧ CVl (pinAll w) cs noNm vs
  | 0, t, _, _, _, hs, _ => by simp [supp] at hs
  | n + 1, t, fuel, vs, x, hs, h => by
    unfold supp at hs
    unfold Sh
    split at hs
    · next ht =>
      obtain ⟨b, rfl, _⟩ := DataW.trod_bool ht h
      exact ⟨[.bool b], ⟨b, rfl⟩, rfl, _, _, rfl, rfl, rfl⟩
    · next k ht =>
      obtain ⟨z, rfl, _, hw⟩ := DataW.trod_int ht h
      exact ⟨[.int k z], ⟨z, rng_wf hw, rfl⟩, rfl, _, _, rfl, ⟨rfl, rng_wf hw⟩, rfl⟩
    · next ht =>
      obtain ⟨s, rfl, _, hw⟩ := DataW.trod_string ht h
      exact ⟨[.str s], ⟨s, hw, rfl⟩, rfl, _, _, rfl, ⟨rfl, hw⟩, rfl⟩
    · next e ht =>
      simp only [Bool.and_eq_true] at hs
      have hs0 : 0 < P.cellsOf e := by have := hs.1; simp [Nat.blt] at this; omega
      rcases DataW.trod_slice ht h with ⟨rfl, _⟩ | ⟨a, len, cap, elems, rest, m, _, rfl, _, hb, hl, hc, hlen, hel, hsp, hns⟩
      · refine ⟨[.sl (P.cellsOf e) false []], ⟨[], by simp, by simp, rfl⟩, rfl, _, _, rfl, ⟨none, 0, rfl, by simp, by simp, (fun h => by cases h), (fun _ => rfl), (fun a ha => by cases ha)⟩, rfl⟩
      · have each : ∀ i, i < len → ∃ x, (Sh P n e x) ∧ ∃ cs', w.cells? base (a.add (i * P.cellsOf e)) (P.cellsOf e) = some cs' ∧ allOne x = true ∧ CVl (pinAll w) x noNm cs' := by
          intro i hi
          have h1 := hel i hi
          have hx : elems[i]? = some (elems[i]'(by omega)) := List.getElem?_eq_getElem (by omega)
          rw [hx, Option.bind_eq_some_iff] at h1
          obtain ⟨cs', h2, h3⟩ := h1
          obtain ⟨y, k1, k2, k3⟩ := in_of_trod n e m cs' _ hs.2 h3
          exact ⟨y, k1, cs', h2, k2, k3⟩
        obtain ⟨xs, hx1, hx2⟩ := list_of len each
        have hmem : ∀ x ∈ xs, Sh P n e x := by
          intro x hx
          obtain ⟨i, hi⟩ := List.getElem?_of_mem hx
          exact (hx2 i x hi).1
        refine ⟨[.sl (P.cellsOf e) false xs], ⟨xs, by unfold maxLen at hc; omega, hmem, rfl⟩, rfl, _, _, rfl, ⟨some a, cap, by rw [hx1], by omega, hc, (fun h => by cases h), (fun h => by cases h), fun a' ha => ?_⟩, rfl⟩
        cases ha
        have key : ∀ (j : Nat) (x : List AV), xs[j]? = some x → ∃ cs' : List Value, cs'.length = P.cellsOf e ∧ CVl (pinAll w) x noNm cs' ∧ allOne x = true ∧ ∀ i, i < P.cellsOf e → w.cell? ((a.add (j * P.cellsOf e)).add i) = cs'[i]? := by
          intro j x hj
          obtain ⟨_, cs', h2, h3, h4⟩ := hx2 j x hj
          obtain ⟨_, q1, q2⟩ := World.cells?_some h2
          exact ⟨cs', q1, h4, h3, q2⟩
        have spot : cap ≠ 0 → a.spot = none := by
          intro h0
          have h1 : ∃ cs', w.cells? base (a.add (0 * P.cellsOf e)) (P.cellsOf e) = some cs' := by
            rcases Nat.eq_zero_or_pos len with hl0 | hl0
            · obtain ⟨hr, hr2⟩ := hsp rfl
              have h1 := hr2 0 (by omega)
              have hx : rest[0]? = some (rest[0]'(by omega)) := List.getElem?_eq_getElem (by omega)
              rw [hx, Option.bind_eq_some_iff] at h1
              obtain ⟨cs', h2, _⟩ := h1
              exact ⟨cs', by rw [← h2, hl0]⟩
            · have h1 := hel 0 hl0
              have hx : elems[0]? = some (elems[0]'(by omega)) := List.getElem?_eq_getElem (by omega)
              rw [hx, Option.bind_eq_some_iff] at h1
              obtain ⟨cs', h2, _⟩ := h1
              exact ⟨cs', h2⟩
          obtain ⟨cs', h2⟩ := h1
          obtain ⟨_, q1, q2⟩ := World.cells?_some h2
          have h3 := q2 0 hs0
          rw [List.getElem?_eq_getElem (by omega)] at h3
          have h4 := World.cell?_spot h3
          simpa [Addr.add] using h4
        refine ⟨spot, CE.mk fun j x hj => ?_⟩
        obtain ⟨cs', k1, k2, k3, k4⟩ := key j x hj
        have hxl : x.length = P.cellsOf e := by rw [← k1]; exact (CVl.len k2).symm
        refine ⟨hxl, CC.mk fun i y hy => ?_⟩
        obtain ⟨u, hu, hcv⟩ := CVl.get k2 hy
        have hi : i < P.cellsOf e := by have := (List.getElem?_eq_some_iff.1 hy).1; omega
        have hj' : j < len := by have := (List.getElem?_eq_some_iff.1 hj).1; omega
        have hsp := spot (by omega)
        obtain ⟨b, o, sp⟩ := a
        simp only at hsp
        subst hsp
        have h5 := k4 i hi
        rw [add_none, add_none, hu] at h5
        exact ⟨u, pinAll_some h5 (allOne_cv k2 k3 u (List.mem_of_getElem? hu)), hcv⟩
    · next fs ht =>
      simp only [Bool.and_eq_true, List.all_eq_true] at hs
      obtain ⟨xs, m, _, _, hl, hxl, hf⟩ := DataW.trod_struct ht h
      obtain ⟨cs, k1, k2, k3⟩ := shF_of (S := pinAll w) (sh := Sh P n) (vs := vs) fs.toList 0 _ hs.1 hl (fun f hfm => by
        obtain ⟨i, hi⟩ := List.getElem?_of_mem hfm
        have h1 := hf i f (by simpa using hi)
        have hi' : i < fs.size := by have := (List.getElem?_eq_some_iff.1 hi).1; simpa using this
        rw [List.getElem?_eq_getElem (by omega : i < xs.length)] at h1
        exact in_of_trod n f.type m _ _ (hs.2 f hfm) h1)
      exact ⟨cs, k1, k2, by simpa using k3⟩
    · next m e ht =>
      simp only [Bool.and_eq_true] at hs
      obtain ⟨xs, q, _, _, hl, hxl, hf⟩ := DataW.trod_array ht h
      have hsz := Nat.eq_of_beq_eq_true hs.1
      exact shE_of (S := pinAll w) (sh := Sh P n e) (s := P.cellsOf e) m vs (by omega) (fun i hi => by
        have h1 := hf i hi
        rw [List.getElem?_eq_getElem (by omega : i < xs.length)] at h1
        exact in_of_trod n e q _ _ hs.2 h1)
    · cases hs

/-- The abstract value of some cells. -/
def mkA (P : Program) (t : TypeId) (cs : List AV) : AV := cond (isAg P t) (.agg cs) (match cs with | [x] => x | _ => .dead)
def ShAll (P : Program) : List TypeId → (List AV → Prop) → Prop
  | [], K => K []
  | t :: ts, K => ∀ cs, Sh P 50 t cs → ShAll P ts fun xs => K (mkA P t cs :: xs)
theorem in_one {r : Reach} {b0 n : Nat} {t : TypeId} {v : Value} {fuel : Nat} {x : DataW H × List MemPlace} (hs : supp P n t = true) (hv : Value.okWide P w r b0 t v) (h : DataW.trod enc P w base (fun _ => true) held fuel t v.cells.toList = some x) :
    ∃ cs, Sh P n t cs ∧ CV (pinAll w) (mkA P t cs) noNm v := by
  obtain ⟨cs, h1, h2, h3⟩ := in_of_trod n t fuel _ x hs h
  refine ⟨cs, h1, ?_⟩
  have one : isAg P t = false → v.cells = #[v] → CV (pinAll w) (mkA P t cs) noNm v := by
    intro ha hc
    rw [hc] at h3
    unfold mkA
    rw [ha]
    match cs, h3 with
    | [y], h3 =>
      simp only [CVl] at h3
      obtain ⟨u, us, e, hy, hn⟩ := h3
      simp at e
      rw [e.1]; exact hy
    | [], h3 => simp [CVl] at h3
    | _ :: _ :: _, h3 =>
      simp [CVl] at h3
      obtain ⟨u, us, ⟨_, e⟩, _, u', us', e', _⟩ := h3
      rw [e] at e'; cases e'
  have agg : isAg P t = true → ∀ us, v = .agg us → CV (pinAll w) (mkA P t cs) noNm v := by
    intro ha us e
    subst e
    unfold mkA
    rw [ha]
    exact ⟨us, rfl, h3⟩
  unfold Value.okWide at hv
  cases n with
  | zero => simp [supp] at hs
  | succ n =>
    unfold supp at hs
    split at hs
    · next ht =>
      rw [ht] at hv
      simp only [Cell.okWide, Cell.ok, ht] at hv
      refine one (by unfold isAg; rw [ht]) ?_
      split at hv <;> first | rfl | (split at hv <;> first | rfl | cases hv) | cases hv
    · next k ht =>
      rw [ht] at hv
      simp only [Cell.okWide, Cell.ok, ht] at hv
      refine one (by unfold isAg; rw [ht]) ?_
      split at hv <;> first | rfl | (split at hv <;> first | rfl | cases hv) | cases hv
    · next ht =>
      rw [ht] at hv
      simp only [Cell.okWide, Cell.ok, ht] at hv
      refine one (by unfold isAg; rw [ht]) ?_
      split at hv <;> first | rfl | (split at hv <;> first | rfl | cases hv) | cases hv
    · next e ht =>
      rw [ht] at hv
      simp only [Cell.okWide, Cell.ok, ht] at hv
      refine one (by unfold isAg; rw [ht]) ?_
      split at hv <;> first | rfl | (split at hv <;> first | rfl | cases hv) | cases hv
    · next fs ht =>
      rw [ht] at hv
      obtain ⟨us, e, _⟩ := hv
      exact agg (by unfold isAg; rw [ht]) us e
    · next m e ht =>
      rw [ht] at hv
      obtain ⟨us, e, _⟩ := hv
      exact agg (by unfold isAg; rw [ht]) us e
    · cases hs
theorem in_all {r : Reach} {b0 : Nat} : ∀ (ts : List TypeId) (vs : List Value) (ds : List (DataW H)) (ps : List MemPlace) (K : List AV → Prop), (ts.all fun t => supp P 50 t) = true → DataW.TrodAll enc P w base (fun _ => true) held ts vs ds ps →
    (∀ (j : Nat) t v, ts[j]? = some t → vs[j]? = some v → Value.okWide P w r b0 t v) → ShAll P ts K → ∃ xs, K xs ∧ CVl (pinAll w) xs noNm vs
  | [], [], [], ps, K, _, h, _, hK => ⟨[], hK, by simp only [CVl]⟩
  | t :: ts, v :: vs, d :: ds, ps, K, hs, h, hv, hK => by
    simp only [List.all_cons, Bool.and_eq_true] at hs
    obtain ⟨p, q, ⟨fuel, h1⟩, h2, _⟩ := h
    obtain ⟨cs, k1, k2⟩ := in_one hs.1 (hv 0 t v rfl rfl) h1
    obtain ⟨xs, q1, q2⟩ := in_all ts vs ds q (fun xs => K (mkA P t cs :: xs)) hs.2 h2 (fun j t v ht hv' => hv (j + 1) t v (by simpa using ht) (by simpa using hv')) (hK cs k1)
    exact ⟨_, q1, by simp only [CVl]; exact ⟨v, vs, rfl, k2, q2⟩⟩
  | [], v :: vs, ds, ps, K, _, h, _, _ => by cases ds <;> simp [DataW.TrodAll] at h
  | [], [], d :: ds, ps, K, _, h, _, _ => by simp [DataW.TrodAll] at h
  | t :: ts, [], ds, ps, K, _, h, _, _ => by cases ds <;> simp [DataW.TrodAll] at h
  | t :: ts, v :: vs, [], ps, K, _, h, _, _ => by simp [DataW.TrodAll] at h
/-- From the contract of a law to its call. -/
theorem law_calls {gl : Glob} {f : FuncId} {r : Reach} {b0 : Nat} {ts : List TypeId} {args : Array Value} {ds : List (DataW H)} {ps : List MemPlace} (hs : (ts.all fun t => supp P 50 t) = true) (hg : GOKg gl (pinAll w))
    (h : ShAll P ts fun xs => PureC P gl f xs (.bool true)) (hA : DataW.TrodAll enc P w base (fun _ => true) held ts args.toList ds ps)
    (hv : ∀ (j : Nat) t v, ts[j]? = some t → args.toList[j]? = some v → Value.okWide P w r b0 t v) :
    Calls P f args w fun e w' => e = .returned (.bool true) ∧ Below w.heap.size w w' := by
  obtain ⟨xs, h1, h2⟩ := in_all ts _ ds ps _ hs hA hv h
  refine (h1 w (pinAll w) args hg (agree_all w) h2).mono fun e w' h => ?_
  obtain ⟨u, S', h3, h4, _, _, _, h5⟩ := h
  simp only [CV] at h5
  exact ⟨by rw [h3, h5], h4⟩
/-- Arguments read on as they did. -/
theorem trodAll_stay (hl : laidOutB P = true) {w' : World} (hb : Below w.heap.size w w') : ∀ (ts : List TypeId) (vs : List Value) (ds : List (DataW H)) (ps : List MemPlace), (ts.all fun t => P.readableRec t && decide (t < P.types.size)) = true →
    DataW.TrodAll enc P w 0 (fun _ => true) true ts vs ds ps → DataW.TrodAll enc P w' 0 (fun b => decide (b < w.heap.size)) true ts vs ds ps
  | [], [], [], ps, _, h => h
  | t :: ts, v :: vs, d :: ds, ps, hs, h => by
    simp only [List.all_cons, Bool.and_eq_true, decide_eq_true_eq] at hs
    obtain ⟨p, q, h1, h2, h3⟩ := h
    have hlt : ∀ x ∈ p, x.block < w.heap.size := by obtain ⟨m, hm⟩ := h1; exact DataW.trod_lt m _ _ _ hm
    exact ⟨p, q, Below.trod hl hs.1.1 hs.1.2 h1 hb hlt, trodAll_stay hl hb ts vs ds q hs.2 h2, h3⟩
  | [], v :: vs, ds, ps, _, h => by cases ds <;> simp [DataW.TrodAll] at h
  | [], [], d :: ds, ps, _, h => by simp [DataW.TrodAll] at h
  | t :: ts, [], ds, ps, _, h => by cases ds <;> simp [DataW.TrodAll] at h
  | t :: ts, v :: vs, [], ps, _, h => by simp [DataW.TrodAll] at h

/-! Package variables that are laid. -/
def suppG (P : Program) : Nat → TypeId → Bool
  | 0, _ => false
  | n + 1, t => match P.underlying t with
    | some .bool => true
    | some (.int _) => true
    | some .string => true
    | some (.struct fs) => tiles P fs.toList 0 (P.cellsOf t) && fs.toList.all fun f => suppG P n f.type
    | some (.array m e) => Nat.beq (m * P.cellsOf e) (P.cellsOf t) && suppG P n e
    | _ => false
mutual
def flatD : DataW H → List AV
  | .lit (.bool b) => [.bool b]
  | .lit (.int k z) => [.int k z]
  | .lit (.string l) => [.str ⟨l.toArray⟩]
  | .agg ds => flatDs ds
  | _ => [.dead]
def flatDs : List (DataW H) → List AV
  | [] => []
  | d :: ds => flatD d ++ flatDs ds
end
theorem flatF {S : Pin} {vs : List Value} : ∀ (fs : List Field) (ds : List (DataW H)) (o tot : Nat), tiles P fs o tot = true → vs.length = tot → ds.length = fs.length →
    (∀ (i : Nat) (f : Field) (d : DataW H), fs[i]? = some f → ds[i]? = some d → CVl S (flatD d) noNm ((vs.drop f.offset).take (P.cellsOf f.type))) → CVl S (flatDs ds) noNm (vs.drop o)
  | [], [], o, tot, ht, hl, _, _ => by
    simp only [tiles] at ht
    have := Nat.eq_of_beq_eq_true ht
    simp only [flatDs, CVl]; exact List.drop_eq_nil_of_le (by omega)
  | f :: fs, d :: ds, o, tot, ht, hl, hd, h => by
    simp only [tiles, Bool.and_eq_true] at ht
    obtain ⟨ho, ht⟩ := ht
    have ho := Nat.eq_of_beq_eq_true ho
    have h1 := h 0 f d rfl rfl
    have h2 := flatF fs ds _ tot ht hl (by simpa using hd) (fun i g d' hg hd' => h (i + 1) g d' (by simpa using hg) (by simpa using hd'))
    rw [ho] at h1
    have e : vs.drop o = (vs.drop o).take (P.cellsOf f.type) ++ vs.drop (o + P.cellsOf f.type) := by
      rw [← List.drop_drop]; exact (List.take_append_drop _ _).symm
    rw [e]
    simp only [flatDs]
    exact CVl.append h1 h2
  | [], _ :: _, _, _, _, _, hd, _ => by simp at hd
  | _ :: _, [], _, _, _, _, hd, _ => by simp at hd
theorem flatE {S : Pin} {s : Nat} : ∀ (ds : List (DataW H)) (vs : List Value), vs.length = ds.length * s → (∀ (i : Nat) (d : DataW H), ds[i]? = some d → CVl S (flatD d) noNm ((vs.drop (i * s)).take s)) → CVl S (flatDs ds) noNm vs
  | [], vs, hl, _ => by simp only [flatDs, CVl]; exact List.eq_nil_of_length_eq_zero (by simpa using hl)
  | d :: ds, vs, hl, h => by
    have h1 := h 0 d rfl
    have hl' : vs.length = ds.length * s + s := by rw [hl, List.length_cons, Nat.succ_mul]
    have h2 := flatE (S := S) (s := s) ds (vs.drop s) (by rw [List.length_drop]; omega) (fun i d' hd => by
      have := h (i + 1) d' (by simpa using hd)
      rw [List.drop_drop, show s + i * s = (i + 1) * s by rw [Nat.succ_mul]; omega]
      exact this)
    rw [Nat.zero_mul, List.drop_zero] at h1
    have e : vs = vs.take s ++ vs.drop s := (List.take_append_drop _ _).symm
    rw [e]
    simp only [flatDs]
    exact CVl.append h1 h2
theorem flat_of_trod {S : Pin} {spare : Nat → Bool} : ∀ (n : Nat) (t : TypeId) (fuel : Nat) (vs : List Value) (x : DataW H × List MemPlace), suppG P n t = true → DataW.trod enc P w base spare held fuel t vs = some x → CVl S (flatD x.1) noNm vs
  | 0, t, _, _, _, hs, _ => by simp [suppG] at hs
  | n + 1, t, fuel, vs, x, hs, h => by
    unfold suppG at hs
    split at hs
    · next ht =>
      obtain ⟨b, rfl, rfl⟩ := DataW.trod_bool ht h
      exact ⟨_, _, rfl, rfl, rfl⟩
    · next k ht =>
      obtain ⟨z, rfl, rfl, hw⟩ := DataW.trod_int ht h
      exact ⟨_, _, rfl, ⟨rfl, rng_wf hw⟩, rfl⟩
    · next ht =>
      obtain ⟨s, rfl, rfl, hw⟩ := DataW.trod_string ht h
      exact ⟨_, _, rfl, ⟨by simp, by simpa using hw⟩, rfl⟩
    · next fs ht =>
      simp only [Bool.and_eq_true, List.all_eq_true] at hs
      obtain ⟨xs, m, _, rfl, hl, hxl, hf⟩ := DataW.trod_struct ht h
      have := flatF (S := S) (vs := vs) fs.toList (xs.map (·.1)) 0 _ hs.1 hl (by simpa using hxl) (fun i f d hi hd => by
        have h1 := hf i f (by simpa using hi)
        rw [List.getElem?_map] at hd
        cases hx : xs[i]? with
        | none => rw [hx] at hd; cases hd
        | some y =>
          rw [hx] at hd h1
          simp only [Option.map_some, Option.some.injEq] at hd
          subst hd
          exact flat_of_trod n f.type m _ _ (hs.2 f (List.mem_of_getElem? hi)) h1)
      simpa [flatD] using this
    · next m e ht =>
      simp only [Bool.and_eq_true] at hs
      obtain ⟨xs, q, _, rfl, hl, hxl, hf⟩ := DataW.trod_array ht h
      have hsz := Nat.eq_of_beq_eq_true hs.1
      have := flatE (S := S) (s := P.cellsOf e) (xs.map (·.1)) vs (by simp only [List.length_map]; rw [hxl]; omega) (fun i d hd => by
        rw [List.getElem?_map] at hd
        cases hx : xs[i]? with
        | none => rw [hx] at hd; cases hd
        | some y =>
          have hi : i < m := by have := (List.getElem?_eq_some_iff.1 hx).1; omega
          have h1 := hf i hi
          rw [hx] at hd h1
          simp only [Option.map_some, Option.some.injEq] at hd
          subst hd
          exact flat_of_trod n e q _ _ hs.2 h1)
      simpa [flatD] using this
    · cases hs
end
theorem intsA_of {xs : List (List AV)} (h : ∀ x ∈ xs, ∃ z, rng .i64 z ∧ x = [.int .i64 z]) : IntsA xs := fun x hx => by
  obtain ⟨z, h1, h2⟩ := h x hx
  exact ⟨z, h2, h1⟩
/-- Package variables as one list: number and cells. -/
theorem glob_cells {W : World} {g : Nat} {cs : Array Value} {az : List AV} (hc : ∀ i, W.cell? ⟨g, i, none⟩ = cs[i]?) (h : CVl (pinAll W) az noNm cs.toList) (h1 : allOne az = true) : CC (pinAll W) az g 0 := by
  refine CC.mk fun j x hx => ?_
  obtain ⟨u, hu, hcv⟩ := CVl.get h hx
  have h2 := hc j
  rw [show cs[j]? = some u by simpa using hu] at h2
  rw [Nat.zero_add]
  exact ⟨u, pinAll_some h2 (allOne_cv h h1 u (List.mem_of_getElem? hu)), hcv⟩
end Go.Proofs.YthdfkiopppkfcaaDoor
