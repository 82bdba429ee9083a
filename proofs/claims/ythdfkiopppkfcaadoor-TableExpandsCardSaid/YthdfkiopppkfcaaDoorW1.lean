/- Arguments that came in, with the bound of what a slice or a string takes. -/
import Derived.Test.YthdfkiopppkfcaaDoorVz
import Derived.SizedLaws
namespace Go.Proofs.YthdfkiopppkfcaaDoor
open Go
open Go.ChangeShapes Go.WideShapes
open Go.RowKit (Below)
set_option linter.unusedVariables false
set_option linter.unusedSimpArgs false

/-- Elements take bytes. -/
def okW (P : Program) : Nat → TypeId → Bool
  | 0, _ => false
  | n + 1, t => match P.underlying t with
    | some (.slice e) => Nat.blt 0 (P.bytesOf e) && okW P n e
    | some (.struct fs) => fs.toList.all fun f => okW P n f.type
    | some (.array m e) => okW P n e
    | _ => true
/-- The cells of a value of type t. -/
def ShB (P : Program) : Nat → TypeId → List AV → Prop
  | 0, _, _ => False
  | n + 1, t, cs => match P.underlying t with
    | some .bool => ∃ b, cs = [.bool b]
    | some (.int k) => ∃ z, rng k z ∧ cs = [.int k z]
    | some .string => ∃ s : ByteArray, s.size ≤ 140737488355328 ∧ cs = [.str s]
    | some (.slice e) => ∃ xs : List (List AV), xs.length ≤ 140737488355328 ∧ (∀ x ∈ xs, ShB P n e x) ∧ cs = [.sl (P.cellsOf e) false xs]
    | some (.struct fs) => ShF P (ShB P n) fs.toList cs
    | some (.array m e) => ShE (ShB P n e) m cs
    | _ => False
theorem weightsAll_mem {H : Type} {P : Program} {e : TypeId} : ∀ {ds : List (DataW H)} {d : DataW H} {k : Nat}, d ∈ ds → k ∈ d.weights P e → k ∈ DataW.weightsAll P e ds
  | d0 :: ds, d, k, hd, hk => by
    simp only [DataW.weightsAll, List.mem_append]
    rcases List.mem_cons.1 hd with rfl | h
    · exact .inl hk
    · exact .inr (weightsAll_mem h hk)
theorem wE_app {H : Type} {P : Program} {us : List TypeId} {gs : List (DataW H)} {k : Nat} : ∀ {ts : List TypeId} {ds : List (DataW H)}, k ∈ DataW.weightsEach P ts ds → k ∈ DataW.weightsEach P (ts ++ us) (ds ++ gs)
  | t :: ts, d :: ds, h => by
    simp only [DataW.weightsEach, List.mem_append, List.cons_append] at h ⊢
    rcases h with h | h
    · exact .inl h
    · exact .inr (wE_app h)
  | [], _, h => by simp [DataW.weightsEach] at h
  | _ :: _, [], h => by simp [DataW.weightsEach] at h
section
variable {H : Type} {enc : TypeId × Value → H} {P : Program} {w : World} {base : Nat} {held : Bool}
/-- What is read as data is abstract values of its type. -/
theorem in_of_trodB : ∀ (n : Nat) (t : TypeId) (fuel : Nat) (vs : List Value) (x : DataW H × List MemPlace), supp P n t = true → okW P n t = true → (∀ k ∈ x.1.weights P t, k ≤ reachBytes) → DataW.trod enc P w base (fun _ => true) held fuel t vs = some x →
    ∃ cs, ShB P n t cs ∧ allOne cs = true ∧ CVl (pinAll w) cs noNm vs
  | 0, t, _, _, _, hs, _, _, _ => by simp [supp] at hs
  | n + 1, t, fuel, vs, x, hs, ho, hw0, h => by
    unfold supp at hs
    unfold okW at ho
    unfold ShB
    split at hs
    · next ht =>
      rw [ht]
      obtain ⟨b, rfl, _⟩ := DataW.trod_bool ht h
      exact ⟨[.bool b], ⟨b, rfl⟩, rfl, _, _, rfl, rfl, rfl⟩
    · next k ht =>
      rw [ht]
      obtain ⟨z, rfl, _, hw⟩ := DataW.trod_int ht h
      exact ⟨[.int k z], ⟨z, rng_wf hw, rfl⟩, rfl, _, _, rfl, ⟨rfl, rng_wf hw⟩, rfl⟩
    · next ht =>
      rw [ht]
      obtain ⟨s, rfl, hx, hw⟩ := DataW.trod_string ht h
      subst hx
      have hz : s.size ≤ 140737488355328 := by
        have := hw0 s.data.toList.length (by simp [DataW.weights])
        unfold reachBytes at this
        simp at this
        omega
      exact ⟨[.str s], ⟨s, hz, rfl⟩, rfl, _, _, rfl, ⟨rfl, hw⟩, rfl⟩
    · next e ht =>
      rw [ht]
      rw [ht] at ho
      simp only [Bool.and_eq_true] at hs ho
      have hb0 : 0 < P.bytesOf e := by have := ho.1; simp [Nat.blt] at this; omega
      have hs0 : 0 < P.cellsOf e := by have := hs.1; simp [Nat.blt] at this; omega
      rcases DataW.trod_slice ht h with ⟨rfl, _⟩ | ⟨a, len, cap, elems, rest, m, _, rfl, hxx, hb, hl, hc, hlen, hel, hsp, hns⟩
      · refine ⟨[.sl (P.cellsOf e) false []], ⟨[], by simp, by simp, rfl⟩, rfl, _, _, rfl, ⟨none, 0, rfl, by simp, by simp, (fun h => by cases h), (fun _ => rfl), (fun a ha => by cases ha)⟩, rfl⟩
      · subst hxx
        have hwt : (elems.length + rest.length) * P.bytesOf e ≤ reachBytes := hw0 _ (by simp [DataW.weights, ht])
        have hel2 : elems.length ≤ 140737488355328 := by
          have h1 : (elems.length + rest.length) * 1 ≤ (elems.length + rest.length) * P.bytesOf e := Nat.mul_le_mul (Nat.le_refl _) hb0
          unfold reachBytes at hwt
          omega
        have each : ∀ i, i < len → ∃ x, (ShB P n e x) ∧ ∃ cs', w.cells? base (a.add (i * P.cellsOf e)) (P.cellsOf e) = some cs' ∧ allOne x = true ∧ CVl (pinAll w) x noNm cs' := by
          intro i hi
          have h1 := hel i hi
          have hx : elems[i]? = some (elems[i]'(by omega)) := List.getElem?_eq_getElem (by omega)
          rw [hx, Option.bind_eq_some_iff] at h1
          obtain ⟨cs', h2, h3⟩ := h1
          obtain ⟨y, k1, k2, k3⟩ := in_of_trodB n e m cs' _ hs.2 ho.2 (fun k hk => hw0 k (by
            simp only [DataW.weights, ht]
            exact List.mem_cons_of_mem _ (List.mem_append_left _ (weightsAll_mem (List.mem_map_of_mem (List.getElem_mem (by omega))) hk)))) h3
          exact ⟨y, k1, cs', h2, k2, k3⟩
        obtain ⟨xs, hx1, hx2⟩ := list_of len each
        have hmem : ∀ x ∈ xs, ShB P n e x := by
          intro x hx
          obtain ⟨i, hi⟩ := List.getElem?_of_mem hx
          exact (hx2 i x hi).1
        refine ⟨[.sl (P.cellsOf e) false xs], ⟨xs, by omega, hmem, rfl⟩, rfl, _, _, rfl, ⟨some a, cap, by rw [hx1], by omega, hc, (fun h => by cases h), (fun h => by cases h), fun a' ha => ?_⟩, rfl⟩
        cases ha
        have key : ∀ (j : Nat) (x : List AV), xs[j]? = some x → ∃ cs' : List Value, cs'.length = P.cellsOf e ∧ CVl (pinAll w) x noNm cs' ∧ allOne x = true ∧ ∀ i, i < P.cellsOf e → w.cell? ((a.add (j * P.cellsOf e)).add i) = cs'[i]? := by
          intro j x hj
          obtain ⟨_, cs', h2, h3, h4⟩ := hx2 j x hj
          obtain ⟨_, q1, q2⟩ := World.cells?_some h2
          exact ⟨cs', q1, h4, h3, q2⟩
        have spot : cap ≠ 0 → a.spot = none := by
          intro h0
          have h1 : ∃ cs', w.cells? base (a.add (0 * P.cellsOf e)) (P.cellsOf e) = some cs' := by
            rcases Nat.eq_zero_or_pos len with hl0 | hl0
            · obtain ⟨hr, hr2⟩ := hsp rfl
              have h1 := hr2 0 (by omega)
              have hx : rest[0]? = some (rest[0]'(by omega)) := List.getElem?_eq_getElem (by omega)
              rw [hx, Option.bind_eq_some_iff] at h1
              obtain ⟨cs', h2, _⟩ := h1
              exact ⟨cs', by rw [← h2, hl0]⟩
            · have h1 := hel 0 hl0
              have hx : elems[0]? = some (elems[0]'(by omega)) := List.getElem?_eq_getElem (by omega)
              rw [hx, Option.bind_eq_some_iff] at h1
              obtain ⟨cs', h2, _⟩ := h1
              exact ⟨cs', h2⟩
          obtain ⟨cs', h2⟩ := h1
          obtain ⟨_, q1, q2⟩ := World.cells?_some h2
          have h3 := q2 0 hs0
          rw [List.getElem?_eq_getElem (by omega)] at h3
          have h4 := World.cell?_spot h3
          simpa [Addr.add] using h4
        refine ⟨spot, CE.mk fun j x hj => ?_⟩
        obtain ⟨cs', k1, k2, k3, k4⟩ := key j x hj
        have hxl : x.length = P.cellsOf e := by rw [← k1]; exact (CVl.len k2).symm
        refine ⟨hxl, CC.mk fun i y hy => ?_⟩
        obtain ⟨u, hu, hcv⟩ := CVl.get k2 hy
        have hi : i < P.cellsOf e := by have := (List.getElem?_eq_some_iff.1 hy).1; omega
        have hj' : j < len := by have := (List.getElem?_eq_some_iff.1 hj).1; omega
        have hsp := spot (by omega)
        obtain ⟨b, o, sp⟩ := a
        simp only at hsp
        subst hsp
        have h5 := k4 i hi
        rw [add_none, add_none, hu] at h5
        exact ⟨u, pinAll_some h5 (allOne_cv k2 k3 u (List.mem_of_getElem? hu)), hcv⟩
    · next fs ht =>
      rw [ht]
      rw [ht] at ho
      simp only [Bool.and_eq_true, List.all_eq_true] at hs ho
      obtain ⟨xs, m, _, hxx, hl, hxl, hf⟩ := DataW.trod_struct ht h
      obtain ⟨cs, k1, k2, k3⟩ := shF_of (S := pinAll w) (sh := ShB P n) (vs := vs) fs.toList 0 _ hs.1 hl (fun f hfm => by
        obtain ⟨i, hi⟩ := List.getElem?_of_mem hfm
        have h1 := hf i f (by simpa using hi)
        have hi' : i < fs.size := by have := (List.getElem?_eq_some_iff.1 hi).1; simpa using this
        rw [List.getElem?_eq_getElem (by omega : i < xs.length)] at h1
        exact in_of_trodB n f.type m _ _ (hs.2 f hfm) (ho f hfm) (fun k hk => hw0 k (by
          rw [hxx]
          simp only [DataW.weights, ht]
          exact DataW.weights_mem_each (j := i) (t := f.type) (d := xs[i].1) (by rw [List.getElem?_map, hi]; rfl) (by rw [List.getElem?_map, List.getElem?_eq_getElem (by omega)]; rfl) k hk)) h1)
      exact ⟨cs, k1, k2, by simpa using k3⟩
    · next m e ht =>
      rw [ht]
      rw [ht] at ho
      simp only [Bool.and_eq_true] at hs ho
      obtain ⟨xs, q, _, hxx, hl, hxl, hf⟩ := DataW.trod_array ht h
      have hsz := Nat.eq_of_beq_eq_true hs.1
      exact shE_of (S := pinAll w) (sh := ShB P n e) (s := P.cellsOf e) m vs (by omega) (fun i hi => by
        have h1 := hf i hi
        rw [List.getElem?_eq_getElem (by omega : i < xs.length)] at h1
        exact in_of_trodB n e q _ _ hs.2 ho (fun k hk => hw0 k (by
          rw [hxx]
          simp only [DataW.weights, ht]
          exact weightsAll_mem (List.mem_map_of_mem (List.getElem_mem (by omega))) hk)) h1)
    · cases hs

def ShAllB (P : Program) : List TypeId → (List AV → Prop) → Prop
  | [], K => K []
  | t :: ts, K => ∀ cs, ShB P 50 t cs → ShAllB P ts fun xs => K (mkA P t cs :: xs)
theorem in_oneB {r : Reach} {b0 n : Nat} {t : TypeId} {v : Value} {fuel : Nat} {x : DataW H × List MemPlace} (hs : supp P n t = true) (ho : okW P n t = true) (hw0 : ∀ k ∈ x.1.weights P t, k ≤ reachBytes) (hv : Value.okWide P w r b0 t v) (h : DataW.trod enc P w base (fun _ => true) held fuel t v.cells.toList = some x) :
    ∃ cs, ShB P n t cs ∧ CV (pinAll w) (mkA P t cs) noNm v := by
  obtain ⟨cs, h1, h2, h3⟩ := in_of_trodB n t fuel _ x hs ho hw0 h
  refine ⟨cs, h1, ?_⟩
  have one : isAg P t = false → v.cells = #[v] → CV (pinAll w) (mkA P t cs) noNm v := by
    intro ha hc
    rw [hc] at h3
    unfold mkA
    rw [ha]
    match cs, h3 with
    | [y], h3 =>
      simp only [CVl] at h3
      obtain ⟨u, us, e, hy, hn⟩ := h3
      simp at e
      rw [e.1]; exact hy
    | [], h3 => simp [CVl] at h3
    | _ :: _ :: _, h3 =>
      simp [CVl] at h3
      obtain ⟨u, us, ⟨_, e⟩, _, u', us', e', _⟩ := h3
      rw [e] at e'; cases e'
  have agg : isAg P t = true → ∀ us, v = .agg us → CV (pinAll w) (mkA P t cs) noNm v := by
    intro ha us e
    subst e
    unfold mkA
    rw [ha]
    exact ⟨us, rfl, h3⟩
  unfold Value.okWide at hv
  cases n with
  | zero => simp [supp] at hs
  | succ n =>
    unfold supp at hs
    split at hs
    · next ht =>
      rw [ht] at hv
      simp only [Cell.okWide, Cell.ok, ht] at hv
      refine one (by unfold isAg; rw [ht]) ?_
      split at hv <;> first | rfl | (split at hv <;> first | rfl | cases hv) | cases hv
    · next k ht =>
      rw [ht] at hv
      simp only [Cell.okWide, Cell.ok, ht] at hv
      refine one (by unfold isAg; rw [ht]) ?_
      split at hv <;> first | rfl | (split at hv <;> first | rfl | cases hv) | cases hv
    · next ht =>
      rw [ht] at hv
      simp only [Cell.okWide, Cell.ok, ht] at hv
      refine one (by unfold isAg; rw [ht]) ?_
      split at hv <;> first | rfl | (split at hv <;> first | rfl | cases hv) | cases hv
    · next e ht =>
      rw [ht] at hv
      simp only [Cell.okWide, Cell.ok, ht] at hv
      refine one (by unfold isAg; rw [ht]) ?_
      split at hv <;> first | rfl | (split at hv <;> first | rfl | cases hv) | cases hv
    · next fs ht =>
      rw [ht] at hv
      obtain ⟨us, e, _⟩ := hv
      exact agg (by unfold isAg; rw [ht]) us e
    · next m e ht =>
      rw [ht] at hv
      obtain ⟨us, e, _⟩ := hv
      exact agg (by unfold isAg; rw [ht]) us e
    · cases hs
theorem in_allB {r : Reach} {b0 : Nat} : ∀ (ts : List TypeId) (vs : List Value) (ds : List (DataW H)) (ps : List MemPlace) (K : List AV → Prop), (ts.all fun t => supp P 50 t && okW P 50 t) = true → (∀ k ∈ DataW.weightsEach P ts ds, k ≤ reachBytes) → DataW.TrodAll enc P w base (fun _ => true) held ts vs ds ps →
    (∀ (j : Nat) t v, ts[j]? = some t → vs[j]? = some v → Value.okWide P w r b0 t v) → ShAllB P ts K → ∃ xs, K xs ∧ CVl (pinAll w) xs noNm vs
  | [], [], [], ps, K, _, _, h, _, hK => ⟨[], hK, by simp only [CVl]⟩
  | t :: ts, v :: vs, d :: ds, ps, K, hs, hw0, h, hv, hK => by
    simp only [List.all_cons, Bool.and_eq_true] at hs
    obtain ⟨p, q, ⟨fuel, h1⟩, h2, _⟩ := h
    obtain ⟨cs, k1, k2⟩ := in_oneB hs.1.1 hs.1.2 (fun k hk => hw0 k (by simp only [DataW.weightsEach]; exact List.mem_append_left _ hk)) (hv 0 t v rfl rfl) h1
    obtain ⟨xs, q1, q2⟩ := in_allB ts vs ds q (fun xs => K (mkA P t cs :: xs)) hs.2 (fun k hk => hw0 k (by simp only [DataW.weightsEach]; exact List.mem_append_right _ hk)) h2 (fun j t v ht hv' => hv (j + 1) t v (by simpa using ht) (by simpa using hv')) (hK cs k1)
    exact ⟨_, q1, by simp only [CVl]; exact ⟨v, vs, rfl, k2, q2⟩⟩
  | [], v :: vs, ds, ps, K, _, _, h, _, _ => by cases ds <;> simp [DataW.TrodAll] at h
  | [], [], d :: ds, ps, K, _, _, h, _, _ => by simp [DataW.TrodAll] at h
  | t :: ts, [], ds, ps, K, _, _, h, _, _ => by cases ds <;> simp [DataW.TrodAll] at h
  | t :: ts, v :: vs, [], ps, K, _, _, h, _, _ => by simp [DataW.TrodAll] at h
/-- From the contract of a law to its call. -/
theorem law_callsB {gl : Glob} {f : FuncId} {r : Reach} {b0 : Nat} {ts : List TypeId} {args : Array Value} {ds : List (DataW H)} {ps : List MemPlace} (hs : (ts.all fun t => supp P 50 t && okW P 50 t) = true) (hw0 : ∀ k ∈ DataW.weightsEach P ts ds, k ≤ reachBytes) (hg : GOKg gl (pinAll w))
    (h : ShAllB P ts fun xs => PureC P gl f xs (.bool true)) (hA : DataW.TrodAll enc P w base (fun _ => true) held ts args.toList ds ps)
    (hv : ∀ (j : Nat) t v, ts[j]? = some t → args.toList[j]? = some v → Value.okWide P w r b0 t v) :
    Calls P f args w fun e w' => e = .returned (.bool true) ∧ Below w.heap.size w w' := by
  obtain ⟨xs, h1, h2⟩ := in_allB ts _ ds ps _ hs hw0 hA hv h
  refine (h1 w (pinAll w) args hg (agree_all w) h2).mono fun e w' h => ?_
  obtain ⟨u, S', h3, h4, _, _, _, h5⟩ := h
  simp only [CV] at h5
  exact ⟨by rw [h3, h5], h4⟩
end
end Go.Proofs.YthdfkiopppkfcaaDoor
