/- A call that was handed own blocks: what becomes of the caller's state. -/
import Derived.Test.YthdfkiopppkfcaaDoorVu
namespace Go.Proofs.YthdfkiopppkfcaaDoor
open Go
open Go.RowKit (Below)
set_option linter.unusedVariables false
set_option linter.unusedSimpArgs false

def zipB : List Nat → List Blk → List (Nat × Blk)
  | k :: ks, b :: bs => (k, b) :: zipB ks bs
  | _, _ => []
theorem zipB_not : ∀ (l : List Nat) (cs : List Blk) (st : St) (k : Nat), k ∉ l → lk (st.blks (zipB l cs)).heap k = lk st.heap k
  | [], cs, st, k, _ => by cases cs <;> rfl
  | j :: l, [], st, k, _ => rfl
  | j :: l, b :: cs, st, k, h => by
    simp only [List.mem_cons, not_or] at h
    simp only [zipB, St.blks]
    rw [zipB_not l cs _ k h.2]
    simp only [St.blk, lk_ins]
    rw [if_neg h.1]
theorem zipB_get : ∀ (l : List Nat) (cs : List Blk) (st : St) (q k : Nat) (b : Blk), l.Nodup → l[q]? = some k → cs[q]? = some b → lk (st.blks (zipB l cs)).heap k = some b
  | [], cs, st, q, k, b, _, e, _ => by simp at e
  | j :: l, [], st, q, k, b, _, _, e => by simp at e
  | j :: l, c :: cs, st, q, k, b, hn, e1, e2 => by
    rw [List.nodup_cons] at hn
    simp only [zipB, St.blks]
    cases q with
    | zero =>
      simp at e1 e2
      subst e1; subst e2
      rw [zipB_not l cs _ j hn.1]
      simp only [St.blk, lk_ins, if_true]
    | succ q =>
      simp at e1 e2
      exact zipB_get l cs _ q k b hn.2 e1 e2
theorem zipB_names : ∀ (l : List Nat) (cs : List Blk) (p : Nat × Blk), p ∈ zipB l cs → p.1 ∈ l
  | [], cs, p, h => by cases cs <;> simp [zipB] at h
  | j :: l, [], p, h => by simp [zipB] at h
  | j :: l, c :: cs, p, h => by
    simp only [zipB, List.mem_cons] at h
    rcases h with rfl | h
    · simp
    · exact List.mem_cons_of_mem _ (zipB_names l cs p h)
theorem blks_get : ∀ (u : List (Nat × Blk)) (st : St) (t : Nat), (st.blks u).get t = st.get t
  | [], st, t => rfl
  | (i, b) :: u, st, t => by simp only [St.blks]; rw [blks_get u]; rfl

theorem Rel.callH {G : Gh} {kp : List Nat} {st : St} {a : Act} {w : World} {S : Pin} {m : Nm} (h : Rel G kp st a w S m) {ks nw : List Nat} {cs : List Blk} (hnd : (ks ++ nw).Nodup)
    (hks : ∀ k, k ∈ ks → ∃ b, lk st.heap k = some b) (hfr : ∀ k, k ∈ nw → fresh kp st k = true) (hlen : cs.length = (ks ++ nw).length) {w' : World} {S' : Pin} {m' : Nm}
    (hos : w'.os = w.os) (htp : w'.tape = w.tape) (hou : w'.output = w.output) (hsz : w.heap.size ≤ w'.heap.size) (hS : Ext S S')
    (hfm : ∀ b, b < w.heap.size → (¬ ∃ k u, k ∈ ks ∧ m k = some u ∧ bk u = some b) → w'.heap[b]? = w.heap[b]? ∧ ∀ o, S' b o = S b o) (hA : Agree S' w')
    (hheld : ∀ (q k : Nat) (b : Blk), (ks ++ nw)[q]? = some k → cs[q]? = some b → Held S' m' w' k b)
    (hold : ∀ k, k ∉ ks → k ∉ nw → m' k = m k) (hmle : ∀ k, k ∈ ks → ∀ u, m k = some u → ∃ u', m' k = some u' ∧ Goes u u')
    (hinj : ∀ k k' u u' g, k ∈ ks ++ nw → k' ∈ ks ++ nw → k ≠ k' → m' k = some u → m' k' = some u' → bk u = some g → bk u' ≠ some g)
    (hown : ∀ k u g, k ∈ ks ++ nw → m' k = some u → bk u = some g → w.heap.size ≤ g ∨ ∃ j v, j ∈ ks ∧ m j = some v ∧ bk v = some g) :
    Rel G kp (st.blks (zipB (ks ++ nw) cs)) a w' S' m' := by
  have hin : ∀ k, k ∈ ks ++ nw → ∃ (q : Nat) (b : Blk), (ks ++ nw)[q]? = some k ∧ cs[q]? = some b ∧ lk (st.blks (zipB (ks ++ nw) cs)).heap k = some b := by
    intro k hk
    obtain ⟨q, hq⟩ := List.getElem?_of_mem hk
    have hl : q < cs.length := by rw [hlen]; exact (List.getElem?_eq_some_iff.1 hq).1
    exact ⟨q, cs[q], hq, by simp [hl], zipB_get _ _ _ q k _ hnd hq (by simp [hl])⟩
  have hgoes : ∀ k, (k ∈ nw → False) → ∀ u, m k = some u → ∃ u', m' k = some u' ∧ Goes u u' := by
    intro k hk u hu
    by_cases e : k ∈ ks
    · exact hmle k e u hu
    · exact ⟨u, by rw [hold k e hk]; exact hu, .refl u⟩
  have hM : ∀ b, (∃ k u, k ∈ ks ∧ m k = some u ∧ bk u = some b) → G.w0.heap.size ≤ b ∨ G.M b := by
    rintro b ⟨k, u, hk, hu, hb⟩
    obtain ⟨c, hc⟩ := hks k hk
    exact h.own k c u b hc hu hb
  refine { h with defers := h.defers, pin0 := h.pin0.trans hS, pinNew := ?_, agree := hA, tmps := ?_, held := ?_, inj := ?_, own := ?_, os := hos.trans h.os, tape := htp.trans h.tape, output := hou.trans h.output, size := Nat.le_trans h.size hsz, frame := ?_, m0 := ?_ }
  · intro b o h1 h2
    have hn : ¬ ∃ k u, k ∈ ks ∧ m k = some u ∧ bk u = some b := fun q => by
      rcases hM b q with h3 | h3
      · omega
      · exact h2 h3
    exact ((hfm b (Nat.lt_of_lt_of_le h1 h.size) hn).2 o).trans (h.pinNew b o h1 h2)
  · intro t
    rw [blks_get]
    refine CV.mono hS _ m m' _ (fun k u hk hu => hgoes k (fun hq => ?_) u hu) (h.tmps t)
    have := fresh_get (hfr k hq) t
    rw [hk] at this; cases this
  · intro k b hk
    by_cases e : k ∈ ks ++ nw
    · obtain ⟨q, c, h1, h2, h3⟩ := hin k e
      rw [hk] at h3
      injection h3 with h3
      subst h3
      exact hheld q k b h1 h2
    · rw [zipB_not _ _ _ _ e] at hk
      simp only [List.mem_append, not_or] at e
      refine (h.held k b hk).keep hS (fun ds vs hb hv => ?_) (hold k e.1 e.2) (fun u g hu hg => ?_)
      · refine CVl.mono hS ds m m' vs (fun j u hj hu => hgoes j (fun hq => ?_) u hu) hv
        have hf := hfr j hq
        simp only [fresh, Bool.and_eq_true] at hf
        have := nnB_in (nnH_get hf.1.2 hk (fun q => e.2 (q ▸ hq))) hb
        rw [hj] at this; cases this
      · refine hfm g ((h.held k b hk).lt hu hg) ?_
        rintro ⟨j, v, hj, hv, hb⟩
        obtain ⟨c, hc⟩ := hks j hj
        exact h.inj j k c b v u g hc hk (fun q => e.1 (q ▸ hj)) hv hu hb hg
  · intro k k' b b' u u' g hk hk' hne hu hu' hg hg'
    by_cases e : k ∈ ks ++ nw
    · by_cases e' : k' ∈ ks ++ nw
      · exact hinj k k' u u' g e e' hne hu hu' hg hg'
      · rw [zipB_not _ _ _ _ e'] at hk'
        simp only [List.mem_append, not_or] at e'
        rw [hold k' e'.1 e'.2] at hu'
        rcases hown k u g e hu hg with h1 | ⟨j, v, hj, hv, hb⟩
        · have := (h.held k' b' hk').lt hu' hg'; omega
        · obtain ⟨c, hc⟩ := hks j hj
          exact h.inj j k' c b' v u' g hc hk' (fun q => e'.1 (q ▸ hj)) hv hu' hb hg'
    · rw [zipB_not _ _ _ _ e] at hk
      simp only [List.mem_append, not_or] at e
      rw [hold k e.1 e.2] at hu
      by_cases e' : k' ∈ ks ++ nw
      · rcases hown k' u' g e' hu' hg' with h1 | ⟨j, v, hj, hv, hb⟩
        · have := (h.held k b hk).lt hu hg; omega
        · obtain ⟨c, hc⟩ := hks j hj
          exact h.inj j k c b v u g hc hk (fun q => e.1 (q ▸ hj)) hv hu hb hg
      · rw [zipB_not _ _ _ _ e'] at hk'
        simp only [List.mem_append, not_or] at e'
        rw [hold k' e'.1 e'.2] at hu'
        exact h.inj k k' b b' u u' g hk hk' hne hu hu' hg hg'
  · intro k b u g hk hu hg
    by_cases e : k ∈ ks ++ nw
    · rcases hown k u g e hu hg with h1 | h1
      · exact .inl (Nat.le_trans h.size h1)
      · exact hM g h1
    · rw [zipB_not _ _ _ _ e] at hk
      simp only [List.mem_append, not_or] at e
      rw [hold k e.1 e.2] at hu
      exact h.own k b u g hk hu hg
  · intro b h1 h2
    have hn : ¬ ∃ k u, k ∈ ks ∧ m k = some u ∧ bk u = some b := fun q => by
      rcases hM b q with h3 | h3
      · omega
      · exact h2 h3
    exact ((hfm b (Nat.lt_of_lt_of_le h1 h.size) hn).1).trans (h.frame b h1 h2)
  · intro k u hu
    obtain ⟨v, hv, hg⟩ := h.m0 k u hu
    obtain ⟨v', hv', hg'⟩ := hgoes k (fun hq => by
      have hf := hfr k hq
      simp only [fresh, Bool.and_eq_true, Bool.not_eq_true'] at hf
      exact inL_mem hf.2 (h.keep k u hu)) v hv
    exact ⟨v', hv', hg.trans hg'⟩
end Go.Proofs.YthdfkiopppkfcaaDoor
