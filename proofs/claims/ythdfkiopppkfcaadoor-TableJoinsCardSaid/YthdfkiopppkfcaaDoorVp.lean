/- A function that is handed own blocks: its contract out of what its code comes to. -/
import Derived.Test.YthdfkiopppkfcaaDoorVo
namespace Go.Proofs.YthdfkiopppkfcaaDoor
open Go
open Go.RowKit (Below)
set_option linter.unusedVariables false
set_option linter.unusedSimpArgs false

def names0 (i : Nat) : Nat → List Nat
  | 0 => []
  | n + 1 => i :: names0 (Nat.succ i) n
theorem names0_get : ∀ (n i q : Nat), q < n → (names0 i n)[q]? = some (i + q)
  | 0, i, q, h => by omega
  | n + 1, i, 0, h => by simp [names0]
  | n + 1, i, q + 1, h => by
    simp only [names0, List.getElem?_cons_succ]
    rw [names0_get n _ q (by omega)]
    congr 1; simp only [Nat.succ_eq_add_one]; omega
theorem names0_len : ∀ (n i : Nat), (names0 i n).length = n
  | 0, i => rfl
  | n + 1, i => by simp [names0, names0_len n]
theorem names0_mem {k : Nat} : ∀ {n i : Nat}, k ∈ names0 i n → i ≤ k
  | 0, i, h => by simp [names0] at h
  | n + 1, i, h => by
    simp only [names0, List.mem_cons] at h
    rcases h with rfl | h
    · exact Nat.le_refl _
    · have := names0_mem h; simp only [Nat.succ_eq_add_one] at this; omega
theorem names0_nodup : ∀ (n i : Nat), (names0 i n).Nodup
  | 0, i => by simp [names0]
  | n + 1, i => by
    simp only [names0, List.nodup_cons]
    exact ⟨fun h => by have := names0_mem h; simp only [Nat.succ_eq_add_one] at this; omega, names0_nodup n _⟩
def beqNs : List Nat → List Nat → Bool
  | [], [] => true
  | a :: l, b :: l' => Nat.beq a b && beqNs l l'
  | _, _ => false
theorem beqNs_eq : ∀ {l l' : List Nat}, beqNs l l' = true → l = l'
  | [], [], _ => rfl
  | a :: l, b :: l', h => by
    simp only [beqNs, Bool.and_eq_true] at h
    rw [Nat.eq_of_beq_eq_true h.1, beqNs_eq h.2]
  | [], _ :: _, h => by simp [beqNs] at h
  | _ :: _, [], h => by simp [beqNs] at h
theorem dedup_pre : ∀ (l acc : List Nat), ∃ t, dedup l acc = acc ++ t
  | [], acc => ⟨[], by simp [dedup]⟩
  | k :: l, acc => by
    simp only [dedup]
    cases inL k acc with
    | true => exact dedup_pre l acc
    | false =>
      obtain ⟨t, ht⟩ := dedup_pre l (acc ++ [k])
      exact ⟨k :: t, by simp only [cond_false, ht]; simp⟩
theorem foot_pre (h : Nat → Option Blk) : ∀ (n : Nat) (ks : List Nat), ∃ t, foot h n ks = ks ++ t
  | 0, ks => ⟨[], by simp [foot]⟩
  | n + 1, ks => by
    have key : ∀ l, ∃ t, foot h n (dedup l ks) = ks ++ t := fun l => by
      obtain ⟨t, ht⟩ := dedup_pre l ks
      obtain ⟨t', ht'⟩ := foot_pre h n (dedup l ks)
      exact ⟨t ++ t', by rw [ht', ht]; simp⟩
    exact key _
def blkSlots : List Blk → Nat → List (Nat × Blk)
  | [], _ => []
  | b :: l, i => (i, b) :: blkSlots l (Nat.succ i)
theorem blkSlots_lk : ∀ (bs : List Blk) (i k : Nat), lk (blkSlots bs i) k = if i ≤ k then bs[k - i]? else none
  | [], i, k => by simp [blkSlots, lk]
  | b :: l, i, k => by
    simp only [blkSlots, lk]
    rw [blkSlots_lk l _ k]
    by_cases h : i = k
    · subst h; rw [nbeq_self]; simp
    · rw [nbeq_ne h]
      simp only [cond_false, Nat.succ_eq_add_one]
      by_cases h1 : i ≤ k
      · rw [if_pos (by omega), if_pos h1, show k - i = (k - (i + 1)) + 1 by omega]; simp
      · rw [if_neg (by omega), if_neg h1]
def givenB : List Blk → Prop → Prop
  | [], k => k
  | .cells cs :: l, k => given cs (givenB l k)
  | _ :: l, k => givenB l k
theorem givenB_use : ∀ {bs : List Blk} {k : Prop}, givenB bs k → (∀ cs, Blk.cells cs ∈ bs → wfL cs) → k
  | [], k, h, _ => h
  | .cells cs :: l, k, h, hw => by
    simp only [givenB] at h
    exact givenB_use (given_use h (hw cs (by simp))) (fun cs hc => hw cs (by simp [hc]))
  | .row _ _ _ :: l, k, h, hw => by
    simp only [givenB] at h
    exact givenB_use h (fun cs hc => hw cs (by simp [hc]))
  | .tok _ _ _ :: l, k, h, hw => by
    simp only [givenB] at h
    exact givenB_use h (fun cs hc => hw cs (by simp [hc]))
  | .gone :: l, k, h, hw => by
    simp only [givenB] at h
    exact givenB_use h (fun cs hc => hw cs (by simp [hc]))
  | .mp _ _ _ :: l, k, h, hw => by
    simp only [givenB] at h
    exact givenB_use h (fun cs hc => hw cs (by simp [hc]))
def leBs : List Blk → List Blk → Prop
  | [], [] => True
  | b :: l, c :: l' => leB (some b) c ∧ leBs l l'
  | _, _ => False
theorem leBs_get : ∀ {l l' : List Blk} {q : Nat} {c : Blk}, leBs l l' → l'[q]? = some c → ∃ b, l[q]? = some b ∧ leB (some b) c
  | [], [], q, c, _, e => by simp at e
  | b :: l, d :: l', q, c, h, e => by
    simp only [leBs] at h
    cases q with
    | zero => simp at e; subst e; exact ⟨b, rfl, h.1⟩
    | succ q => simp at e; obtain ⟨b', h1, h2⟩ := leBs_get h.2 e; exact ⟨b', by simpa using h1, h2⟩
  | [], _ :: _, _, _, h, _ => by simp [leBs] at h
  | _ :: _, [], _, _, h, _ => by simp [leBs] at h
theorem leBs_len : ∀ {l l' : List Blk}, leBs l l' → l.length = l'.length
  | [], [], _ => rfl
  | b :: l, d :: l', h => by simp only [leBs] at h; simp [leBs_len h.2]
  | [], _ :: _, h => by simp [leBs] at h
  | _ :: _, [], h => by simp [leBs] at h
def endH (kp : List Nat) (r : AV) (bs' : List Blk) (st : St) (x : AV) : Prop :=
  (fun ks => rnA (fun k => idx k ks 0) x fun y => blksOf (lk st.heap) ks fun bs => rnBs (fun k => idx k ks 0) bs fun cs => le y r ∧ leBs cs bs') (foot (lk st.heap) 3 (dedup (nmsA x) kp))
/-- Slots that hold nil at the end: own rows of no elements. -/
def empZ (kp : List Nat) : List (Nat × Nat × Nat × Nat) → St → (St → Prop) → Prop
  | [], st, K => K st
  | p :: l, st, K => cond (Nat.blt p.1 1000000 && isNils (st.get p.1)) (empN kp [p] st fun st => empZ kp l st K) (empZ kp l st K)
theorem empZ_sound {G : Gh} {kp : List Nat} {a : Act} {w : World} : ∀ (l : List (Nat × Nat × Nat × Nat)) (st : St) (S : Pin) (m : Nm) (K : St → Prop), empZ kp l st K → Rel G kp st a w S m → ∃ st' S' m', K st' ∧ Rel G kp st' a w S' m'
  | [], st, S, m, K, H, h => ⟨st, S, m, H, h⟩
  | p :: l, st, S, m, K, H, h => by
    simp only [empZ] at H
    cases hb : (Nat.blt p.1 1000000 && isNils (st.get p.1)) with
    | true =>
      rw [hb] at H
      simp only [cond_true] at H
      obtain ⟨s1, S1, m1, h1, h2⟩ := empN_sound _ _ S m _ H h
      exact empZ_sound l s1 S1 m1 K h1 h2
    | false =>
      rw [hb] at H
      exact empZ_sound l st S m K H h
/-- A function whose arguments are what is xs and whose handed blocks are bs, and that answers what is r and leaves bs'. -/
@[irreducible] def fnH (P : Program) (E : Env) (C : Cx) (inv : Nat → St → Option LInv) (fuel : Nat) (fn : Func) (xs : List AV) (bs : List Blk) (r : AV) (bs' : List Blk) : Prop :=
  match fn.body with
  | some c => cond (Nat.beq C.nt fn.ntmps && Nat.ble xs.length fn.ntmps && beqNs C.kp (names0 0 bs.length))
      (given xs (givenB bs (acode P E C inv fuel c ⟨slots xs 0, blkSlots bs 0⟩ (fun st => empZ C.kp (C.emp 900001) st fun st => resF2 P E C st fn.results.toList (endH C.kp r bs')) (fun _ _ => False) (fun st => empZ C.kp (C.emp 900001) st fun st => resF2 P E C st fn.results.toList (endH C.kp r bs'))))) False
  | none => False
theorem fnH_sound {P : Program} {E : Env} {C : Cx} {inv : Nat → St → Option LInv} {fuel : Nat} (hT : TyOK P C.tys) (hS : SpecOK P E) (hM : P.follows .mixedOrders = true) {f : FuncId} {fn : Func} (hf : P.funcs[f]? = some fn) {xs : List AV} {bs : List Blk} {r : AV} {bs' : List Blk}
    (h : fnH P E C inv fuel fn xs bs r bs') : HC P E.glob f xs bs r bs' := by
  intro w S m vs hG hA hnm hheld hinj hv
  unfold fnH at h
  split at h
  · rename_i c hc
    obtain ⟨hb, h⟩ := cond_F h
    simp only [Bool.and_eq_true] at hb
    have hnt := Nat.eq_of_beq_eq_true hb.1.1
    have hle := Nat.le_of_ble_eq_true hb.1.2
    have hkp := beqNs_eq hb.2
    have h := givenB_use (given_use h (wfL_cv _ _ _ hv)) (fun cs hcs => by
      obtain ⟨q, hq⟩ := List.getElem?_of_mem hcs
      obtain ⟨g, arr, t, _, _, h3, _⟩ := hheld q _ hq
      exact wfL_cv _ _ _ h3)
    have hlen := hv.len
    simp only [Array.length_toList] at hlen
    let G : Gh := ⟨w, S, m, Mof bs.length m⟩
    have hbl : ∀ k b, lk (blkSlots bs 0) k = some b → bs[k]? = some b := by
      intro k b e
      rw [blkSlots_lk] at e
      simpa using e
    have hbl2 : ∀ (k : Nat) (b : Blk), bs[k]? = some b → k < bs.length := fun k b e => (List.getElem?_eq_some_iff.1 e).1
    have hR0 : Rel G C.kp ⟨slots xs 0, blkSlots bs 0⟩ { tmps := vs ++ Array.replicate (fn.ntmps - vs.size) undef, defers := [] } w S m :=
      { defers := rfl
        pin0 := Ext.refl S
        pinNew := fun _ _ _ _ => rfl
        agree := hA
        tmps := fun t => by
          unfold St.get
          rw [slots_lk]
          simp only [Nat.zero_le, if_true, Nat.sub_zero]
          cases e : xs[t]? with
          | none => simp only [CV]
          | some x =>
            obtain ⟨v, hv1, hv2⟩ := hv.get e
            have hlt : t < vs.size := by have := (List.getElem?_eq_some_iff.1 hv1).1; simpa using this
            have : vs[t]? = some v := by simpa using hv1
            simp only [Array.getD_eq_getD_getElem?, Array.getElem?_append_left hlt, this, Option.getD_some]
            exact hv2
        held := fun k b hk => hheld k b (hbl k b hk)
        inj := fun k k' b b' u u' g hk hk' hne hu hu' hg => hinj k k' u u' g (hbl2 k b (hbl k b hk)) (hbl2 k' b' (hbl k' b' hk')) hne hu hu' hg
        own := fun k b u g hk hu hg => .inr ⟨k, u, hbl2 k b (hbl k b hk), hu, hg⟩
        os := rfl
        tape := rfl
        output := rfl
        size := Nat.le_refl _
        frame := fun _ _ _ => rfl
        m0 := MLe.refl _
        keep := fun k u e => by
          have hlt := hnm k u e
          rw [hkp]
          exact List.mem_of_getElem? (by rw [names0_get _ 0 k hlt, Nat.zero_add]) }
    refine calls_of_wp hf hc (Go.wp_mono (acode_sound (G := G) hT hS hM hG c _ _ _ _ h _ w S m hR0 ?_) ?_)
    · simp; omega
    · have fin : ∀ st a w' S' m', empZ C.kp (C.emp 900001) st (fun st => resF2 P E C st fn.results.toList (endH C.kp r bs')) → Rel G C.kp st a w' S' m' → a.defers = [] ∧ ∃ v, (results fn a.tmps).run P w' = .ok v w' ∧
          ∃ u S' m', Ending.returned v = .returned u ∧ w'.os = w.os ∧ w'.tape = w.tape ∧ w'.output = w.output ∧ w.heap.size ≤ w'.heap.size ∧ Ext S S' ∧
      (∀ b, b < w.heap.size → ¬ Mof bs.length m b → w'.heap[b]? = w.heap[b]? ∧ ∀ o, S' b o = S b o) ∧ Agree S' w' ∧
      (∀ (q : Nat) (b : Blk), bs'[q]? = some b → Held S' m' w' q b) ∧ InjB bs'.length m' ∧ (∀ q u g, q < bs'.length → m' q = some u → bk u = some g → w.heap.size ≤ g ∨ Mof bs.length m g) ∧ MLe m m' ∧ CV S' r m' u := by
        intro st0 a w' S0 m0 hk0 hR0
        obtain ⟨st1, S1, m1, hk1, hR1⟩ := empZ_sound _ _ S0 m0 _ hk0 hR0
        obtain ⟨st, S', m', hk, hR⟩ := frzN_sound _ _ S1 m1 _ hk1 hR1
        obtain ⟨x, v, h1, h2, h3⟩ := resK_sound hR hk
        unfold endH at h1
        generalize hks : foot (lk st.heap) 3 (dedup (nmsA x) C.kp) = ks at h1
        have hknd : ks.Nodup := by rw [← hks]; exact foot_nodup _ _ _ (dedup_nodup _ _ (by rw [hkp]; exact names0_nodup _ _))
        have hpre : ∀ q, q < bs.length → ks[q]? = some q := by
          intro q hq
          obtain ⟨t, ht⟩ := dedup_pre (nmsA x) C.kp
          obtain ⟨t', ht'⟩ := foot_pre (lk st.heap) 3 (dedup (nmsA x) C.kp)
          rw [← hks, ht', ht, hkp, List.append_assoc, List.getElem?_append_left (by rw [names0_len]; exact hq), names0_get _ _ _ hq, Nat.zero_add]
        obtain ⟨y, h4, hy⟩ := rnA_sound _ _ h1
        obtain ⟨cs, h5, hcl, hcs⟩ := blksOf_sound _ _ h4
        obtain ⟨ds, h6, hdl, hds⟩ := rnBs_sound _ _ h5
        obtain ⟨h7, h8⟩ := h6
        let m2 : Nm := fun q => (ks[q]?).bind m'
        have hRn : Rn (fun k => idx k ks 0) m' m2 := by
          intro i j hij
          have := (idx_get hij).2
          simp only [Nat.sub_zero] at this
          simp only [m2, this, Option.bind_some]
        have hm2 : ∀ q k, ks[q]? = some k → m2 q = m' k := fun q k e => by simp only [m2, e, Option.bind_some]
        have hlen' : bs'.length = ks.length := by rw [← leBs_len h8, hdl, hcl]
        have hkb : ∀ (q k : Nat), ks[q]? = some k → ∃ b, lk st.heap k = some b := fun q k e => by obtain ⟨b, _, hb⟩ := hcs q k e; exact ⟨b, hb⟩
        refine ⟨hR.defers, v, h3, v, S', m2, rfl, hR.os, hR.tape, hR.output, hR.size, hR.pin0, fun b hb hn => ⟨hR.frame b hb hn, fun o => hR.pinNew b o hb hn⟩, hR.agree, ?_, ?_, ?_, ?_, le_sound _ _ _ _ h7 (hy S' m' m2 v hRn h2)⟩
        · intro q b hb
          have hql : q < ks.length := by rw [← hlen']; exact (List.getElem?_eq_some_iff.1 hb).1
          obtain ⟨d, hd, hle⟩ := leBs_get h8 hb
          obtain ⟨c0, hc0, hh⟩ := hcs q ks[q] (by simp [hql])
          have hidx : idx ks[q] ks 0 = some q := by
            have key : ∀ (l : List Nat) (q i : Nat) (h : q < l.length), l.Nodup → idx l[q] l i = some (i + q) := by
              intro l
              induction l with
              | nil => intro q i h; simp at h
              | cons j l ih =>
                intro q i h hn
                rw [List.nodup_cons] at hn
                cases q with
                | zero => simp [idx, nbeq_self]
                | succ q =>
                  simp at h
                  simp only [idx, List.getElem_cons_succ]
                  rw [nbeq_ne (fun e => hn.1 (by rw [e]; exact List.getElem_mem h))]
                  simp only [cond_false]
                  rw [ih q (i + 1) h hn.2]
                  congr 1; omega
            simpa using key ks q 0 hql hknd
          exact leB_held hle (hds q c0 d hc0 hd S' m' m2 w' ks[q] q hRn hidx (hR.held _ _ hh))
        · intro q q' u u' g hq hq' hne hu hu' hg
          rw [hlen'] at hq hq'
          rw [hm2 q ks[q] (by simp [hq])] at hu
          rw [hm2 q' ks[q'] (by simp [hq'])] at hu'
          obtain ⟨b, hb⟩ := hkb q ks[q] (by simp [hq])
          obtain ⟨b', hb'⟩ := hkb q' ks[q'] (by simp [hq'])
          exact hR.inj _ _ b b' u u' g hb hb' (fun e => hne (nodup_inj (k := ks[q]) hknd (p := q) (q := q') (by simp [hq]) (by rw [e]; simp [hq']))) hu hu' hg
        · intro q u g hq hu hg
          rw [hlen'] at hq
          rw [hm2 q ks[q] (by simp [hq])] at hu
          obtain ⟨b, hb⟩ := hkb q ks[q] (by simp [hq])
          exact hR.own _ b u g hb hu hg
        · intro k u hu
          obtain ⟨u', h9, h10⟩ := hR.m0 k u hu
          exact ⟨u', by rw [hm2 k k (hpre k (hnm k u hu))]; exact h9, h10⟩
      intro e a w' he
      cases e with
      | normal => obtain ⟨st, S', m, hk, hR, _⟩ := he; exact fin st a w' S' m hk hR
      | ret => obtain ⟨st, S', m, hk, hR, _⟩ := he; exact fin st a w' S' m hk hR
      | exit _ => obtain ⟨st, S', m, hk, hR, _⟩ := he; exact hk.elim
      | _ => exact he.elim
  · exact h.elim
end Go.Proofs.YthdfkiopppkfcaaDoor
