/- Calls by contract; one operation; operations in a row. -/
import Derived.Test.YthdfkiopppkfcaaDoorV2
import Derived.Laws.Externs
namespace Go.Proofs.YthdfkiopppkfcaaDoor
open Go
open Go.RowKit (Below)
set_option linter.unusedVariables false
set_option linter.unusedSimpArgs false

abbrev Glob := Nat → Option (List AV)
def GOKg (gl : Glob) (S : Pin) : Prop := ∀ g cs, gl g = some cs → CC S cs g 0
/-- The function f, called with what is xs, comes back with what is r; old memory is as it was. -/
def PureC (P : Program) (gl : Glob) (f : FuncId) (xs : List AV) (r : AV) : Prop :=
  ∀ (w : World) (S : Pin) (vs : Array Value), GOKg gl S → Agree S w → CVl S xs noNm vs.toList →
    Calls P f vs w fun e w' => ∃ u S', e = .returned u ∧ Below w.heap.size w w' ∧ Ext S S' ∧ (∀ b o, b < w.heap.size → S' b o = S b o) ∧ Agree S' w' ∧ CV S' r noNm u
/-- f is a function with a text. -/
def Fok (P : Program) (f : FuncId) : Prop := ∃ fn, P.funcs[f]? = some fn ∧ fn.name ≠ "runtime.NumGoroutine" ∧ ¬ fn.body = none
/-- A block that one of the first r names stands for. -/
def Mof (r : Nat) (m : Nm) (g : Nat) : Prop := ∃ q u, q < r ∧ m q = some u ∧ bk u = some g
def InjB (r : Nat) (m : Nm) : Prop := ∀ q q' u u' g, q < r → q' < r → q ≠ q' → m q = some u → m q' = some u' → bk u = some g → bk u' ≠ some g
/-- The function f, called with what is xs while the blocks 0, 1, .. are bs, comes back with what is r, and the blocks are bs'. -/
def HC (P : Program) (gl : Glob) (f : FuncId) (xs : List AV) (bs : List Blk) (r : AV) (bs' : List Blk) : Prop :=
  ∀ (w : World) (S : Pin) (m : Nm) (vs : Array Value), GOKg gl S → Agree S w → (∀ k u, m k = some u → k < bs.length) → (∀ (q : Nat) (b : Blk), bs[q]? = some b → Held S m w q b) → InjB bs.length m → CVl S xs m vs.toList →
    Calls P f vs w fun e w' => ∃ u S' m', e = .returned u ∧ w'.os = w.os ∧ w'.tape = w.tape ∧ w'.output = w.output ∧ w.heap.size ≤ w'.heap.size ∧ Ext S S' ∧
      (∀ b, b < w.heap.size → ¬ Mof bs.length m b → w'.heap[b]? = w.heap[b]? ∧ ∀ o, S' b o = S b o) ∧ Agree S' w' ∧
      (∀ (q : Nat) (b : Blk), bs'[q]? = some b → Held S' m' w' q b) ∧ InjB bs'.length m' ∧ (∀ q u g, q < bs'.length → m' q = some u → bk u = some g → w.heap.size ≤ g ∨ Mof bs.length m g) ∧ MLe m m' ∧ CV S' r m' u
/-- The function f is math/bits.Add64, for which the model stands in. -/
def AddOK (P : Program) (f : FuncId) : Prop := ∃ fn, P.funcs[f]? = some fn ∧ (fn.name == "runtime.NumGoroutine") = false ∧ fn.body.isNone = true ∧ Extern.findNext fn = none ∧ Extern.find fn = some add64Entry
def XOK (P : Program) : Option FuncId → Prop
  | none => True
  | some f => AddOK P f
def SpecOK (P : Program) (E : Env) : Prop :=
  (∀ f sp, E.spec f = some sp → Fok P f ∧ ∀ xs pre r, sp xs = some (pre, r) → pre → PureC P E.glob f xs r) ∧
  (∀ f sp, E.specH f = some sp → Fok P f ∧ ∀ xs bs pre r bs', sp xs bs = some (pre, r, bs') → pre → HC P E.glob f xs bs r bs') ∧ XOK P E.add64 ∧
  (∀ f sp, E.specQ f = some sp → Fok P f ∧ ∀ xs bs T, sp xs bs = some T → ∀ K, T K → ∃ r bs', K r bs' ∧ HC P E.glob f xs bs r bs') ∧ P = Tryd.prog
def nodupB : List Nat → Bool
  | [] => true
  | k :: l => !(inL k l) && nodupB l
theorem nodupB_nodup : ∀ {l : List Nat}, nodupB l = true → l.Nodup
  | [], _ => by simp
  | k :: l, h => by
    simp only [nodupB, Bool.and_eq_true, Bool.not_eq_true'] at h
    rw [List.nodup_cons]
    exact ⟨inL_mem h.1, nodupB_nodup h.2⟩
def freshL (kp : List Nat) (st : St) : List Nat → Bool
  | [] => true
  | k :: l => fresh kp st k && freshL kp st l
theorem freshL_get {kp : List Nat} {st : St} : ∀ {l : List Nat} {k : Nat}, freshL kp st l = true → k ∈ l → fresh kp st k = true
  | [], k, _, hk => by simp at hk
  | j :: l, k, h, hk => by
    simp only [freshL, Bool.and_eq_true] at h
    rcases List.mem_cons.1 hk with rfl | hk
    · exact h.1
    · exact freshL_get h.2 hk
def nth : List Nat → Nat → Option Nat
  | [], _ => none
  | k :: l, q => match q with | 0 => some k | q + 1 => nth l q
theorem nth_eq : ∀ (l : List Nat) (q : Nat), nth l q = l[q]?
  | [], q => by simp [nth]
  | k :: l, 0 => by simp [nth]
  | k :: l, q + 1 => by simp [nth, nth_eq l q]
theorem nodup_inj {k : Nat} : ∀ {l : List Nat} {p q : Nat}, l.Nodup → l[p]? = some k → l[q]? = some k → p = q
  | [], p, q, _, e, _ => by simp at e
  | j :: l, p, q, hn, e1, e2 => by
    rw [List.nodup_cons] at hn
    cases p with
    | zero =>
      cases q with
      | zero => rfl
      | succ q => simp at e1 e2; subst e1; exact absurd (List.mem_of_getElem? e2) hn.1
    | succ p =>
      cases q with
      | zero => simp at e1 e2; subst e2; exact absurd (List.mem_of_getElem? e1) hn.1
      | succ q => simp at e1 e2; rw [nodup_inj hn.2 e1 e2]
/-- New names: one for each block above the first n. -/
def news (b : Nat) : Nat → List Blk → List Nat
  | 0, [] => []
  | 0, _ :: l => b :: news (Nat.add b 1000) 0 l
  | _ + 1, [] => []
  | n + 1, _ :: l => news b n l
theorem news_len (b : Nat) : ∀ (n : Nat) (l : List Blk), (news b n l).length = l.length - n
  | 0, [] => rfl
  | 0, _ :: l => by simp [news, news_len _ 0 l]
  | n + 1, [] => by simp [news]
  | n + 1, _ :: l => by simp [news, news_len b n l]
def acallH (wf : Bool) (E : Env) (kp : List Nat) (st : St) (nm : Nat) (g : FuncId) (xs : List AV) (K : AV → List (Nat × Blk) → List Nat → Prop) : Prop :=
  match E.specH g with
  | some sp => (fun ks => rnL (fun k => idx k ks 0) xs fun xs' => blksOf (lk st.heap) ks fun bs => rnBs (fun k => idx k ks 0) bs fun bs' => match sp xs' bs' with
    | some (pre, r, cs) => pre ∧ (fun nw => cond (Nat.ble ks.length cs.length && nodupB (ks ++ nw) && freshL kp st nw) (rnA (nth (ks ++ nw)) r fun r2 => rnBs (nth (ks ++ nw)) cs fun cs2 => cond wf (wfA r2 → K r2 (zipB (ks ++ nw) cs2) ks) (K r2 (zipB (ks ++ nw) cs2) ks)) False) (news nm ks.length cs)
    | none => False) (foot (lk st.heap) 3 (dedup (nmsL xs) []))
  | none => False
/-- A call by contract, its names given. -/
theorem callH_core {P : Program} {E : Env} {nt : Nat} {o : Oper} {ev : Operand → AV} {kp0 : List Nat} {st0 : St} {nm : Nat} {g : FuncId} {xs : List AV} (hd : dstOk nt o.dst = true)
    (hrun : ∀ (a : Act) (w : World) (S : Pin) (m : Nm), (∀ x ∈ o.op.operands, CV S (ev x) m (a.eval x)) → ∃ vs, CVl S xs m vs.toList ∧ (execOp a.eval o).run P w = .ok (.enter g vs) w)
    {ks nw : List Nat} (hknd : ks.Nodup) {xs' : List AV} {bs bs' cs cs2 : List Blk} {r r2 : AV}
    (hxs : ∀ S m m' vs, Rn (fun k => idx k ks 0) m m' → CVl S xs m vs → CVl S xs' m' vs) (hbl : bs.length = ks.length) (hbs : ∀ (q i : Nat), ks[q]? = some i → ∃ b, bs[q]? = some b ∧ lk st0.heap i = some b)
    (hbl' : bs'.length = bs.length) (hbs' : ∀ (q : Nat) (b c : Blk), bs[q]? = some b → bs'[q]? = some c → ∀ S m m' w i j, Rn (fun k => idx k ks 0) m m' → idx i ks 0 = some j → Held S m w i b → Held S m' w j c)
    (hC : HC P E.glob g xs' bs' r cs) (hnw : news nm ks.length cs = nw) (hc : (Nat.ble ks.length cs.length = true ∧ nodupB (ks ++ nw) = true) ∧ freshL kp0 st0 nw = true)
    (hr2 : ∀ S m m' v, Rn (nth (ks ++ nw)) m m' → CV S r m v → CV S r2 m' v) (hcl : cs2.length = cs.length)
    (hcs : ∀ (q : Nat) (b c : Blk), cs[q]? = some b → cs2[q]? = some c → ∀ S m m' w i j, Rn (nth (ks ++ nw)) m m' → nth (ks ++ nw) i = some j → Held S m w i b → Held S m' w j c) :
    Good P E nt o ev (lk st0.heap) r2 (zipB (ks ++ nw) cs2) ks ∧ ∀ p ∈ zipB (ks ++ nw) cs2, p.1 ∉ ks → fresh kp0 st0 p.1 = true := by
  have hle := Nat.le_of_ble_eq_true hc.1.1
  have hnd := nodupB_nodup hc.1.2
  have hnl : (ks ++ nw).length = cs.length := by rw [List.length_append, ← hnw, news_len]; omega
  refine ⟨?_, fun p hp hq => ?_⟩
  · skip
    intro G kp st a w S m next Q hG hR hn he hk hfr hnext
    obtain ⟨vs, hvs, hexec⟩ := hrun a w S m (fun x hx => he x hx ▸ evO_cv hG hR x)
    let m1 : Nm := fun q => (ks[q]?).bind m
    have hRn : Rn (fun k => idx k ks 0) m m1 := by
      intro i j hij
      have := (idx_get hij).2
      simp only [Nat.sub_zero] at this
      simp only [m1, this, Option.bind_some]
    have hcall := hC w S m1 vs (fun q cs e => CC.mono hR.pin0 cs q 0 (hG q cs e)) hR.agree
      (fun k u hu => by
        simp only [m1] at hu
        cases e : ks[k]? with
        | none => rw [e] at hu; cases hu
        | some i => rw [hbl', hbl]; exact (List.getElem?_eq_some_iff.1 e).1)
      (fun q b hb => by
        have hql : q < ks.length := by rw [← hbl, ← hbl']; exact (List.getElem?_eq_some_iff.1 hb).1
        obtain ⟨b0, hb0, hh⟩ := hbs q ks[q] (by simp [hql])
        have hidx : idx ks[q] ks 0 = some q := by
          have key : ∀ (l : List Nat) (q i : Nat) (h : q < l.length), l.Nodup → idx l[q] l i = some (i + q) := by
            intro l
            induction l with
            | nil => intro q i h; simp at h
            | cons j l ih =>
              intro q i h hn
              rw [List.nodup_cons] at hn
              cases q with
              | zero => simp [idx, nbeq_self]
              | succ q =>
                simp at h
                simp only [idx, List.getElem_cons_succ]
                rw [nbeq_ne (fun e => hn.1 (by rw [e]; exact List.getElem_mem h))]
                simp only [cond_false]
                rw [ih q (i + 1) h hn.2]
                congr 1; omega
          simpa using key ks q 0 hql hknd
        have hst : lk st.heap ks[q] = some b0 := (hk ks[q] (List.getElem_mem hql)).trans hh
        exact hbs' q b0 b hb0 hb S m m1 w ks[q] q hRn hidx (hR.held _ _ hst))
      (fun q q' u u' g hq hq' hne hu hu' hg hg' => by
        simp only [m1] at hu hu'
        cases e : ks[q]? with
        | none => rw [e] at hu; cases hu
        | some i =>
          cases e' : ks[q']? with
          | none => rw [e'] at hu'; cases hu'
          | some j =>
            rw [e] at hu; rw [e'] at hu'
            simp only [Option.bind_some] at hu hu'
            obtain ⟨b0, _, hh⟩ := hbs q i e
            obtain ⟨b1, _, hh'⟩ := hbs q' j e'
            refine hR.inj i j b0 b1 u u' g ((hk i (List.mem_of_getElem? e)).trans hh) ((hk j (List.mem_of_getElem? e')).trans hh') ?_ hu hu' hg hg'
            rintro rfl
            exact hne (nodup_inj hknd e e'))
      (hxs S m m1 _ hRn hvs)
    unfold Oper.wp
    rw [hexec, Oper.upon_enter]
    refine hcall.mono ?_
    rintro e w' ⟨u, S', m1', rfl, hos, htp, hou, hsz, hE, hfm, hA, hheld, hinj, hown, hmle, hu⟩
    let m' : Nm := fun k => match idx k (ks ++ nw) 0 with | some q => m1' q | none => m k
    have hidx : ∀ (q k : Nat), (ks ++ nw)[q]? = some k → m' k = m1' q := by
      intro q k e
      simp only [m']
      cases e2 : idx k (ks ++ nw) 0 with
      | none =>
        exfalso
        have key : ∀ (l : List Nat) (i : Nat), k ∈ l → idx k l i ≠ none := by
          intro l
          induction l with
          | nil => intro i h; simp at h
          | cons j l ih =>
            intro i h
            simp only [idx]
            cases hj : Nat.beq j k with
            | true => simp
            | false =>
              simp only [cond_false]
              rcases List.mem_cons.1 h with rfl | h
              · rw [nbeq_self] at hj; cases hj
              · exact ih _ h
        exact key _ 0 (List.mem_of_getElem? e) e2
      | some p =>
        have := (idx_get e2).2
        simp only [Nat.sub_zero] at this
        have : p = q := nodup_inj hnd this e
        simp only [this]
    have hRn' : Rn (nth (ks ++ nw)) m1' m' := fun q k e => hidx q k (by rw [← nth_eq]; exact e)
    have hno : ∀ k, k ∉ ks ++ nw → m' k = m k := by
      intro k hk
      simp only [m']
      cases e2 : idx k (ks ++ nw) 0 with
      | none => rfl
      | some p => exact absurd (List.mem_of_getElem? (idx_get e2).2) hk
    have hksl : ∀ (q : Nat), q < ks.length → (ks ++ nw)[q]? = ks[q]? := fun q hq => List.getElem?_append_left hq
    have hmof : ∀ b, Mof bs'.length m1 b ↔ ∃ k u, k ∈ ks ∧ m k = some u ∧ bk u = some b := by
      intro b
      constructor
      · rintro ⟨q, u, _, hu, hb⟩
        simp only [m1] at hu
        cases e : ks[q]? with
        | none => rw [e] at hu; cases hu
        | some i => rw [e] at hu; exact ⟨i, u, List.mem_of_getElem? e, hu, hb⟩
      · rintro ⟨k, u, hk, hu, hb⟩
        obtain ⟨q, hq⟩ := List.getElem?_of_mem hk
        exact ⟨q, u, by rw [hbl', hbl]; exact (List.getElem?_eq_some_iff.1 hq).1, by simp only [m1, hq, Option.bind_some]; exact hu, hb⟩
    have hR2 : Rel G kp (st.blks (zipB (ks ++ nw) cs2)) a w' S' m' := by
      refine hR.callH hnd (fun k hk' => ?_) (fun k hk' => ?_) (by rw [hcl, hnl]) hos htp hou hsz hE (fun b hb hn => hfm b hb (fun q => hn ((hmof b).1 q))) hA ?_ (fun k h1 h2 => hno k (by simp [h1, h2])) ?_ ?_ ?_
      · obtain ⟨q, hq⟩ := List.getElem?_of_mem hk'
        obtain ⟨b, _, hb⟩ := hbs q k hq
        exact ⟨b, (hk k hk').trans hb⟩
      · obtain ⟨q, hq⟩ := List.getElem?_of_mem (List.mem_append_right ks hk')
        have hql : q < cs2.length := by rw [hcl, ← hnl]; exact (List.getElem?_eq_some_iff.1 hq).1
        refine hfr (k, cs2[q]) ?_ (fun hkk => ?_)
        · have key : ∀ (l : List Nat) (cs : List Blk) (q : Nat) (k : Nat) (b : Blk), l[q]? = some k → cs[q]? = some b → (k, b) ∈ zipB l cs := by
            intro l
            induction l with
            | nil => intro cs q k b e; simp at e
            | cons j l ih =>
              intro cs q k b e1 e2
              cases cs with
              | nil => simp at e2
              | cons c cs =>
                simp only [zipB, List.mem_cons]
                cases q with
                | zero => simp at e1 e2; subst e1; subst e2; exact .inl rfl
                | succ q => simp at e1 e2; exact .inr (ih cs q k b e1 e2)
          exact key _ _ q k _ hq (by simp [hql])
        · rw [List.nodup_append] at hnd
          exact hnd.2.2 k hkk k hk' rfl
      · intro q k b e1 e2
        have hql : q < cs.length := by rw [← hnl]; exact (List.getElem?_eq_some_iff.1 e1).1
        exact hcs q cs[q] b (by simp [hql]) e2 S' m1' m' w' q k hRn' (by rw [nth_eq]; exact e1) (hheld q cs[q] (by simp [hql]))
      · intro k hk' v hv
        obtain ⟨q, hq⟩ := List.getElem?_of_mem hk'
        obtain ⟨v', h1, h2⟩ := hmle q v (by simp only [m1, hq, Option.bind_some]; exact hv)
        exact ⟨v', by rw [hidx q k (by rw [hksl q (List.getElem?_eq_some_iff.1 hq).1]; exact hq)]; exact h1, h2⟩
      · intro k k' v v' g hk1 hk2 hne hv hv' hg hg'
        obtain ⟨q, hq⟩ := List.getElem?_of_mem hk1
        obtain ⟨q', hq'⟩ := List.getElem?_of_mem hk2
        rw [hidx q k hq] at hv
        rw [hidx q' k' hq'] at hv'
        refine hinj q q' v v' g (by rw [← hnl]; exact (List.getElem?_eq_some_iff.1 hq).1) (by rw [← hnl]; exact (List.getElem?_eq_some_iff.1 hq').1) ?_ hv hv' hg hg'
        rintro rfl
        rw [hq] at hq'
        injection hq' with hq'
        exact hne hq'
      · intro k v g hk1 hv hg
        obtain ⟨q, hq⟩ := List.getElem?_of_mem hk1
        rw [hidx q k hq] at hv
        rcases hown q v g (by rw [← hnl]; exact (List.getElem?_eq_some_iff.1 hq).1) hv hg with h1 | h1
        · exact .inl h1
        · exact .inr ((hmof g).1 h1)
    refine hnext u w' S' m' (wfA_cv _ _ _ (hr2 S' m1' m' u hRn' hu)) ?_
    unfold St.upd
    cases e : o.dst with
    | none => exact hR2
    | some t =>
      refine hR2.put (hr2 S' m1' m' u hRn' hu) ?_
      rw [hn]
      rw [e] at hd
      exact Nat.le_of_ble_eq_true hd
  · have := zipB_names _ _ p hp
    simp only [List.mem_append] at this
    exact freshL_get hc.2 (this.resolve_left hq)
theorem acallH_sound {P : Program} {E : Env} {nt : Nat} {wf : Bool} (hS : SpecOK P E) {o : Oper} {ev : Operand → AV} {kp : List Nat} {st0 : St} {nm : Nat} {g : FuncId} {xs : List AV} {K : AV → List (Nat × Blk) → List Nat → Prop} (hd : dstOk nt o.dst = true)
    (hrun : Fok P g → ∀ (a : Act) (w : World) (S : Pin) (m : Nm), (∀ x ∈ o.op.operands, CV S (ev x) m (a.eval x)) → ∃ vs, CVl S xs m vs.toList ∧ (execOp a.eval o).run P w = .ok (.enter g vs) w)
    (H : acallH wf E kp st0 nm g xs K) : ∃ r u rd, ((wf = true → wfA r) → K r u rd) ∧ Good P E nt o ev (lk st0.heap) r u rd ∧ ∀ p ∈ u, p.1 ∉ rd → fresh kp st0 p.1 = true := by
  unfold acallH at H
  split at H
  · rename_i sp hsp
    generalize hksd : foot (lk st0.heap) 3 (dedup (nmsL xs) []) = ks at H
    have hknd : ks.Nodup := by rw [← hksd]; exact foot_nodup _ _ _ (dedup_nodup _ _ (by simp))
    obtain ⟨xs', H1, hxs⟩ := rnL_sound _ _ H
    obtain ⟨bs, H2, hbl, hbs⟩ := blksOf_sound _ _ H1
    obtain ⟨bs', H3, hbl', hbs'⟩ := rnBs_sound _ _ H2
    split at H3
    · rename_i pre r cs hspr
      obtain ⟨hpre, H4⟩ := H3
      generalize hnw : news nm ks.length cs = nw at H4
      obtain ⟨hc, H5⟩ := cond_F H4
      simp only [Bool.and_eq_true] at hc
      obtain ⟨r2, H6, hr2⟩ := rnA_sound _ _ H5
      obtain ⟨cs2, H7, hcl, hcs⟩ := rnBs_sound _ _ H6
      obtain ⟨hfok, hspec⟩ := hS.2.1 g sp hsp
      have hC := hspec xs' bs' pre r cs hspr hpre
      refine ⟨r2, zipB (ks ++ nw) cs2, ks, fun hw => ?_, callH_core hd (hrun hfok) hknd hxs hbl hbs hbl' hbs' hC hnw hc hr2 hcl hcs⟩
      · cases wf with
        | true => exact H7 (hw rfl)
        | false => exact H7
    · exact H3.elim
  · exact H.elim
/-- The same by a contract that tells some properties of the results. -/
def acallQ (E : Env) (kp : List Nat) (st : St) (nm : Nat) (g : FuncId) (xs : List AV) (K : AV → List (Nat × Blk) → List Nat → Prop) : Prop :=
  match E.specQ g with
  | some sp => (fun ks => rnL (fun k => idx k ks 0) xs fun xs' => blksOf (lk st.heap) ks fun bs => rnBs (fun k => idx k ks 0) bs fun bs' => match sp xs' bs' with
    | some T => T fun r cs => (fun nw => cond (Nat.ble ks.length cs.length && nodupB (ks ++ nw) && freshL kp st nw) (rnA (nth (ks ++ nw)) r fun r2 => rnBs (nth (ks ++ nw)) cs fun cs2 => K r2 (zipB (ks ++ nw) cs2) ks) False) (news nm ks.length cs)
    | none => False) (foot (lk st.heap) 3 (dedup (nmsL xs) []))
  | none => False
theorem acallQ_sound {P : Program} {E : Env} {nt : Nat} {wf : Bool} (hS : SpecOK P E) {o : Oper} {ev : Operand → AV} {kp : List Nat} {st0 : St} {nm : Nat} {g : FuncId} {xs : List AV} {K : AV → List (Nat × Blk) → List Nat → Prop} (hd : dstOk nt o.dst = true)
    (hrun : Fok P g → ∀ (a : Act) (w : World) (S : Pin) (m : Nm), (∀ x ∈ o.op.operands, CV S (ev x) m (a.eval x)) → ∃ vs, CVl S xs m vs.toList ∧ (execOp a.eval o).run P w = .ok (.enter g vs) w)
    (H : acallQ E kp st0 nm g xs K) : ∃ r u rd, ((wf = true → wfA r) → K r u rd) ∧ Good P E nt o ev (lk st0.heap) r u rd ∧ ∀ p ∈ u, p.1 ∉ rd → fresh kp st0 p.1 = true := by
  unfold acallQ at H
  split at H
  · rename_i sp hsp
    generalize hksd : foot (lk st0.heap) 3 (dedup (nmsL xs) []) = ks at H
    have hknd : ks.Nodup := by rw [← hksd]; exact foot_nodup _ _ _ (dedup_nodup _ _ (by simp))
    obtain ⟨xs', H1, hxs⟩ := rnL_sound _ _ H
    obtain ⟨bs, H2, hbl, hbs⟩ := blksOf_sound _ _ H1
    obtain ⟨bs', H3, hbl', hbs'⟩ := rnBs_sound _ _ H2
    split at H3
    · rename_i T hspr
      obtain ⟨hfok, hspec⟩ := hS.2.2.2.1 g sp hsp
      obtain ⟨r, cs, H4, hC⟩ := hspec xs' bs' T hspr _ H3
      generalize hnw : news nm ks.length cs = nw at H4
      obtain ⟨hc, H5⟩ := cond_F H4
      simp only [Bool.and_eq_true] at hc
      obtain ⟨r2, H6, hr2⟩ := rnA_sound _ _ H5
      obtain ⟨cs2, H7, hcl, hcs⟩ := rnBs_sound _ _ H6
      exact ⟨r2, zipB (ks ++ nw) cs2, ks, fun _ => H7, callH_core hd (hrun hfok) hknd hxs hbl hbs hbl' hbs' hC hnw hc hr2 hcl hcs⟩
    · exact H3.elim
  · exact H.elim
def isAdd (E : Env) (g : FuncId) : Bool := match E.add64 with | some h => Nat.beq h g | none => false
/-- math/bits.Add64. -/
def aadd (xs : List AV) (K : AV → Prop) : Prop := match xs with
  | [.int .u64 x, .int .u64 y, .int .u64 c] => chk (0 ≤ c ∧ c ≤ 1) (K (.tup [.int .u64 ((x + y + c) % 18446744073709551616), .int .u64 ((x + y + c) / 18446744073709551616)]))
  | _ => False
/-- An own row that is handed to a function of values is given up: what lies in it is known for good from there on. -/
theorem gone1 {G : Gh} {kp : List Nat} {st : St} {a : Act} {w : World} {S : Pin} {m : Nm} (h : Rel G kp st a w S m) {k e s : Nat} {xs : List (List AV)} (hk : lk st.heap k = some (.row e s xs)) (hcl : e < 2000000) :
    ∃ S', Ext S S' ∧ Rel G kp (st.blk k .gone) a w S' m ∧ ∀ n v, n = xs.length → CV S (.rw k s n) m v → CV S' (.sl s false xs) m v := by
  have hheld := h.held k _ hk
  obtain ⟨A, c, h1, h2, h3, hlen, h4, vals, h5, h6, h7, _, h8⟩ := hheld.vals
  rw [rowNm_lo hcl] at h6
  let S' : Pin := fun b o => if A = some ⟨b, 0, none⟩ ∧ o < vals.length then vals[o]? else S b o
  have hun : ∀ b, A = some ⟨b, 0, none⟩ → ∀ o, S b o = none := by
    intro b hb o
    rcases h4 with ⟨e1, _⟩ | ⟨g, cur, fr, e1, _, _, _, e2⟩
    · rw [hb] at e1; cases e1
    · rw [hb] at e1
      injection e1 with e1
      injection e1 with e1
      subst e1
      exact e2 o
  have hS : Ext S S' := by
    intro b o v e1
    show (if A = some ⟨b, 0, none⟩ ∧ o < vals.length then vals[o]? else S b o) = some v
    rw [if_neg]
    · exact e1
    · rintro ⟨hb, _⟩
      rw [hun b hb] at e1; cases e1
  have hfar : ∀ b, A ≠ some ⟨b, 0, none⟩ → ∀ o, S' b o = S b o := by
    intro b hb o
    show (if A = some ⟨b, 0, none⟩ ∧ o < vals.length then vals[o]? else S b o) = S b o
    rw [if_neg (fun q => hb q.1)]
  have hl2 : ∀ j, lk (st.blk k .gone).heap j = if j = k then some .gone else lk st.heap j := by
    intro j; simp only [St.blk, lk_ins]
  have hlk : ∀ j b, lk (st.blk k .gone).heap j = some b → ∃ b0, lk st.heap j = some b0 := by
    intro j b hj
    rw [hl2] at hj
    split at hj
    · rename_i e; subst e; exact ⟨_, hk⟩
    · exact ⟨b, hj⟩
  refine ⟨S', hS, ?_, ?_⟩
  · refine { h with defers := h.defers, pin0 := h.pin0.trans hS, pinNew := ?_, agree := ?_, tmps := fun t => (h.tmps t).ext hS (MLe.refl m), held := ?_, inj := ?_, own := ?_, m0 := h.m0 }
    · intro b o hb hM
      by_cases hA : A = some ⟨b, 0, none⟩
      · rcases h.own k _ _ b hk h1 (by rw [hA]; rfl) with q | q
        · omega
        · exact absurd q hM
      · rw [hfar b hA]; exact h.pinNew b o hb hM
    · intro b o v e1
      by_cases hA : A = some ⟨b, 0, none⟩ ∧ o < vals.length
      · have e2 : vals[o]? = some v := by
          have : S' b o = vals[o]? := by show (if A = some ⟨b, 0, none⟩ ∧ o < vals.length then vals[o]? else S b o) = _; rw [if_pos hA]
          rw [← this]; exact e1
        exact ⟨h8 b hA.1 o v e2, h7 v (List.mem_of_getElem? e2)⟩
      · have : S' b o = S b o := by show (if A = some ⟨b, 0, none⟩ ∧ o < vals.length then vals[o]? else S b o) = _; rw [if_neg hA]
        rw [this] at e1
        exact h.agree b o v e1
    · intro j b hj
      rw [hl2] at hj
      split at hj
      · rename_i ejk
        subst ejk
        injection hj with hj
        subst hj
        exact ⟨_, h1, fun g hg => hheld.lt h1 hg⟩
      · rename_i ejk
        refine (h.held j b hj).keep hS (fun _ _ _ hc => hc.ext hS (MLe.refl m)) rfl fun u g hu hg => ⟨rfl, fun o => hfar g (fun hA => ?_) o⟩
        exact h.inj j k b _ u _ g hj hk ejk hu h1 hg (by rw [hA]; rfl)
    · intro j j' b b' u u' g hj hj' hne hu hu' hg
      obtain ⟨b0, hb0⟩ := hlk j b hj
      obtain ⟨b1, hb1⟩ := hlk j' b' hj'
      exact h.inj j j' b0 b1 u u' g hb0 hb1 hne hu hu' hg
    · intro j b u g hj hu hg
      obtain ⟨b0, hb0⟩ := hlk j b hj
      exact h.own j b0 u g hb0 hu hg
  · intro n v hn hv
    subst hn
    simp only [CV] at hv ⊢
    obtain ⟨⟨B, d, rfl, p1, p2, p3, p4⟩, A1, q1, c1, p5, p6, p7⟩ := hv
    rw [h1] at p5
    injection p5 with p5
    injection p5 with _ p5
    injection p5 with e1 e2 e3
    subst e1; subst e3
    have hv := p7 (by omega)
    injection hv with e1 e3 e4
    subst e1; subst e4
    refine ⟨B, d, rfl, h2, h3, (fun q => by cases q), p3, fun ad had => ?_⟩
    obtain ⟨g, eg⟩ := p4 ad had
    subst eg
    refine ⟨fun _ => rfl, CE.mk fun j x hj => ?_⟩
    have hxl := hlen x (List.mem_of_getElem? hj)
    refine ⟨hxl, CC.mk fun i y hi => ?_⟩
    obtain ⟨u, hu, hy⟩ := h6.get (flat_get hlen hj hi)
    have hlt : j * s + i < vals.length := (List.getElem?_eq_some_iff.1 hu).1
    refine ⟨u, ?_, hy.ext hS (MLe.refl _)⟩
    show (if B = some ⟨g, 0, none⟩ ∧ 0 + j * s + i < vals.length then vals[0 + j * s + i]? else S g (0 + j * s + i)) = some u
    rw [Nat.zero_add, if_pos ⟨had, hlt⟩]
    exact hu
def goneK (h : Nat → Option Blk) : List AV → (List AV → List Nat → Prop) → Prop
  | .rw k s n :: l, K => (match h k with
    | some (.row e s' xs) => cond (Nat.blt e 2000000 && Nat.beq s s') (chk (n = xs.length) (goneK h l fun l' ks => cond (inL k ks) False (K (.sl s false xs :: l') (k :: ks)))) (goneK h l fun l' ks => K (.rw k s n :: l') ks)
    | _ => goneK h l fun l' ks => K (.rw k s n :: l') ks)
  | x :: l, K => goneK h l fun l' ks => K (x :: l') ks
  | [], K => K [] []
def gones : List Nat → List (Nat × Blk)
  | [] => []
  | k :: l => (k, .gone) :: gones l
theorem gones_mem : ∀ {ks : List Nat} {p : Nat × Blk}, p ∈ gones ks → p.1 ∈ ks
  | k :: l, p, h => by
    simp only [gones, List.mem_cons] at h
    rcases h with rfl | h
    · simp
    · simp [gones_mem h]
theorem mem_inG {k : Nat} : ∀ {l : List Nat}, k ∈ l → inL k l = true
  | j :: l, h => by
    simp only [inL, Bool.or_eq_true]
    rcases List.mem_cons.1 h with rfl | h
    · exact .inl (nbeq_self _)
    · exact .inr (mem_inG h)
theorem goneK_sound {h : Nat → Option Blk} : ∀ (xs : List AV) (K : List AV → List Nat → Prop), goneK h xs K → ∃ xs' ks, K xs' ks ∧
    ∀ (G : Gh) (kp : List Nat) (st : St) (a : Act) (w : World) (S : Pin) (m : Nm) (vs : List Value), (∀ k ∈ ks, lk st.heap k = h k) → Rel G kp st a w S m → CVl S xs m vs → ∃ S', Ext S S' ∧ Rel G kp (st.blks (gones ks)) a w S' m ∧ CVl S' xs' m vs := by
  intro xs
  induction xs with
  | nil => exact fun K H => ⟨[], [], by simpa only [goneK] using H, fun G kp st a w S m vs _ hR hv => ⟨S, Ext.refl S, hR, hv⟩⟩
  | cons x l ih =>
    intro K H
    have plain : goneK h l (fun l' ks => K (x :: l') ks) → ∃ xs' ks, K xs' ks ∧
        ∀ (G : Gh) (kp : List Nat) (st : St) (a : Act) (w : World) (S : Pin) (m : Nm) (vs : List Value), (∀ k ∈ ks, lk st.heap k = h k) → Rel G kp st a w S m → CVl S (x :: l) m vs → ∃ S', Ext S S' ∧ Rel G kp (st.blks (gones ks)) a w S' m ∧ CVl S' xs' m vs := by
      intro H
      obtain ⟨l', ks, h1, h2⟩ := ih _ H
      refine ⟨x :: l', ks, h1, fun G kp st a w S m vs hks hR hv => ?_⟩
      simp only [CVl] at hv
      obtain ⟨u, us, rfl, hu, hus⟩ := hv
      obtain ⟨S', q1, q2, q3⟩ := h2 G kp st a w S m us hks hR hus
      exact ⟨S', q1, q2, by simp only [CVl]; exact ⟨u, us, rfl, hu.ext q1 (MLe.refl m), q3⟩⟩
    cases x with
    | rw k s n =>
      simp only [goneK] at H
      split at H
      · rename_i e s' xs hk
        cases hb : (Nat.blt e 2000000 && Nat.beq s s') with
        | false => rw [hb] at H; exact plain H
        | true =>
          rw [hb] at H
          simp only [cond_true] at H
          simp only [Bool.and_eq_true] at hb
          have hss := Nat.eq_of_beq_eq_true hb.2
          subst hss
          obtain ⟨hn, H⟩ := chk_iff.1 H
          obtain ⟨l', ks, h1, h2⟩ := ih _ H
          cases hin : inL k ks with
          | true => rw [hin] at h1; exact h1.elim
          | false =>
            rw [hin] at h1
            refine ⟨_, _, h1, fun G kp st a w S m vs hks hR hv => ?_⟩
            simp only [CVl] at hv
            obtain ⟨u, us, rfl, hu, hus⟩ := hv
            obtain ⟨S1, q1, q2, q3⟩ := gone1 hR ((hks k (by simp)).trans hk) (Nat.le_of_ble_eq_true hb.1)
            obtain ⟨S2, r1, r2, r3⟩ := h2 G kp (st.blk k .gone) a w S1 m us (fun j hj => by
              simp only [St.blk, lk_ins]
              rw [if_neg (fun e => by subst e; rw [mem_inG hj] at hin; cases hin)]
              exact hks j (by simp [hj])) q2 (hus.ext q1 (MLe.refl m))
            exact ⟨S2, q1.trans r1, r2, by simp only [CVl]; exact ⟨u, us, rfl, (q3 n u hn hu).ext r1 (MLe.refl m), r3⟩⟩
      · exact plain H
    | _ => exact plain (by simpa only [goneK] using H)
def acall (wf : Bool) (E : Env) (kp : List Nat) (st : St) (nm : Nat) (c : Call) (ev : Operand → AV) (K : AV → List (Nat × Blk) → List Nat → Prop) : Prop :=
  match c.callee with
  | .value f => (match ev f with
    | .fn g caps => (match E.spec g with
      | some sp => goneK (lk st.heap) (c.args.toList.map ev ++ caps) fun xs ks => stripL xs fun xs => (match sp xs with
        | some (pre, r) => pre ∧ cond wf (wfA r → K r (gones ks) ks) (K r (gones ks) ks)
        | none => False)
      | none => cond (isAdd E g) (aadd (c.args.toList.map ev ++ caps) fun r => K r [] []) (match E.specQ g with | some _ => acallQ E kp st nm g (c.args.toList.map ev ++ caps) K | none => acallH wf E kp st nm g (c.args.toList.map ev ++ caps) K))
    | _ => False)
  | _ => False
theorem acall_sound {P : Program} {E : Env} {nt : Nat} {wf : Bool} (hS : SpecOK P E) {o : Oper} {c : Call} {ev : Operand → AV} {kp : List Nat} {st0 : St} {nm : Nat} {K : AV → List (Nat × Blk) → List Nat → Prop} (ho : o.op = .call c) (hd : dstOk nt o.dst = true)
    (H : acall wf E kp st0 nm c ev K) : ∃ r u rd, ((wf = true → wfA r) → K r u rd) ∧ Good P E nt o ev (lk st0.heap) r u rd ∧ ∀ p ∈ u, p.1 ∉ rd → fresh kp st0 p.1 = true := by
  unfold acall at H
  split at H
  · rename_i f hf
    split at H
    · rename_i g caps hg
      have enter : Fok P g → ∀ (a : Act) (w : World) (S : Pin) (m : Nm), (∀ x ∈ o.op.operands, CV S (ev x) m (a.eval x)) → ∃ vs, CVl S (c.args.toList.map ev ++ caps) m vs.toList ∧ (execOp a.eval o).run P w = .ok (.enter g vs) w := by
        rintro ⟨fn, hfn, hname, hbody⟩ a w S m hcv
        rw [ho] at hcv
        have hfv := hcv f (by simp [Op.operands, Call.operands, hf])
        rw [hg] at hfv
        simp only [CV] at hfv
        obtain ⟨us, hfe, hus⟩ := hfv
        refine ⟨c.args.map a.eval ++ us, ?_, ?_⟩
        · rw [Array.toList_append, Array.toList_map]
          exact (CVl.map _ (fun x hx => hcv x (by simp [Op.operands, Call.operands, hf]; exact .inr (Array.mem_toList_iff.1 hx)))).append hus
        · simp [execOp, ho, resolve, hf, hfe, Deferred.ofValue, invoke, callFunc, hfn, hname, hbody]
      split at H
      · rename_i sp hsp
        obtain ⟨xs0, ks, H, hgo⟩ := goneK_sound _ _ H
        obtain ⟨xs, H1, hx⟩ := stripL_sound _ _ H
        split at H1
        · rename_i pre r hr
          obtain ⟨hfok, hsound⟩ := hS.1 g sp hsp
          have hC := hsound xs pre r hr H1.1
          refine ⟨r, gones ks, ks, fun hw => ?_, ?_, fun p hp hn => absurd (gones_mem hp) hn⟩
          · cases wf with
            | true => exact H1.2 (hw rfl)
            | false => exact H1.2
          · intro G kp st a w S m next Q hG hR hn he hk hfr hnext
            obtain ⟨vs, hargs, hrun⟩ := enter hfok a w S m (fun x hx => he x hx ▸ evO_cv hG hR x)
            obtain ⟨S1, hS1, hR1, hargs1⟩ := hgo G kp st a w S m _ hk hR hargs
            have hcall := hC w S1 vs (fun q cs e => CC.mono (hR.pin0.trans hS1) cs q 0 (hG q cs e)) hR1.agree (hx S1 m _ hargs1)
            unfold Oper.wp
            rw [hrun, Oper.upon_enter]
            refine hcall.mono ?_
            rintro e w' ⟨u, S', rfl, hb, hE, hp, hA, hu⟩
            refine hnext u w' S' m (wfA_cv _ _ _ hu) ?_
            have hR' := hR1.next hb hE hp hA
            unfold St.upd
            cases e : o.dst with
            | none => exact hR'
            | some t =>
              refine hR'.put (hu.ext (Ext.refl _) (MLe.no m)) ?_
              rw [hn]
              rw [e] at hd
              exact Nat.le_of_ble_eq_true hd
        · exact H1.elim
      · cases hx : isAdd E g with
        | false =>
          rw [hx] at H
          simp only [cond_false] at H
          split at H
          · exact acallQ_sound hS hd enter H
          · exact acallH_sound hS hd enter H
        | true =>
          rw [hx] at H
          simp only [cond_true] at H
          have hadd : AddOK P g := by
            unfold isAdd at hx
            split at hx
            · next h e =>
              have := Nat.eq_of_beq_eq_true hx
              subst this
              have h3 := hS.2.2.1
              rw [e] at h3
              exact h3
            · cases hx
          obtain ⟨fn, k1, k2, k3, k4, k5⟩ := hadd
          unfold aadd at H
          split at H
          · rename_i x y z hxs
            obtain ⟨hz, H1⟩ := chk_iff.1 H
            refine ⟨_, [], [], fun _ => H1, good_pure hd fun a w S m hcv => ?_, by simp⟩
            rw [ho] at hcv
            have hfv := hcv f (by simp [Op.operands, Call.operands, hf])
            rw [hg] at hfv
            simp only [CV] at hfv
            obtain ⟨us, hfe, hus⟩ := hfv
            have hall : CVl S (c.args.toList.map ev ++ caps) m (c.args.map a.eval ++ us).toList := by
              rw [Array.toList_append, Array.toList_map]
              exact (CVl.map _ (fun x hx => hcv x (by simp [Op.operands, Call.operands, hf]; exact .inr (Array.mem_toList_iff.1 hx)))).append hus
            rw [hxs] at hall
            simp only [CVl, CV] at hall
            obtain ⟨_, _, e1, ⟨rfl, r1⟩, _, _, rfl, ⟨rfl, r2⟩, _, _, rfl, ⟨rfl, r3⟩, rfl⟩ := hall
            have e2 : c.args.map a.eval ++ us = #[.int .u64 x, .int .u64 y, .int .u64 z] := by
              rw [← Array.toArray_toList (xs := c.args.map a.eval ++ us), e1]
            simp only [rng] at r1 r2 r3
            refine ⟨.tuple #[.int .u64 ((x + y + z) % 18446744073709551616), .int .u64 ((x + y + z) / 18446744073709551616)], ?_, ?_⟩
            · have h1 := run_callFunc_extern k1 k2 k3 k4 k5 #[.int .u64 x, .int .u64 y, .int .u64 z] w
              rw [run_add64 x y z r1.1 r2.1 hz.1 hz.2 w] at h1
              simp [execOp, ho, resolve, hf, hfe, Deferred.ofValue, invoke, e2, h1]
            · simp only [CV, CVl]
              refine ⟨_, rfl, _, _, rfl, ⟨rfl, ?_⟩, _, _, rfl, ⟨rfl, ?_⟩, rfl⟩
              · simp only [rng]; omega
              · simp only [rng]; omega
          · exact H.elim
    · exact H.elim
  · exact H.elim
end Go.Proofs.YthdfkiopppkfcaaDoor
