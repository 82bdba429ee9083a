/- Operations on maps that the call itself makes: keys are numbers, elements are numbers or truth values. -/
import Derived.Test.YthdfkiopppkfcaaDoorVx
namespace Go.Proofs.YthdfkiopppkfcaaDoor
open Go
open Go.Maps (Tidy IsMap int_keyed keyOf_int_mk)
set_option linter.unusedVariables false
set_option linter.unusedSimpArgs false

theorem mDel_key (n : Int) : ∀ (l : List (Int × AV)) (q : Int), q ∈ (mDel l n).map Prod.fst → q ≠ n ∧ q ∈ l.map Prod.fst
  | [], q, h => by simp [mDel] at h
  | (k, x) :: l, q, h => by
    simp only [mDel] at h
    by_cases e : k = n
    · rw [decide_eq_true e] at h
      obtain ⟨h1, h2⟩ := mDel_key n l q h
      exact ⟨h1, by simp only [List.map_cons, List.mem_cons]; exact .inr h2⟩
    · rw [decide_eq_false e] at h
      simp only [cond_false, List.map_cons, List.mem_cons] at h
      rcases h with rfl | h
      · exact ⟨e, by simp⟩
      · obtain ⟨h1, h2⟩ := mDel_key n l q h
        exact ⟨h1, by simp only [List.map_cons, List.mem_cons]; exact .inr h2⟩
theorem mDel_nd (n : Int) : ∀ {l : List (Int × AV)}, (l.map Prod.fst).Nodup → ((mDel l n).map Prod.fst).Nodup
  | [], _ => by simp [mDel]
  | (k, x) :: l, h => by
    simp only [List.map_cons, List.nodup_cons] at h
    simp only [mDel]
    by_cases e : k = n
    · rw [decide_eq_true e]; exact mDel_nd n h.2
    · rw [decide_eq_false e]
      simp only [cond_false, List.map_cons, List.nodup_cons]
      exact ⟨fun q => h.1 (mDel_key n l k q).2, mDel_nd n h.2⟩
theorem mPut_nd {l : List (Int × AV)} (h : (l.map Prod.fst).Nodup) (n : Int) (x : AV) : ((mPut l n x).map Prod.fst).Nodup := by
  unfold mPut
  simp only [List.map_cons, List.nodup_cons]
  exact ⟨fun q => (mDel_key n l n q).1 rfl, mDel_nd n h⟩
theorem mGet_none {n : Int} : ∀ {l : List (Int × AV)}, n ∉ l.map Prod.fst → mGet l n = none
  | [], _ => rfl
  | (k, x) :: l, h => by
    simp only [List.map_cons, List.mem_cons, not_or] at h
    simp only [mGet]
    rw [decide_eq_false (fun e => h.1 e.symm)]
    exact mGet_none h.2
theorem mDel_none {n : Int} : ∀ {l : List (Int × AV)}, n ∉ l.map Prod.fst → mDel l n = l
  | [], _ => rfl
  | (k, x) :: l, h => by
    simp only [List.map_cons, List.mem_cons, not_or] at h
    simp only [mDel]
    rw [decide_eq_false (fun e => h.1 e.symm)]
    simp only [cond_false]
    rw [mDel_none h.2]
theorem mDel_len (n : Int) : ∀ {l : List (Int × AV)}, (l.map Prod.fst).Nodup → (mDel l n).length + (cond (mGet l n).isSome 1 0) = l.length
  | [], _ => rfl
  | (k, x) :: l, h => by
    simp only [List.map_cons, List.nodup_cons] at h
    simp only [mDel, mGet]
    by_cases e : k = n
    · rw [decide_eq_true e]
      subst e
      simp only [cond_true]
      rw [mDel_none h.1]
      rfl
    · rw [decide_eq_false e]
      have := mDel_len n h.2
      simp only [cond_false, List.length_cons]
      omega
theorem mGet_del {n q : Int} (hq : q ≠ n) : ∀ (l : List (Int × AV)), mGet (mDel l n) q = mGet l q
  | [] => rfl
  | (k, x) :: l => by
    simp only [mDel, mGet]
    by_cases e : k = n
    · rw [decide_eq_true e, decide_eq_false (fun w => hq (w.symm.trans e))]
      exact mGet_del hq l
    · rw [decide_eq_false e]
      simp only [cond_false, mGet]
      rw [mGet_del hq l]
theorem mGet_put (l : List (Int × AV)) (n q : Int) (x : AV) : mGet (mPut l n x) q = if n = q then some x else mGet l q := by
  unfold mPut
  simp only [mGet]
  by_cases e : n = q
  · rw [decide_eq_true e, if_pos e]; rfl
  · rw [decide_eq_false e, if_neg e]; exact mGet_del (fun w => e w.symm) l
/-- A map of truth values or of numbers: what is under a number. -/
def mInt (l : List (Int × AV)) (n : Int) : Int := match mGet l n with | some (.int _ z) => z | _ => 0
def mBool (l : List (Int × AV)) (n : Int) : Bool := match mGet l n with | some (.bool b) => b | _ => false
def mHas (l : List (Int × AV)) (n : Int) : Bool := (mGet l n).isSome

def isI64 (P : Program) (t : TypeId) : Bool := match P.underlying t with | some (.int .i64) => true | _ => false
def isBl (P : Program) (t : TypeId) : Bool := match P.underlying t with | some .bool => true | _ => false
theorem isI64_iff {P : Program} {t : TypeId} (h : isI64 P t = true) : P.underlying t = some (.int .i64) := by
  unfold isI64 at h
  split at h
  · rename_i e; exact e
  · cases h
theorem isBl_iff {P : Program} {t : TypeId} (h : isBl P t = true) : P.underlying t = some .bool := by
  unfold isBl at h
  split at h
  · rename_i e; exact e
  · cases h
def amkM (P : Program) (nm : Nat) (t : TypeId) (K : AV → List (Nat × Blk) → List Nat → Prop) : Prop :=
  match P.underlying t with
  | some (.map kt et) => cond (isI64 P kt) (K (.mpv nm) [(nm, .mp kt et [])] []) False
  | _ => False
theorem amkM_sound {P : Program} {E : Env} {nt nm : Nat} {o : Oper} {t : TypeId} {ev : Operand → AV} {h : Nat → Option Blk} {K : AV → List (Nat × Blk) → List Nat → Prop} (ho : o.op = .makeMap t none) (hd : dstOk nt o.dst = true)
    (H : amkM P nm t K) : ∃ r b, K r [(nm, b)] [] ∧ Good P E nt o ev h r [(nm, b)] [] := by
  unfold amkM at H
  split at H
  · rename_i kt et ht
    obtain ⟨hk, H'⟩ := cond_F H
    refine ⟨_, _, H', good_value hd fun G kp st a w S m hG hR he hrd hf => ?_⟩
    refine ⟨.map (some w.heap.size), w.alloc (.map #[] 0), S, m.set nm (.map (some w.heap.size)), ?_, ?_, ?_⟩
    · have hmk : (Instr.makeMap t none).run P w = .ok (.map (some w.heap.size)) (w.alloc (.map #[] 0)) := rfl
      simp [execOp, ho, hmk]
    · refine hR.fresh_ (hf (nm, .mp kt et []) (by simp) (by simp)) ((Go.RowKit.Below.refl _ _).alloc (Nat.le_refl _) _) (Ext.refl S) (fun _ _ _ => rfl) ?_ ?_ ?_
      · intro b q v e
        refine ⟨?_, (hR.agree b q v e).2⟩
        rw [World.cell?_alloc_lt w _ _ (hR.agree.lt e)]
        exact (hR.agree b q v e).1
      · intro g hg
        simp only [bk, Option.some.injEq] at hg
        omega
      · refine ⟨w.heap.size, .map [], Nm.set_same _ _ _, World.ownsMap_made w _ _ _, ⟨rfl, fun n _ => rfl, fun n x _ e => by simp [mGet] at e, by simp, fun n x e => by simp [mGet] at e⟩⟩
    · simp only [CV]
      exact ⟨_, Nm.set_same _ _ _, rfl⟩
  · exact H.elim
def okEl (P : Program) (et : TypeId) : AV → Bool
  | .int .i64 _ => isI64 P et
  | .bool _ => isBl P et
  | _ => false
def aupM (P : Program) (t : TypeId) (mv k x : AV) (h : Nat → Option Blk) (K : List (Nat × Blk) → List Nat → Prop) : Prop :=
  match mv, k with
  | .mpv j, .int .i64 n => (match h j, P.underlying t with
    | some (.mp kt et l), some (.map kt' et') => cond (Nat.beq kt kt' && Nat.beq et et' && isI64 P kt && okEl P et x) (chk (l.length ≤ 140737488355327) (K [(j, .mp kt et (mPut l n x))] [j])) False
    | _, _ => False)
  | _, _ => False
theorem lit_ne {n q : Int} (h : n ≠ q) : (Lit.int .i64 n) ≠ .int .i64 q := fun e => by injection e with _ e; exact h e
theorem mrng_wf {n : Int} (h : rng .i64 n) : (Lit.int .i64 n).wf = true := WalkArith.wf_i64 h
theorem aupM_sound {P : Program} (hP : P = Tryd.prog) {E : Env} {nt : Nat} {o : Oper} {t : TypeId} {mv k x : Operand} {ev : Operand → AV} {h : Nat → Option Blk} {K : List (Nat × Blk) → List Nat → Prop} (ho : o.op = .mapUpdate t mv k x) (hd : o.dst = none)
    (H : aupM P t (ev mv) (ev k) (ev x) h K) : ∃ u rd, K u rd ∧ (∀ p ∈ u, p.1 ∈ rd) ∧ Good P E nt o ev h .undef u rd := by
  unfold aupM at H
  split at H
  · rename_i j n hj hk
    split at H
    · rename_i kt et l kt' et' hl ht
      obtain ⟨hb, H0⟩ := cond_F H
      simp only [Bool.and_eq_true] at hb
      obtain ⟨⟨⟨b1, b2⟩, b3⟩, b4⟩ := hb
      have b1 := Nat.eq_of_beq_eq_true b1
      have b2 := Nat.eq_of_beq_eq_true b2
      subst b1; subst b2
      have b3 := isI64_iff b3
      obtain ⟨hlen, H1⟩ := chk_iff.1 H0
      refine ⟨_, _, H1, by simp, good_skip hd fun G kp st a w S m hG hR he hrd hf => ?_⟩
      have vm := he mv (by rw [ho]; simp [Op.operands])
      have vk := he k (by rw [ho]; simp [Op.operands])
      have vx := he x (by rw [ho]; simp [Op.operands])
      rw [hj] at vm
      rw [hk] at vk
      simp only [CV] at vm vk
      obtain ⟨g, hm, vm⟩ := vm
      obtain ⟨vk, hn⟩ := vk
      have hks : lk st.heap j = some (.mp kt et l) := by rw [hrd j (by simp)]; exact hl
      obtain ⟨g', D, e1, e2, e3⟩ := hR.held j _ hks
      rw [hm] at e1
      injection e1 with e1
      injection e1 with e1
      injection e1 with e1
      subst e1
      subst hP
      have hkey := keyOf_int_mk b3 (mrng_wf hn)
      -- the element
      have hel : ∃ d, plainElem (H := Unit) Tryd.prog et (a.eval x) = some (d, []) ∧ d = avD (ev x) ∧ ((∃ z, ev x = .int .i64 z ∧ rng .i64 z ∧ Tryd.prog.underlying et = some (.int .i64)) ∨ (∃ b, ev x = .bool b ∧ Tryd.prog.underlying et = some .bool)) := by
        generalize hx : ev x = y at vx b4
        cases y with
        | int q z =>
          cases q <;> simp only [okEl, Bool.false_eq_true] at b4
          simp only [CV] at vx
          rw [vx.1]
          exact ⟨_, plainElem_int (isI64_iff b4) (mrng_wf vx.2), rfl, .inl ⟨z, rfl, vx.2, isI64_iff b4⟩⟩
        | bool b =>
          simp only [okEl] at b4
          simp only [CV] at vx
          rw [vx]
          exact ⟨_, plainElem_bool (isBl_iff b4) b, rfl, .inr ⟨b, rfl, isBl_iff b4⟩⟩
        | _ => simp only [okEl, Bool.false_eq_true] at b4
      obtain ⟨d, hd1, rfl, hkind⟩ := hel
      have K := int_keyed b3
      have tidy := e2.tidy K
      obtain ⟨w', hrun, o1, o2⟩ := e2.store K ht (show l.length < maxLen from by unfold maxLen; omega) hkey hd1
      have hgr := o2.grown
      have hsz : Maps.size (D.put (.int .i64 n) (avD (ev x))) = (mPut l n (ev x)).length := by
        rw [Maps.size_put tidy, e3.has n hn, e3.size]
        have := mDel_len n e3.nd
        unfold mPut
        cases hq : (mGet l n).isSome with
        | true => rw [hq] at this; simp only [cond_true] at this; simp; omega
        | false => rw [hq] at this; simp only [cond_false] at this; simp; omega
      have own2 : w'.ownsMap Tryd.prog kt (plainElem (H := Unit) Tryd.prog et) g (mPut l n (ev x)).length (D.put (.int .i64 n) (avD (ev x))) := by
        obtain ⟨es, clock, q1, q2, q3, q4⟩ := o1
        refine ⟨es, clock, q1, q2, ?_, q4⟩
        rw [← hsz, q4]
        simp [Maps.size, length_sorted]
      refine ⟨w', S, m, by simp [execOp, ho, vm, vk, hrun], ?_⟩
      have hSn : ∀ q, S g q = none := by
        intro q
        cases e : S g q with
        | none => rfl
        | some v =>
          have := (hR.agree _ _ _ e).1
          obtain ⟨es, clock, q1, _⟩ := e2
          simp [World.cell?, q1] at this
      refine hR.writeM hks hm hgr.os hgr.tape hgr.output ?_ ?_ hSn ⟨g, _, hm, own2, hsz, fun q hq => ?_, fun q y hq e z => ?_, mPut_nd e3.nd n _, fun q y e => ?_⟩
      · obtain ⟨es, clock, es', clock', _, rfl⟩ := o2
        simp [Go.ChangeMaps.setBlock]
      · obtain ⟨es, clock, es', clock', hb, rfl⟩ := o2
        intro i hi
        exact Go.ChangeMaps.heap_setBlock_other hb _ hi
      · rw [mGet_put]
        by_cases e : n = q
        · subst e
          rw [if_pos rfl, Maps.has_put_same e2.isMap (K.key hkey)]; rfl
        · rw [if_neg e, Maps.has_put_other (lit_ne (fun w => e w.symm)), e3.has q hq]
      · rw [mGet_put] at e
        by_cases e' : n = q
        · subst e'
          rw [if_pos rfl] at e
          have e := Option.some.inj e
          subst e
          exact Maps.atKey_put_same e2.isMap (K.key hkey) _ _
        · rw [if_neg e'] at e
          rw [Maps.atKey_put_other (lit_ne (fun w => e' w.symm))]
          exact e3.get q y hq e z
      · rw [mGet_put] at e
        by_cases e' : n = q
        · rw [if_pos e'] at e
          have e := Option.some.inj e
          subst e
          exact hkind
        · rw [if_neg e'] at e
          exact e3.kind q y e
    · exact H.elim
  · exact H.elim
theorem plainElem_bool_inv {H : Type} {P : Program} {e : TypeId} (he : P.underlying e = some .bool) {v : Value} {z : DataW H × List MemPlace} (h : plainElem P e v = some z) : ∃ b, v = .bool b ∧ z = (.lit (.bool b), []) := by
  unfold plainElem at h
  rw [he] at h
  cases v <;> simp at h
  subst h
  exact ⟨_, rfl, rfl⟩
def zerI (P : Program) (t : TypeId) : Bool := match P.info? t with
  | some i => (match i.zero with | some (.int .i64 z) => decide (z = 0) | _ => false)
  | none => false
def zerB (P : Program) (t : TypeId) : Bool := match P.info? t with
  | some i => (match i.zero with | some (.bool false) => true | _ => false)
  | none => false
theorem zerI_run {P : Program} {t : TypeId} (h : zerI P t = true) (w : World) : (zeroValue t).run P w = .ok (.int .i64 0) w := by
  unfold zerI at h
  split at h
  · rename_i i hi
    split at h
    · rename_i z hz
      have := of_decide_eq_true h
      subst this
      simp [zeroValue, typeInfo, hi, hz]
    · cases h
  · cases h
theorem zerB_run {P : Program} {t : TypeId} (h : zerB P t = true) (w : World) : (zeroValue t).run P w = .ok (.bool false) w := by
  unfold zerB at h
  split at h
  · rename_i i hi
    split at h
    · rename_i hz
      simp [zeroValue, typeInfo, hi, hz]
    · cases h
  · cases h
/-- What lies under a number. -/
theorem MapD.int {et : Nat} {D : DataW Unit} {l : List (Int × AV)} (h : MapD et D l) (he : Tryd.prog.underlying et = some (.int .i64)) {n : Int} (hn : rng .i64 n) : D.atKey (.int .i64 n) (.lit (.int .i64 0)) = .lit (.int .i64 (mInt l n)) ∧ rng .i64 (mInt l n) := by
  unfold mInt
  cases hq : mGet l n with
  | none =>
    have := h.has n hn
    rw [hq] at this
    exact ⟨Maps.atKey_of_not_has this _, by decide⟩
  | some x =>
    rcases h.kind n x hq with ⟨z, rfl, hz, _⟩ | ⟨b, rfl, hb⟩
    · exact ⟨h.get n _ hn hq _, hz⟩
    · rw [he] at hb; cases hb
theorem MapD.bool {et : Nat} {D : DataW Unit} {l : List (Int × AV)} (h : MapD et D l) (he : Tryd.prog.underlying et = some .bool) {n : Int} (hn : rng .i64 n) : D.atKey (.int .i64 n) (.lit (.bool false)) = .lit (.bool (mBool l n)) := by
  unfold mBool
  cases hq : mGet l n with
  | none =>
    have := h.has n hn
    rw [hq] at this
    exact Maps.atKey_of_not_has this _
  | some x =>
    rcases h.kind n x hq with ⟨z, rfl, hz, hb⟩ | ⟨b, rfl, _⟩
    · rw [he] at hb; cases hb
    · exact h.get n _ hn hq _
def tupK (ok : Bool) (v : AV) (l : List (Int × AV)) (n : Int) : AV := cond ok (.tup [v, .bool (mHas l n)]) v
def alkM (P : Program) (t : TypeId) (mv k : AV) (ok : Bool) (h : Nat → Option Blk) (K : AV → List Nat → Prop) : Prop :=
  match mv, k with
  | .mpv j, .int .i64 n => (match h j, P.underlying t with
    | some (.mp kt et l), some (.map kt' et') => cond (Nat.beq kt kt' && Nat.beq et et' && isI64 P kt) (cond (isI64 P et && zerI P et) (forceA (tupK ok (.int .i64 (mInt l n)) l n) fun r => K r [j]) (cond (isBl P et && zerB P et) (forceA (tupK ok (.bool (mBool l n)) l n) fun r => K r [j]) False)) False
    | _, _ => False)
  | _, _ => False
theorem alkM_sound {P : Program} (hP : P = Tryd.prog) {E : Env} {nt : Nat} {o : Oper} {t : TypeId} {mv k : Operand} {ok : Bool} {ev : Operand → AV} {h : Nat → Option Blk} {K : AV → List Nat → Prop} (ho : o.op = .lookup t mv k ok) (hd : dstOk nt o.dst = true)
    (H : alkM P t (ev mv) (ev k) ok h K) : ∃ r rd, K r rd ∧ Good P E nt o ev h r [] rd := by
  unfold alkM at H
  split at H
  · rename_i j n hj hk
    split at H
    · rename_i kt et l kt' et' hl ht
      obtain ⟨hb, H0⟩ := cond_F H
      simp only [Bool.and_eq_true] at hb
      obtain ⟨⟨b1, b2⟩, b3⟩ := hb
      have b1 := Nat.eq_of_beq_eq_true b1
      have b2 := Nat.eq_of_beq_eq_true b2
      subst b1; subst b2
      have b3 := isI64_iff b3
      have go : ∀ (v : AV), (∀ (w : World) (S : Pin) (m : Nm) (D : DataW Unit) (g : Nat), rng .i64 n → w.ownsMap P kt (plainElem (H := Unit) P et) g l.length D → MapD et D l →
          (∃ u, (Instr.lookup t (.map (some g)) (.int .i64 n) false).run P w = .ok u w ∧ CV S v m u) ∧ (∃ u, (Instr.lookup t (.map (some g)) (.int .i64 n) true).run P w = .ok (.tuple #[u, .bool (Maps.has D (.int .i64 n))]) w ∧ CV S v m u)) → K (tupK ok v l n) [j] → ∃ r rd, K r rd ∧ Good P E nt o ev h r [] rd := by
        intro v hv hK
        refine ⟨_, _, hK, good_value hd fun G kp st a w S m hG hR he hrd hf => ?_⟩
        have vm := he mv (by rw [ho]; simp [Op.operands])
        have vk := he k (by rw [ho]; simp [Op.operands])
        rw [hj] at vm
        rw [hk] at vk
        simp only [CV] at vm vk
        obtain ⟨g, hm, vm⟩ := vm
        obtain ⟨vk, hn⟩ := vk
        have hks : lk st.heap j = some (.mp kt et l) := by rw [hrd j (by simp)]; exact hl
        obtain ⟨g', D, e1, e2, e3⟩ := hR.held j _ hks
        rw [← hP] at e2
        rw [hm] at e1
        have e1 := Option.some.inj (Value.map.inj (Option.some.inj e1))
        subst e1
        obtain ⟨⟨u, r1, c1⟩, ⟨u2, r2, c2⟩⟩ := hv w S m D g hn e2 e3
        cases ok with
        | false => exact ⟨u, w, S, m, by simp [execOp, ho, vm, vk, r1], hR, c1⟩
        | true =>
          refine ⟨.tuple #[u2, .bool (Maps.has D (.int .i64 n))], w, S, m, by simp [execOp, ho, vm, vk, r2], hR, ?_⟩
          simp only [tupK, cond_true, CV]
          refine ⟨_, rfl, ?_⟩
          simp only [CVl]
          exact ⟨u2, _, rfl, c2, _, [], rfl, by simp only [CV]; rw [e3.has n hn]; rfl, rfl⟩
      cases hi : (isI64 P et && zerI P et) with
      | true =>
        rw [hi] at H0
        simp only [cond_true, forceA_eq] at H0
        simp only [Bool.and_eq_true] at hi
        have hu := isI64_iff hi.1
        refine go _ (fun w S m D g hn e2 e3 => ?_) H0
        have hkey := keyOf_int_mk b3 (mrng_wf hn)
        have hz := zerI_run hi.2 w
        have hzd := plainElem_int (H := Unit) hu (a := 0) (by decide)
        obtain ⟨q1, q2⟩ := e3.int (hP ▸ hu) hn
        refine ⟨?_, ?_⟩
        · obtain ⟨v, ps, r1, r2⟩ := e2.lookup (int_keyed b3) ht hz hzd hkey
          obtain ⟨c, rfl, hc, _⟩ := plainElem_int_inv hu r2
          rw [q1] at hc
          simp only [Prod.mk.injEq, DataW.lit.injEq, Lit.int.injEq, true_and] at hc
          exact ⟨_, r1, by simp only [CV]; exact ⟨by rw [hc.1], q2⟩⟩
        · obtain ⟨v, ps, r1, r2⟩ := e2.look_ok (int_keyed b3) ht hz hzd hkey
          obtain ⟨c, rfl, hc, _⟩ := plainElem_int_inv hu r2
          rw [q1] at hc
          simp only [Prod.mk.injEq, DataW.lit.injEq, Lit.int.injEq, true_and] at hc
          exact ⟨_, r1, by simp only [CV]; exact ⟨by rw [hc.1], q2⟩⟩
      | false =>
        rw [hi] at H0
        simp only [cond_false] at H0
        obtain ⟨hbb, H1⟩ := cond_F H0
        simp only [forceA_eq] at H1
        simp only [Bool.and_eq_true] at hbb
        have hu := isBl_iff hbb.1
        refine go _ (fun w S m D g hn e2 e3 => ?_) H1
        have hkey := keyOf_int_mk b3 (mrng_wf hn)
        have hz := zerB_run hbb.2 w
        have hzd := plainElem_bool (H := Unit) hu false
        have q1 := e3.bool (hP ▸ hu) hn
        refine ⟨?_, ?_⟩
        · obtain ⟨v, ps, r1, r2⟩ := e2.lookup (int_keyed b3) ht hz hzd hkey
          obtain ⟨c, rfl, hc⟩ := plainElem_bool_inv hu r2
          rw [q1] at hc
          simp only [Prod.mk.injEq, DataW.lit.injEq, Lit.bool.injEq] at hc
          exact ⟨_, r1, by simp only [CV]; rw [hc.1]⟩
        · obtain ⟨v, ps, r1, r2⟩ := e2.look_ok (int_keyed b3) ht hz hzd hkey
          obtain ⟨c, rfl, hc⟩ := plainElem_bool_inv hu r2
          rw [q1] at hc
          simp only [Prod.mk.injEq, DataW.lit.injEq, Lit.bool.injEq] at hc
          exact ⟨_, r1, by simp only [CV]; rw [hc.1]⟩
    · exact H.elim
  · exact H.elim
/-- len of a map. -/
def alenM (P : Program) (ts : List TypeId) (xs : List AV) (h : Nat → Option Blk) (K : AV → List Nat → Prop) : Prop :=
  match ts, xs with
  | [t], [.mpv j] => (match h j, P.underlying t with
    | some (.mp kt et l), some (.map kt' et') => cond (Nat.beq kt kt' && Nat.beq et et') (chk (l.length ≤ 9223372036854775807) (K (.int .i64 l.length) [j])) False
    | _, _ => False)
  | _, _ => False
theorem alenM_sound {P : Program} (hP : P = Tryd.prog) {E : Env} {nt : Nat} {o : Oper} {c : Call} {ev : Operand → AV} {h : Nat → Option Blk} {K : AV → List Nat → Prop} (ho : o.op = .call c) (hc : c.callee = .builtin .len) (hd : dstOk nt o.dst = true)
    (H : alenM P c.argTypes.toList (c.args.toList.map ev) h K) : ∃ r rd, K r rd ∧ Good P E nt o ev h r [] rd := by
  unfold alenM at H
  split at H
  · rename_i t j hts hxs
    split at H
    · rename_i kt et l kt' et' hl ht
      obtain ⟨hb, H0⟩ := cond_F H
      simp only [Bool.and_eq_true] at hb
      obtain ⟨b1, b2⟩ := hb
      have b1 := Nat.eq_of_beq_eq_true b1
      have b2 := Nat.eq_of_beq_eq_true b2
      subst b1; subst b2
      obtain ⟨hlen, H1⟩ := chk_iff.1 H0
      obtain ⟨ox, hargs, hox⟩ : ∃ ox, c.args.toList = [ox] ∧ ev ox = .mpv j := by
        cases hq : c.args.toList with
        | nil => rw [hq] at hxs; simp at hxs
        | cons p l =>
          cases l with
          | nil => rw [hq] at hxs; simp at hxs; exact ⟨p, rfl, hxs⟩
          | cons q l => rw [hq] at hxs; simp at hxs
      have hargsA : c.args = #[ox] := by rw [← Array.toArray_toList (xs := c.args), hargs]
      have htsA : c.argTypes = #[t] := by rw [← Array.toArray_toList (xs := c.argTypes), hts]
      refine ⟨_, _, H1, good_value hd fun G kp st a w S m hG hR he hrd hf => ?_⟩
      have vm := he ox (by rw [ho]; simp [Op.operands, Call.operands, hc, hargsA])
      rw [hox] at vm
      simp only [CV] at vm
      obtain ⟨g, hm, vm⟩ := vm
      have hks : lk st.heap j = some (.mp kt et l) := by rw [hrd j (by simp)]; exact hl
      obtain ⟨g', D, e1, e2, e3⟩ := hR.held j _ hks
      rw [← hP] at e2
      rw [hm] at e1
      have e1 := Option.some.inj (Value.map.inj (Option.some.inj e1))
      subst e1
      have hrun := e2.len ht o.type
      rw [e3.size] at hrun
      exact ⟨.int .i64 l.length, w, S, m, by simp [execOp, ho, resolve, hc, invoke, builtin, hargsA, htsA, vm, hrun], hR, by simp only [CV]; exact ⟨trivial, by show _ ∧ _; omega⟩⟩
    · exact H.elim
  · exact H.elim
end Go.Proofs.YthdfkiopppkfcaaDoor
