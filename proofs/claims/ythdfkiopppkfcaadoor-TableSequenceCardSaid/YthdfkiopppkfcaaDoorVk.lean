/- One operation, whichever it is; the operations of a region in the order of the text. -/
import Derived.Test.YthdfkiopppkfcaaDoorVj
import Derived.Lib.SliceRun
namespace Go.Proofs.YthdfkiopppkfcaaDoor
open Go
open Go.RowKit (Below)
set_option linter.unusedVariables false
set_option linter.unusedSimpArgs false

/-- What is fixed in a function: the number from which its names count, the names that came in, its slots, the types that may be compared. -/
structure Cx where
  fr : Nat := 0
  kp : List Nat := []
  nt : Nat
  tys : List TypeId := []
  frz : Nat → List Nat := fun _ => []
  emp : Nat → List (Nat × Nat × Nat × Nat) := fun _ => []
  drop : Nat → Nat := fun _ => 0
  own : Bool := false
  spl : Nat → List (Nat × List Int) := fun _ => []

def isSl (P : Program) (t : TypeId) : Bool := match P.underlying t with | some (.slice _) => true | _ => false
def isMap (P : Program) : List TypeId → Bool
  | [t] => (match P.underlying t with | some (.map _ _) => true | _ => false)
  | _ => false
/-- A struct that is built of rows known for good (its type in the list): without their names. -/
def stB : List Nat → Nat → AV → (AV → Prop) → Prop
  | [], _, r, k => k r
  | p :: l, t, r, k => cond (Nat.beq p t) (strip r k) (stB l t r k)
theorem stB_sound : ∀ (l : List Nat) (t : Nat) (r : AV) (k : AV → Prop), stB l t r k → ∃ y, k y ∧ ∀ S m v, CV S r m v → CV S y m v
  | [], t, r, k, h => ⟨r, h, fun S m v hv => hv⟩
  | p :: l, t, r, k, h => by
    simp only [stB] at h
    cases hb : Nat.beq p t with
    | true =>
      rw [hb] at h
      obtain ⟨y, h1, h2⟩ := strip_sound _ _ h
      exact ⟨y, h1, fun S m v hv => (h2 S m v hv).ext (Ext.refl S) (MLe.no m)⟩
    | false => rw [hb] at h; exact stB_sound l t r k h
def astep (P : Program) (E : Env) (C : Cx) (wf : Bool) (o : Oper) (st : St) (K : AV → List (Nat × Blk) → List Nat → Prop) : Prop :=
  cond (dstOk C.nt o.dst) (match o.op with
    | .load t x => aload P E o.dst t (evO E st x) (lk st.heap) K
    | .store t x v => (match o.dst with | none => forceA (evO E st v) fun v => astore P t (evO E st x) v (lk st.heap) (fun u rd => K .undef u rd) | some _ => False)
    | .alloc t => (match o.dst with | some d => cond (fresh C.kp st (Nat.add C.fr d)) (aalloc P (Nat.add C.fr d) t K) False | none => False)
    | .box t x => (match o.dst with | some d => cond (fresh C.kp st (Nat.add C.fr d)) (forceA (evO E st x) fun x => abox (Nat.add C.fr d) x K) False | none => False)
    | .buildSlice t len parts => (match o.dst with | some d => cond (fresh C.kp st (Nat.add C.fr d)) (abuildS P (Nat.add C.fr d) t len (parts.toList.map fun p => (p.1, evO E st p.2)) K) False | none => False)
    | .makeSlice t l c => (match o.dst with | some d => cond (fresh C.kp st (Nat.add C.fr d)) (amakeS P (Nat.add C.fr d) t (evO E st l) (evO E st c) K) False | none => False)
    | .convert t1 t2 x => cond (isSl P t1 && Nat.beq t1 t2) (as2s P t1 t2 (evO E st x) (lk st.heap) K) (cond (isSl P t1) (ab2s P t1 t2 (lk st.heap) (match o.dst with | some d => inT d E.shape | none => false) (evO E st x) fun r rd => K r [] rd) (cond (isSl P t2) (match o.dst with | some d => cond (fresh C.kp st (Nat.add C.fr d)) (as2b P (Nat.add C.fr d) t1 t2 (evO E st x) K) False | none => False) (apure P E C.tys (.convert t1 t2 x) (evO E st) fun r => K r [] [])))
    | .makeMap t none => (match o.dst with | some d => cond (fresh C.kp st (Nat.add C.fr d)) (amkM P (Nat.add C.fr d) t K) False | none => False)
    | .mapUpdate t mv k x => (match o.dst with | none => forceA (evO E st x) fun x => aupM P t (evO E st mv) (evO E st k) x (lk st.heap) (fun u rd => K .undef u rd) | some _ => False)
    | .lookup t mv k ok => alkM P t (evO E st mv) (evO E st k) ok (lk st.heap) fun r rd => K r [] rd
    | .index t x i => cond (match o.dst with | some d => inT d E.shape | none => false) (aixS P E o.dst t (evO E st x) (evO E st i) fun r => K r [] []) (apure P E C.tys (.index t x i) (evO E st) fun r => K r [] [])
    | .call c => (match c.callee with
      | .value _ => acall (wf && !E.nowf) E C.kp st (Nat.add C.fr (match o.dst with | some d => d | none => C.nt)) c (evO E st) K
      | .builtin .append => (match o.dst with | some d => aapp P C.kp st (Nat.add C.fr d) c.argTypes.toList (c.args.toList.map (evO E st)) (lk st.heap) K | none => False)
      | .builtin .copy => acopy P c.argTypes.toList (c.args.toList.map (evO E st)) (lk st.heap) K
      | .builtin .len => cond (isMap P c.argTypes.toList) (alenM P c.argTypes.toList (c.args.toList.map (evO E st)) (lk st.heap) fun r rd => K r [] rd) (apure P E C.tys (.call c) (evO E st) fun r => K r [] [])
      | _ => apure P E C.tys (.call c) (evO E st) fun r => K r [] [])
    | .build t parts => apure P E C.tys (.build t parts) (evO E st) fun r => stB E.bst t r fun r => K r [] []
    | op => apure P E C.tys op (evO E st) fun r => K r [] []) False
theorem good_of_pg {P : Program} {E : Env} {nt : Nat} {o : Oper} {ev : Operand → AV} {h : Nat → Option Blk} {r : AV} (hd : dstOk nt o.dst = true) (H : PG P o ev r) : Good P E nt o ev h r [] [] :=
  good_pure hd H
theorem astep_sound {P : Program} {E : Env} {C : Cx} {wf : Bool} (hT : TyOK P C.tys) (hS : SpecOK P E) {o : Oper} {st : St} {K : AV → List (Nat × Blk) → List Nat → Prop} (H : astep P E C wf o st K) :
    ∃ r u rd, ((wf = true → wfA r) → K r u rd) ∧ Good P E C.nt o (evO E st) (lk st.heap) r u rd ∧ ∀ p ∈ u, p.1 ∉ rd → fresh C.kp st p.1 = true := by
  unfold astep at H
  obtain ⟨hd, H⟩ := cond_F H
  have pure : ∀ op, o.op = op → apure P E C.tys op (evO E st) (fun r => K r [] []) → ∃ r u rd, ((wf = true → wfA r) → K r u rd) ∧ Good P E C.nt o (evO E st) (lk st.heap) r u rd ∧ ∀ p ∈ u, p.1 ∉ rd → fresh C.kp st p.1 = true := by
    intro op ho h
    rw [← ho] at h
    obtain ⟨r, h1, h2⟩ := apure_sound hT h
    exact ⟨r, [], [], fun _ => h1, good_of_pg hd h2, by simp⟩
  split at H
  · rename_i t x ho
    obtain ⟨r, rd, h1, h2⟩ := aload_sound (nt := C.nt) ho hd H
    exact ⟨r, [], rd, fun _ => h1, h2, by simp⟩
  · rename_i t x v ho
    split at H
    · rename_i hdn
      rw [forceA_eq] at H
      obtain ⟨u, rd, h1, h3, h2⟩ := astore_sound (E := E) (nt := C.nt) ho hdn H
      exact ⟨.undef, u, rd, fun _ => h1, h2, fun p hp hn => absurd (h3 p hp) hn⟩
    · exact H.elim
  · rename_i t ho
    split at H
    · rename_i d hdd
      obtain ⟨hf, H⟩ := cond_F H
      obtain ⟨r, b, h1, h2⟩ := aalloc_sound (E := E) (nt := C.nt) ho hd H
      exact ⟨r, _, _, fun _ => h1, h2, fun p hp _ => by simp at hp; subst hp; exact hf⟩
    · exact H.elim
  · rename_i t x ho
    split at H
    · rename_i d hdd
      obtain ⟨hf, H⟩ := cond_F H
      rw [forceA_eq] at H
      obtain ⟨r, b, h1, h2⟩ := abox_sound (E := E) (nt := C.nt) ho hd H
      exact ⟨r, _, _, fun _ => h1, h2, fun p hp _ => by simp at hp; subst hp; exact hf⟩
    · exact H.elim
  · rename_i t len parts ho
    split at H
    · rename_i d hdd
      obtain ⟨hf, H⟩ := cond_F H
      obtain ⟨r, b, h1, h2⟩ := abuildS_sound (E := E) (nt := C.nt) ho hd H
      exact ⟨r, _, _, fun _ => h1, h2, fun p hp _ => by simp at hp; subst hp; exact hf⟩
    · exact H.elim
  · rename_i t l c ho
    split at H
    · rename_i d hdd
      obtain ⟨hf, H⟩ := cond_F H
      obtain ⟨r, b, h1, h2⟩ := amakeS_sound (E := E) (nt := C.nt) ho hd H
      exact ⟨r, _, _, fun _ => h1, h2, fun p hp _ => by simp at hp; subst hp; exact hf⟩
    · exact H.elim
  · rename_i t1 t2 x ho
    cases hss : (isSl P t1 && Nat.beq t1 t2) with
    | true =>
    rw [hss] at H
    simp only [cond_true] at H
    obtain ⟨r, u, rd, h1, h3, h2⟩ := as2s_sound (E := E) (nt := C.nt) ho hd H
    exact ⟨r, u, rd, fun _ => h1, h2, fun p hp hn => absurd (h3 p hp) hn⟩
    | false =>
    rw [hss] at H
    simp only [cond_false] at H
    cases hsl : isSl P t1 with
    | true =>
      rw [hsl] at H
      simp only [cond_true] at H
      obtain ⟨r, rd, h1, h2⟩ := ab2s_sound (E := E) (nt := C.nt) ho hd H
      exact ⟨r, [], rd, fun _ => h1, h2, by simp⟩
    | false =>
      rw [hsl] at H
      simp only [cond_false] at H
      cases hsl2 : isSl P t2 with
      | true =>
        rw [hsl2] at H
        simp only [cond_true] at H
        split at H
        · rename_i d hdd
          obtain ⟨hf, H⟩ := cond_F H
          obtain ⟨r, b, h1, h2⟩ := as2b_sound (E := E) (nt := C.nt) ho hd H
          exact ⟨r, _, _, fun _ => h1, h2, fun p hp _ => by simp at hp; subst hp; exact hf⟩
        · exact H.elim
      | false =>
        rw [hsl2] at H
        simp only [cond_false] at H
        exact pure _ ho H
  · rename_i t ho
    split at H
    · rename_i d hdd
      obtain ⟨hf, H⟩ := cond_F H
      obtain ⟨r, b, h1, h2⟩ := amkM_sound (E := E) (nt := C.nt) ho hd H
      exact ⟨r, _, _, fun _ => h1, h2, fun p hp _ => by simp at hp; subst hp; exact hf⟩
    · exact H.elim
  · rename_i t mv k x ho
    split at H
    · rename_i hdn
      rw [forceA_eq] at H
      obtain ⟨u, rd, h1, h3, h2⟩ := aupM_sound hS.2.2.2.2 (E := E) (nt := C.nt) ho hdn H
      exact ⟨.undef, u, rd, fun _ => h1, h2, fun p hp hn => absurd (h3 p hp) hn⟩
    · exact H.elim
  · rename_i t mv k ok ho
    obtain ⟨r, rd, h1, h2⟩ := alkM_sound hS.2.2.2.2 (E := E) (nt := C.nt) ho hd H
    exact ⟨r, [], rd, fun _ => h1, h2, by simp⟩
  · rename_i t x i ho
    cases hsh : (match o.dst with | some d => inT d E.shape | none => false) with
    | true =>
      rw [hsh] at H
      simp only [cond_true] at H
      obtain ⟨r, h1, h2⟩ := aixS_sound ho H
      exact ⟨r, [], [], fun _ => h1, good_of_pg hd h2, by simp⟩
    | false =>
      rw [hsh] at H
      simp only [cond_false] at H
      exact pure _ ho H
  · rename_i c ho
    split at H
    · obtain ⟨r, u, rd, h1, h2⟩ := acall_sound (nt := C.nt) hS ho hd H
      refine ⟨r, u, rd, fun hw => h1 (fun hq => ?_), h2⟩
      simp only [Bool.and_eq_true] at hq
      exact hw hq.1
    · rename_i hc
      split at H
      · obtain ⟨r, u, rd, h1, h2, h3⟩ := aapp_sound (E := E) (nt := C.nt) ho hc hd H
        exact ⟨r, u, rd, fun _ => h1, h3, h2⟩
      · exact H.elim
    · rename_i hc
      obtain ⟨r, u, rd, h1, h2, h3⟩ := acopy_sound (E := E) (nt := C.nt) ho hc hd H
      exact ⟨r, u, rd, fun _ => h1, h3, h2⟩
    · rename_i hc
      cases hm : isMap P c.argTypes.toList with
      | true =>
        rw [hm] at H
        simp only [cond_true] at H
        obtain ⟨r, rd, h1, h2⟩ := alenM_sound hS.2.2.2.2 (E := E) (nt := C.nt) ho hc hd H
        exact ⟨r, [], rd, fun _ => h1, h2, by simp⟩
      | false =>
        rw [hm] at H
        simp only [cond_false] at H
        exact pure _ ho H
    · exact pure _ ho H
  · rename_i t parts ho
    rw [← ho] at H
    obtain ⟨r, h1, h2⟩ := apure_sound hT H
    obtain ⟨y, h3, h4⟩ := stB_sound _ _ _ _ h1
    refine ⟨y, [], [], fun _ => h3, good_of_pg hd (fun a w S m hv => ?_), by simp⟩
    obtain ⟨v, q1, q2⟩ := h2 a w S m hv
    exact ⟨v, q1, h4 S m v q2⟩
  · exact pure _ rfl H

def blksK : List (Nat × Blk) → List (Nat × Blk) → (List (Nat × Blk) → Prop) → Prop
  | h, [], k => k h
  | h, (i, b) :: u, k => insK h i b fun h' => blksK h' u k
theorem blksK_eq : ∀ (u : List (Nat × Blk)) (st : St) (k : List (Nat × Blk) → Prop), blksK st.heap u k = k (st.blks u).heap
  | [], st, k => rfl
  | (i, b) :: u, st, k => by
    simp only [blksK, St.blks]
    rw [insK_ins]
    exact blksK_eq u (st.blk i b) k
theorem blks_tmps : ∀ (u : List (Nat × Blk)) (st : St), (st.blks u).tmps = st.tmps
  | [], _ => rfl
  | (i, b) :: u, st => by simp only [St.blks]; rw [blks_tmps u]; rfl
def updK (st : St) (d : Option Nat) (r : AV) (u : List (Nat × Blk)) (k : St → Prop) : Prop :=
  match st with
  | ⟨tm, hp⟩ => blksK hp u fun h => match d with
    | some t => forceA r fun r => insK tm t r fun l => k ⟨l, h⟩
    | none => k ⟨tm, h⟩
theorem updK_eq (st : St) (d : Option Nat) (r : AV) (u : List (Nat × Blk)) (k : St → Prop) : updK st d r u k = k (st.upd d r u) := by
  unfold updK St.upd
  obtain ⟨tm, hp⟩ := st
  have hb := fun k => blksK_eq u ⟨tm, hp⟩ k
  simp only at hb ⊢
  rw [hb]
  have ht := blks_tmps u ⟨tm, hp⟩
  simp only at ht
  generalize St.blks ⟨tm, hp⟩ u = q at ht ⊢
  obtain ⟨qt, qh⟩ := q
  simp only at ht
  subst ht
  cases d with
  | none => rfl
  | some t => simp only [St.put, forceA_eq]; rw [insK_ins]

/-- A bool slot that is known now. -/
def known (st : St) (t : Nat) (b : Bool) (k : St → Prop) : Prop := match st with | ⟨tm, hp⟩ => insK tm t (.bool b) fun l => k ⟨l, hp⟩
/-! Numbers worked out at once: for code that runs on numbers that are known. -/
def forceNt (n : Nat) (k : Nat → Prop) : Prop := match n with | 0 => k 0 | m + 1 => k (Nat.succ m)
theorem forceNt_eq (n : Nat) (k : Nat → Prop) : forceNt n k = k n := by cases n <;> rfl
def forceI (n : Int) (k : Int → Prop) : Prop := match n with | .ofNat m => forceNt m fun m => k (.ofNat m) | .negSucc m => forceNt m fun m => k (.negSucc m)
theorem forceI_eq (n : Int) (k : Int → Prop) : forceI n k = k n := by cases n <;> simp only [forceI, forceNt_eq]
mutual
def forceD : AV → (AV → Prop) → Prop
  | .int k n, c => forceI n fun n => c (.int k n)
  | .bool b, c => cond b (c (.bool true)) (c (.bool false))
  | .ptr k o, c => forceNt o fun o => c (.ptr k o)
  | .agg cs, c => forceDL cs fun cs => c (.agg cs)
  | .tup cs, c => forceDL cs fun cs => c (.tup cs)
  | .str s, c => c (.str s)
  | .sl s f xs, c => c (.sl s f xs)
  | .nils, c => c .nils
  | .ro cs, c => c (.ro cs)
  | .nilp, c => c .nilp
  | .fn f cs, c => c (.fn f cs)
  | .acc k s xs, c => c (.acc k s xs)
  | .ms k o n d s, c => c (.ms k o n d s)
  | .rw k s n, c => c (.rw k s n)
  | .mw k s q o n d, c => c (.mw k s q o n d)
  | .prw k s q j o, c => c (.prw k s q j o)
  | .frz k s n xs, c => c (.frz k s n xs)
  | .mpv k, c => c (.mpv k)
  | .undef, c => c .undef
  | .dead, c => c .dead
def forceDL : List AV → (List AV → Prop) → Prop
  | [], c => c []
  | x :: xs, c => forceD x fun x => forceDL xs fun xs => c (x :: xs)
end
mutual
theorem forceD_eq : ∀ (x : AV) (c : AV → Prop), forceD x c = c x
  | .int k n, c => by simp only [forceD, forceI_eq]
  | .bool b, c => by cases b <;> simp only [forceD, cond_true, cond_false]
  | .ptr k o, c => by simp only [forceD, forceNt_eq]
  | .agg cs, c => by simp only [forceD]; exact forceDL_eq cs _
  | .tup cs, c => by simp only [forceD]; exact forceDL_eq cs _
  | .str s, c => by simp only [forceD]
  | .sl s f xs, c => by simp only [forceD]
  | .nils, c => by simp only [forceD]
  | .ro cs, c => by simp only [forceD]
  | .nilp, c => by simp only [forceD]
  | .fn f cs, c => by simp only [forceD]
  | .acc k s xs, c => by simp only [forceD]
  | .ms k o n d s, c => by simp only [forceD]
  | .rw k s n, c => by simp only [forceD]
  | .mw k s q o n d, c => by simp only [forceD]
  | .prw k s q j o, c => by simp only [forceD]
  | .frz k s n xs, c => by simp only [forceD]
  | .mpv k, c => by simp only [forceD]
  | .undef, c => by simp only [forceD]
  | .dead, c => by simp only [forceD]
theorem forceDL_eq : ∀ (xs : List AV) (c : List AV → Prop), forceDL xs c = c xs
  | [], c => by simp only [forceDL]
  | x :: xs, c => by simp only [forceDL]; rw [forceD_eq x]; exact forceDL_eq xs _
end
def isMove : Op → Bool
  | .move _ => true
  | .assign _ => true
  | .call _ => true
  | _ => false
def forceE (e : Bool) (o : Op) (x : AV) (c : AV → Prop) : Prop := cond (e && !isMove o) (forceD x c) (c x)
theorem forceE_eq (e : Bool) (o : Op) (x : AV) (c : AV → Prop) : forceE e o x c = c x := by
  unfold forceE
  cases (e && !isMove o) with
  | true => exact forceD_eq x c
  | false => rfl
def forceT {β : Type} : List (Nat × AV) → (List (Nat × AV) → Prop) → Prop
  | [], k => k []
  | (t, y) :: l, k => forceA y fun y => forceT (β := β) l fun l => k ((t, y) :: l)
theorem forceT_eq {β : Type} : ∀ (l : List (Nat × AV)) (k : List (Nat × AV) → Prop), forceT (β := β) l k = k l
  | [], k => rfl
  | (t, y) :: l, k => by simp only [forceT, forceA_eq]; exact forceT_eq l _
def forceB : Blk → (Blk → Prop) → Prop
  | .cells cs, k => k (.cells cs)
  | .tok e s n, k => k (.tok e s n)
  | .row e s xs, k => fcL (Nat.ble 2000000 e) xs fun xs => k (.row e s xs)
  | .mp a b l, k => k (.mp a b l)
  | .gone, k => k .gone
theorem forceB_eq (b : Blk) (k : Blk → Prop) : forceB b k = k b := by cases b <;> simp only [forceB, fcL_eq]
def forceH {β : Type} : List (Nat × Blk) → (List (Nat × Blk) → Prop) → Prop
  | [], k => k []
  | (t, y) :: l, k => forceB y fun y => forceH (β := β) l fun l => k ((t, y) :: l)
theorem forceH_eq {β : Type} : ∀ (l : List (Nat × Blk)) (k : List (Nat × Blk) → Prop), forceH (β := β) l k = k l
  | [], k => rfl
  | (t, y) :: l, k => by simp only [forceH, forceB_eq]; exact forceH_eq l _
def forceS (st : St) (k : St → Prop) : Prop := match st with | ⟨tm, hp⟩ => forceT (β := Unit) tm fun tm => forceH (β := Unit) hp fun hp => k ⟨tm, hp⟩
theorem forceS_eq (st : St) (k : St → Prop) : forceS st k = k st := by unfold forceS; obtain ⟨tm, hp⟩ := st; simp only; rw [forceT_eq, forceH_eq]
def isRowB : Option Blk → Bool
  | some (.row _ _ _) => true
  | _ => false
def frzN (kp : List Nat) : List Nat → St → (St → Prop) → Prop
  | [], st, K => K st
  | k :: l, st, K => cond (Nat.ble 2000000 k) (closeK st (Nat.sub k 2000000) fun st => frzN kp l st K) (cond (isRowB (lk st.heap k)) (closeK st k fun st => frzK kp st k fun st' => forceS st' fun st' => frzN kp l st' K) (frzN kp l st K))
theorem frzN_sound {G : Gh} {kp : List Nat} {a : Act} {w : World} : ∀ (l : List Nat) (st : St) (S : Pin) (m : Nm) (K : St → Prop), frzN kp l st K → Rel G kp st a w S m → ∃ st' S' m', K st' ∧ Rel G kp st' a w S' m'
  | [], st, S, m, K, H, h => ⟨st, S, m, H, h⟩
  | k :: l, st, S, m, K, H, h => by
    simp only [frzN] at H
    cases hc : Nat.ble 2000000 k with
    | true =>
      rw [hc] at H
      simp only [cond_true] at H
      obtain ⟨st0, H0, h0⟩ := closeK_sound h H
      exact frzN_sound l st0 S m K H0 h0
    | false =>
    rw [hc] at H
    simp only [cond_false] at H
    cases hb : isRowB (lk st.heap k) with
    | true =>
      rw [hb] at H
      simp only [cond_true] at H
      obtain ⟨st0, H0, h0⟩ := closeK_sound h H
      obtain ⟨st', S', m', h1, h2⟩ := frzK_sound h0 H0
      rw [forceS_eq] at h1
      exact frzN_sound l st' S' m' K h1 h2
    | false =>
      rw [hb] at H
      simp only [cond_false] at H
      exact frzN_sound l st S m K H h
/-- Own rows that are handed to a function of values: known for good from the call on. -/
def rws0 : List AV → List Nat
  | [] => []
  | .rw k _ _ :: l => k :: rws0 l
  | _ :: l => rws0 l
def preN (E : Env) (st : St) (o : Oper) : List Nat := match o.op with
  | .build t parts => cond (inT t E.bst) (rws0 (parts.toList.map fun p => evO E st p.2)) []
  | .call c => (match c.callee with
    | .value f => (match evO E st f with
      | .fn g _ => (match E.spec g with | some _ => rws0 (c.args.toList.map (evO E st)) | none => [])
      | _ => [])
    | _ => [])
  | _ => []
/-- A list of values compared with nil: both may be, but a nil has no elements. -/
def nilq (P : Program) (E : Env) (st : St) (o : Oper) : Option (List (List AV)) := cond E.nq (match o.op with
  | .binOp .eql t x y _ => (match P.underlying t, evO E st x, evO E st y with
    | some (.slice _), .sl _ _ xs, .nils => some xs
    | _, _, _ => none)
  | _ => none) none
theorem nilq_off {P : Program} {E : Env} (h : E.nq = false) (st : St) (o : Oper) : nilq P E st o = none := by
  unfold nilq; rw [h]; rfl
theorem nilq_sound {P : Program} {E : Env} {st : St} {o : Oper} {xs : List (List AV)} (h : nilq P E st o = some xs) {G : Gh} {kp : List Nat} {a : Act} {w : World} {S : Pin} {m : Nm} (hG : GOK E G.S0) (hR : Rel G kp st a w S m) :
    ∃ b : Bool, (execOp a.eval o).run P w = .ok (.value (.bool b)) w ∧ (b = true → xs = []) := by
  unfold nilq at h
  cases hq : E.nq with
  | false => rw [hq] at h; cases h
  | true =>
    rw [hq] at h
    simp only [cond_true] at h
    split at h
    · rename_i t x y yt ho
      split at h
      · rename_i e s f ys hu hx hy
        simp only [Option.some.injEq] at h
        subst h
        have cx := evO_cv (E := E) hG hR x
        have cy := evO_cv (E := E) hG hR y
        rw [hx] at cx
        rw [hy] at cy
        simp only [CV] at cx cy
        obtain ⟨A, c, ex, h1, h2, h3, h4, h5⟩ := cx
        refine ⟨A.isNone, ?_, fun hb => ?_⟩
        · have e1 : (binOp .eql t (a.eval x) (a.eval y)).run P w = .ok (.bool A.isNone) w := by
            rw [ex, cy]; exact Lib.run_eql_slice_nil w t e A ys.length c 0 0 hu
          have e2 : (eqGuard .eql t x y (a.eval x) (a.eval y)).run P w = .ok () w := by
            rw [ex, cy]; rfl
          simp [execOp, ho, e1, e2]
        · have : A = none := by cases A <;> first | rfl | cases hb
          have := h4 this
          exact List.eq_nil_of_length_eq_zero (by omega)
      · cases h
    · cases h
def arun (P : Program) (E : Env) (C : Cx) (ops : Array Oper) : List Oper → St → (St → Prop) → Prop
  | [], st, k => k st
  | o :: rest, st, k => match o.guard with
    | none => match nilq P E st o with
      | some xs => cond (dstOk C.nt o.dst) ((xs = [] → updK st o.dst (.bool true) [] fun st' => arun P E C ops rest st' k) ∧ updK st o.dst (.bool false) [] fun st' => arun P E C ops rest st' k) False
      | none => frzN C.kp (preN E st o) st fun st => astep P E C true o st fun r u _ => forceE E.eager o.op r fun r => updK st o.dst r u fun st' => arun P E C ops rest st' k
    | some (j, want) => (match (ops[j]?).bind (·.dst) with
      | some t => (match st.get t with
        | .bool c => cond c
            (known st t true fun st => cond want (astep P E C true o st fun r u _ => forceE E.eager o.op r fun r => updK st o.dst r u fun st' => arun P E C ops rest st' k) (cond (dstOk C.nt o.dst) (updK st o.dst .undef [] fun st' => arun P E C ops rest st' k) False))
            (known st t false fun st => cond want (cond (dstOk C.nt o.dst) (updK st o.dst .undef [] fun st' => arun P E C ops rest st' k) False) (astep P E C true o st fun r u _ => forceE E.eager o.op r fun r => updK st o.dst r u fun st' => arun P E C ops rest st' k))
        | .undef => cond (dstOk C.nt o.dst) (updK st o.dst .undef [] fun st' => arun P E C ops rest st' k) False
        | _ => False)
      | none => False)

theorem guard_slot {G : Gh} {kp : List Nat} {st : St} {a : Act} {w : World} {S : Pin} {m : Nm} (h : Rel G kp st a w S m) {t : Nat} {c : Bool} (e : st.get t = .bool c) : a.tmps[t]? = some (.bool c) := by
  have := h.tmps t
  rw [e] at this
  simp only [CV, Array.getD_eq_getD_getElem?] at this
  cases hq : a.tmps[t]? with
  | none => rw [hq] at this; simp [undef] at this
  | some v => rw [hq] at this; simp at this; rw [this]
theorem guard_undef {G : Gh} {kp : List Nat} {st : St} {a : Act} {w : World} {S : Pin} {m : Nm} (h : Rel G kp st a w S m) {t : Nat} (e : st.get t = .undef) : ∀ b, a.tmps[t]? ≠ some (.bool b) := by
  intro b hb
  have := h.tmps t
  rw [e] at this
  simp only [CV, Array.getD_eq_getD_getElem?, hb] at this
  simp [undef] at this
theorem Rel.known {G : Gh} {kp : List Nat} {st : St} {a : Act} {w : World} {S : Pin} {m : Nm} (h : Rel G kp st a w S m) {t : Nat} {c : Bool} (e : st.get t = .bool c) : Rel G kp (st.put t (.bool c)) a w S m := by
  refine h.weaken (fun q v hv => ?_) (fun k b hk => ⟨⟨b, hk⟩, h.held k b hk⟩)
  rw [St.get_put]
  by_cases hq : q = t
  · subst hq; rw [if_pos rfl, ← e]; exact hv
  · rw [if_neg hq]; exact hv
theorem known_eq (st : St) (t : Nat) (b : Bool) (k : St → Prop) : known st t b k = k (st.put t (.bool b)) := by
  unfold known St.put; obtain ⟨tm, hp⟩ := st; simp only; rw [insK_ins]
theorem put_size (a : Act) (d : Option Nat) (v : Value) : (a.put d v).tmps.size = a.tmps.size := by
  cases d <;> simp [Act.put]
theorem upd_undef {G : Gh} {kp : List Nat} {st : St} {a : Act} {w : World} {S : Pin} {m : Nm} (h : Rel G kp st a w S m) {d : Option Nat} (hd : dstOk a.tmps.size d = true) : Rel G kp (st.upd d .undef []) (a.put d undef) w S m := by
  cases d with
  | none => exact h
  | some t => exact h.put (by simp only [CV]) (Nat.le_of_ble_eq_true hd)
theorem arun_sound {P : Program} {E : Env} {C : Cx} (hT : TyOK P C.tys) (hS : SpecOK P E) {ops : Array Oper} {Q : Exit → Act → World → Prop} {G : Gh} (hG : GOK E G.S0) :
    ∀ (l : List Oper) (st : St) (k : St → Prop), arun P E C ops l st k → ∀ (a : Act) (w : World) (S : Pin) (m : Nm), Rel G C.kp st a w S m → a.tmps.size = C.nt →
      (∀ st' a' w' S' m', k st' → Rel G C.kp st' a' w' S' m' → a'.tmps.size = C.nt → Q .normal a' w') → wpList P ops Q l a w
  | [], st, k, h, a, w, S, m, hR, hn, hQ => hQ st a w S m h hR hn
  | o :: rest, st, k, h, a, w, S, m, hR, hn, hQ => by
    have ex : ∀ (st : St) {S : Pin} {m : Nm}, astep P E C true o st (fun r u _ => forceE E.eager o.op r fun r => updK st o.dst r u fun st' => arun P E C ops rest st' k) → Rel G C.kp st a w S m → o.wp P a w (wpList P ops Q rest) Q := by
      intro st S m h hR
      obtain ⟨r, u, rd, h1, h2, h3⟩ := astep_sound hT hS h
      refine h2 G C.kp st a w S m _ Q hG hR hn (fun _ _ => rfl) (fun _ _ => rfl) h3 (fun v w' S' m' hw hR' => ?_)
      have := h1 (fun _ => hw)
      rw [forceE_eq, updK_eq] at this
      exact arun_sound hT hS hG rest _ k this _ _ _ _ hR' (by rw [put_size]; exact hn) hQ
    have sk : ∀ (st : St), cond (dstOk C.nt o.dst) (updK st o.dst .undef [] fun st' => arun P E C ops rest st' k) False → Rel G C.kp st a w S m → wpList P ops Q rest (a.put o.dst undef) w := by
      intro st h hR
      obtain ⟨hd, h⟩ := cond_F h
      rw [updK_eq] at h
      exact arun_sound hT hS hG rest _ k h _ _ _ _ (upd_undef hR (by rw [hn]; exact hd)) (by rw [put_size]; exact hn) hQ
    unfold wpList
    simp only [arun] at h
    split at h
    · rename_i hg
      rw [if_pos (by simp [Region.wanted, hg])]
      split at h
      · rename_i xs hx
        obtain ⟨hd, h⟩ := cond_F h
        obtain ⟨b, hrun, hb⟩ := nilq_sound hx hG hR
        refine .inl ?_
        unfold Oper.wp
        rw [hrun]
        have go : updK st o.dst (.bool b) [] (fun st' => arun P E C ops rest st' k) → wpList P ops Q rest (a.put o.dst (.bool b)) w := by
          intro h
          rw [updK_eq] at h
          refine arun_sound hT hS hG rest _ k h _ _ S m ?_ (by rw [put_size]; exact hn) hQ
          unfold St.upd
          cases e : o.dst with
          | none => exact hR
          | some d => exact hR.put (by simp only [CV]) (by rw [hn]; rw [e] at hd; exact Nat.le_of_ble_eq_true hd)
        cases b with
        | true => exact go (h.1 (hb rfl))
        | false => exact go h.2
      · obtain ⟨st2, S2, m2, h, hR2⟩ := frzN_sound _ _ S m _ h hR
        exact .inl (ex st2 h hR2)
    · rename_i j want hg
      split at h
      · rename_i t ht
        split at h
        · rename_i c hc
          have hs := guard_slot hR hc
          have hy : yielded ops a.tmps j = some c := by simp only [yielded, ht, Option.bind_some, hs]
          have hR' := hR.known hc
          cases c with
          | true =>
            simp only [cond_true] at h
            rw [known_eq] at h
            cases want with
            | true => rw [if_pos (by simp [Region.wanted, hg, hy])]; exact .inl (ex _ h hR')
            | false => rw [if_neg (by simp [Region.wanted, hg, hy])]; exact sk _ h hR'
          | false =>
            simp only [cond_false] at h
            rw [known_eq] at h
            cases want with
            | true => rw [if_neg (by simp [Region.wanted, hg, hy])]; exact sk _ h hR'
            | false => rw [if_pos (by simp [Region.wanted, hg, hy])]; exact .inl (ex _ h hR')
        · rename_i hc
          have hs := guard_undef hR hc
          have hy : yielded ops a.tmps j = none := by
            unfold yielded
            rw [ht]
            simp only [Option.bind_some]
          rw [if_neg (by simp [Region.wanted, hg, hy])]
          exact sk _ h hR
        · exact h.elim
      · exact h.elim
end Go.Proofs.YthdfkiopppkfcaaDoor
