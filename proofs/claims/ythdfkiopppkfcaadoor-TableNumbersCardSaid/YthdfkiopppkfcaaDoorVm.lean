/- Regions whose order is drawn. -/
import Derived.Test.YthdfkiopppkfcaaDoorVl
namespace Go.Proofs.YthdfkiopppkfcaaDoor
open Go
open Go.RowKit (Below)
set_option linter.unusedVariables false
set_option linter.unusedSimpArgs false

/-- What became of an operation: its value, the blocks it set, those it looked at. -/
structure Lg where
  r : AV
  u : List (Nat × Blk)
  rd : List Nat
  ex : Bool

def arunD (P : Program) (E : Env) (C : Cx) (ops : Array Oper) : List Oper → St → List Lg → (St → List Lg → Prop) → Prop
  | [], st, lg, k => k st lg
  | o :: rest, st, lg, k => match o.guard with
    | none => astep P E C false o st fun r u rd => forceE E.eager o.op r fun r => updK st o.dst r u fun st' => arunD P E C ops rest st' (lg ++ [⟨r, u, rd, true⟩]) k
    | some (j, want) => (match (ops[j]?).bind (·.dst) with
      | some t => (match st.get t with
        | .bool c => cond c
            (known st t true fun st => cond want (astep P E C false o st fun r u rd => forceE E.eager o.op r fun r => updK st o.dst r u fun st' => arunD P E C ops rest st' (lg ++ [⟨r, u, rd, true⟩]) k) (cond (dstOk C.nt o.dst) (updK st o.dst .undef [] fun st' => arunD P E C ops rest st' (lg ++ [⟨.undef, [], [], false⟩]) k) False))
            (known st t false fun st => cond want (cond (dstOk C.nt o.dst) (updK st o.dst .undef [] fun st' => arunD P E C ops rest st' (lg ++ [⟨.undef, [], [], false⟩]) k) False) (astep P E C false o st fun r u rd => forceE E.eager o.op r fun r => updK st o.dst r u fun st' => arunD P E C ops rest st' (lg ++ [⟨r, u, rd, true⟩]) k))
        | .undef => cond (dstOk C.nt o.dst) (updK st o.dst .undef [] fun st' => arunD P E C ops rest st' (lg ++ [⟨.undef, [], [], false⟩]) k) False
        | _ => False)
      | none => False)

def opTmps : List Operand → List Nat
  | [] => []
  | .tmp t :: l => t :: opTmps l
  | _ :: l => opTmps l
/-- Slots that an operation looks at. -/
def tmR (ops : Array Oper) (o : Oper) : List Nat :=
  match o.guard with
  | some (j, _) => (match (ops[j]?).bind (·.dst) with | some t => t :: opTmps o.op.operands.toList | none => opTmps o.op.operands.toList)
  | none => opTmps o.op.operands.toList
def tmW (o : Oper) : List Nat := match o.dst with | some d => [d] | none => []
def names : List (Nat × Blk) → List Nat
  | [] => []
  | (k, _) :: l => k :: names l
def meets (l l' : List Nat) : Bool := match l with | [] => false | x :: xs => inL x l' || meets xs l'
/-- One of two operations writes what the other one looks at or writes. -/
def clash (ops : Array Oper) (o o' : Oper) (g g' : Lg) : Bool :=
  meets (tmW o) (tmR ops o') || meets (tmW o) (tmW o') || meets (tmR ops o) (tmW o') || meets (names g.u) g'.rd || meets (names g.u) (names g'.u) || meets g.rd (names g'.u)
/-- The operations that must be done before, by the edges that bind always. -/
def ancE (acc : List (List Nat)) : List Edge → List Nat
  | [] => []
  | e :: l => cond (Region.binds .any e) (e.on :: (acc.getD e.on [] ++ ancE acc l)) (ancE acc l)
def ancs : List Oper → List (List Nat) → List (List Nat)
  | [], acc => acc
  | o :: rest, acc => ancs rest (acc ++ [ancE acc o.after.toList])
def backOk : List Oper → Nat → Bool
  | [], _ => true
  | o :: rest, i => o.after.toList.all (fun e => !(Region.binds .any e) || Nat.blt e.on i) && backOk rest (i + 1)
def nnU (k : Nat) : List (Nat × Blk) → Bool
  | [] => true
  | (j, b) :: l => (Nat.beq j k || nnB k b) && nnU k l
/-- New names of g do not occur in g'. -/
def newOk (g g' : Lg) : Bool := g.u.all fun p => inL p.1 g.rd || (nn p.1 g'.r && nnU p.1 g'.u)
def pairsOk (ops : Array Oper) (l : List (Nat × Oper × Lg × List Nat)) : Bool :=
  l.all fun (i, o, g, a) => l.all fun (j, o', g', a') => Nat.beq i j || (
    (Nat.ble j i || inL i a' || (!(clash ops o o' g g') && newOk g g' && newOk g' g)) && (inL i a' || newOk g g'))
def zip4 : Nat → List Oper → List Lg → List (List Nat) → List (Nat × Oper × Lg × List Nat)
  | i, o :: os, g :: gs, a :: az => (i, o, g, a) :: zip4 (i + 1) os gs az
  | _, _, _, _ => []
def freshAll (kp : List Nat) (st : St) : List Lg → Bool
  | [] => true
  | g :: gs => (g.u.all fun p => inL p.1 g.rd || fresh kp st p.1) && freshAll kp st gs
def ordOk (kp : List Nat) (st : St) (ops : Array Oper) (lg : List Lg) : Bool :=
  backOk ops.toList 0 && Nat.beq lg.length ops.size && freshAll kp st lg && pairsOk ops (zip4 0 ops.toList lg (ancs ops.toList []))
/-! The same checks with sets of numbers as numbers: the kernel is quick at these. -/
def bitM (k : Nat) : Nat := Nat.shiftLeft 1 k
def maskL : List Nat → Nat
  | [] => 0
  | x :: l => Nat.lor (bitM x) (maskL l)
def apart (a b : Nat) : Bool := Nat.beq (Nat.land a b) 0
theorem bitM_self (k : Nat) : (bitM k).testBit k = true := by
  show (1 <<< k).testBit k = true
  simp [Nat.testBit_shiftLeft]
theorem lor_bit (a b k : Nat) : (Nat.lor a b).testBit k = (a.testBit k || b.testBit k) := Nat.testBit_or a b k
theorem maskL_mem {k : Nat} : ∀ {l : List Nat}, k ∈ l → (maskL l).testBit k = true
  | [], h => by cases h
  | x :: l, h => by
    simp only [maskL, lor_bit, Bool.or_eq_true]
    rcases List.mem_cons.1 h with h | h
    · subst h; exact .inl (bitM_self k)
    · exact .inr (maskL_mem h)
theorem apart_bit {a b k : Nat} (h : apart a b = true) (ha : a.testBit k = true) : b.testBit k = false := by
  have h := Nat.eq_of_beq_eq_true h
  have h1 : (Nat.land a b).testBit k = (a.testBit k && b.testBit k) := Nat.testBit_and a b k
  rw [h, ha] at h1
  simpa using h1.symm
theorem apart_meets {l l' : List Nat} (h : apart (maskL l) (maskL l') = true) : meets l l' = false := by
  have key : ∀ l1 : List Nat, (∀ k ∈ l1, k ∈ l) → meets l1 l' = false := by
    intro l1
    induction l1 with
    | nil => intro _; rfl
    | cons x xs ih =>
      intro hs
      simp only [meets, Bool.or_eq_false_iff]
      refine ⟨?_, ih fun k hk => hs k (List.mem_cons_of_mem _ hk)⟩
      cases hx : inL x l' with
      | false => rfl
      | true =>
        have h1 := apart_bit h (maskL_mem (hs x (List.mem_cons_self ..)))
        have : x ∈ l' := by
          clear h1 ih hs h
          induction l' with
          | nil => simp [inL] at hx
          | cons j l ih =>
            simp only [inL, Bool.or_eq_true] at hx
            rcases hx with hx | hx
            · have := Nat.eq_of_beq_eq_true hx; subst this; exact List.mem_cons_self ..
            · exact List.mem_cons_of_mem _ (ih hx)
        rw [maskL_mem this] at h1
        cases h1
  exact key l fun _ h => h
mutual
def occA : AV → Nat
  | .agg cs => occL cs
  | .tup cs => occL cs
  | .fn _ cs => occL cs
  | .ptr j _ => bitM j
  | .acc j _ _ => bitM j
  | .ms j _ _ _ _ => bitM j
  | .rw j _ _ => bitM j
  | .mw j _ _ _ _ _ => bitM j
  | .prw j _ _ _ _ => bitM j
  | .frz j _ _ _ => bitM j
  | .mpv j => bitM j
  | _ => 0
def occL : List AV → Nat
  | [] => 0
  | x :: xs => Nat.lor (occA x) (occL xs)
end
theorem bitM_ne {j k : Nat} (h : (bitM j).testBit k = false) : (!(Nat.beq j k)) = true := by
  cases hb : Nat.beq j k with
  | false => rfl
  | true =>
    have := Nat.eq_of_beq_eq_true hb
    subst this
    rw [bitM_self] at h; cases h
mutual
theorem occA_nn {k : Nat} : ∀ (x : AV), (occA x).testBit k = false → nn k x = true
  | .agg cs, h => by simp only [occA] at h; simp only [nn]; exact occL_nn cs h
  | .tup cs, h => by simp only [occA] at h; simp only [nn]; exact occL_nn cs h
  | .fn _ cs, h => by simp only [occA] at h; simp only [nn]; exact occL_nn cs h
  | .ptr j _, h => by simp only [occA] at h; simp only [nn]; exact bitM_ne h
  | .acc j _ _, h => by simp only [occA] at h; simp only [nn]; exact bitM_ne h
  | .ms j _ _ _ _, h => by simp only [occA] at h; simp only [nn]; exact bitM_ne h
  | .rw j _ _, h => by simp only [occA] at h; simp only [nn]; exact bitM_ne h
  | .mw j _ _ _ _ _, h => by simp only [occA] at h; simp only [nn]; exact bitM_ne h
  | .prw j _ _ _ _, h => by simp only [occA] at h; simp only [nn]; exact bitM_ne h
  | .frz j _ _ _, h => by simp only [occA] at h; simp only [nn]; exact bitM_ne h
  | .mpv j, h => by simp only [occA] at h; simp only [nn]; exact bitM_ne h
  | .int _ _, _ => by simp only [nn]
  | .bool _, _ => by simp only [nn]
  | .str _, _ => by simp only [nn]
  | .sl _ _ _, _ => by simp only [nn]
  | .nils, _ => by simp only [nn]
  | .ro _, _ => by simp only [nn]
  | .nilp, _ => by simp only [nn]
  | .undef, _ => by simp only [nn]
  | .dead, _ => by simp only [nn]
theorem occL_nn {k : Nat} : ∀ (xs : List AV), (occL xs).testBit k = false → nnl k xs = true
  | [], _ => by simp only [nnl]
  | x :: xs, h => by
    simp only [occL, lor_bit, Bool.or_eq_false_iff] at h
    simp only [nnl, Bool.and_eq_true]
    exact ⟨occA_nn x h.1, occL_nn xs h.2⟩
end
def occLL : List (List AV) → Nat
  | [] => 0
  | x :: l => Nat.lor (occL x) (occLL l)
theorem occLL_nn {k : Nat} : ∀ (xs : List (List AV)), (occLL xs).testBit k = false → nnll k xs = true
  | [], _ => rfl
  | x :: xs, h => by
    simp only [occLL, lor_bit, Bool.or_eq_false_iff] at h
    simp only [nnll, Bool.and_eq_true]
    exact ⟨occL_nn x h.1, occLL_nn xs h.2⟩
def occB : Blk → Nat
  | .cells cs => occL cs
  | .row e _ xs => cond (Nat.blt e 2000000) 0 (occLL xs)
  | _ => 0
def occU : List (Nat × Blk) → Nat
  | [] => 0
  | (_, b) :: l => Nat.lor (occB b) (occU l)
def occT : List (Nat × AV) → Nat
  | [] => 0
  | (_, x) :: l => Nat.lor (occA x) (occT l)
theorem occB_nn {k : Nat} {b : Blk} (h : (occB b).testBit k = false) : nnB k b = true := by
  cases b with
  | cells cs => exact occL_nn cs h
  | tok _ _ _ => rfl
  | mp _ _ _ => rfl
  | gone => rfl
  | row e s xs =>
    simp only [nnB]
    cases hb : Nat.blt e 2000000 with
    | true => rfl
    | false =>
      simp only [occB, hb, cond_false] at h
      exact occLL_nn xs h
theorem occU_nnU {k : Nat} : ∀ {l : List (Nat × Blk)}, (occU l).testBit k = false → nnU k l = true
  | [], _ => rfl
  | (j, b) :: l, h => by
    simp only [occU, lor_bit, Bool.or_eq_false_iff] at h
    simp only [nnU, Bool.and_eq_true, Bool.or_eq_true]
    exact ⟨.inr (occB_nn h.1), occU_nnU h.2⟩
theorem occU_nnH {k : Nat} : ∀ {l : List (Nat × Blk)}, (occU l).testBit k = false → nnH k l = true
  | [], _ => rfl
  | (j, b) :: l, h => by
    simp only [occU, lor_bit, Bool.or_eq_false_iff] at h
    simp only [nnH, Bool.and_eq_true, Bool.or_eq_true]
    exact ⟨.inr (occB_nn h.1), occU_nnH h.2⟩
theorem occT_nnT {k : Nat} : ∀ {l : List (Nat × AV)}, (occT l).testBit k = false → nnT k l = true
  | [], _ => rfl
  | (_, x) :: l, h => by
    simp only [occT, lor_bit, Bool.or_eq_false_iff] at h
    simp only [nnT, Bool.and_eq_true]
    exact ⟨occA_nn x h.1, occT_nnT h.2⟩
def newM : List (Nat × Blk) → List Nat → Nat
  | [], _ => 0
  | (k, _) :: l, rd => cond (inL k rd) (newM l rd) (Nat.lor (bitM k) (newM l rd))
theorem newM_all {p : Nat → Bool} {rd : List Nat} : ∀ {u : List (Nat × Blk)}, (∀ k, (newM u rd).testBit k = true → p k = true) → (u.all fun q => inL q.1 rd || p q.1) = true
  | [], _ => rfl
  | (k, b) :: l, h => by
    simp only [List.all_cons, Bool.and_eq_true, Bool.or_eq_true]
    simp only [newM] at h
    cases hk : inL k rd with
    | true => rw [hk] at h; exact ⟨.inl rfl, newM_all h⟩
    | false =>
      rw [hk] at h
      simp only [cond_false, lor_bit, Bool.or_eq_true] at h
      exact ⟨.inr (h k (.inl (bitM_self k))), newM_all fun j hj => h j (.inr hj)⟩
structure Dg where
  i : Nat
  w : Nat
  r : Nat
  bw : Nat
  br : Nat
  nw : Nat
  oc : Nat
  an : Nat
def dgOf (ops : Array Oper) (i : Nat) (o : Oper) (g : Lg) (an : Nat) : Dg :=
  ⟨bitM i, maskL (tmW o), maskL (tmR ops o), maskL (names g.u), maskL g.rd, newM g.u g.rd, Nat.lor (occA g.r) (occU g.u), an⟩
def ancEM (acc : List (Nat × Nat)) : List Edge → Nat
  | [] => 0
  | e :: l => cond (Region.binds .any e) (Nat.lor (bitM e.on) (Nat.lor (match lk acc e.on with | some m => m | none => 0) (ancEM acc l))) (ancEM acc l)
def dgs (ops : Array Oper) : Nat → List Oper → List Lg → List (Nat × Nat) → List Dg
  | i, o :: os, g :: gs, acc => dgOf ops i o g (ancEM acc o.after.toList) :: dgs ops (i + 1) os gs ((i, ancEM acc o.after.toList) :: acc)
  | _, _, _, _ => []
/-- p stands ahead of q. -/
def okP (p q : Dg) : Bool := apart q.nw p.oc && (!(apart p.i q.an) || (apart p.w q.r && apart p.w q.w && apart p.r q.w && apart p.bw q.br && apart p.bw q.bw && apart p.br q.bw && apart p.nw q.oc))
def allQ (p : Dg) : List Dg → Bool
  | [] => true
  | q :: l => okP p q && allQ p l
def allP : List Dg → Bool
  | [] => true
  | p :: l => allQ p l && allP l
def forceN (n : Nat) (k : Nat → Bool) : Bool := match n with | 0 => k 0 | m + 1 => k (Nat.succ m)
theorem forceN_eq (n : Nat) (k : Nat → Bool) : forceN n k = k n := by cases n <;> rfl
def forceDg (d : Dg) (k : Dg → Bool) : Bool := match d with
  | ⟨i, w, r, bw, br, nw, oc, an⟩ => forceN i fun i => forceN w fun w => forceN r fun r => forceN bw fun bw => forceN br fun br => forceN nw fun nw => forceN oc fun oc => forceN an fun an => k ⟨i, w, r, bw, br, nw, oc, an⟩
theorem forceDg_eq (d : Dg) (k : Dg → Bool) : forceDg d k = k d := by simp only [forceDg, forceN_eq]
def dgsK (ops : Array Oper) : Nat → List Oper → List Lg → List (Nat × Nat) → (List Dg → Bool) → Bool
  | i, o :: os, g :: gs, acc, k => forceN (ancEM acc o.after.toList) fun an => forceDg (dgOf ops i o g an) fun d => dgsK ops (Nat.succ i) os gs ((i, an) :: acc) fun l => k (d :: l)
  | _, _, _, _, k => k []
theorem dgsK_eq {ops : Array Oper} : ∀ (i : Nat) (os : List Oper) (gs : List Lg) (acc : List (Nat × Nat)) (k : List Dg → Bool), dgsK ops i os gs acc k = k (dgs ops i os gs acc)
  | i, o :: os, g :: gs, acc, k => by
    simp only [dgsK, dgs, forceN_eq, forceDg_eq]
    exact dgsK_eq (i + 1) os gs _ _
  | _, [], _, _, _ => rfl
  | _, _ :: _, [], _, _ => rfl
def freshAllM (m : Nat) : List Lg → Bool
  | [] => true
  | g :: gs => apart (newM g.u g.rd) m && freshAllM m gs
def ordOk2 (kp : List Nat) (st : St) (ops : Array Oper) (lg : List Lg) : Bool :=
  backOk ops.toList 0 && Nat.beq lg.length ops.size && forceN (Nat.lor (maskL kp) (Nat.lor (occT st.tmps) (occU st.heap))) (fun m => freshAllM m lg) && dgsK ops 0 ops.toList lg [] allP
theorem inL_of_mem {k : Nat} : ∀ {l : List Nat}, inL k l = true → k ∈ l
  | [], h => by simp [inL] at h
  | j :: l, h => by
    simp only [inL, Bool.or_eq_true] at h
    rcases h with h | h
    · have := Nat.eq_of_beq_eq_true h; subst this; exact List.mem_cons_self ..
    · exact List.mem_cons_of_mem _ (inL_of_mem h)
theorem bitM_iff {i k : Nat} : (bitM i).testBit k = true ↔ k = i := by
  show (1 <<< i).testBit k = true ↔ _
  rw [Nat.one_shiftLeft, Nat.testBit_two_pow, decide_eq_true_eq]
  exact eq_comm
theorem mem_of_maskL {k : Nat} : ∀ {l : List Nat}, (maskL l).testBit k = true → k ∈ l
  | [], h => by simp [maskL] at h
  | x :: l, h => by
    simp only [maskL, lor_bit, Bool.or_eq_true] at h
    rcases h with h | h
    · rw [bitM_iff.1 h]; exact List.mem_cons_self ..
    · exact List.mem_cons_of_mem _ (mem_of_maskL h)
theorem mem_inL {k : Nat} : ∀ {l : List Nat}, k ∈ l → inL k l = true
  | [], h => by cases h
  | j :: l, h => by
    simp only [inL, Bool.or_eq_true]
    rcases List.mem_cons.1 h with h | h
    · subst h; exact .inl (nbeq_self k)
    · exact .inr (mem_inL h)
theorem not_apart_bit {i a : Nat} (h : apart (bitM i) a = false) : a.testBit i = true := by
  cases hb : a.testBit i with
  | true => rfl
  | false =>
    have : apart (bitM i) a = true := by
      have h0 : Nat.land (bitM i) a = 0 := by
        refine Nat.eq_of_testBit_eq fun k => ?_
        have h1 : (Nat.land (bitM i) a).testBit k = ((bitM i).testBit k && a.testBit k) := Nat.testBit_and _ _ k
        rw [h1]
        cases hk : (bitM i).testBit k with
        | false => simp
        | true => rw [bitM_iff.1 hk, hb]; simp
      unfold apart
      rw [h0]; rfl
    rw [this] at h; cases h
theorem newOk_of {g g' : Lg} (h : apart (newM g.u g.rd) (Nat.lor (occA g'.r) (occU g'.u)) = true) : newOk g g' = true := by
  unfold newOk
  refine newM_all (p := fun k => nn k g'.r && nnU k g'.u) fun k hk => ?_
  have := apart_bit h hk
  rw [lor_bit, Bool.or_eq_false_iff] at this
  simp only [Bool.and_eq_true]
  exact ⟨occA_nn _ this.1, occU_nnU this.2⟩
theorem allQ_get {p : Dg} : ∀ {l : List Dg}, allQ p l = true → ∀ q ∈ l, okP p q = true
  | [], _, q, h => by cases h
  | x :: l, h, q, hq => by
    simp only [allQ, Bool.and_eq_true] at h
    rcases List.mem_cons.1 hq with e | hq
    · subst e; exact h.1
    · exact allQ_get h.2 q hq
theorem zip4_ge : ∀ (b : Nat) (os : List Oper) (gs : List Lg) (az : List (List Nat)) (x : Nat × Oper × Lg × List Nat), x ∈ zip4 b os gs az → b ≤ x.1
  | b, o :: os, g :: gs, a :: az, x, h => by
    simp only [zip4, List.mem_cons] at h
    rcases h with h | h
    · subst h; exact Nat.le_refl _
    · have := zip4_ge (b + 1) os gs az x h; omega
  | _, [], _, _, _, h => by simp [zip4] at h
  | _, _ :: _, [], _, _, h => by simp [zip4] at h
  | _, _ :: _, _ :: _, [], _, h => by simp [zip4] at h
/-- A digest tells of an operation. -/
def Tells (ops : Array Oper) (d : Dg) (x : Nat × Oper × Lg × List Nat) : Prop := ∃ an, d = dgOf ops x.1 x.2.1 x.2.2.1 an ∧ ∀ k, an.testBit k = true → k ∈ x.2.2.2
theorem ancEM_ok {acc : List (Nat × Nat)} {accL : List (List Nat)} (h : ∀ j m, lk acc j = some m → ∀ k, m.testBit k = true → k ∈ accL.getD j []) : ∀ (l : List Edge) (k : Nat), (ancEM acc l).testBit k = true → k ∈ ancE accL l
  | [], k, hk => by simp [ancEM] at hk
  | e :: l, k, hk => by
    simp only [ancEM] at hk
    simp only [ancE]
    cases hb : Region.binds .any e with
    | false => rw [hb] at hk; exact ancEM_ok h l k hk
    | true =>
      rw [hb] at hk
      simp only [cond_true, lor_bit, Bool.or_eq_true] at hk
      simp only [cond_true, List.mem_cons, List.mem_append]
      rcases hk with hk | hk | hk
      · exact .inl (bitM_iff.1 hk)
      · right; left
        cases hl : lk acc e.on with
        | none => rw [hl] at hk; simp at hk
        | some m => rw [hl] at hk; exact h _ m hl k hk
      · exact .inr (.inr (ancEM_ok h l k hk))
theorem ancs_append : ∀ (l : List Oper) (acc : List (List Nat)), ∃ t, ancs l acc = acc ++ t
  | [], acc => ⟨[], by simp [ancs]⟩
  | o :: rest, acc => by
    obtain ⟨t, ht⟩ := ancs_append rest (acc ++ [ancE acc o.after.toList])
    exact ⟨ancE acc o.after.toList :: t, by simp only [ancs]; rw [ht]; simp⟩
theorem dgs_tells {ops : Array Oper} : ∀ (os : List Oper) (gs : List Lg) (acc : List (Nat × Nat)) (accL : List (List Nat)), (∀ j m, lk acc j = some m → j < accL.length ∧ ∀ k, m.testBit k = true → k ∈ accL.getD j []) →
    ∀ x ∈ zip4 accL.length os gs ((ancs os accL).drop accL.length), ∀ y ∈ zip4 accL.length os gs ((ancs os accL).drop accL.length), x.1 < y.1 → allP (dgs ops accL.length os gs acc) = true →
      ∃ p q, Tells ops p x ∧ Tells ops q y ∧ okP p q = true
  | [], _, _, _, _, x, hx, _, _, _, _ => by simp [zip4] at hx
  | _ :: _, [], _, _, _, x, hx, _, _, _, _ => by simp [zip4] at hx
  | o :: os, g :: gs, acc, accL, hacc, x, hx, y, hy, hlt, hP => by
    have key : ∀ (z : Nat × Oper × Lg × List Nat) (os : List Oper) (gs : List Lg) (acc : List (Nat × Nat)) (accL : List (List Nat)), (∀ j m, lk acc j = some m → j < accL.length ∧ ∀ k, m.testBit k = true → k ∈ accL.getD j []) →
        z ∈ zip4 accL.length os gs ((ancs os accL).drop accL.length) → ∃ q ∈ dgs ops accL.length os gs acc, Tells ops q z := by
      intro z os
      induction os with
      | nil => intro gs acc accL _ hz; simp [zip4] at hz
      | cons o os ih =>
        intro gs acc accL hacc hz
        cases gs with
        | nil => simp [zip4] at hz
        | cons g gs =>
          obtain ⟨t, ht⟩ := ancs_append os (accL ++ [ancE accL o.after.toList])
          have e1 : (ancs (o :: os) accL).drop accL.length = ancE accL o.after.toList :: t := by simp only [ancs]; rw [ht]; simp
          have e2 : (ancs os (accL ++ [ancE accL o.after.toList])).drop (accL ++ [ancE accL o.after.toList]).length = t := by rw [ht]; simp
          rw [e1] at hz
          simp only [zip4, List.mem_cons] at hz
          simp only [dgs]
          rcases hz with hz | hz
          · subst hz
            exact ⟨_, List.mem_cons_self .., _, rfl, ancEM_ok (fun j m hj => (hacc j m hj).2) _⟩
          · have hacc' : ∀ j m, lk ((accL.length, ancEM acc o.after.toList) :: acc) j = some m → j < (accL ++ [ancE accL o.after.toList]).length ∧ ∀ k, m.testBit k = true → k ∈ (accL ++ [ancE accL o.after.toList]).getD j [] := by
              intro j m hj
              simp only [lk] at hj
              rw [List.length_append, List.length_singleton]
              cases hb : Nat.beq accL.length j with
              | true =>
                rw [hb] at hj
                simp only [cond_true, Option.some.injEq] at hj
                have := Nat.eq_of_beq_eq_true hb
                subst this; subst hj
                refine ⟨by omega, fun k hk => ?_⟩
                rw [List.getD_eq_getElem?_getD, List.getElem?_append_right (Nat.le_refl _)]
                simpa using ancEM_ok (fun j m hj => (hacc j m hj).2) _ k hk
              | false =>
                rw [hb] at hj
                obtain ⟨h1, h2⟩ := hacc j m hj
                refine ⟨by omega, fun k hk => ?_⟩
                rw [List.getD_eq_getElem?_getD, List.getElem?_append_left h1]
                simpa [List.getD_eq_getElem?_getD] using h2 k hk
            have hz' : z ∈ zip4 (accL ++ [ancE accL o.after.toList]).length os gs ((ancs os (accL ++ [ancE accL o.after.toList])).drop (accL ++ [ancE accL o.after.toList]).length) := by
              rw [e2, List.length_append, List.length_singleton]; exact hz
            obtain ⟨q, hq, hT⟩ := ih gs _ _ hacc' hz'
            rw [List.length_append, List.length_singleton] at hq
            exact ⟨q, List.mem_cons_of_mem _ hq, hT⟩
    obtain ⟨t, ht⟩ := ancs_append os (accL ++ [ancE accL o.after.toList])
    have e1 : (ancs (o :: os) accL).drop accL.length = ancE accL o.after.toList :: t := by simp only [ancs]; rw [ht]; simp
    have e2 : (ancs os (accL ++ [ancE accL o.after.toList])).drop (accL ++ [ancE accL o.after.toList]).length = t := by rw [ht]; simp
    have hacc' : ∀ j m, lk ((accL.length, ancEM acc o.after.toList) :: acc) j = some m → j < (accL ++ [ancE accL o.after.toList]).length ∧ ∀ k, m.testBit k = true → k ∈ (accL ++ [ancE accL o.after.toList]).getD j [] := by
      intro j m hj
      simp only [lk] at hj
      rw [List.length_append, List.length_singleton]
      cases hb : Nat.beq accL.length j with
      | true =>
        rw [hb] at hj
        simp only [cond_true, Option.some.injEq] at hj
        have := Nat.eq_of_beq_eq_true hb
        subst this; subst hj
        refine ⟨by omega, fun k hk => ?_⟩
        rw [List.getD_eq_getElem?_getD, List.getElem?_append_right (Nat.le_refl _)]
        simpa using ancEM_ok (fun j m hj => (hacc j m hj).2) _ k hk
      | false =>
        rw [hb] at hj
        obtain ⟨h1, h2⟩ := hacc j m hj
        refine ⟨by omega, fun k hk => ?_⟩
        rw [List.getD_eq_getElem?_getD, List.getElem?_append_left h1]
        simpa [List.getD_eq_getElem?_getD] using h2 k hk
    have lift : ∀ z, z ∈ zip4 (accL.length + 1) os gs t → z ∈ zip4 (accL ++ [ancE accL o.after.toList]).length os gs ((ancs os (accL ++ [ancE accL o.after.toList])).drop (accL ++ [ancE accL o.after.toList]).length) := by
      intro z hz
      rw [e2, List.length_append, List.length_singleton]; exact hz
    rw [e1] at hx hy
    simp only [zip4, List.mem_cons] at hx hy
    simp only [dgs, allP, Bool.and_eq_true] at hP
    rcases hy with hy | hy
    · rcases hx with hx | hx
      · subst hx; subst hy; omega
      · have := zip4_ge _ _ _ _ x hx; subst hy; simp only at hlt; omega
    · rcases hx with hx | hx
      · obtain ⟨q, hq, hT⟩ := key y os gs _ _ hacc' (lift y hy)
        rw [List.length_append, List.length_singleton] at hq
        subst hx
        exact ⟨_, q, ⟨_, rfl, ancEM_ok (fun j m hj => (hacc j m hj).2) _⟩, hT, allQ_get hP.1 q hq⟩
      · have := dgs_tells (ops := ops) os gs _ _ hacc' x (lift x hx) y (lift y hy) hlt
        rw [List.length_append, List.length_singleton] at this
        exact this hP.2
theorem freshAllM_ok {kp : List Nat} {st : St} : ∀ {gs : List Lg}, freshAllM (Nat.lor (maskL kp) (Nat.lor (occT st.tmps) (occU st.heap))) gs = true → freshAll kp st gs = true
  | [], _ => rfl
  | g :: gs, h => by
    simp only [freshAllM, Bool.and_eq_true] at h
    simp only [freshAll, Bool.and_eq_true]
    refine ⟨newM_all (p := fun k => fresh kp st k) fun k hk => ?_, freshAllM_ok h.2⟩
    have h1 := apart_bit h.1 hk
    simp only [lor_bit, Bool.or_eq_false_iff] at h1
    simp only [fresh, Bool.and_eq_true]
    refine ⟨⟨occT_nnT h1.2.1, occU_nnH h1.2.2⟩, ?_⟩
    cases hi : inL k kp with
    | false => rfl
    | true => rw [maskL_mem (inL_of_mem hi)] at h1; exact absurd h1.1 (by simp)
theorem ordOk2_ok {kp : List Nat} {st : St} {ops : Array Oper} {lg : List Lg} (h : ordOk2 kp st ops lg = true) : ordOk kp st ops lg = true := by
  unfold ordOk2 at h
  rw [forceN_eq, dgsK_eq] at h
  simp only [Bool.and_eq_true] at h
  obtain ⟨⟨⟨h1, h2⟩, h3⟩, h4⟩ := h
  unfold ordOk
  simp only [Bool.and_eq_true]
  refine ⟨⟨⟨h1, h2⟩, freshAllM_ok h3⟩, ?_⟩
  unfold pairsOk
  rw [List.all_eq_true]
  intro x hx
  rw [List.all_eq_true]
  intro y hy
  obtain ⟨i, o, g, a⟩ := x
  obtain ⟨j, o', g', a'⟩ := y
  simp only [Bool.or_eq_true, Bool.and_eq_true, Bool.not_eq_true']
  have tell := dgs_tells (ops := ops) ops.toList lg [] [] (fun j m hj => by simp [lk] at hj)
  simp only [List.length_nil, List.drop_zero] at tell
  rcases Nat.lt_trichotomy i j with hij | hij | hij
  · right
    obtain ⟨p, q, ⟨an, rfl, ha⟩, ⟨an', rfl, ha'⟩, h5⟩ := tell _ hx _ hy hij h4
    simp only [okP, dgOf, Bool.and_eq_true, Bool.or_eq_true, Bool.not_eq_true'] at h5
    obtain ⟨h6, h7⟩ := h5
    rcases h7 with h7 | h7
    · have := mem_inL (ha' _ (not_apart_bit h7))
      exact ⟨.inl (.inr this), .inl this⟩
    · obtain ⟨⟨⟨⟨⟨⟨k1, k2⟩, k3⟩, k4⟩, k5⟩, k6⟩, k7⟩ := h7
      refine ⟨.inr ⟨⟨?_, newOk_of k7⟩, newOk_of h6⟩, .inr (newOk_of k7)⟩
      unfold clash
      rw [apart_meets k1, apart_meets k2, apart_meets k3, apart_meets k4, apart_meets k5, apart_meets k6]
      rfl
  · left; subst hij; exact nbeq_self i
  · right
    obtain ⟨p, q, ⟨an, rfl, ha⟩, ⟨an', rfl, ha'⟩, h5⟩ := tell _ hy _ hx hij h4
    simp only [okP, dgOf, Bool.and_eq_true] at h5
    exact ⟨.inl (.inl (Nat.ble_eq_true_of_le (by omega))), .inr (newOk_of h5.1)⟩
def adraw (P : Program) (E : Env) (C : Cx) (ops : Array Oper) (st : St) (k : St → Prop) : Prop :=
  arunD P E C ops ops.toList st [] fun st' lg => cond (ordOk2 C.kp st ops lg) (k st') False

/-! What the order of the text gives. -/
/-- Whether an operation is done: by its guard. -/
def Wants (ops : Array Oper) (st : St) (o : Oper) (ex : Bool) : Prop :=
  match o.guard with
  | none => ex = true
  | some (j, want) => ∃ t, (ops[j]?).bind (·.dst) = some t ∧ ((∃ c, st.get t = .bool c ∧ ex = (c == want)) ∨ (st.get t = .undef ∧ ex = false))
def StepOK (P : Program) (E : Env) (C : Cx) (ops : Array Oper) (o : Oper) (st : St) (g : Lg) : Prop :=
  Wants ops st o g.ex ∧ dstOk C.nt o.dst = true ∧ (g.ex = true → Good P E C.nt o (evO E st) (lk st.heap) g.r g.u g.rd) ∧ (g.ex = false → g.r = .undef ∧ g.u = [])
def Tr (P : Program) (E : Env) (C : Cx) (ops : Array Oper) : List Oper → St → List Lg → St → Prop
  | [], st, [], fin => fin = st
  | o :: os, st, g :: gs, fin => StepOK P E C ops o st g ∧ Tr P E C ops os (st.upd o.dst g.r g.u) gs fin
  | _, _, _, _ => False
theorem astep_dst {P : Program} {E : Env} {C : Cx} {wf : Bool} {o : Oper} {st : St} {K : AV → List (Nat × Blk) → List Nat → Prop} (H : astep P E C wf o st K) : dstOk C.nt o.dst = true := (cond_F H).1
theorem ins_self {α : Type} {i : Nat} {v : α} : ∀ {l : List (Nat × α)}, lk l i = some v → ins l i v = l
  | [], h => by simp [lk] at h
  | (j, x) :: l, h => by
    simp only [lk] at h
    simp only [ins]
    cases hb : Nat.beq j i with
    | true => rw [hb] at h; simp only [cond_true, Option.some.injEq] at h; simp only [cond_true]; rw [h]
    | false => rw [hb] at h; simp only [cond_false] at h ⊢; rw [ins_self h]
theorem put_self {st : St} {t : Nat} {c : Bool} (h : st.get t = .bool c) : st.put t (.bool c) = st := by
  unfold St.get at h
  split at h
  · next x e => rw [h] at e; unfold St.put; rw [ins_self e]
  · cases h
theorem arunD_tr {P : Program} {E : Env} {C : Cx} (hT : TyOK P C.tys) (hS : SpecOK P E) {ops : Array Oper} : ∀ (l : List Oper) (st : St) (lg : List Lg) (k : St → List Lg → Prop), arunD P E C ops l st lg k → ∃ gs fin, Tr P E C ops l st gs fin ∧ k fin (lg ++ gs)
  | [], st, lg, k, h => ⟨[], st, rfl, by simpa [arunD] using h⟩
  | o :: rest, st, lg, k, h => by
    have ex : (Wants ops st o true) → astep P E C false o st (fun r u rd => forceE E.eager o.op r fun r => updK st o.dst r u fun st' => arunD P E C ops rest st' (lg ++ [⟨r, u, rd, true⟩]) k) → ∃ gs fin, Tr P E C ops (o :: rest) st gs fin ∧ k fin (lg ++ gs) := by
      intro hw h
      obtain ⟨r, u, rd, h1, h2, h3⟩ := astep_sound hT hS h
      have h4 := h1 (fun e => by cases e)
      rw [forceE_eq, updK_eq] at h4
      obtain ⟨gs, fin, h5, h6⟩ := arunD_tr hT hS rest _ _ _ h4
      exact ⟨⟨r, u, rd, true⟩ :: gs, fin, ⟨⟨hw, astep_dst h, fun _ => h2, fun e => by cases e⟩, h5⟩, by simpa using h6⟩
    have sk : (Wants ops st o false) → cond (dstOk C.nt o.dst) (updK st o.dst .undef [] fun st' => arunD P E C ops rest st' (lg ++ [⟨.undef, [], [], false⟩]) k) False → ∃ gs fin, Tr P E C ops (o :: rest) st gs fin ∧ k fin (lg ++ gs) := by
      intro hw h
      obtain ⟨hd, h⟩ := cond_F h
      rw [updK_eq] at h
      obtain ⟨gs, fin, h5, h6⟩ := arunD_tr hT hS rest _ _ _ h
      exact ⟨⟨.undef, [], [], false⟩ :: gs, fin, ⟨⟨hw, hd, (fun e => by cases e), fun _ => ⟨rfl, rfl⟩⟩, h5⟩, by simpa using h6⟩
    simp only [arunD] at h
    split at h
    · rename_i hg
      exact ex (by simp [Wants, hg]) h
    · rename_i j want hg
      split at h
      · rename_i t ht
        split at h
        · rename_i c hc
          cases c <;> cases want <;> simp only [cond_true, cond_false] at h <;> rw [known_eq, put_self hc] at h
          · exact ex (by simp only [Wants, hg]; exact ⟨t, ht, .inl ⟨_, hc, rfl⟩⟩) h
          · exact sk (by simp only [Wants, hg]; exact ⟨t, ht, .inl ⟨_, hc, rfl⟩⟩) h
          · exact sk (by simp only [Wants, hg]; exact ⟨t, ht, .inl ⟨_, hc, rfl⟩⟩) h
          · exact ex (by simp only [Wants, hg]; exact ⟨t, ht, .inl ⟨_, hc, rfl⟩⟩) h
        · rename_i hc
          exact sk (by simp only [Wants, hg]; exact ⟨t, ht, .inr ⟨hc, trivial⟩⟩) h
        · exact h.elim
      · exact h.elim

/-! States of some of the operations. -/
def apD (D : Nat → Bool) : Nat → List Oper → List Lg → St → St
  | i, o :: os, g :: gs, st => apD D (i + 1) os gs (if D i then st.upd o.dst g.r g.u else st)
  | _, _, _, st => st
def lkU (u : List (Nat × Blk)) (k : Nat) (d : Option Blk) : Option Blk := match u with | [] => d | (j, b) :: u => lkU u k (if k = j then some b else d)
theorem lk_blks : ∀ (u : List (Nat × Blk)) (st : St) (k : Nat), lk (st.blks u).heap k = lkU u k (lk st.heap k)
  | [], st, k => rfl
  | (j, b) :: u, st, k => by
    simp only [St.blks, lkU]
    rw [lk_blks u]
    congr 1
    simp only [St.blk, lk_ins]
theorem lkU_no : ∀ (u : List (Nat × Blk)) (k : Nat) (d : Option Blk), k ∉ names u → lkU u k d = d
  | [], k, d, _ => rfl
  | (j, b) :: u, k, d, h => by
    simp only [names, List.mem_cons, not_or] at h
    simp only [lkU]
    rw [if_neg h.1]
    exact lkU_no u k d h.2
theorem lkU_in : ∀ (u : List (Nat × Blk)) (k : Nat) (d d' : Option Blk), k ∈ names u → lkU u k d = lkU u k d'
  | [], k, d, d', h => by simp [names] at h
  | (j, b) :: u, k, d, d', h => by
    simp only [lkU]
    by_cases hk : k = j
    · rw [if_pos hk, if_pos hk]
    · rw [if_neg hk, if_neg hk]
      simp only [names, List.mem_cons] at h
      exact lkU_in u k d d' (h.resolve_left hk)
theorem upd_get (st : St) (d : Option Nat) (r : AV) (u : List (Nat × Blk)) (t : Nat) : (st.upd d r u).get t = if d = some t then r else st.get t := by
  unfold St.upd
  cases d with
  | none => simp [St.get, blks_tmps]
  | some q =>
    simp only [St.get_put, Option.some.injEq]
    by_cases h : t = q
    · rw [if_pos h, if_pos h.symm]
    · rw [if_neg h, if_neg (fun e => h e.symm)]; simp [St.get, blks_tmps]
theorem upd_lk (st : St) (d : Option Nat) (r : AV) (u : List (Nat × Blk)) (k : Nat) : lk (st.upd d r u).heap k = lkU u k (lk st.heap k) := by
  unfold St.upd
  cases d with
  | none => exact lk_blks u st k
  | some q => exact lk_blks u st k
/-- Slot t depends only on which of its writers are done. -/
theorem apD_get (D D' : Nat → Bool) (t : Nat) : ∀ (os : List Oper) (gs : List Lg) (i : Nat) (st st' : St), st.get t = st'.get t → (∀ j o, os[j]? = some o → o.dst = some t → D (i + j) = D' (i + j)) → (apD D i os gs st).get t = (apD D' i os gs st').get t
  | [], gs, i, st, st', h, _ => by simpa [apD] using h
  | _ :: _, [], i, st, st', h, _ => by simpa [apD] using h
  | o :: os, g :: gs, i, st, st', h, hD => by
    simp only [apD]
    refine apD_get D D' t os gs (i + 1) _ _ ?_ (fun j q hj hq => by have := hD (j + 1) q (by simpa using hj) hq; rwa [show i + 1 + j = i + (j + 1) by omega])
    by_cases hw : o.dst = some t
    · have := hD 0 o rfl hw
      simp only [Nat.add_zero] at this
      rw [← this]
      by_cases hb : D i = true
      · rw [if_pos hb, if_pos hb, upd_get, upd_get, if_pos hw, if_pos hw]
      · rw [if_neg hb, if_neg hb]; exact h
    · have key : ∀ (b : Bool) (s : St), (if b = true then s.upd o.dst g.r g.u else s).get t = s.get t := by
        intro b s
        cases b
        · rfl
        · rw [if_pos rfl, upd_get, if_neg hw]
      rw [key, key]; exact h
theorem apD_lk (D D' : Nat → Bool) (k : Nat) : ∀ (os : List Oper) (gs : List Lg) (i : Nat) (st st' : St), lk st.heap k = lk st'.heap k → (∀ j g, gs[j]? = some g → k ∈ names g.u → D (i + j) = D' (i + j)) → lk (apD D i os gs st).heap k = lk (apD D' i os gs st').heap k
  | [], gs, i, st, st', h, _ => by simpa [apD] using h
  | _ :: _, [], i, st, st', h, _ => by simpa [apD] using h
  | o :: os, g :: gs, i, st, st', h, hD => by
    simp only [apD]
    refine apD_lk D D' k os gs (i + 1) _ _ ?_ (fun j q hj hq => by have := hD (j + 1) q (by simpa using hj) hq; rwa [show i + 1 + j = i + (j + 1) by omega])
    by_cases hw : k ∈ names g.u
    · have := hD 0 g rfl hw
      simp only [Nat.add_zero] at this
      rw [← this]
      by_cases hb : D i = true
      · rw [if_pos hb, if_pos hb, upd_lk, upd_lk]; exact lkU_in _ _ _ _ hw
      · rw [if_neg hb, if_neg hb]; exact h
    · have key : ∀ (b : Bool) (s : St), lk (if b = true then s.upd o.dst g.r g.u else s).heap k = lk s.heap k := by
        intro b s
        cases b
        · rfl
        · rw [if_pos rfl, upd_lk, lkU_no _ _ _ hw]
      rw [key, key]; exact h
/-- The state of the text ahead of operation i, and what is known there. -/
theorem tr_at {P : Program} {E : Env} {C : Cx} {ops : Array Oper} (D : Nat → Bool) : ∀ (os : List Oper) (gs : List Lg) (b : Nat) (st fin : St), Tr P E C ops os st gs fin → ∀ (i : Nat) (o : Oper), os[i]? = some o →
    ∃ g, gs[i]? = some g ∧ StepOK P E C ops o (apD (fun j => decide (j < b + i)) b os gs st) g
  | [], gs, b, st, fin, h, i, o, e => by simp at e
  | _ :: _, [], b, st, fin, h, i, o, e => by simp [Tr] at h
  | o :: os, g :: gs, b, st, fin, h, i, o', e => by
    simp only [Tr] at h
    cases i with
    | zero =>
      simp at e
      subst e
      refine ⟨g, rfl, ?_⟩
      have : apD (fun j => decide (j < b + 0)) b (o :: os) (g :: gs) st = st := by
        have key : ∀ (os : List Oper) (gs : List Lg) (q : Nat) (s : St), b ≤ q → apD (fun j => decide (j < b + 0)) q os gs s = s := by
          intro os
          induction os with
          | nil => intro gs q s _; simp [apD]
          | cons o os ih =>
            intro gs q s hq
            cases gs with
            | nil => simp [apD]
            | cons g gs =>
              simp only [apD]
              rw [if_neg (by simp; omega)]
              exact ih gs (q + 1) s (by omega)
        exact key _ _ b st (Nat.le_refl _)
      rw [this]; exact h.1
    | succ i =>
      simp at e
      obtain ⟨g', h1, h2⟩ := tr_at D os gs (b + 1) _ fin h.2 i o' e
      refine ⟨g', by simpa using h1, ?_⟩
      simp only [apD]
      rw [if_pos (by simp)]
      rwa [show b + (i + 1) = b + 1 + i by omega]
theorem tr_len {P : Program} {E : Env} {C : Cx} {ops : Array Oper} : ∀ (os : List Oper) (gs : List Lg) (st fin : St), Tr P E C ops os st gs fin → gs.length = os.length
  | [], [], _, _, _ => rfl
  | [], _ :: _, _, _, h => by simp [Tr] at h
  | _ :: _, [], _, _, h => by simp [Tr] at h
  | o :: os, g :: gs, st, fin, h => by simp only [Tr] at h; simp [tr_len os gs _ fin h.2]
theorem tr_fin {P : Program} {E : Env} {C : Cx} {ops : Array Oper} : ∀ (os : List Oper) (gs : List Lg) (b : Nat) (st fin : St), Tr P E C ops os st gs fin → ∀ D : Nat → Bool, (∀ j, j < os.length → D (b + j) = true) → apD D b os gs st = fin
  | [], [], b, st, fin, h, D, _ => by simp only [Tr] at h; subst h; rfl
  | [], _ :: _, b, st, fin, h, D, _ => by simp [Tr] at h
  | _ :: _, [], b, st, fin, h, D, _ => by simp [Tr] at h
  | o :: os, g :: gs, b, st, fin, h, D, hD => by
    simp only [Tr] at h
    simp only [apD]
    rw [if_pos (by simpa using hD 0 (by simp))]
    exact tr_fin os gs (b + 1) _ fin h.2 D (fun j hj => by have := hD (j + 1) (by simp; omega); rwa [show b + 1 + j = b + (j + 1) by omega])

def Closed (ops : Array Oper) (D : Nat → Bool) : Prop := ∀ (i : Nat) (o : Oper), ops[i]? = some o → D i = true → ∀ e ∈ o.after, Region.binds .any e = true → D e.on = true
theorem ancE_ok {D : Nat → Bool} {acc : List (List Nat)} (hacc : ∀ i j, D i = true → j ∈ acc.getD i [] → D j = true) : ∀ (l : List Edge), (∀ e ∈ l, Region.binds .any e = true → D e.on = true) → ∀ j ∈ ancE acc l, D j = true
  | [], _, j, hj => by simp [ancE] at hj
  | e :: l, h, j, hj => by
    simp only [ancE] at hj
    cases hb : Region.binds .any e with
    | true =>
      rw [hb] at hj
      simp only [cond_true, List.mem_cons, List.mem_append] at hj
      have he := h e List.mem_cons_self hb
      rcases hj with rfl | hj | hj
      · exact he
      · exact hacc _ _ he hj
      · exact ancE_ok hacc l (fun e' he' => h e' (List.mem_cons_of_mem _ he')) j hj
    | false =>
      rw [hb] at hj
      exact ancE_ok hacc l (fun e' he' => h e' (List.mem_cons_of_mem _ he')) j hj
theorem ancs_ok {ops : Array Oper} {D : Nat → Bool} (hD : Closed ops D) : ∀ (l : List Oper) (acc : List (List Nat)), (∀ j, l[j]? = ops[acc.length + j]?) → (∀ i j, D i = true → j ∈ acc.getD i [] → D j = true) → ∀ i j, D i = true → j ∈ (ancs l acc).getD i [] → D j = true
  | [], acc, hl, hacc, i, j, hi, hj => hacc i j hi hj
  | o :: rest, acc, hl, hacc, i, j, hi, hj => by
    simp only [ancs] at hj
    refine ancs_ok hD rest _ (fun q => by have := hl (q + 1); simp at this ⊢; rw [this]; congr 1; omega) (fun p q hp hq => ?_) i j hi hj
    by_cases hlt : p < acc.length
    · rw [List.getD_eq_getElem?_getD, List.getElem?_append_left hlt, ← List.getD_eq_getElem?_getD] at hq
      exact hacc p q hp hq
    · by_cases he : p = acc.length
      · subst he
        rw [List.getD_eq_getElem?_getD, List.getElem?_append_right (Nat.le_refl _)] at hq
        simp at hq
        have ho := hl 0
        simp at ho
        exact ancE_ok hacc _ (fun e he hb => hD _ o ho.symm hp e (by simpa using he) hb) q hq
      · rw [List.getD_eq_getElem?_getD, List.getElem?_append_right (by omega)] at hq
        have : ([ancE acc o.after.toList] : List (List Nat))[p - acc.length]? = none := by
          rw [List.getElem?_eq_none]; simp; omega
        rw [this] at hq
        simp at hq
theorem ancs_len : ∀ (l : List Oper) (acc : List (List Nat)), (ancs l acc).length = acc.length + l.length
  | [], acc => by simp [ancs]
  | o :: rest, acc => by simp only [ancs]; rw [ancs_len]; simp; omega
theorem zip4_get : ∀ (b : Nat) (os : List Oper) (gs : List Lg) (az : List (List Nat)) (i : Nat) (o : Oper) (g : Lg) (a : List Nat), os[i]? = some o → gs[i]? = some g → az[i]? = some a → (b + i, o, g, a) ∈ zip4 b os gs az
  | b, [], gs, az, i, o, g, a, h, _, _ => by simp at h
  | b, _ :: _, [], az, i, o, g, a, _, h, _ => by simp at h
  | b, _ :: _, _ :: _, [], i, o, g, a, _, _, h => by simp at h
  | b, o' :: os, g' :: gs, a' :: az, i, o, g, a, h1, h2, h3 => by
    simp only [zip4]
    cases i with
    | zero => simp at h1 h2 h3; subst h1 h2 h3; simp
    | succ i =>
      simp at h1 h2 h3
      have := zip4_get (b + 1) os gs az i o g a h1 h2 h3
      rw [show b + (i + 1) = b + 1 + i by omega]
      exact List.mem_cons_of_mem _ this
theorem inL_true {k : Nat} : ∀ {l : List Nat}, inL k l = true ↔ k ∈ l
  | [] => by simp [inL]
  | j :: l => by
    simp only [inL, Bool.or_eq_true, List.mem_cons]
    rw [inL_true]
    constructor
    · rintro (h | h)
      · exact .inl (Nat.eq_of_beq_eq_true h).symm
      · exact .inr h
    · rintro (rfl | h)
      · exact .inl (nbeq_self _)
      · exact .inr h
theorem meets_false {l l' : List Nat} : meets l l' = false → ∀ k ∈ l, k ∉ l' := by
  induction l with
  | nil => simp
  | cons x xs ih =>
    intro h k hk
    simp only [meets, Bool.or_eq_false_iff] at h
    rcases List.mem_cons.1 hk with rfl | hk
    · exact fun hm => by rw [inL_true.2 hm] at h; simp at h
    · exact ih h.2 k hk
theorem opTmps_mem : ∀ {l : List Operand} {t : Nat}, Operand.tmp t ∈ l → t ∈ opTmps l
  | [], t, h => by simp at h
  | x :: l, t, h => by
    rcases List.mem_cons.1 h with rfl | h
    · simp [opTmps]
    · have h1 := opTmps_mem h
      cases x <;> simp [opTmps, h1]
theorem nnT_ins {k : Nat} {t : Nat} {x : AV} (hx : nn k x = true) : ∀ {l : List (Nat × AV)}, nnT k l = true → nnT k (ins l t x) = true
  | [], _ => by simp [ins, nnT, hx]
  | (j, y) :: l, h => by
    simp only [nnT, Bool.and_eq_true] at h
    simp only [ins]
    cases Nat.beq j t with
    | true => simp only [cond_true, nnT, hx, h.2, Bool.and_true]
    | false => simp only [cond_false, nnT, h.1, nnT_ins hx h.2, Bool.and_true]
theorem nnH_ins {k : Nat} {t : Nat} {b : Blk} (hx : (Nat.beq t k || nnB k b) = true) : ∀ {l : List (Nat × Blk)}, nnH k l = true → nnH k (ins l t b) = true
  | [], _ => by simp [ins, nnH, hx]
  | (j, y) :: l, h => by
    simp only [nnH, Bool.and_eq_true] at h
    simp only [ins]
    cases hj : Nat.beq j t with
    | true =>
      have := Nat.eq_of_beq_eq_true hj
      subst this
      simp only [cond_true, nnH, hx, h.2, Bool.and_true]
    | false => simp only [cond_false, nnH, h.1, nnH_ins hx h.2, Bool.and_true]
theorem fresh_upd {kp : List Nat} {k : Nat} {d : Option Nat} {r : AV} (hr : nn k r = true) : ∀ {u : List (Nat × Blk)} {st : St}, fresh kp st k = true → nnU k u = true → fresh kp (st.upd d r u) k = true := by
  have hb : ∀ (u : List (Nat × Blk)) (st : St), fresh kp st k = true → nnU k u = true → fresh kp (st.blks u) k = true := by
    intro u
    induction u with
    | nil => intro st h _; exact h
    | cons p u ih =>
      intro st h hu
      obtain ⟨j, b⟩ := p
      simp only [nnU, Bool.and_eq_true] at hu
      refine ih _ ?_ hu.2
      simp only [fresh, Bool.and_eq_true] at h ⊢
      exact ⟨⟨h.1.1, nnH_ins hu.1 h.1.2⟩, h.2⟩
  intro u st h hu
  unfold St.upd
  have h1 := hb u st h hu
  cases d with
  | none => exact h1
  | some t =>
    simp only [fresh, Bool.and_eq_true] at h1 ⊢
    exact ⟨⟨nnT_ins hr h1.1.1, h1.1.2⟩, h1.2⟩
theorem fresh_apD {kp : List Nat} {k : Nat} (D : Nat → Bool) : ∀ (os : List Oper) (gs : List Lg) (b : Nat) (st : St), fresh kp st k = true → (∀ j g, gs[j]? = some g → D (b + j) = true → nn k g.r = true ∧ nnU k g.u = true) → fresh kp (apD D b os gs st) k = true
  | [], gs, b, st, h, _ => by simpa [apD] using h
  | _ :: _, [], b, st, h, _ => by simpa [apD] using h
  | o :: os, g :: gs, b, st, h, hg => by
    simp only [apD]
    refine fresh_apD D os gs (b + 1) _ ?_ (fun j g' e hD => hg (j + 1) g' (by simpa using e) (by rwa [show b + (j + 1) = b + 1 + j by omega]))
    by_cases hD : D b = true
    · rw [if_pos hD]
      have := hg 0 g rfl (by simpa using hD)
      exact fresh_upd this.1 h this.2
    · rw [if_neg hD]; exact h
theorem Rel.congr {G : Gh} {kp : List Nat} {st st' : St} {a : Act} {w : World} {S : Pin} {m : Nm} (h : Rel G kp st a w S m) (h1 : ∀ t, st'.get t = st.get t) (h2 : ∀ k, lk st'.heap k = lk st.heap k) : Rel G kp st' a w S m :=
  h.weaken (fun t v hv => by rw [h1]; exact hv) (fun k b hk => by rw [h2] at hk; exact ⟨⟨b, hk⟩, h.held k b hk⟩)

theorem tmR_guard {ops : Array Oper} {o : Oper} {j t : Nat} {want : Bool} (hg : o.guard = some (j, want)) (ht : (ops[j]?).bind (·.dst) = some t) : t ∈ tmR ops o := by
  unfold tmR
  rw [hg]
  simp only [ht]
  simp
theorem tmR_op {ops : Array Oper} {o : Oper} {t : Nat} (h : Operand.tmp t ∈ o.op.operands) : t ∈ tmR ops o := by
  have h1 := opTmps_mem (Array.mem_toList_iff.2 h)
  unfold tmR
  split
  · split
    · exact List.mem_cons_of_mem _ h1
    · exact h1
  · exact h1
theorem backOk_get : ∀ (l : List Oper) (b : Nat), backOk l b = true → ∀ (i : Nat) (o : Oper), l[i]? = some o → ∀ e ∈ o.after, Region.binds .any e = true → e.on < b + i
  | [], b, _, i, o, h => by simp at h
  | o' :: l, b, h, i, o, e0 => by
    simp only [backOk, Bool.and_eq_true] at h
    cases i with
    | zero =>
      simp at e0
      subst e0
      intro e he hb
      have := List.all_eq_true.1 h.1 e (by simpa using he)
      rw [hb] at this
      simp only [Bool.not_true, Bool.false_or] at this
      have := Nat.le_of_ble_eq_true this
      omega
    | succ i =>
      intro e he hb
      have := backOk_get l (b + 1) h.2 i o (by simpa using e0) e he hb
      omega
theorem freshAll_get {kp : List Nat} {st : St} : ∀ (gs : List Lg), freshAll kp st gs = true → ∀ (i : Nat) (g : Lg), gs[i]? = some g → ∀ p ∈ g.u, p.1 ∉ g.rd → fresh kp st p.1 = true
  | [], _, i, g, e => by simp at e
  | g' :: gs, h, i, g, e => by
    simp only [freshAll, Bool.and_eq_true] at h
    cases i with
    | zero =>
      simp at e
      subst e
      intro p hp hn
      have := List.all_eq_true.1 h.1 p hp
      simp only [Bool.or_eq_true] at this
      exact this.resolve_left (fun q => hn (inL_true.1 q))
    | succ i => exact freshAll_get gs h.2 i g (by simpa using e)

/-- What the checks say of two operations. -/
theorem pairs_get {kp : List Nat} {st : St} {ops : Array Oper} {gs : List Lg} (h : ordOk kp st ops gs = true) {i j : Nat} {o o' : Oper} {g g' : Lg} (hi : ops[i]? = some o) (hj : ops[j]? = some o') (hgi : gs[i]? = some g) (hgj : gs[j]? = some g') (hne : i ≠ j) :
    (i < j → i ∈ (ancs ops.toList []).getD j [] ∨ clash ops o o' g g' = false) ∧ (i ∈ (ancs ops.toList []).getD j [] ∨ newOk g g' = true) := by
  unfold ordOk at h
  simp only [Bool.and_eq_true] at h
  have hp := h.2
  unfold pairsOk at hp
  have hlen := ancs_len ops.toList []
  simp only [List.length_nil, Nat.zero_add] at hlen
  have li : i < ops.size := (Array.getElem?_eq_some_iff.1 hi).1
  have lj : j < ops.size := (Array.getElem?_eq_some_iff.1 hj).1
  have ai : (ancs ops.toList [])[i]? = some ((ancs ops.toList [])[i]'(by rw [hlen]; simpa using li)) := List.getElem?_eq_getElem _
  have aj : (ancs ops.toList [])[j]? = some ((ancs ops.toList [])[j]'(by rw [hlen]; simpa using lj)) := List.getElem?_eq_getElem _
  have mi := zip4_get 0 ops.toList gs (ancs ops.toList []) i o g _ (by simpa using hi) hgi ai
  have mj := zip4_get 0 ops.toList gs (ancs ops.toList []) j o' g' _ (by simpa using hj) hgj aj
  simp only [Nat.zero_add] at mi mj
  have h1 := List.all_eq_true.1 hp _ mi
  have h2 := List.all_eq_true.1 h1 _ mj
  simp only [nbeq_ne hne, Bool.false_or, Bool.and_eq_true, Bool.or_eq_true, Bool.not_eq_true'] at h2
  have ea : (ancs ops.toList []).getD j [] = (ancs ops.toList [])[j]'(by rw [hlen]; simpa using lj) := by rw [List.getD_eq_getElem?_getD, aj]; rfl
  rw [ea]
  refine ⟨fun hlt => ?_, h2.2.imp inL_true.1 id⟩
  rcases h2.1 with (h3 | h3) | h3
  · have := Nat.le_of_ble_eq_true h3; omega
  · exact .inl (inL_true.1 h3)
  · exact .inr h3.1.1

theorem adraw_core {P : Program} {E : Env} {C : Cx} {ops : Array Oper} {Q : Exit → Act → World → Prop} {G : Gh} (hG : GOK E G.S0) {st fin : St} {gs : List Lg} (htr : Tr P E C ops ops.toList st gs fin) (hord : ordOk2 C.kp st ops gs = true)
    {a : Act} {w : World} {S : Pin} {m : Nm} (hR : Rel G C.kp st a w S m) (hn : a.tmps.size = C.nt)
    (hQ : ∀ a' w' S' m', Rel G C.kp fin a' w' S' m' → a'.tmps.size = C.nt → Q .normal a' w') :
    wpAny P .any ops Q ops.size (Array.replicate ops.size false) a { w with drawn := w.drawn + 1 } := by
  replace hord := ordOk2_ok hord
  have hord' := hord
  unfold ordOk at hord'
  simp only [Bool.and_eq_true] at hord'
  obtain ⟨⟨⟨hback, hlen⟩, hfr⟩, _⟩ := hord'
  have hlg : gs.length = ops.size := Nat.eq_of_beq_eq_true hlen
  -- what is ready is one more operation that may be done
  have step : ∀ (D : Nat → Bool), Closed ops D → ∀ (i : Nat) (o : Oper), ops[i]? = some o → D i = false → (∀ e ∈ o.after, Region.binds .any e = true → D e.on = true) →
      ∃ g, gs[i]? = some g ∧ StepOK P E C ops o (apD (fun j => decide (j < i)) 0 ops.toList gs st) g ∧
        (∀ t ∈ tmR ops o, (apD D 0 ops.toList gs st).get t = (apD (fun j => decide (j < i)) 0 ops.toList gs st).get t) ∧
        (∀ q ∈ g.rd, lk (apD D 0 ops.toList gs st).heap q = lk (apD (fun j => decide (j < i)) 0 ops.toList gs st).heap q) ∧
        (∀ p ∈ g.u, p.1 ∉ g.rd → fresh C.kp (apD D 0 ops.toList gs st) p.1 = true) ∧
        (∀ t, (apD (fun j => D j || decide (j = i)) 0 ops.toList gs st).get t = ((apD D 0 ops.toList gs st).upd o.dst g.r g.u).get t) ∧
        (∀ q, lk (apD (fun j => D j || decide (j = i)) 0 ops.toList gs st).heap q = lk ((apD D 0 ops.toList gs st).upd o.dst g.r g.u).heap q) := by
    intro D hD i o hi hDi hdep
    obtain ⟨g, hg, hok⟩ := tr_at (fun _ => true) ops.toList gs 0 st fin htr i o (by simpa using hi)
    simp only [Nat.zero_add] at hok
    have hD' : Closed ops (fun j => D j || decide (j = i)) := by
      intro q o' hq hDq e he hb
      simp only [Bool.or_eq_true, decide_eq_true_eq] at hDq ⊢
      rcases hDq with hDq | rfl
      · exact .inl (hD q o' hq hDq e he hb)
      · rw [hi] at hq
        injection hq with hq
        subst hq
        exact .inl (hdep e he hb)
    have acl : ∀ q, q ∈ (ancs ops.toList []).getD i [] → q ≠ i → D q = true := by
      intro q hq hne
      have := ancs_ok hD' ops.toList [] (fun j => by simp) (fun p q hp hq => by simp at hq) i q (by simp) hq
      simpa [hne] using this
    have acg : ∀ j, D j = true → i ∉ (ancs ops.toList []).getD j [] := by
      intro j hj hm
      have := ancs_ok hD ops.toList [] (fun j => by simp) (fun p q hp hq => by simp at hq) j i hj hm
      rw [this] at hDi; cases hDi
    -- whatever else writes what it touches is done just if it stands ahead of it
    have sep : ∀ (j : Nat) (o' : Oper) (g' : Lg), ops[j]? = some o' → gs[j]? = some g' → (j < i → clash ops o' o g' g = true) → (i < j → clash ops o o' g g' = true) → j ≠ i → D j = decide (j < i) := by
      intro j o' g' hj hgj c1 c2 hne
      rcases Nat.lt_or_ge j i with hlt | hge
      · rw [decide_eq_true hlt]
        rcases (pairs_get hord hj hi hgj hg hne).1 hlt with h1 | h1
        · exact acl j h1 hne
        · rw [c1 hlt] at h1; cases h1
      · have hlt : i < j := by omega
        rw [decide_eq_false (by omega)]
        rcases (pairs_get hord hi hj hg hgj (fun e => hne e.symm)).1 hlt with h1 | h1
        · cases hb : D j with
          | false => rfl
          | true => exact absurd h1 (acg j hb)
        · rw [c2 hlt] at h1; cases h1
    have gex : ∀ (j : Nat) (o' : Oper), ops[j]? = some o' → ∃ g', gs[j]? = some g' := fun j o' hj => ⟨gs[j]'(by rw [hlg]; exact (Array.getElem?_eq_some_iff.1 hj).1), List.getElem?_eq_getElem _⟩
    have oex : ∀ (j : Nat) (g' : Lg), gs[j]? = some g' → ∃ o', ops[j]? = some o' := fun j g' hj => ⟨ops[j]'(by rw [← hlg]; exact (List.getElem?_eq_some_iff.1 hj).1), Array.getElem?_eq_getElem _⟩
    have mt : ∀ (l l' : List Nat) (x : Nat), x ∈ l → x ∈ l' → meets l l' = true := by
      intro l l' x h1 h2
      cases hm : meets l l' with
      | true => rfl
      | false => exact absurd h2 (meets_false hm x h1)
    have tw : ∀ {o' : Oper} {t : Nat}, o'.dst = some t → t ∈ tmW o' := fun h => by simp [tmW, h]
    have readT : ∀ t ∈ tmR ops o, (apD D 0 ops.toList gs st).get t = (apD (fun j => decide (j < i)) 0 ops.toList gs st).get t := by
      intro t ht
      refine apD_get _ _ t _ _ 0 _ _ rfl (fun j o' hj hw => ?_)
      simp only [Nat.zero_add]
      have hj' : ops[j]? = some o' := by simpa using hj
      by_cases hne : j = i
      · subst hne; rw [hDi, decide_eq_false (by omega)]
      · obtain ⟨g', hg'⟩ := gex j o' hj'
        refine sep j o' g' hj' hg' (fun _ => ?_) (fun _ => ?_) hne
        · unfold clash; rw [mt (tmW o') (tmR ops o) t (tw hw) ht]; simp
        · unfold clash; rw [mt (tmR ops o) (tmW o') t ht (tw hw)]; simp
    have readN : ∀ q ∈ g.rd, lk (apD D 0 ops.toList gs st).heap q = lk (apD (fun j => decide (j < i)) 0 ops.toList gs st).heap q := by
      intro q hq
      refine apD_lk _ _ q _ _ 0 _ _ rfl (fun j g' hg' hw => ?_)
      simp only [Nat.zero_add]
      by_cases hne : j = i
      · subst hne; rw [hDi, decide_eq_false (by omega)]
      · obtain ⟨o', hj'⟩ := oex j g' hg'
        refine sep j o' g' hj' hg' (fun _ => ?_) (fun _ => ?_) hne
        · unfold clash; rw [mt (names g'.u) g.rd q hw hq]; simp
        · unfold clash; rw [mt g.rd (names g'.u) q hq hw]; simp
    have wrT : ∀ t, o.dst = some t → ∀ j o', ops[j]? = some o' → o'.dst = some t → j ≠ i → D j = decide (j < i) := by
      intro t ht j o' hj hw hne
      obtain ⟨g', hg'⟩ := gex j o' hj
      refine sep j o' g' hj hg' (fun _ => ?_) (fun _ => ?_) hne
      · unfold clash; rw [mt (tmW o') (tmW o) t (tw hw) (tw ht)]; simp
      · unfold clash; rw [mt (tmW o) (tmW o') t (tw ht) (tw hw)]; simp
    have wrN : ∀ q, q ∈ names g.u → ∀ j g', gs[j]? = some g' → q ∈ names g'.u → j ≠ i → D j = decide (j < i) := by
      intro q hq j g' hg' hw hne
      obtain ⟨o', hj'⟩ := oex j g' hg'
      refine sep j o' g' hj' hg' (fun _ => ?_) (fun _ => ?_) hne
      · unfold clash; rw [mt (names g'.u) (names g.u) q hw hq]; simp
      · unfold clash; rw [mt (names g.u) (names g'.u) q hq hw]; simp
    -- the state behind it, in the text
    have nextT : apD (fun j => decide (j < i + 1)) 0 ops.toList gs st = (apD (fun j => decide (j < i)) 0 ops.toList gs st).upd o.dst g.r g.u := by
      have key : ∀ (os : List Oper) (gs : List Lg) (b i : Nat) (s : St), os[i]? = some o → gs[i]? = some g → apD (fun j => decide (j < b + i + 1)) b os gs s = (apD (fun j => decide (j < b + i)) b os gs s).upd o.dst g.r g.u := by
        intro os
        induction os with
        | nil => intro gs b i s e; simp at e
        | cons o1 os ih =>
          intro gs b i s e1 e2
          cases gs with
          | nil => simp at e2
          | cons g1 gs =>
            simp only [apD]
            cases i with
            | zero =>
              simp at e1 e2
              subst e1 e2
              rw [if_pos (by simp), if_neg (by simp)]
              have stop : ∀ (os : List Oper) (gs : List Lg) (B q : Nat) (s : St), B ≤ q → apD (fun j => decide (j < B)) q os gs s = s := by
                intro os
                induction os with
                | nil => intro gs B q s _; simp [apD]
                | cons o os ih =>
                  intro gs B q s hq
                  cases gs with
                  | nil => simp [apD]
                  | cons g gs =>
                    simp only [apD]
                    rw [if_neg (by simp; omega)]
                    exact ih gs B (q + 1) s (by omega)
              rw [stop _ _ (b + 0 + 1) (b + 1) _ (by omega), stop _ _ (b + 0) (b + 1) _ (by omega)]
            | succ i =>
              simp at e1 e2
              rw [if_pos (by simp; omega), if_pos (by simp)]
              have := ih gs (b + 1) i (s.upd o1.dst g1.r g1.u) e1 e2
              rw [show b + (i + 1) + 1 = b + 1 + i + 1 by omega, show b + (i + 1) = b + 1 + i by omega]
              exact this
      have := key ops.toList gs 0 i st (by simpa using hi) hg
      simpa using this
    refine ⟨g, hg, hok, readT, readN, ?_, ?_, ?_⟩
    · intro p hp hnr
      refine fresh_apD D ops.toList gs 0 st (freshAll_get gs hfr i g hg p hp hnr) (fun j g' hg' hDj => ?_)
      simp only [Nat.zero_add] at hDj
      obtain ⟨o', hj'⟩ := oex j g' hg'
      have hne : i ≠ j := by rintro rfl; rw [hDj] at hDi; cases hDi
      rcases (pairs_get hord hi hj' hg hg' hne).2 with h1 | h1
      · exact absurd h1 (acg j hDj)
      · have := List.all_eq_true.1 h1 p hp
        simp only [Bool.or_eq_true, Bool.and_eq_true] at this
        exact this.resolve_left (fun q => hnr (inL_true.1 q))
    · intro t
      by_cases ht : o.dst = some t
      · have e1 : (apD (fun j => D j || decide (j = i)) 0 ops.toList gs st).get t = (apD (fun j => decide (j < i + 1)) 0 ops.toList gs st).get t := by
          refine apD_get _ _ t _ _ 0 _ _ rfl (fun j o' hj hw => ?_)
          simp only [Nat.zero_add]
          by_cases hne : j = i
          · subst hne; simp
          · rw [wrT t ht j o' (by simpa using hj) hw hne, decide_eq_false hne, Bool.or_false]
            by_cases hlt : j < i
            · rw [decide_eq_true hlt, decide_eq_true (by omega)]
            · rw [decide_eq_false hlt, decide_eq_false (by omega)]
        rw [e1, nextT, upd_get, upd_get, if_pos ht, if_pos ht]
      · rw [upd_get, if_neg ht]
        refine apD_get _ _ t _ _ 0 _ _ rfl (fun j o' hj hw => ?_)
        simp only [Nat.zero_add]
        have hne : j ≠ i := by
          rintro rfl
          have hj' : ops[j]? = some o' := by simpa using hj
          rw [hi] at hj'
          injection hj' with hj'
          subst hj'
          exact ht hw
        rw [decide_eq_false hne, Bool.or_false]
    · intro q
      by_cases hq : q ∈ names g.u
      · have e1 : lk (apD (fun j => D j || decide (j = i)) 0 ops.toList gs st).heap q = lk (apD (fun j => decide (j < i + 1)) 0 ops.toList gs st).heap q := by
          refine apD_lk _ _ q _ _ 0 _ _ rfl (fun j g' hg' hw => ?_)
          simp only [Nat.zero_add]
          by_cases hne : j = i
          · subst hne; simp
          · rw [wrN q hq j g' hg' hw hne, decide_eq_false hne, Bool.or_false]
            by_cases hlt : j < i
            · rw [decide_eq_true hlt, decide_eq_true (by omega)]
            · rw [decide_eq_false hlt, decide_eq_false (by omega)]
        rw [e1, nextT, upd_lk, upd_lk]
        exact lkU_in _ _ _ _ hq
      · rw [upd_lk, lkU_no _ _ _ hq]
        refine apD_lk _ _ q _ _ 0 _ _ rfl (fun j g' hg' hw => ?_)
        simp only [Nat.zero_add]
        have hne : j ≠ i := by
          rintro rfl
          rw [hg] at hg'
          injection hg' with hg'
          subst hg'
          exact hq hw
        rw [decide_eq_false hne, Bool.or_false]
  -- the whole, by what is left
  have all : ∀ (fuel : Nat) (listed : Array Bool), listed.size = ops.size → ((List.range ops.size).countP fun i => !listed.getD i false) = fuel → Closed ops (fun i => listed.getD i false) →
      ∀ (a : Act) (w : World) (S : Pin) (m : Nm), Rel G C.kp (apD (fun i => listed.getD i false) 0 ops.toList gs st) a w S m → a.tmps.size = C.nt → wpAny P .any ops Q fuel listed a w := by
    have rdy : ∀ (listed : Array Bool), listed.size = ops.size → Region.ready .any ops listed = [] → ∀ i, i < ops.size → listed.getD i false = true := by
      intro listed hsz hr i
      induction i using Nat.strongRecOn with
      | _ i ih =>
        intro hi
        cases hl : listed.getD i false with
        | true => rfl
        | false =>
          have hm : i ∈ Region.ready .any ops listed := by
            unfold Region.ready
            rw [List.mem_filter]
            refine ⟨List.mem_range.2 hi, ?_⟩
            have h1 : listed.getD i true = false := by
              rw [Array.getD_eq_getD_getElem?, Array.getElem?_eq_getElem (by omega)] at hl ⊢
              exact hl
            rw [h1, Array.getElem?_eq_getElem hi]
            simp only [Bool.not_false, Option.map_some, Option.getD_some, Bool.true_and]
            rw [Array.all_eq_true_iff_forall_mem]
            intro e he
            cases hb : Region.binds .any e with
            | false => simp
            | true =>
              simp only [Bool.not_true, Bool.false_or]
              have := backOk_get ops.toList 0 hback i ops[i] (by simp [hi]) e he hb
              exact ih e.on (by omega) (by omega)
          rw [hr] at hm
          simp at hm
    have done : ∀ (listed : Array Bool), listed.size = ops.size → Region.ready .any ops listed = [] → ∀ (a : Act) (w : World) (S : Pin) (m : Nm), Rel G C.kp (apD (fun i => listed.getD i false) 0 ops.toList gs st) a w S m → a.tmps.size = C.nt → Q .normal a w := by
      intro listed hsz hr a w S m hR hn
      have := tr_fin ops.toList gs 0 st fin htr (fun i => listed.getD i false) (fun j hj => by simp only [Nat.zero_add]; exact rdy listed hsz hr j (by simpa using hj))
      rw [this] at hR
      exact hQ a w S m hR hn
    intro fuel
    induction fuel with
    | zero =>
      intro listed hsz hc hD a w S m hR hn
      have hr : Region.ready .any ops listed = [] := by
        unfold Region.ready
        rw [List.filter_eq_nil_iff]
        intro i hi
        rw [List.countP_eq_zero] at hc
        have := hc i hi
        have hi' := List.mem_range.1 hi
        have h1 : listed.getD i true = true := by
          rw [Array.getD_eq_getD_getElem?, Array.getElem?_eq_getElem (by omega)] at this ⊢
          simpa using this
        simp [h1]
      exact ⟨hr, done listed hsz hr a w S m hR hn⟩
    | succ fuel ih =>
      intro listed hsz hc hD a w S m hR hn
      refine ⟨fun hr => done listed hsz hr a w S m hR hn, fun i hi => ?_⟩
      unfold Region.ready at hi
      rw [List.mem_filter] at hi
      obtain ⟨hi1, hi2⟩ := hi
      have hil := List.mem_range.1 hi1
      simp only [Bool.and_eq_true, Bool.not_eq_true'] at hi2
      obtain ⟨hl, hdep⟩ := hi2
      have hlf : listed.getD i false = false := by
        rw [Array.getD_eq_getD_getElem?, Array.getElem?_eq_getElem (by omega)] at hl ⊢
        exact hl
      have ho : ops[i]? = some ops[i] := Array.getElem?_eq_getElem hil
      rw [ho] at hdep
      simp only [Option.map_some, Option.getD_some, Array.all_eq_true_iff_forall_mem, Bool.or_eq_true, Bool.not_eq_true'] at hdep
      have hdep' : ∀ e ∈ ops[i].after, Region.binds .any e = true → listed.getD e.on false = true := by
        intro e he hb
        rcases hdep e he with h1 | h1
        · rw [hb] at h1; cases h1
        · exact h1
      obtain ⟨g, hg, hok, hrT, hrN, hfr', hsT, hsN⟩ := step (fun j => listed.getD j false) hD i ops[i] ho hlf hdep'
      have hset : ∀ j, (listed.setIfInBounds i true).getD j false = (listed.getD j false || decide (j = i)) := by
        intro j
        simp only [Array.getD_eq_getD_getElem?]
        by_cases hj : j = i
        · subst hj
          rw [Array.getElem?_setIfInBounds_self_of_lt (by omega)]; simp
        · rw [Array.getElem?_setIfInBounds_ne (fun e => hj e.symm), decide_eq_false hj, Bool.or_false]
      have hfun : (fun j => (listed.setIfInBounds i true).getD j false) = (fun j => listed.getD j false || decide (j = i)) := funext hset
      have goOn : ∀ (a' : Act) (w' : World) (S' : Pin) (m' : Nm), Rel G C.kp ((apD (fun i => listed.getD i false) 0 ops.toList gs st).upd ops[i].dst g.r g.u) a' w' S' m' → a'.tmps.size = C.nt → wpAny P .any ops Q fuel (listed.setIfInBounds i true) a' w' := by
        intro a' w' S' m' hR' hn'
        refine ih _ (by simpa using hsz) ?_ ?_ a' w' S' m' ?_ hn'
        · have hc' := hc
          have e1 : ((List.range ops.size).countP fun j => !(listed.setIfInBounds i true).getD j false) + 1 = (List.range ops.size).countP fun j => !listed.getD j false := by
            have hnd := List.nodup_range (n := ops.size)
            have key : ∀ (l : List Nat), l.Nodup → i ∈ l → (l.countP fun j => !(listed.setIfInBounds i true).getD j false) + 1 = l.countP fun j => !listed.getD j false := by
              intro l
              induction l with
              | nil => intro _ h; simp at h
              | cons x l ih2 =>
                intro hnd hm
                rw [List.nodup_cons] at hnd
                simp only [List.countP_cons]
                by_cases hx : x = i
                · subst hx
                  have e2 : (l.countP fun j => !(listed.setIfInBounds x true).getD j false) = l.countP fun j => !listed.getD j false := by
                    refine List.countP_congr (fun j hj => ?_)
                    have : j ≠ x := by rintro rfl; exact hnd.1 hj
                    rw [hset, decide_eq_false this, Bool.or_false]
                  rw [e2, hset, hlf]
                  simp
                · have hm' : i ∈ l := by
                    rcases List.mem_cons.1 hm with h | h
                    · exact absurd h.symm hx
                    · exact h
                  have := ih2 hnd.2 hm'
                  rw [hset, decide_eq_false hx, Bool.or_false]
                  omega
            exact key _ hnd (List.mem_range.2 hil)
          omega
        · rw [hfun]
          intro q o' hq hDq e he hb
          simp only [Bool.or_eq_true, decide_eq_true_eq] at hDq ⊢
          rcases hDq with hDq | rfl
          · exact .inl (hD q o' hq hDq e he hb)
          · rw [ho] at hq
            injection hq with hq
            subst hq
            exact .inl (hdep' e he hb)
        · rw [hfun]
          exact hR'.congr hsT hsN
      unfold wpOp
      rw [ho]
      simp only
      have hwant : Region.wanted ops[i] (yielded ops a.tmps) = g.ex := by
        have hw := hok.1
        unfold Wants at hw
        cases hgd : ops[i].guard with
        | none => rw [hgd] at hw; simp only at hw; rw [hw]; simp [Region.wanted, hgd]
        | some jw =>
          obtain ⟨j, want⟩ := jw
          rw [hgd] at hw
          simp only at hw
          obtain ⟨t, ht, hcase⟩ := hw
          have hT := hrT t (tmR_guard hgd ht)
          rcases hcase with ⟨c, hc1, hc2⟩ | ⟨hc1, hc2⟩
          · have hs := guard_slot hR (hT.trans hc1)
            have hy : yielded ops a.tmps j = some c := by
              unfold yielded
              rw [ht]
              simp only [Option.bind_some, hs]
            rw [hc2]
            simp only [Region.wanted, hgd, hy]
            cases c <;> cases want <;> rfl
          · have hs := guard_undef hR (hT.trans hc1)
            have hy : yielded ops a.tmps j = none := by
              unfold yielded
              rw [ht]
              simp only [Option.bind_some]
            rw [hc2]
            simp only [Region.wanted, hgd, hy]
            rfl
      rw [hwant]
      cases hex : g.ex with
      | true =>
        rw [if_pos rfl]
        refine .inl (hok.2.2.1 hex G C.kp (apD (fun i => listed.getD i false) 0 ops.toList gs st) a w S m _ Q hG hR hn (fun x hx => ?_) hrN hfr' (fun v w' S' m' _ hR' => goOn _ _ _ _ hR' (by rw [put_size]; exact hn)))
        cases x with
        | tmp t => exact hrT t (tmR_op hx)
        | _ => rfl
      | false =>
        rw [if_neg (by simp)]
        obtain ⟨e1, e2⟩ := hok.2.2.2 hex
        refine goOn _ _ S m ?_ (by rw [put_size]; exact hn)
        rw [e1, e2]
        exact upd_undef hR (by rw [hn]; exact hok.2.1)
  have hR1 : Rel G C.kp (apD (fun i => (Array.replicate ops.size false).getD i false) 0 ops.toList gs st) a w.drew S m := by
    have : ∀ (os : List Oper) (gs : List Lg) (b : Nat) (s : St), apD (fun i => (Array.replicate ops.size false).getD i false) b os gs s = s := by
      intro os
      induction os with
      | nil => intro gs b s; simp [apD]
      | cons o os ih =>
        intro gs b s
        cases gs with
        | nil => simp [apD]
        | cons g gs =>
          simp only [apD]
          rw [if_neg (by simp [Array.getD_eq_getD_getElem?, Array.getElem?_replicate]; split <;> simp)]
          exact ih gs (b + 1) s
    rw [this]
    exact hR.drew
  refine all ops.size _ (by simp) ?_ ?_ a w.drew S m hR1 hn
  · rw [List.countP_eq_length.2]
    · simp
    · intro i _
      simp [Array.getD_eq_getD_getElem?, Array.getElem?_replicate]
      split <;> simp
  · intro i o _ hDi
    exfalso
    simp [Array.getD_eq_getD_getElem?, Array.getElem?_replicate] at hDi
    split at hDi <;> simp at hDi
theorem adraw_sound {P : Program} {E : Env} {C : Cx} (hT : TyOK P C.tys) (hS : SpecOK P E) {ops : Array Oper} {Q : Exit → Act → World → Prop} {G : Gh} (hG : GOK E G.S0) {st : St} {k : St → Prop} (h : adraw P E C ops st k)
    {a : Act} {w : World} {S : Pin} {m : Nm} (hR : Rel G C.kp st a w S m) (hn : a.tmps.size = C.nt)
    (hQ : ∀ st' a' w' S' m', k st' → Rel G C.kp st' a' w' S' m' → a'.tmps.size = C.nt → Q .normal a' w') :
    wpAny P .any ops Q ops.size (Array.replicate ops.size false) a { w with drawn := w.drawn + 1 } := by
  unfold adraw at h
  obtain ⟨gs, fin, htr, hk⟩ := arunD_tr hT hS _ _ _ _ h
  simp only [List.nil_append] at hk
  obtain ⟨hord, hk⟩ := cond_F hk
  exact adraw_core hG htr hord hR hn fun a' w' S' m' hR' hn' => hQ fin a' w' S' m' hk hR' hn'
end Go.Proofs.YthdfkiopppkfcaaDoor
