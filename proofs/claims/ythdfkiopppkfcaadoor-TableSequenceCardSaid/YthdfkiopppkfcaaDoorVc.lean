/- What an operation does to an abstract state: the frame of the soundness proof. -/
import Derived.Test.YthdfkiopppkfcaaDoorVb
namespace Go.Proofs.YthdfkiopppkfcaaDoor
open Go
set_option linter.unusedVariables false
set_option linter.unusedSimpArgs false

structure Env where
  glob : Nat → Option (List AV) := fun _ => none
  spec : FuncId → Option (List AV → Option (Prop × AV)) := fun _ => none
  specH : FuncId → Option (List AV → List Blk → Option (Prop × AV × List Blk)) := fun _ => none
  wrap : Bool := false
  shape : List Nat := []
  slz : List (Nat × List Nat) := []
  nowf : Bool := false
  eager : Bool := false
  add64 : Option FuncId := none
  specQ : FuncId → Option (List AV → List Blk → Option ((AV → List Blk → Prop) → Prop)) := fun _ => none
  nls : List (Nat × Nat × Nat) := []
  bst : List Nat := []
  nq : Bool := false

/-- A value that is written in the text. -/
def ofV1 : Value → AV
  | .int k n => cond (decide (rng k n)) (.int k n) .dead
  | .bool b => .bool b
  | .string s => cond (Nat.ble s.size 9223372036854775807) (.str s) .dead
  | .slice none 0 0 => .nils
  | .pointer none => .nilp
  | _ => .dead
def ofVs : List Value → List AV
  | [] => []
  | v :: vs => ofV1 v :: ofVs vs
def ofV : Value → AV
  | .agg cs => .agg (ofVs cs.toList)
  | v => ofV1 v
def evO (E : Env) (st : St) : Operand → AV
  | .tmp t => st.get t
  | .const v => ofV v
  | .global g => match E.glob g with | some cs => .ro cs | none => .dead
  | .func f => .fn f []

theorem ofV1_cv (S : Pin) (m : Nm) (v : Value) : CV S (ofV1 v) m v := by
  unfold ofV1
  split
  · rename_i k n
    by_cases h : rng k n
    · rw [decide_eq_true h]; simp only [cond_true, CV]; exact ⟨trivial, h⟩
    · rw [decide_eq_false h]; simp only [cond_false, CV]
  · simp only [CV]
  · rename_i s
    cases h : Nat.ble s.size 9223372036854775807 with
    | true => simp only [cond_true, CV]; exact ⟨trivial, by have := Nat.le_of_ble_eq_true h; unfold maxLen; omega⟩
    | false => simp only [cond_false, CV]
  · simp only [CV]
  · simp only [CV]
  · simp only [CV]
theorem ofVs_cv (S : Pin) (m : Nm) : ∀ (vs : List Value), CVl S (ofVs vs) m vs
  | [] => by simp only [ofVs, CVl]
  | v :: vs => by simp only [ofVs, CVl]; exact ⟨v, vs, rfl, ofV1_cv S m v, ofVs_cv S m vs⟩
theorem ofV_cv (S : Pin) (m : Nm) (v : Value) : CV S (ofV v) m v := by
  unfold ofV
  split
  · rename_i cs; simp only [CV]; exact ⟨cs, rfl, ofVs_cv S m _⟩
  · exact ofV1_cv S m v

def GOK (E : Env) (S : Pin) : Prop := ∀ g cs, E.glob g = some cs → CC S cs g 0
theorem evO_cv {E : Env} {G : Gh} {kp : List Nat} {st : St} {a : Act} {w : World} {S : Pin} {m : Nm} (hg : GOK E G.S0) (h : Rel G kp st a w S m) (x : Operand) : CV S (evO E st x) m (a.eval x) := by
  cases x with
  | tmp t => exact h.tmps t
  | const v => exact ofV_cv S m v
  | global g =>
    simp only [evO, Act.eval]
    cases e : E.glob g with
    | none => simp only [CV]
    | some cs =>
      simp only [CV]
      exact ⟨g, 0, rfl, CC.mono h.pin0 cs g 0 (hg g cs e)⟩
  | func f => simp only [evO, Act.eval, CV]; exact ⟨#[], rfl, by simp only [CVl]⟩

def St.blks (st : St) : List (Nat × Blk) → St
  | [] => st
  | (k, b) :: u => (st.blk k b).blks u
def St.upd (st : St) (d : Option Nat) (r : AV) (u : List (Nat × Blk)) : St :=
  match d with
  | some t => (st.blks u).put t r
  | none => st.blks u
def dstOk (nt : Nat) : Option Nat → Bool
  | some t => Nat.blt t nt
  | none => true

/-- The operation o, in whatever state its operands and the blocks rd are as given, comes to the value r and sets the blocks u. -/
def Good (P : Program) (E : Env) (nt : Nat) (o : Oper) (ev : Operand → AV) (h : Nat → Option Blk) (r : AV) (u : List (Nat × Blk)) (rd : List Nat) : Prop :=
  ∀ (G : Gh) (kp : List Nat) (st : St) (a : Act) (w : World) (S : Pin) (m : Nm) (next : Act → World → Prop) (Q : Exit → Act → World → Prop),
    GOK E G.S0 → Rel G kp st a w S m → a.tmps.size = nt → (∀ x ∈ o.op.operands, evO E st x = ev x) → (∀ k ∈ rd, lk st.heap k = h k) → (∀ p ∈ u, p.1 ∉ rd → fresh kp st p.1 = true) →
    (∀ v w' S' m', wfA r → Rel G kp (st.upd o.dst r u) (a.put o.dst v) w' S' m' → next (a.put o.dst v) w') → o.wp P a w next Q

/-- An operation that gives a value. -/
theorem good_value {P : Program} {E : Env} {nt : Nat} {o : Oper} {ev : Operand → AV} {h : Nat → Option Blk} {r : AV} {u : List (Nat × Blk)} {rd : List Nat} (hd : dstOk nt o.dst = true)
    (H : ∀ (G : Gh) (kp : List Nat) (st : St) (a : Act) (w : World) (S : Pin) (m : Nm), GOK E G.S0 → Rel G kp st a w S m → (∀ x ∈ o.op.operands, CV S (ev x) m (a.eval x)) → (∀ k ∈ rd, lk st.heap k = h k) → (∀ p ∈ u, p.1 ∉ rd → fresh kp st p.1 = true) →
      ∃ v w' S' m', (execOp a.eval o).run P w = .ok (.value v) w' ∧ Rel G kp (st.blks u) a w' S' m' ∧ CV S' r m' v) : Good P E nt o ev h r u rd := by
  intro G kp st a w S m next Q hG hR hn he hk hf hnext
  obtain ⟨v, w', S', m', h1, h2, h3⟩ := H G kp st a w S m hG hR (fun x hx => he x hx ▸ evO_cv hG hR x) hk hf
  unfold Oper.wp
  rw [h1]
  refine hnext v w' S' m' (wfA_cv _ _ _ h3) ?_
  unfold St.upd
  cases e : o.dst with
  | none => exact h2
  | some t =>
    refine h2.put h3 ?_
    rw [hn]
    rw [e] at hd
    exact Nat.le_of_ble_eq_true hd
/-- An operation that only computes. -/
theorem good_pure {P : Program} {E : Env} {nt : Nat} {o : Oper} {ev : Operand → AV} {h : Nat → Option Blk} {r : AV} (hd : dstOk nt o.dst = true)
    (H : ∀ (a : Act) (w : World) (S : Pin) (m : Nm), (∀ x ∈ o.op.operands, CV S (ev x) m (a.eval x)) → ∃ v, (execOp a.eval o).run P w = .ok (.value v) w ∧ CV S r m v) : Good P E nt o ev h r [] [] :=
  good_value hd fun G kp st a w S m hG hR he hk hf => by
    obtain ⟨v, h1, h2⟩ := H a w S m he
    exact ⟨v, w, S, m, h1, hR, h2⟩
end Go.Proofs.YthdfkiopppkfcaaDoor
