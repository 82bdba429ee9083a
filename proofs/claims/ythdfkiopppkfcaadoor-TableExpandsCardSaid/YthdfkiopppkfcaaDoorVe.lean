/- Operations that only compute, II: equality of structs, conversions, and all of them in one. -/
import Derived.Test.YthdfkiopppkfcaaDoorVd
namespace Go.Proofs.YthdfkiopppkfcaaDoor
open Go
set_option linter.unusedVariables false
set_option linter.unusedSimpArgs false

/-- Types whose values may be compared cell by cell (nothing of them is stood in for, no interfaces): listed, and once proved. -/
structure TyOK (P : Program) (l : List TypeId) : Prop where
  held : ∀ t ∈ l, P.stoodInHeld t = false
  guard : ∀ t ∈ l, P.eqGuardType P.depth t = false
def inT (t : Nat) : List Nat → Bool
  | [] => false
  | j :: l => Nat.beq j t || inT t l
theorem inT_mem {t : Nat} : ∀ {l : List Nat}, inT t l = true → t ∈ l
  | [], h => by simp [inT] at h
  | j :: l, h => by
    simp only [inT, Bool.or_eq_true] at h
    rcases h with h | h
    · rw [Nat.eq_of_beq_eq_true h]; exact List.mem_cons_self
    · exact List.mem_cons_of_mem _ (inT_mem h)

theorem strEq_dec (a b : ByteArray) : (a.toList == b.toList) = decide (a = b) := by
  rw [Bool.eq_iff_iff, beq_iff_eq, decide_eq_true_iff, ByteArray.toList_eq, ByteArray.toList_eq]
  constructor
  · intro h
    obtain ⟨⟨x⟩⟩ := a
    obtain ⟨⟨y⟩⟩ := b
    simp at h
    rw [h]
  · rintro rfl; rfl
def eqFs (P : Program) (eq : TypeId → AV → AV → (Bool → Prop) → Prop) : List Field → List AV → List AV → (Bool → Prop) → Prop
  | [], _, _, K => K true
  | f :: fs, xs, ys, K =>
    cond (decide (f.name = "_")) (eqFs P eq fs xs ys K)
      (partK P f.type (xs.drop f.offset) fun a => partK P f.type (ys.drop f.offset) fun b => eq f.type a b fun r => eqFs P eq fs xs ys fun r' => K (r && r'))
def eqEs (P : Program) (eq : TypeId → AV → AV → (Bool → Prop) → Prop) (e s : Nat) : Nat → Nat → List AV → List AV → (Bool → Prop) → Prop
  | 0, _, _, _, K => K true
  | n + 1, i, xs, ys, K =>
      partK P e (xs.drop (i * s)) fun a => partK P e (ys.drop (i * s)) fun b => eq e a b fun r => eqEs P eq e s n (i + 1) xs ys fun r' => K (r && r')
def eqK (P : Program) (tys : List TypeId) : Nat → TypeId → AV → AV → (Bool → Prop) → Prop
  | 0, _, _, _, _ => False
  | d + 1, t, x, y, K =>
    match P.underlying t with
    | some .bool => (match x, y with | .bool a, .bool b => K (decide (a = b)) | _, _ => False)
    | some (.int _) => (match x, y with | .int k a, .int k' b => cond (decide (k = k')) (K (decide (a = b))) False | _, _ => False)
    | some .string => (match x, y with | .str a, .str b => K (decide (a = b)) | _, _ => False)
    | some (.struct fs) => (match x, y with | .agg xs, .agg ys => cond (inT t tys) (eqFs P (fun t x y K => eqK P tys d t x y K) fs.toList xs ys K) False | _, _ => False)
    | some (.array n e) => (match x, y with | .agg xs, .agg ys => (match P.info? e with | some i => eqEs P (fun t x y K => eqK P tys d t x y K) e i.size n 0 xs ys K | none => False) | _, _ => False)
    | _ => False

/-- What a comparison comes to, whatever the depth that is left beyond d. -/
def EqSays (P : Program) (f : Nat) (t : TypeId) (x y : AV) (r : Bool) : Prop :=
  ∀ (u v : Value) (w : World) (S : Pin) (m m' : Nm), CV S x m u → CV S y m' v → (Op.equalIn f t u v).run P w = .ok r w

theorem eqFs_sound {P : Program} {eq : TypeId → AV → AV → (Bool → Prop) → Prop} {f : Nat} (heq : ∀ t x y K, eq t x y K → ∃ r, K r ∧ EqSays P f t x y r) :
    ∀ (fs : List Field) (xs ys : List AV) (K : Bool → Prop), eqFs P eq fs xs ys K →
      ∃ r, K r ∧ ∀ (us vs : Array Value) (w : World) (S : Pin) (m m' : Nm), CVl S xs m us.toList → CVl S ys m' vs.toList → (Op.eqFields f us vs fs).run P w = .ok r w
  | [], xs, ys, K, h => ⟨true, h, fun us vs w S m m' _ _ => by simp [Op.eqFields]⟩
  | g :: fs, xs, ys, K, h => by
    simp only [eqFs] at h
    by_cases hn : g.name = "_"
    · rw [decide_eq_true hn] at h
      obtain ⟨r, h1, h2⟩ := eqFs_sound heq fs xs ys K h
      exact ⟨r, h1, fun us vs w S m m' a b => by simp only [Op.eqFields, hn, ne_eq, not_true_eq_false, if_false]; exact h2 us vs w S m m' a b⟩
    · rw [decide_eq_false hn] at h
      simp only [cond_false] at h
      obtain ⟨a, h, ha⟩ := partK_sound h
      obtain ⟨b, h, hb⟩ := partK_sound h
      obtain ⟨r, h, hr⟩ := heq _ _ _ _ h
      obtain ⟨r', h, hr'⟩ := eqFs_sound heq fs xs ys _ h
      refine ⟨_, h, fun us vs w S m m' hu hv => ?_⟩
      obtain ⟨u, e1, c1⟩ := ha us w S m hu
      obtain ⟨v, e2, c2⟩ := hb vs w S m' hv
      have e3 := hr u v w S m m' c1 c2
      have e4 := hr' us vs w S m m' hu hv
      simp only [Op.eqFields, hn, ne_eq, not_false_eq_true, if_true, Sem.run_bind, e1, e2, e3, Result.andThen_ok]
      cases r <;> simp [e4]

theorem eqEs_sound {P : Program} {eq : TypeId → AV → AV → (Bool → Prop) → Prop} {f : Nat} (heq : ∀ t x y K, eq t x y K → ∃ r, K r ∧ EqSays P f t x y r) (e s : Nat) :
    ∀ (n i : Nat) (xs ys : List AV) (K : Bool → Prop), eqEs P eq e s n i xs ys K →
      ∃ r, K r ∧ ∀ (us vs : Array Value) (w : World) (S : Pin) (m m' : Nm), CVl S xs m us.toList → CVl S ys m' vs.toList →
        (forIn (List.range' i n) ((none : Option Bool), ()) fun j _ => do
            let a ← part e us (j * s)
            let b ← part e vs (j * s)
            let q ← Op.equalIn f e a b
            if q = false then pure (ForInStep.done (some false, ())) else pure (ForInStep.yield (none, ()))).run P w = .ok (cond r none (some false), ()) w
  | 0, i, xs, ys, K, h => ⟨true, h, fun us vs w S m m' _ _ => by simp⟩
  | n + 1, i, xs, ys, K, h => by
    simp only [eqEs] at h
    obtain ⟨a, h, ha⟩ := partK_sound h
    obtain ⟨b, h, hb⟩ := partK_sound h
    obtain ⟨r, h, hr⟩ := heq _ _ _ _ h
    obtain ⟨r', h, hr'⟩ := eqEs_sound heq e s n (i + 1) xs ys _ h
    refine ⟨_, h, fun us vs w S m m' hu hv => ?_⟩
    obtain ⟨u, e1, c1⟩ := ha us w S m hu
    obtain ⟨v, e2, c2⟩ := hb vs w S m' hv
    have e3 := hr u v w S m m' c1 c2
    have e4 := hr' us vs w S m m' hu hv
    simp only [List.range'_succ, List.forIn_cons, Sem.run_bind, e1, e2, e3, Result.andThen_ok, Sem.run_ite, Sem.run_pure]
    cases r
    · simp
    · simp only [Bool.true_eq_false, if_false, Result.andThen_ok, Bool.true_and]
      exact e4
theorem eqK_sound {P : Program} {tys : List TypeId} (hT : TyOK P tys) : ∀ (d : Nat) (f : Nat) (t : TypeId) (x y : AV) (K : Bool → Prop), d ≤ f → eqK P tys d t x y K → ∃ r, K r ∧ EqSays P f t x y r
  | 0, _, _, _, _, _, _, h => by simp [eqK] at h
  | d + 1, 0, _, _, _, _, hl, _ => by omega
  | d + 1, f + 1, t, x, y, K, hl, h => by
    simp only [eqK] at h
    have ih := fun t x y K => eqK_sound hT d f t x y K (by omega)
    split at h
    · rename_i hd
      split at h
      · refine ⟨_, h, fun u v w S m m' hu hv => ?_⟩
        simp only [CV] at hu hv
        subst hu hv
        rw [run_equalIn_bool w f t _ _ hd]; rfl
      · exact h.elim
    · rename_i kk hd
      split at h
      · rename_i k a k' b
        by_cases hk : k = k'
        · rw [decide_eq_true hk] at h
          refine ⟨_, h, fun u v w S m m' hu hv => ?_⟩
          simp only [CV] at hu hv
          obtain ⟨rfl, _⟩ := hu
          obtain ⟨rfl, _⟩ := hv
          subst hk
          rw [run_equalIn_int w f t _ _ _ _ hd]; rfl
        · rw [decide_eq_false hk] at h; exact h.elim
      · exact h.elim
    · rename_i hd
      split at h
      · refine ⟨_, h, fun u v w S m m' hu hv => ?_⟩
        simp only [CV] at hu hv
        obtain ⟨rfl, _⟩ := hu
        obtain ⟨rfl, _⟩ := hv
        rw [run_equalIn_string w f t _ _ hd, strEq_dec]
      · exact h.elim
    · rename_i fs hd
      split at h
      · rename_i xs ys
        obtain ⟨hin, h⟩ := cond_F h
        obtain ⟨r, h1, h2⟩ := eqFs_sound (f := f) ih _ _ _ _ h
        refine ⟨r, h1, fun u v w S m m' hu hv => ?_⟩
        simp only [CV] at hu hv
        obtain ⟨us, rfl, hu⟩ := hu
        obtain ⟨vs, rfl, hv⟩ := hv
        have hfs : P.fieldsOf t = fs := by simp [Program.fieldsOf, hd]
        rw [run_equalIn_struct w f t us vs (by rw [hfs]; exact hd) (hT.held t (inT_mem hin)), hfs]
        exact h2 us vs w S m m' hu hv
      · exact h.elim
    · rename_i n e hd
      split at h
      · rename_i xs ys
        split at h
        · rename_i i hi
          obtain ⟨r, h1, h2⟩ := eqEs_sound (f := f) ih e i.size n 0 _ _ _ h
          refine ⟨r, h1, fun u v w S m m' hu hv => ?_⟩
          simp only [CV] at hu hv
          obtain ⟨us, rfl, hu⟩ := hu
          obtain ⟨vs, rfl, hv⟩ := hv
          simp only [Op.equalIn, Sem.run_bind, run_underlying hd, Result.andThen_ok, sizeOf, typeInfo, run_program, hi]
          simp only [Sem.run_pure, Result.andThen_ok]
          have h3 := h2 us vs w S m m' hu hv
          simp
          rw [h3]
          cases r <;> simp
        · exact h.elim
      · exact h.elim
    · exact h.elim

/-- What holds of an operation that only computes. -/
def PG (P : Program) (o : Oper) (ev : Operand → AV) (r : AV) : Prop :=
  ∀ (a : Act) (w : World) (S : Pin) (m : Nm), (∀ x ∈ o.op.operands, CV S (ev x) m (a.eval x)) → ∃ v, (execOp a.eval o).run P w = .ok (.value v) w ∧ CV S r m v

def strop (op : BinOp) (a b : ByteArray) (K : AV → Prop) : Prop :=
  match op with
  | .add => chk (a.size + b.size ≤ 9223372036854775807) (K (.str (a ++ b)))
  | .eql => K (.bool (decide (a = b)))
  | .neq => K (.bool (!(decide (a = b))))
  | .lss => K (.bool (Op.bytesLess a.toList b.toList))
  | .leq => K (.bool (Op.bytesLess a.toList b.toList || decide (a = b)))
  | .gtr => K (.bool (!(Op.bytesLess a.toList b.toList || decide (a = b))))
  | .geq => K (.bool (!(Op.bytesLess a.toList b.toList)))
  | _ => False
def abin (P : Program) (E : Env) (tys : List TypeId) (op : BinOp) (t : TypeId) (x y : AV) (K : AV → Prop) : Prop :=
  match x, y with
  | .int k a, .int k' b =>
    (match op with
     | .shl => shop E op k a b K
     | .shr => shop E op k a b K
     | _ => cond (decide (k = k')) (intop E op k a b K) False)
  | .bool a, .bool b =>
    (match op, P.underlying t with
     | .eql, some .bool => K (.bool (decide (a = b)))
     | .neq, some .bool => K (.bool (!(decide (a = b))))
     | _, _ => False)
  | .str a, .str b => strop op a b K
  | .agg xs, .agg ys =>
    (match op with
     | .eql => cond (inT t tys) (eqK P tys 50 t (.agg xs) (.agg ys) fun r => K (.bool r)) False
     | .neq => cond (inT t tys) (eqK P tys 50 t (.agg xs) (.agg ys) fun r => K (.bool (!r))) False
     | _ => False)
  | _, _ => False
theorem shop_ex {E : Env} {op : BinOp} {k : IntKind} {a b : Int} {K : AV → Prop} (h : shop E op k a b K) : ∃ r, K r := by
  unfold shop at h
  split at h
  · obtain ⟨_, h1⟩ := chk_iff.1 h; obtain ⟨z, h2, _⟩ := ar_sound h1; exact ⟨_, h2⟩
  · obtain ⟨_, h1⟩ := chk_iff.1 h; exact ⟨_, h1⟩
  · exact h.elim
theorem intop_ex {E : Env} {op : BinOp} {k : IntKind} {a b : Int} {K : AV → Prop} (h : intop E op k a b K) : ∃ r, K r := by
  unfold intop at h
  split at h
  · obtain ⟨z, h2, _⟩ := ar_sound h; exact ⟨_, h2⟩
  · obtain ⟨z, h2, _⟩ := ar_sound h; exact ⟨_, h2⟩
  · obtain ⟨z, h2, _⟩ := ar_sound h; exact ⟨_, h2⟩
  · obtain ⟨_, h1⟩ := chk_iff.1 h; obtain ⟨z, h2, _⟩ := ar_sound h1; exact ⟨_, h2⟩
  · obtain ⟨_, h1⟩ := chk_iff.1 h; exact ⟨_, h1⟩
  all_goals first | exact ⟨_, h⟩ | exact h.elim
theorem abin_sound {P : Program} {E : Env} {tys : List TypeId} (hT : TyOK P tys) {op : BinOp} {t : TypeId} {x y : AV} {K : AV → Prop} (h : abin P E tys op t x y K) :
    ∃ r, K r ∧ ∀ (u v : Value) (w : World) (S : Pin) (m : Nm) (p q : Operand), CV S x m u → CV S y m v → ∃ z, (eqGuard op t p q u v).run P w = .ok () w ∧ (binOp op t u v).run P w = .ok z w ∧ CV S r m z := by
  unfold abin at h
  split at h
  · rename_i k a k' b
    have conv : (∃ r v, K r ∧ (∀ w t, (binOp op t (.int k a) (.int k' b)).run P w = .ok v w) ∧ (∀ t x y w, (eqGuard op t x y (.int k a) (.int k' b)).run P w = .ok () w) ∧ ∀ S m, CV S r m v) →
        ∃ r, K r ∧ ∀ (u v : Value) (w : World) (S : Pin) (m : Nm) (p q : Operand), CV S (.int k a) m u → CV S (.int k' b) m v → ∃ z, (eqGuard op t p q u v).run P w = .ok () w ∧ (binOp op t u v).run P w = .ok z w ∧ CV S r m z := by
      rintro ⟨r, v, h1, h2, h3, h4⟩
      refine ⟨r, h1, fun u z w S m p q hu hv => ?_⟩
      simp only [CV] at hu hv
      obtain ⟨rfl, _⟩ := hu
      obtain ⟨rfl, _⟩ := hv
      exact ⟨v, h3 t p q w, h2 w t, h4 S m⟩
    have no : (∃ r, K r) → ¬ (rng k a ∧ rng k' b) → ∃ r, K r ∧ ∀ (u v : Value) (w : World) (S : Pin) (m : Nm) (p q : Operand), CV S (.int k a) m u → CV S (.int k' b) m v → ∃ z, (eqGuard op t p q u v).run P w = .ok () w ∧ (binOp op t u v).run P w = .ok z w ∧ CV S r m z := by
      rintro ⟨r, hr⟩ hn
      exact ⟨r, hr, fun u v w S m p q hu hv => by simp only [CV] at hu hv; exact absurd ⟨hu.2, hv.2⟩ hn⟩
    split at h
    · by_cases hr : rng k a ∧ rng k' b
      · exact conv (shop_sound hr.1 h)
      · exact no (shop_ex h) hr
    · by_cases hr : rng k a ∧ rng k' b
      · exact conv (shop_sound hr.1 h)
      · exact no (shop_ex h) hr
    · obtain ⟨hk, h'⟩ := cond_F h
      have hk' := of_decide_eq_true hk
      subst hk'
      by_cases hr : rng k a ∧ rng k b
      · exact conv (intop_sound hr.1 hr.2 h')
      · exact no (intop_ex h') hr
  · rename_i a b
    split at h
    · rename_i hd
      refine ⟨_, h, fun u v w S m p q hu hv => ?_⟩
      simp only [CV] at hu hv
      subst hu hv
      exact ⟨.bool (decide (a = b)), by rfl, by simp [binOp, run_equal_bool w t a b hd]; rfl, by simp only [CV]⟩
    · rename_i hd
      refine ⟨_, h, fun u v w S m p q hu hv => ?_⟩
      simp only [CV] at hu hv
      subst hu hv
      exact ⟨.bool (!(decide (a = b))), by rfl, by simp [binOp, run_equal_bool w t a b hd]; cases a <;> cases b <;> rfl, by simp only [CV]⟩
    · exact h.elim
  · rename_i a b
    unfold strop at h
    split at h
    case h_1 =>
      obtain ⟨h0, h⟩ := chk_iff.1 h
      refine ⟨_, h, fun u v w S m p q hu hv => ?_⟩
      simp only [CV] at hu hv
      obtain ⟨rfl, _⟩ := hu
      obtain ⟨rfl, _⟩ := hv
      refine ⟨.string (a ++ b), by rfl, ?_, by simp only [CV]; exact ⟨trivial, by unfold maxLen; simp; omega⟩⟩
      have : ¬ (((a.size + b.size : Nat) : Int) > IntKind.i64.max) := by simp [IntKind.max, IntKind.signed, IntKind.bits]; omega
      simp only [binOp, Op.stringOp, this, if_false, Sem.run_pure]
    case h_8 => exact h.elim
    all_goals
      refine ⟨_, h, fun u v w S m p q hu hv => ?_⟩
      simp only [CV] at hu hv
      obtain ⟨rfl, _⟩ := hu
      obtain ⟨rfl, _⟩ := hv
      refine ⟨_, by rfl, by simp only [binOp, Op.stringOp, Sem.run_pure, strEq_dec]; rfl, by simp only [CV]⟩
  · rename_i xs ys
    have G : ∀ (p q : Operand) (u v : Value) (w : World) (S : Pin) (m : Nm) , inT t tys = true → CV S (.agg xs) m u → CV S (.agg ys) m v → (op = .eql ∨ op = .neq) → (eqGuard op t p q u v).run P w = .ok () w := by
      intro p q u v w S m hin hu hv ho
      simp only [CV] at hu hv
      obtain ⟨us, rfl, _⟩ := hu
      obtain ⟨vs, rfl, _⟩ := hv
      have hg := hT.guard t (inT_mem hin)
      rcases ho with rfl | rfl <;> simp [eqGuard, hg]
    split at h
    · obtain ⟨hin, h⟩ := cond_F h
      obtain ⟨r, h1, h2⟩ := eqK_sound hT 50 10000 t _ _ _ (by omega) h
      refine ⟨_, h1, fun u v w S m p q hu hv => ⟨.bool r, G p q u v w S m hin hu hv (.inl rfl), ?_, by simp only [CV]⟩⟩
      have e := h2 u v w S m m hu hv
      simp only [CV] at hu hv
      obtain ⟨us, rfl, _⟩ := hu
      obtain ⟨vs, rfl, _⟩ := hv
      rw [run_eql_struct, e]; rfl
    · obtain ⟨hin, h⟩ := cond_F h
      obtain ⟨r, h1, h2⟩ := eqK_sound hT 50 10000 t _ _ _ (by omega) h
      refine ⟨_, h1, fun u v w S m p q hu hv => ⟨.bool (!r), G p q u v w S m hin hu hv (.inr rfl), ?_, by simp only [CV]⟩⟩
      have e := h2 u v w S m m hu hv
      simp only [CV] at hu hv
      obtain ⟨us, rfl, _⟩ := hu
      obtain ⟨vs, rfl, _⟩ := hv
      rw [run_neq_struct, e]; rfl
    · exact h.elim
  · exact h.elim
end Go.Proofs.YthdfkiopppkfcaaDoor
