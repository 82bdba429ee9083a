/- Operations that only compute: numbers, bools, strings, structs by value. -/
import Derived.Test.YthdfkiopppkfcaaDoorVc
import Derived.Laws.StructEq
import Derived.Laws.BitsAllLaws
namespace Go.Proofs.YthdfkiopppkfcaaDoor
open Go
set_option linter.unusedVariables false
set_option linter.unusedSimpArgs false

def chk (p : Prop) [Decidable p] (K : Prop) : Prop := cond (decide p) K False
theorem chk_iff {p K : Prop} [Decidable p] : chk p K ↔ p ∧ K := by
  unfold chk
  by_cases h : p
  · rw [decide_eq_true h]; simp [h]
  · rw [decide_eq_false h]; simp [h]
theorem chk_of {p K : Prop} [Decidable p] (h : p) (k : K) : chk p K := chk_iff.2 ⟨h, k⟩
theorem cond_of {b : Bool} {A B : Prop} (h : b = true → A) (k : b = false → B) : cond b A B := by
  cases b
  · exact k rfl
  · exact h rfl
theorem cond_F {b : Bool} {A : Prop} (h : cond b A False) : b = true ∧ A := by
  cases b
  · exact h.elim
  · exact ⟨rfl, h⟩

/-- The number n of kind k: of int it is asked that it is no greater than an int. -/
def ar (E : Env) (k : IntKind) (n : Int) (K : AV → Prop) : Prop :=
  match k with
  | .i64 => cond E.wrap (K (.int .i64 (IntKind.i64.wrap n))) (chk (rng .i64 n) (K (.int .i64 n)))
  | k => K (.int k (k.wrap n))
theorem ar_sound {E : Env} {k : IntKind} {n : Int} {K : AV → Prop} (h : ar E k n K) : ∃ z, K (.int k z) ∧ z = k.wrap n ∧ rng k z := by
  unfold ar at h
  split at h
  · cases hw : E.wrap with
    | true => rw [hw] at h; exact ⟨_, h, rfl, wrap_rng _ _⟩
    | false =>
      rw [hw] at h
      obtain ⟨h1, h2⟩ := chk_iff.1 h
      exact ⟨n, h2, (wrap_eq h1).symm, h1⟩
  · exact ⟨_, h, rfl, wrap_rng _ _⟩

def intop (E : Env) (op : BinOp) (k : IntKind) (a b : Int) (K : AV → Prop) : Prop :=
  match op with
  | .add => ar E k (a + b) K
  | .sub => ar E k (a - b) K
  | .mul => ar E k (a * b) K
  | .quo => chk (¬ b = 0) (ar E k (a.tdiv b) K)
  | .rem => chk (¬ b = 0) (K (.int k (a.tmod b)))
  | .and => K (.int k (bits .and k a b))
  | .or => K (.int k (bits .or k a b))
  | .xor => K (.int k (bits .xor k a b))
  | .andNot => K (.int k (bits .andNot k a b))
  | .eql => K (.bool (decide (a = b)))
  | .neq => K (.bool (decide (¬ a = b)))
  | .lss => K (.bool (decide (a < b)))
  | .leq => K (.bool (decide (a ≤ b)))
  | .gtr => K (.bool (decide (b < a)))
  | .geq => K (.bool (decide (b ≤ a)))
  | _ => False
theorem bits_rng (op : BinOp) (k : IntKind) (a b : Int) : rng k (bits op k a b) := by
  unfold bits
  exact wrap_rng k _
theorem tmod_rng {k : IntKind} {a b : Int} (ha : rng k a) (hb : rng k b) (_ : ¬ b = 0) : rng k (a.tmod b) := by
  have h1 : (a.tmod b).natAbs ≤ a.natAbs := by
    rw [Int.natAbs_tmod]; exact Nat.mod_le _ _
  have h2 : 0 ≤ a → 0 ≤ a.tmod b := fun h => Int.tmod_nonneg b h
  have h3 : a ≤ 0 → a.tmod b ≤ 0 := fun h => by
    have := Int.tmod_nonneg b (show 0 ≤ -a by omega)
    rw [Int.neg_tmod] at this; omega
  cases k <;> simp only [rng] at ha ⊢ <;> omega
theorem intop_sound {P : Program} {E : Env} {op : BinOp} {k : IntKind} {a b : Int} {K : AV → Prop} (ha : rng k a) (hb : rng k b) (h : intop E op k a b K) :
    ∃ r v, K r ∧ (∀ w t, (binOp op t (.int k a) (.int k b)).run P w = .ok v w) ∧ (∀ t x y w, (eqGuard op t x y (.int k a) (.int k b)).run P w = .ok () w) ∧ ∀ S m, CV S r m v := by
  have he : ∀ t x y w, (eqGuard op t x y (.int k a) (.int k b)).run P w = .ok () w := by
    intro t x y w; unfold eqGuard; split <;> rfl
  have wr : ∀ n z, z = k.wrap n → rng k z → (∀ w t, (binOp op t (.int k a) (.int k b)).run P w = .ok (.int k (k.wrap n)) w) → K (.int k z) →
      ∃ r v, K r ∧ (∀ w t, (binOp op t (.int k a) (.int k b)).run P w = .ok v w) ∧ (∀ t x y w, (eqGuard op t x y (.int k a) (.int k b)).run P w = .ok () w) ∧ ∀ S m, CV S r m v :=
    fun n z e hz hw hK => ⟨_, _, hK, hw, he, fun S m => by simp only [CV]; exact ⟨by rw [e], hz⟩⟩
  have bl : ∀ c : Bool, (∀ w t, (binOp op t (.int k a) (.int k b)).run P w = .ok (.bool c) w) → K (.bool c) →
      ∃ r v, K r ∧ (∀ w t, (binOp op t (.int k a) (.int k b)).run P w = .ok v w) ∧ (∀ t x y w, (eqGuard op t x y (.int k a) (.int k b)).run P w = .ok () w) ∧ ∀ S m, CV S r m v :=
    fun c hw hK => ⟨_, _, hK, hw, he, fun S m => by simp only [CV]⟩
  unfold intop at h
  split at h
  · obtain ⟨z, h1, h2, h3⟩ := ar_sound h; exact wr _ z h2 h3 (fun w t => by simp [binOp, Op.intArith]) h1
  · obtain ⟨z, h1, h2, h3⟩ := ar_sound h; exact wr _ z h2 h3 (fun w t => by simp [binOp, Op.intArith]) h1
  · obtain ⟨z, h1, h2, h3⟩ := ar_sound h; exact wr _ z h2 h3 (fun w t => by simp [binOp, Op.intArith]) h1
  · obtain ⟨h0, h⟩ := chk_iff.1 h
    obtain ⟨z, h1, h2, h3⟩ := ar_sound h
    exact wr _ z h2 h3 (fun w t => by simp [binOp, Op.intDiv, h0]) h1
  · obtain ⟨h0, h⟩ := chk_iff.1 h
    refine ⟨_, _, h, (fun w t => by simp [binOp, Op.intDiv, h0]; rfl), he, fun S m => by simp only [CV]; exact ⟨trivial, tmod_rng ha hb h0⟩⟩
  · exact ⟨_, .int k (bits .and k a b), h, (fun w t => by simp [binOp, Op.intBits, bits]), he, fun S m => by simp only [CV]; exact ⟨trivial, bits_rng _ _ _ _⟩⟩
  · exact ⟨_, .int k (bits .or k a b), h, (fun w t => by simp [binOp, Op.intBits, bits]), he, fun S m => by simp only [CV]; exact ⟨trivial, bits_rng _ _ _ _⟩⟩
  · exact ⟨_, .int k (bits .xor k a b), h, (fun w t => by simp [binOp, Op.intBits, bits]), he, fun S m => by simp only [CV]; exact ⟨trivial, bits_rng _ _ _ _⟩⟩
  · exact ⟨_, .int k (bits .andNot k a b), h, (fun w t => by simp [binOp, Op.intBits, bits]), he, fun S m => by simp only [CV]; exact ⟨trivial, bits_rng _ _ _ _⟩⟩
  · refine bl _ (fun w t => ?_) h; simp [binOp, Op.intCmp]; rfl
  · refine bl _ (fun w t => ?_) h; simp [binOp, Op.intCmp]; rfl
  · refine bl _ (fun w t => ?_) h; simp [binOp, Op.intCmp]
  · refine bl _ (fun w t => ?_) h; simp [binOp, Op.intCmp]
  · refine bl _ (fun w t => ?_) h; simp [binOp, Op.intCmp]
  · refine bl _ (fun w t => ?_) h; simp [binOp, Op.intCmp]
  · exact h.elim

/-- Shifts: the count is no less than 0. -/
def shop (E : Env) (op : BinOp) (k : IntKind) (a b : Int) (K : AV → Prop) : Prop :=
  match op with
  | .shl => chk (0 ≤ b) (ar E k (a * 2 ^ (min b.toNat k.bits)) K)
  | .shr => chk (0 ≤ b) (K (.int k (a / 2 ^ (min b.toNat k.bits))))
  | _ => False
theorem div_rng {k : IntKind} {a : Int} (n : Nat) (ha : rng k a) : rng k (a / 2 ^ n) := by
  have hp : (0 : Int) < 2 ^ n := Int.pow_pos (by decide)
  have h1 : 0 ≤ a → 0 ≤ a / 2 ^ n ∧ a / 2 ^ n ≤ a := fun h => ⟨Int.ediv_nonneg h (Int.le_of_lt hp), Int.ediv_le_self _ h⟩
  have h2 : a < 0 → a ≤ a / 2 ^ n ∧ a / 2 ^ n < 0 := fun h => by
    refine ⟨?_, Int.ediv_neg_of_neg_of_pos h hp⟩
    refine Int.le_ediv_of_mul_le hp ?_
    have : a * 2 ^ n ≤ a * 1 := Int.mul_le_mul_of_nonpos_left (by omega) (by omega)
    omega
  rcases Int.lt_or_le a 0 with h | h
  · have := h2 h; cases k <;> simp only [rng] at ha ⊢ <;> omega
  · have := h1 h; cases k <;> simp only [rng] at ha ⊢ <;> omega
theorem shop_sound {P : Program} {E : Env} {op : BinOp} {k k' : IntKind} {a b : Int} {K : AV → Prop} (ha : rng k a) (h : shop E op k a b K) :
    ∃ r v, K r ∧ (∀ w t, (binOp op t (.int k a) (.int k' b)).run P w = .ok v w) ∧ (∀ t x y w, (eqGuard op t x y (.int k a) (.int k' b)).run P w = .ok () w) ∧ ∀ S m, CV S r m v := by
  have he : ∀ t x y w, (eqGuard op t x y (.int k a) (.int k' b)).run P w = .ok () w := by
    intro t x y w; unfold eqGuard; split <;> rfl
  unfold shop at h
  split at h
  · obtain ⟨h0, h⟩ := chk_iff.1 h
    obtain ⟨z, h1, h2, h3⟩ := ar_sound h
    refine ⟨_, .int k (k.wrap (a * 2 ^ (min b.toNat k.bits))), h1, (fun w t => ?_), he, fun S m => by simp only [CV]; exact ⟨by rw [h2], h3⟩⟩
    have : ¬ b < 0 := by omega
    simp [binOp, Op.shift, this]
  · obtain ⟨h0, h⟩ := chk_iff.1 h
    refine ⟨_, .int k (a / 2 ^ (min b.toNat k.bits)), h, (fun w t => ?_), he, fun S m => by simp only [CV]; exact ⟨trivial, div_rng _ ha⟩⟩
    have : ¬ b < 0 := by omega
    simp only [binOp, Op.shift, this, if_false, Sem.run_pure]
    rw [Int.fdiv_eq_ediv_of_nonneg _ (Int.le_of_lt (Int.pow_pos (by decide)))]
  · exact h.elim

/-- The first n of a list. -/
def takeK : Nat → List AV → (List AV → Prop) → Prop
  | 0, _, k => k []
  | _ + 1, [], _ => False
  | n + 1, x :: xs, k => takeK n xs fun l => k (x :: l)
theorem takeK_sound : ∀ {n : Nat} {xs : List AV} {k : List AV → Prop}, takeK n xs k → k (xs.take n) ∧ n ≤ xs.length
  | 0, _, _, h => ⟨by simpa [takeK] using h, Nat.zero_le _⟩
  | _ + 1, [], _, h => by simp [takeK] at h
  | n + 1, x :: xs, k, h => by
    simp only [takeK] at h
    have := takeK_sound h
    exact ⟨by simpa using this.1, by simp; omega⟩
def headK (xs : List AV) (k : AV → Prop) : Prop := match xs with | x :: _ => k x | [] => False
theorem headK_sound {xs : List AV} {k : AV → Prop} (h : headK xs k) : ∃ x, xs[0]? = some x ∧ k x := by
  cases xs with
  | nil => exact h.elim
  | cons x xs => exact ⟨x, rfl, h⟩
def isAg (P : Program) (t : TypeId) : Bool := match P.underlying t with | some (.struct _) => true | some (.array _ _) => true | _ => false
def szT (P : Program) (t : TypeId) : Nat := match P.info? t with | some i => i.size | none => 0
/-- The value of type t that lies ahead in some cells. -/
def partK (P : Program) (t : TypeId) (cs : List AV) (K : AV → Prop) : Prop :=
  cond (isAg P t) (match P.info? t with | some i => takeK i.size cs (fun l => K (.agg l)) | none => False) (match P.underlying t with | some _ => headK cs K | none => False)
theorem run_isAgg {P : Program} {t : TypeId} {d : TypeDesc} (h : P.underlying t = some d) (w : World) : (Go.isAgg t).run P w = .ok (isAg P t) w := by
  unfold Go.isAgg isAg
  simp only [Sem.run_bind, run_underlying h, Result.andThen_ok, h]
  cases d <;> rfl
theorem run_sizeOf {P : Program} {t : TypeId} {i : TypeInfo} (h : P.info? t = some i) (w : World) : (Go.sizeOf t).run P w = .ok i.size w := by
  simp [Go.sizeOf, typeInfo, h]
theorem partK_cases {P : Program} {t : TypeId} {cs : List AV} {K : AV → Prop} (h : partK P t cs K) :
    (∃ d i, P.underlying t = some d ∧ isAg P t = true ∧ P.info? t = some i ∧ i.size ≤ cs.length ∧ K (.agg (cs.take i.size))) ∨ (∃ d x, P.underlying t = some d ∧ isAg P t = false ∧ cs[0]? = some x ∧ K x) := by
  unfold partK at h
  cases hg : isAg P t with
  | true =>
    rw [hg] at h
    simp only [cond_true] at h
    split at h
    · rename_i i hi
      have := takeK_sound h
      obtain ⟨d, hd⟩ : ∃ d, P.underlying t = some d := by
        cases e : P.underlying t with
        | none => simp [isAg, e] at hg
        | some d => exact ⟨d, rfl⟩
      exact .inl ⟨d, i, hd, rfl, hi, this.2, this.1⟩
    · exact h.elim
  | false =>
    rw [hg] at h
    simp only [cond_false] at h
    split at h
    · rename_i d hd
      obtain ⟨x, h1, h2⟩ := headK_sound h
      exact .inr ⟨d, x, hd, rfl, h1, h2⟩
    · exact h.elim
theorem partK_sound {P : Program} {t : TypeId} {cs : List AV} {off : Nat} {K : AV → Prop} (h : partK P t (cs.drop off) K) :
    ∃ r, K r ∧ ∀ (us : Array Value) w S m, CVl S cs m us.toList → ∃ v, (part t us off).run P w = .ok v w ∧ CV S r m v := by
  rcases partK_cases h with ⟨d, i, h1, h2, h3, h4, h5⟩ | ⟨d, x, h1, h2, h3, h4⟩
  · refine ⟨_, h5, fun us w S m hc => ⟨.agg (us.extract off (off + i.size)), ?_, ?_⟩⟩
    · simp [part, run_isAgg h1, h2, run_sizeOf h3]
    · simp only [CV]
      refine ⟨_, rfl, ?_⟩
      have hl := hc.len
      refine CVl.mk ?_ fun j x v e1 e2 => ?_
      · simp at h4 ⊢; simp at hl; omega
      · rw [List.getElem?_take] at e1
        split at e1
        · rename_i hj
          rw [List.getElem?_drop] at e1
          obtain ⟨v', hv', hx⟩ := hc.get e1
          have : v = v' := by
            simp only [Array.toList_extract, List.extract_eq_take_drop, List.getElem?_take, List.getElem?_drop] at e2
            rw [if_pos (by omega)] at e2
            exact Option.some.inj (e2.symm.trans hv')
          subst this; exact hx
        · cases e1
  · refine ⟨x, h4, fun us w S m hc => ?_⟩
    rw [List.getElem?_drop] at h3
    obtain ⟨v, hv, hx⟩ := hc.get h3
    refine ⟨v, ?_, hx⟩
    have hv' : us[off]? = some v := by simpa using hv
    simp [part, run_isAgg h1, h2, hv']
end Go.Proofs.YthdfkiopppkfcaaDoor
