/- What the proofs of verification conditions use. -/
import Derived.Test.YthdfkiopppkfcaaDoorVy
import Derived.KernelRfl
namespace Go.Proofs.YthdfkiopppkfcaaDoor
open Go
set_option linter.unusedVariables false
set_option linter.unusedSimpArgs false

/-- Slots to drop behind a region. -/
def drp : List (Nat × Nat) → Nat → Nat
  | [], _ => 0
  | (j, m) :: l, i => cond (Nat.beq j i) m (drp l i)
theorem c0 {b : Bool} {A B : Prop} (h : b = false) (k : B) : cond b A B := by rw [h]; exact k
theorem c1 {b : Bool} {A B : Prop} (h : b = true) (k : A) : cond b A B := by rw [h]; exact k
theorem cd0 {p : Prop} [Decidable p] {A B : Prop} (h : ¬ p) (k : B) : cond (decide p) A B := c0 (decide_eq_false h) k
theorem cd1 {p : Prop} [Decidable p] {A B : Prop} (h : p) (k : A) : cond (decide p) A B := c1 (decide_eq_true h) k
theorem cdR {k : IntKind} {n : Int} {A B : Prop} (h : rng k n) (K : A) : cond (decide (rng k n)) A B := c1 (decide_eq_true h) K
/-- The same for int, its bounds written out. -/
theorem cdI {n : Int} {A B : Prop} (h : -9223372036854775808 ≤ n ∧ n ≤ 9223372036854775807) (K : A) : cond (decide (rng .i64 n)) A B := cdR h K
theorem csplit {b : Bool} {A B : Prop} (h : b = true → A) (k : b = false → B) : cond b A B := by cases b; exact k rfl; exact h rfl
/-- Invariants by the number of their place. -/
def invs : List (Nat × LInv) → Nat → St → Option LInv
  | [], _, _ => none
  | (j, L) :: l, i, st => cond (Nat.beq j i) (some L) (invs l i st)
/-- Invariants that depend on the number in a slot: place, slot, invariant. -/
def invsN : List (Nat × Nat × (Int → LInv)) → Nat → St → Option LInv
  | [], _, _ => none
  | (j, s, L) :: l, i, st => cond (Nat.beq j i) (match lk st.tmps s with
    | some (.int _ n) => some (L n)
    | _ => none) (invsN l i st)
theorem ccond {b : Bool} {A B : Prop} : cond b A B ↔ ((b = true → A) ∧ (b = false → B)) := by cases b <;> simp
theorem cdec {p : Prop} [Decidable p] {A B : Prop} : cond (decide p) A B ↔ ((p → A) ∧ (¬p → B)) := by
  by_cases h : p <;> simp [h]
theorem cdecF {p : Prop} [Decidable p] {A : Prop} : cond (decide p) A False ↔ (p ∧ A) := by
  by_cases h : p <;> simp [h]
theorem cF {b : Bool} {A : Prop} : cond b A False ↔ (b = true ∧ A) := by cases b <;> simp
theorem fok {P : Program} {f : FuncId} {fn : Func} (hf : P.funcs[f]? = some fn) (hn : (fn.name == "runtime.NumGoroutine") = false) (hb : fn.body.isSome = true) : Fok P f :=
  ⟨fn, hf, fun e => by rw [e] at hn; simp at hn, fun e => by rw [e] at hb; simp at hb⟩
abbrev Sp := List AV → Option (Prop × AV)
abbrev SpH := List AV → List Blk → Option (Prop × AV × List Blk)
def SOK (P : Program) (gl : Glob) (f : FuncId) (sp : Sp) : Prop := Fok P f ∧ ∀ xs pre r, sp xs = some (pre, r) → pre → PureC P gl f xs r
def HOK (P : Program) (gl : Glob) (f : FuncId) (sp : SpH) : Prop := Fok P f ∧ ∀ xs bs pre r bs', sp xs bs = some (pre, r, bs') → pre → HC P gl f xs bs r bs'
def AllS (P : Program) (gl : Glob) : List (Nat × Sp) → Prop
  | [] => True
  | (f, sp) :: l => SOK P gl f sp ∧ AllS P gl l
def AllH (P : Program) (gl : Glob) : List (Nat × SpH) → Prop
  | [] => True
  | (f, sp) :: l => HOK P gl f sp ∧ AllH P gl l
theorem AllS.get {P : Program} {gl : Glob} : ∀ {l : List (Nat × Sp)} {f : Nat} {sp : Sp}, AllS P gl l → lk l f = some sp → SOK P gl f sp
  | [], f, sp, _, e => by simp [lk] at e
  | (j, s) :: l, f, sp, h, e => by
    simp only [lk] at e
    cases hj : Nat.beq j f with
    | true =>
      rw [hj] at e
      simp only [cond_true, Option.some.injEq] at e
      have hj := Nat.eq_of_beq_eq_true hj
      subst hj; subst e; exact h.1
    | false => rw [hj] at e; simp only [cond_false] at e; exact AllS.get h.2 e
theorem AllH.get {P : Program} {gl : Glob} : ∀ {l : List (Nat × SpH)} {f : Nat} {sp : SpH}, AllH P gl l → lk l f = some sp → HOK P gl f sp
  | [], f, sp, _, e => by simp [lk] at e
  | (j, s) :: l, f, sp, h, e => by
    simp only [lk] at e
    cases hj : Nat.beq j f with
    | true =>
      rw [hj] at e
      simp only [cond_true, Option.some.injEq] at e
      have hj := Nat.eq_of_beq_eq_true hj
      subst hj; subst e; exact h.1
    | false => rw [hj] at e; simp only [cond_false] at e; exact AllH.get h.2 e
theorem xokOf {P : Program} {f : FuncId} {fn : Func} (h : P.funcs[f]? = some fn) (h1 : (fn.name == "runtime.NumGoroutine") = false) (h2 : fn.body.isNone = true) (h3 : Extern.findNext fn = none) (h4 : Extern.find fn = some add64Entry) : XOK P (some f) := ⟨fn, h, h1, h2, h3, h4⟩
abbrev SpQ := List AV → List Blk → Option ((AV → List Blk → Prop) → Prop)
def QOK (P : Program) (gl : Glob) (f : FuncId) (sp : SpQ) : Prop := Fok P f ∧ ∀ xs bs T, sp xs bs = some T → ∀ K, T K → ∃ r bs', K r bs' ∧ HC P gl f xs bs r bs'
def AllQ (P : Program) (gl : Glob) : List (Nat × SpQ) → Prop
  | [] => True
  | (f, sp) :: l => QOK P gl f sp ∧ AllQ P gl l
theorem AllQ.get {P : Program} {gl : Glob} : ∀ {l : List (Nat × SpQ)} {f : Nat} {sp : SpQ}, AllQ P gl l → lk l f = some sp → QOK P gl f sp
  | [], f, sp, _, e => by simp [lk] at e
  | (j, s) :: l, f, sp, h, e => by
    simp only [lk] at e
    cases hj : Nat.beq j f with
    | true =>
      rw [hj] at e
      simp only [cond_true, Option.some.injEq] at e
      have hj := Nat.eq_of_beq_eq_true hj
      subst hj; subst e; exact h.1
    | false => rw [hj] at e; simp only [cond_false] at e; exact AllQ.get h.2 e
def QsOK (P : Program) (E : Env) : Prop := ∀ f sp, E.specQ f = some sp → QOK P E.glob f sp
theorem qsNone {P : Program} {E : Env} (h : E.specQ = fun _ => none) : QsOK P E := fun f sp e => by rw [h] at e; cases e
theorem qsOf {P : Program} {E : Env} {l : List (Nat × SpQ)} (h : E.specQ = lk l) (a : AllQ P E.glob l) : QsOK P E := fun f sp e => a.get (by rw [← h]; exact e)
theorem specOK {P : Program} {E : Env} {l : List (Nat × Sp)} {l' : List (Nat × SpH)} (h1 : E.spec = lk l) (h2 : E.specH = lk l') (a : AllS P E.glob l) (b : AllH P E.glob l') (c : XOK P E.add64 := by exact trivial) (d : QsOK P E := by exact qsNone rfl) (e0 : P = Tryd.prog := by exact rfl) : SpecOK P E :=
  ⟨fun f sp e => a.get (by rw [← h1]; exact e), fun f sp e => b.get (by rw [← h2]; exact e), c, d, e0⟩
theorem HC.le {P : Program} {gl : Glob} {f : FuncId} {xs : List AV} {bs : List Blk} {r r' : AV} {bs' bs2 : List Blk} (h : HC P gl f xs bs r bs') (h1 : le r r') (h2 : leBs bs' bs2) : HC P gl f xs bs r' bs2 := by
  intro w S m vs hG hA hnm hheld hinj hv
  refine (h w S m vs hG hA hnm hheld hinj hv).mono ?_
  rintro e w' ⟨u, S', m', he, h3, h4, h5, h6, h7, h8, h9, h10, h11, h12, h13, h14⟩
  have hlen := leBs_len h2
  refine ⟨u, S', m', he, h3, h4, h5, h6, h7, h8, h9, fun q b hb => ?_, hlen ▸ h11, hlen ▸ h12, h13, le_sound _ _ _ _ h1 h14⟩
  obtain ⟨d, hd, hle⟩ := leBs_get h2 hb
  exact leB_held hle (h10 q d hd)
/-- Two contracts of one function. -/
def orSp (a b : Sp) : Sp := fun xs => match a xs with | some r => some r | none => b xs
theorem SOK.or {P : Program} {gl : Glob} {f : FuncId} {a b : Sp} (h : SOK P gl f a) (k : SOK P gl f b) : SOK P gl f (orSp a b) :=
  ⟨h.1, fun xs pre r e hp => by
    unfold orSp at e
    split at e
    · next q hq => injection e with e; subst e; exact h.2 xs pre r hq hp
    · exact k.2 xs pre r e hp⟩
def orSpH (a b : SpH) : SpH := fun xs bs => match a xs bs with | some r => some r | none => b xs bs
theorem HOK.or {P : Program} {gl : Glob} {f : FuncId} {a b : SpH} (h : HOK P gl f a) (k : HOK P gl f b) : HOK P gl f (orSpH a b) :=
  ⟨h.1, fun xs bs pre r bs' e hp => by
    unfold orSpH at e
    split at e
    · next q hq => injection e with e; subst e; exact h.2 xs bs pre r bs' hq hp
    · exact k.2 xs bs pre r bs' e hp⟩
def orSpQ (a b : SpQ) : SpQ := fun xs bs => match a xs bs with | some r => some r | none => b xs bs
theorem QOK.or {P : Program} {gl : Glob} {f : FuncId} {a b : SpQ} (h : QOK P gl f a) (k : QOK P gl f b) : QOK P gl f (orSpQ a b) :=
  ⟨h.1, fun xs bs T e K hT => by
    unfold orSpQ at e
    split at e
    · next q hq => injection e with e; subst e; exact h.2 xs bs _ hq K hT
    · exact k.2 xs bs T e K hT⟩
theorem tyNil {P : Program} : TyOK P [] := by constructor <;> simp [inT]
theorem tyOf {P : Program} {l : List TypeId} (h : (l.all fun t => !P.stoodInHeld t && !P.eqGuardType P.depth t) = true) : TyOK P l :=
  ⟨fun t ht => by have := List.all_eq_true.1 h t ht; simp at this; exact this.1, fun t ht => by have := List.all_eq_true.1 h t ht; simp at this; exact this.2⟩
/-- What a list of numbers reads as. -/
def irow (zs : List Int) : List (List AV) := zs.map fun n => [.int .i64 n]
def cellI : List AV → Int
  | [.int _ n] => n
  | _ => 0
def IntsA (xs : List (List AV)) : Prop := ∀ x ∈ xs, ∃ n : Int, x = [.int .i64 n] ∧ rng .i64 n
structure SrcI (xs : List (List AV)) : Prop where
  short : xs.length ≤ 2000
  ints : IntsA xs
theorem SrcI.take {xs : List (List AV)} (h : IntsA xs) : SrcI (xs.take 2000) := ⟨by rw [List.length_take]; omega, fun x hx => h x (List.mem_of_mem_take hx)⟩
def rawV (xs : List (List AV)) (i : Int) : Int := if (xs.length : Int) ≤ i then 0 else cellI (xs.getD i.toNat [])
def rawA (xs : List (List AV)) (i : Int) : Int := if (xs.length : Int) ≤ i then i else i + 1
def modZ (x n : Int) : Int := if n < 1 then 0 else x % n
def srcN (xs : List (List AV)) (i n : Int) : Int := modZ (rawV xs i) n
theorem srcN_lt {xs : List (List AV)} {i n : Int} (h : 1 ≤ n) : 0 ≤ srcN xs i n ∧ srcN xs i n < n := by
  unfold srcN modZ
  rw [if_neg (by omega)]
  exact ⟨Int.emod_nonneg _ (by omega), Int.emod_lt_of_pos _ (by omega)⟩
theorem rawA_le {xs : List (List AV)} {i : Int} (h : 0 ≤ i) : 0 ≤ rawA xs i := by unfold rawA; split <;> omega
theorem modZ_go (x n : Int) (h : 1 ≤ n) : (x.tmod n < 0 → modZ x n = x.tmod n + n) ∧ (¬ x.tmod n < 0 → modZ x n = x.tmod n) := by
  unfold modZ
  rw [if_neg (by omega), Int.emod_eq_tmod]
  have hn : (n.natAbs : Int) = n := by omega
  constructor
  · intro h1
    rw [if_neg, hn]
    rintro (h2 | h2)
    · have := Int.tmod_nonneg n h2; omega
    · have := Int.tmod_eq_zero_of_dvd h2; omega
  · intro h1
    by_cases h2 : 0 ≤ x ∨ n ∣ x
    · rw [if_pos h2]; simp
    · rw [if_neg h2]
      simp only [not_or] at h2
      exfalso
      have h3 : x.tmod n = 0 := by
        have h4 := Int.tmod_nonneg n (a := -x) (by omega)
        rw [Int.neg_tmod] at h4
        omega
      exact h2.2 (Int.dvd_of_tmod_eq_zero h3)
theorem tmod_bd (x n : Int) (h : 1 ≤ n) : -n < x.tmod n ∧ x.tmod n < n := by
  have h1 := Int.tmod_lt_of_pos x (b := n) (by omega)
  have h2 := modZ_go x n h
  have h3 : 0 ≤ modZ x n := by unfold modZ; rw [if_neg (by omega)]; exact Int.emod_nonneg _ (by omega)
  by_cases h4 : x.tmod n < 0
  · have h5 := h2.1 h4
    have h6 : modZ x n < n := by unfold modZ; rw [if_neg (by omega)]; exact Int.emod_lt_of_pos _ (by omega)
    by_cases h7 : modZ x n = 0
    · exfalso
      have h8 : x % n = 0 := by unfold modZ at h7; rw [if_neg (by omega)] at h7; exact h7
      have := Int.tmod_eq_zero_of_dvd (Int.dvd_of_emod_eq_zero h8)
      omega
    · omega
  · omega
end Go.Proofs.YthdfkiopppkfcaaDoor
