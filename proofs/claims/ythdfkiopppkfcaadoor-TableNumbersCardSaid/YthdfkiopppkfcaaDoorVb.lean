/- The state of a walk: slots and own blocks as abstract values; when the machine's state is one; how steps keep it. -/
import Derived.Test.YthdfkiopppkfcaaDoorVa
import Derived.Maps.OwnSet
import Derived.Test.YthdfkiopppkfcaaDoorProg
namespace Go.Proofs.YthdfkiopppkfcaaDoor
open Go

inductive Blk where
  | cells (cs : List AV)
  | tok (e s n : Nat)
  | row (e s : Nat) (xs : List (List AV))
  | mp (kt et : Nat) (l : List (Int × AV))
  | gone

theorem nbeq_self (i : Nat) : Nat.beq i i = true := Nat.beq_refl i
theorem nbeq_ne {i j : Nat} (h : i ≠ j) : Nat.beq i j = false := by
  cases e : Nat.beq i j with
  | true => exact absurd (Nat.eq_of_beq_eq_true e) h
  | false => rfl
def lk {α : Type} : List (Nat × α) → Nat → Option α
  | [], _ => none
  | (j, x) :: l, i => cond (Nat.beq j i) (some x) (lk l i)
/-- Set and go on with the list in full. -/
def insK {α β : Type} : List (Nat × α) → Nat → α → (List (Nat × α) → β) → β
  | [], i, v, k => k [(i, v)]
  | (j, x) :: l, i, v, k => cond (Nat.beq j i) (k ((j, v) :: l)) (insK l i v fun l' => k ((j, x) :: l'))
def ins {α : Type} : List (Nat × α) → Nat → α → List (Nat × α)
  | [], i, v => [(i, v)]
  | (j, x) :: l, i, v => cond (Nat.beq j i) ((j, v) :: l) ((j, x) :: ins l i v)
theorem insK_ins {α β : Type} (i : Nat) (v : α) : ∀ (l : List (Nat × α)) (k : List (Nat × α) → β), insK l i v k = k (ins l i v)
  | [], k => rfl
  | (j, x) :: l, k => by
    simp only [insK, ins]
    rw [insK_ins i v l]
    cases Nat.beq j i <;> rfl
theorem lk_ins {α : Type} (i : Nat) (v : α) (j : Nat) : ∀ (l : List (Nat × α)), lk (ins l i v) j = if j = i then some v else lk l j
  | [] => by
    simp only [ins, lk]
    by_cases h : j = i
    · subst h; rw [nbeq_self, if_pos rfl]; rfl
    · rw [if_neg h, nbeq_ne (fun e => h e.symm)]; rfl
  | (q, x) :: l => by
    simp only [ins]
    by_cases hq : q = i
    · subst hq
      rw [nbeq_self]
      simp only [cond_true, lk]
      by_cases h : j = q
      · subst h; rw [nbeq_self, if_pos rfl]; rfl
      · rw [if_neg h, nbeq_ne (fun e => h e.symm)]; rfl
    · rw [nbeq_ne hq]
      simp only [cond_false, lk]
      rw [lk_ins i v j l]
      by_cases h : q = j
      · subst h; rw [nbeq_self]; simp only [cond_true]; rw [if_neg hq]
      · rw [nbeq_ne h]; rfl
/-- Taken out. -/
def del {α : Type} : List (Nat × α) → Nat → List (Nat × α)
  | [], _ => []
  | (j, x) :: l, i => cond (Nat.beq j i) (del l i) ((j, x) :: del l i)
theorem lk_del {α : Type} (i j : Nat) : ∀ (l : List (Nat × α)), lk (del l i) j = if j = i then none else lk l j
  | [] => by simp [del, lk]
  | (q, x) :: l => by
    simp only [del]
    by_cases hq : q = i
    · subst hq
      rw [nbeq_self]
      simp only [cond_true]
      rw [lk_del q j l]
      by_cases h : j = q
      · rw [if_pos h, if_pos h]
      · rw [if_neg h, if_neg h]; simp only [lk]; rw [nbeq_ne (fun e => h e.symm)]; rfl
    · rw [nbeq_ne hq]
      simp only [cond_false, lk]
      rw [lk_del i j l]
      by_cases h : q = j
      · subst h; rw [nbeq_self]; simp only [cond_true]; rw [if_neg hq]
      · rw [nbeq_ne h]; rfl

structure St where
  tmps : List (Nat × AV)
  heap : List (Nat × Blk)
def St.get (st : St) (t : Nat) : AV := match lk st.tmps t with | some x => x | none => .dead
def St.put (st : St) (d : Nat) (x : AV) : St := ⟨ins st.tmps d x, st.heap⟩
def St.blk (st : St) (k : Nat) (b : Blk) : St := ⟨st.tmps, ins st.heap k b⟩
theorem St.get_put (st : St) (d : Nat) (x : AV) (t : Nat) : (st.put d x).get t = if t = d then x else st.get t := by
  unfold St.get St.put
  simp only [lk_ins]
  by_cases h : t = d
  · simp [h]
  · simp [h]

/-- The block that a name stands for. -/
def bk : Value → Option Nat
  | .pointer (some a) => some a.block
  | .slice (some a) _ _ => some a.block
  | .iface _ (.slice (some a) _ _) => some a.block
  | .map (some g) => some g
  | _ => none
/-- The type of a row's elements, and what of its block may be marked as never written: from 1000000 on it is a string's bytes, whose block bears a mark behind its end. -/
def rowTy (e : Nat) : Nat := if e < 1000000 then e else if e < 2000000 then e - 1000000 else e - 2000000
def RowMk (e n : Nat) (fr : Nat × Nat) : Prop := fr = (0, 0) ∨ (1000000 ≤ e ∧ e < 2000000 ∧ n ≤ fr.1)
/-- A row from 2000000 on may hold names of the call's own. -/
def rowNm (e : Nat) (m : Nm) : Nm := if e < 2000000 then noNm else m
theorem rowTy_op {e : Nat} : rowTy (e + 2000000) = e := by unfold rowTy; rw [if_neg (by omega), if_neg (by omega)]; omega
theorem RowMk.op {e n : Nat} {fr : Nat × Nat} (h : RowMk (e + 2000000) n fr) : fr = (0, 0) := h.resolve_right (by omega)
theorem rowNm_le (e : Nat) (m : Nm) : MLe (rowNm e m) m := by
  unfold rowNm
  split
  · exact MLe.no m
  · exact MLe.refl m
theorem rowNm_lo {e : Nat} (h : e < 2000000) (m : Nm) : rowNm e m = noNm := if_pos h
theorem rowNm_hi {e : Nat} (h : ¬ e < 2000000) (m : Nm) : rowNm e m = m := if_neg h
theorem rowNm_mono (e : Nat) {m m' : Nm} (h : MLe m m') : MLe (rowNm e m) (rowNm e m') := by
  unfold rowNm
  split
  · exact MLe.refl _
  · exact h
theorem rowTy_lt {e : Nat} (h : e < 1000000) : rowTy e = e := if_pos h
theorem RowMk.none {e n : Nat} : RowMk e n (0, 0) := .inl rfl
theorem RowMk.lt {e n : Nat} {fr : Nat × Nat} (h : RowMk e n fr) (he : e < 1000000) : fr = (0, 0) := h.resolve_right (by omega)
/-- What a map holds: under numbers, numbers or truth values. -/
def mGet : List (Int × AV) → Int → Option AV
  | [], _ => none
  | (k, x) :: l, n => cond (decide (k = n)) (some x) (mGet l n)
def mDel : List (Int × AV) → Int → List (Int × AV)
  | [], _ => []
  | (k, x) :: l, n => cond (decide (k = n)) (mDel l n) ((k, x) :: mDel l n)
def mPut (l : List (Int × AV)) (n : Int) (x : AV) : List (Int × AV) := (n, x) :: mDel l n
def avD : AV → DataW Unit
  | .int k n => .lit (.int k n)
  | .bool b => .lit (.bool b)
  | _ => .nil
structure MapD (et : Nat) (D : DataW Unit) (l : List (Int × AV)) : Prop where
  size : Maps.size D = l.length
  has : ∀ n, rng .i64 n → Maps.has D (.int .i64 n) = (mGet l n).isSome
  get : ∀ n x, rng .i64 n → mGet l n = some x → ∀ z, D.atKey (.int .i64 n) z = avD x
  nd : (l.map Prod.fst).Nodup
  kind : ∀ n x, mGet l n = some x → (∃ z, x = .int .i64 z ∧ rng .i64 z ∧ Tryd.prog.underlying et = some (.int .i64)) ∨ (∃ b, x = .bool b ∧ Tryd.prog.underlying et = some .bool)
def Held (S : Pin) (m : Nm) (w : World) (k : Nat) : Blk → Prop
  | .cells cs => ∃ g arr t, m k = some (.pointer (some ⟨g, 0, none⟩)) ∧ w.heap[g]? = some (.cells arr t (0, 0)) ∧ CVl S cs m arr.toList ∧ ∀ o, S g o = none
  | .tok e s n => ∃ A c, m k = some (.slice A n c) ∧ n ≤ c ∧ c ≤ maxLen ∧ ((A = none ∧ c = 0) ∨ ∃ g cur fr, A = some ⟨g, 0, none⟩ ∧ w.heap[g]? = some (.cells cur (rowTy e) fr) ∧ RowMk e cur.size fr ∧ cur.size = c * s ∧ ∀ o, n * s ≤ o → S g o = none)
  | .row e s xs => ∃ A c, m k = some (.iface 0 (.slice A xs.length c)) ∧ xs.length ≤ c ∧ c ≤ maxLen ∧ ((A = none ∧ c = 0) ∨ ∃ g cur fr, A = some ⟨g, 0, none⟩ ∧ w.heap[g]? = some (.cells cur (rowTy e) fr) ∧ RowMk e cur.size fr ∧ cur.size = c * s ∧ (∀ o, S g o = none) ∧
      ∀ (j : Nat) (x : List AV), xs[j]? = some x → x.length = s ∧ ∀ (i : Nat) (y : AV), x[i]? = some y → ∃ v, cur[j * s + i]? = some v ∧ v.oneCell' = true ∧ CV S y (rowNm e m) v)
  | .mp kt et l => ∃ g D, m k = some (.map (some g)) ∧ w.ownsMap Tryd.prog kt (plainElem (H := Unit) Tryd.prog et) g l.length D ∧ MapD et D l
  | .gone => ∃ u, m k = some u ∧ ∀ g, bk u = some g → g < w.heap.size

/-- What a call began with. -/
structure Gh where
  w0 : World
  S0 : Pin
  m0 : Nm
  M : Nat → Prop

structure Rel (G : Gh) (keep : List Nat) (st : St) (a : Act) (w : World) (S : Pin) (m : Nm) : Prop where
  defers : a.defers = []
  pin0 : Ext G.S0 S
  pinNew : ∀ b o, b < G.w0.heap.size → ¬ G.M b → S b o = G.S0 b o
  agree : Agree S w
  tmps : ∀ t, CV S (st.get t) m (a.tmps.getD t undef)
  held : ∀ k b, lk st.heap k = some b → Held S m w k b
  inj : ∀ k k' b b' u u' g, lk st.heap k = some b → lk st.heap k' = some b' → k ≠ k' → m k = some u → m k' = some u' → bk u = some g → bk u' ≠ some g
  own : ∀ k b u g, lk st.heap k = some b → m k = some u → bk u = some g → G.w0.heap.size ≤ g ∨ G.M g
  os : w.os = G.w0.os
  tape : w.tape = G.w0.tape
  output : w.output = G.w0.output
  size : G.w0.heap.size ≤ w.heap.size
  frame : ∀ b, b < G.w0.heap.size → ¬ G.M b → w.heap[b]? = G.w0.heap[b]?
  m0 : MLe G.m0 m
  keep : ∀ k u, G.m0 k = some u → k ∈ keep

theorem Agree.lt {S : Pin} {w : World} (h : Agree S w) {b o : Nat} {v : Value} (e : S b o = some v) : b < w.heap.size := World.block_lt_of_cell? w _ (h b o v e).1
theorem Held.lt {S : Pin} {m : Nm} {w : World} {k : Nat} {b : Blk} (h : Held S m w k b) {u : Value} {g : Nat} (hu : m k = some u) (hg : bk u = some g) : g < w.heap.size := by
  cases b with
  | cells cs =>
    obtain ⟨g', arr, t, h1, h2, _⟩ := h
    rw [hu] at h1
    injection h1 with h1
    subst h1
    simp only [bk, Option.some.injEq] at hg
    subst hg
    exact (Array.getElem?_eq_some_iff.1 h2).1
  | row e s xs =>
    obtain ⟨A, c, h1, _, _, h2⟩ := h
    rw [hu] at h1
    injection h1 with h1
    subst h1
    rcases h2 with ⟨rfl, _⟩ | ⟨g', cur, fr, rfl, h4, _⟩
    · simp [bk] at hg
    · simp only [bk, Option.some.injEq] at hg
      subst hg
      exact (Array.getElem?_eq_some_iff.1 h4).1
  | tok e s n =>
    obtain ⟨A, c, h1, _, _, h2⟩ := h
    rw [hu] at h1
    injection h1 with h1
    subst h1
    rcases h2 with ⟨rfl, _⟩ | ⟨g', cur, fr, rfl, h4, _⟩
    · simp [bk] at hg
    · simp only [bk, Option.some.injEq] at hg
      subst hg
      exact (Array.getElem?_eq_some_iff.1 h4).1
  | mp kt et l =>
    obtain ⟨g', D, h1, h2, _⟩ := h
    rw [hu] at h1
    injection h1 with h1
    subst h1
    simp only [bk, Option.some.injEq] at hg
    subst hg
    exact h2.lt
  | gone =>
    obtain ⟨u', h1, h2⟩ := h
    rw [hu] at h1
    injection h1 with h1
    subst h1
    exact h2 g hg
/-- Cells in which names may stand. -/
def Inside : Blk → List AV → Prop
  | .cells cs, ds => cs = ds
  | .row e _ xs, ds => 2000000 ≤ e ∧ ∃ (j i : Nat) (x : List AV) (y : AV), xs[j]? = some x ∧ x[i]? = some y ∧ ds = [y]
  | _, _ => False
/-- A block of cells that is as it was, and whose cells are not known for good, is held on. -/
theorem Held.keep {S S' : Pin} {m m' : Nm} {w w' : World} {k : Nat} {b : Blk} (h : Held S m w k b) (hS : Ext S S') (hm : ∀ cs vs, Inside b cs → CVl S cs m vs → CVl S' cs m' vs) (hk : m' k = m k)
    (hb : ∀ u g, m k = some u → bk u = some g → w'.heap[g]? = w.heap[g]? ∧ ∀ o, S' g o = S g o) : Held S' m' w' k b := by
  cases b with
  | cells cs =>
    obtain ⟨g, arr, t, h1, h2, h3, h4⟩ := h
    obtain ⟨q1, q2⟩ := hb _ g h1 rfl
    exact ⟨g, arr, t, hk.trans h1, q1.trans h2, hm _ _ rfl h3, fun o => (q2 o).trans (h4 o)⟩
  | row e0 s xs =>
    obtain ⟨A, c, h1, h2, h3, h5⟩ := h
    refine ⟨A, c, hk.trans h1, h2, h3, ?_⟩
    rcases h5 with h5 | ⟨g, cur, fr, rfl, h7, hfr, h8, h9, h10⟩
    · exact .inl h5
    · obtain ⟨q1, q2⟩ := hb _ g h1 rfl
      refine .inr ⟨g, cur, fr, rfl, q1.trans h7, hfr, h8, fun o => (q2 o).trans (h9 o), fun j x e => ⟨(h10 j x e).1, fun i y e' => ?_⟩⟩
      obtain ⟨v, hv, ho, hy⟩ := (h10 j x e).2 i y e'
      refine ⟨v, hv, ho, ?_⟩
      by_cases he : e0 < 2000000
      · rw [rowNm_lo he] at hy ⊢
        exact hy.ext hS (MLe.refl _)
      · rw [rowNm_hi he] at hy ⊢
        have h12 := hm [y] [v] ⟨by omega, j, i, x, y, e, e', rfl⟩ (by simp only [CVl]; exact ⟨v, [], rfl, hy, rfl⟩)
        simp only [CVl] at h12
        obtain ⟨u, us, e3, e4, e5⟩ := h12
        injection e3 with e3
        subst e3; exact e4
  | mp kt et l =>
    obtain ⟨g, D, h1, h2, h3⟩ := h
    obtain ⟨q1, _⟩ := hb _ g h1 rfl
    obtain ⟨es, clock, h4, h5⟩ := h2
    exact ⟨g, D, hk.trans h1, ⟨es, clock, q1.trans h4, h5⟩, h3⟩
  | gone =>
    obtain ⟨u', h1, h2⟩ := h
    refine ⟨u', hk.trans h1, fun g hg => ?_⟩
    obtain ⟨q1, _⟩ := hb _ g h1 hg
    have := h2 g hg
    rw [Array.getElem?_eq_getElem this] at q1
    exact (Array.getElem?_eq_some_iff.1 q1).1
  | tok e s n =>
    obtain ⟨A, c, h1, h2, h3, h5⟩ := h
    refine ⟨A, c, hk.trans h1, h2, h3, ?_⟩
    rcases h5 with h5 | ⟨g, cur, fr, rfl, h7, hfr, h8, h9⟩
    · exact .inl h5
    · obtain ⟨q1, q2⟩ := hb _ g h1 rfl
      exact .inr ⟨g, cur, fr, rfl, q1.trans h7, hfr, h8, fun o ho => (q2 o).trans (h9 o ho)⟩

section
variable {G : Gh} {kp : List Nat} {st : St} {a : Act} {w : World} {S : Pin} {m : Nm}
/-- A slot is written. -/
theorem Rel.put (h : Rel G kp st a w S m) {r : AV} {v : Value} (hr : CV S r m v) {d : Nat} (hd : d < a.tmps.size) : Rel G kp (st.put d r) (a.put (some d) v) w S m := by
  refine { h with defers := h.defers, tmps := fun t => ?_ }
  rw [St.get_put]
  by_cases e : t = d
  · subst e
    rw [if_pos rfl]
    simp only [Act.put, Array.getD_eq_getD_getElem?, Array.getElem?_setIfInBounds_self]
    simp [hd, hr]
  · rw [if_neg e]
    have := h.tmps t
    simp only [Act.put, Array.getD_eq_getD_getElem?] at this ⊢
    rw [Array.getElem?_setIfInBounds_ne (fun q => e q.symm)]
    exact this
theorem Rel.puts (h : Rel G kp st a w S m) {r : AV} {v : Value} (hr : CV S r m v) {d : Option Nat} (hd : ∀ t, d = some t → t < a.tmps.size) : Rel G kp (match d with | some t => st.put t r | none => st) (a.put d v) w S m := by
  cases d with
  | none => exact h
  | some t => exact h.put hr (hd t rfl)
/-- The world goes on: old blocks as they were, and what is known for good of them. -/
theorem Rel.next (h : Rel G kp st a w S m) {w' : World} {S' : Pin} (hb : Go.RowKit.Below w.heap.size w w') (hS : Ext S S') (hp : ∀ b o, b < w.heap.size → S' b o = S b o) (hA : Agree S' w') : Rel G kp st a w' S' m :=
  { defers := h.defers
    pin0 := h.pin0.trans hS
    pinNew := fun b o h1 h2 => (hp b o (Nat.lt_of_lt_of_le h1 h.size)).trans (h.pinNew b o h1 h2)
    agree := hA
    tmps := fun t => (h.tmps t).ext hS (MLe.refl m)
    held := fun k b hk => (h.held k b hk).keep hS (fun _ _ _ hc => hc.ext hS (MLe.refl m)) rfl (fun u g hu hg => by
      have hl := (h.held k b hk).lt hu hg
      exact ⟨hb.block g hl, fun o => hp g o hl⟩)
    inj := h.inj
    own := h.own
    os := hb.os.trans h.os
    tape := hb.tape.trans h.tape
    output := hb.output.trans h.output
    size := Nat.le_trans h.size hb.size
    frame := fun b h1 h2 => (hb.block b (Nat.lt_of_lt_of_le h1 h.size)).trans (h.frame b h1 h2)
    m0 := h.m0
    keep := h.keep }
theorem Rel.drew (h : Rel G kp st a w S m) : Rel G kp st a w.drew S m :=
  h.next (Go.RowKit.Below.drew (Go.RowKit.Below.refl _ _)) (Ext.refl S) (fun _ _ _ => rfl) h.agree
end

def nnll (k : Nat) : List (List AV) → Bool
  | [] => true
  | x :: l => nnl k x && nnll k l
theorem nnl_at {k : Nat} : ∀ {l : List AV} {i : Nat} {y : AV}, nnl k l = true → l[i]? = some y → nn k y = true
  | [], _, _, _, e => by simp at e
  | x :: l, 0, y, h, e => by simp at e; subst e; simp only [nnl, Bool.and_eq_true] at h; exact h.1
  | x :: l, i + 1, y, h, e => by simp only [nnl, Bool.and_eq_true] at h; exact nnl_at h.2 (by simpa using e)
theorem nnll_at {k : Nat} : ∀ {l : List (List AV)} {i : Nat} {y : List AV}, nnll k l = true → l[i]? = some y → nnl k y = true
  | [], _, _, _, e => by simp at e
  | x :: l, 0, y, h, e => by simp at e; subst e; simp only [nnll, Bool.and_eq_true] at h; exact h.1
  | x :: l, i + 1, y, h, e => by simp only [nnll, Bool.and_eq_true] at h; exact nnll_at h.2 (by simpa using e)
def nnB (k : Nat) : Blk → Bool
  | .cells cs => nnl k cs
  | .row e _ xs => cond (Nat.blt e 2000000) true (nnll k xs)
  | _ => true
theorem nnB_in {k : Nat} {b : Blk} {cs : List AV} (h : nnB k b = true) (hi : Inside b cs) : nnl k cs = true := by
  cases b with
  | cells ds => have hi : ds = cs := hi; subst hi; exact h
  | row e s xs =>
    obtain ⟨he, j, i, x, y, e1, e2, rfl⟩ := hi
    have hb : Nat.blt e 2000000 = false := by
      cases q : Nat.blt e 2000000 with
      | false => rfl
      | true => have : e < 2000000 := Nat.le_of_ble_eq_true q; omega
    simp only [nnB, hb, cond_false] at h
    have := nnl_at (nnll_at h e1) e2
    simp only [nnl, this, Bool.and_self]
  | tok e s n => exact hi.elim
  | mp kt et l => exact hi.elim
  | gone => exact hi.elim
/-- The name k occurs in no slot and in no other block. -/
def nnT (k : Nat) : List (Nat × AV) → Bool
  | [] => true
  | (_, x) :: l => nn k x && nnT k l
def nnH (k : Nat) : List (Nat × Blk) → Bool
  | [] => true
  | (j, b) :: l => (Nat.beq j k || nnB k b) && nnH k l
def inL (k : Nat) : List Nat → Bool
  | [] => false
  | j :: l => Nat.beq j k || inL k l
def fresh (kp : List Nat) (st : St) (k : Nat) : Bool := nnT k st.tmps && nnH k st.heap && !inL k kp
theorem nnT_get {k : Nat} : ∀ {l : List (Nat × AV)} {t : Nat} {x : AV}, nnT k l = true → lk l t = some x → nn k x = true
  | [], _, _, _, e => by simp [lk] at e
  | (j, y) :: l, t, x, h, e => by
    simp only [nnT, Bool.and_eq_true] at h
    simp only [lk] at e
    cases hj : Nat.beq j t with
    | true => rw [hj] at e; simp only [cond_true, Option.some.injEq] at e; subst e; exact h.1
    | false => rw [hj] at e; simp only [cond_false] at e; exact nnT_get h.2 e
theorem nnH_get {k : Nat} : ∀ {l : List (Nat × Blk)} {t : Nat} {x : Blk}, nnH k l = true → lk l t = some x → t ≠ k → nnB k x = true
  | [], _, _, _, e, _ => by simp [lk] at e
  | (j, y) :: l, t, x, h, e, hne => by
    simp only [nnH, Bool.and_eq_true, Bool.or_eq_true] at h
    simp only [lk] at e
    cases hj : Nat.beq j t with
    | true =>
      rw [hj] at e
      simp only [cond_true, Option.some.injEq] at e
      subst e
      rcases h.1 with h1 | h1
      · exact absurd ((Nat.eq_of_beq_eq_true hj).symm.trans (Nat.eq_of_beq_eq_true h1)) hne
      · exact h1
    | false => rw [hj] at e; simp only [cond_false] at e; exact nnH_get h.2 e hne
theorem inL_mem {k : Nat} : ∀ {l : List Nat}, inL k l = false → k ∉ l
  | [], _ => by simp
  | j :: l, h => by
    simp only [inL, Bool.or_eq_false_iff] at h
    simp only [List.mem_cons, not_or]
    refine ⟨fun e => ?_, inL_mem h.2⟩
    subst e
    rw [nbeq_self] at h
    exact absurd h.1 (by simp)
theorem fresh_get {kp : List Nat} {st : St} {k : Nat} (h : fresh kp st k = true) (t : Nat) : nn k (st.get t) = true := by
  simp only [fresh, Bool.and_eq_true] at h
  unfold St.get
  cases e : lk st.tmps t with
  | none => rfl
  | some x => exact nnT_get h.1.1 e
theorem CVl.set {S : Pin} {x : List AV} {m : Nm} {v : List Value} {u : Value} {k : Nat} (h : CVl S x m v) (hk : nnl k x = true) : CVl S x (m.set k u) v :=
  CVl.mono (Ext.refl S) x m _ v (fun j w hj e => ⟨w, by
    have : j ≠ k := by rintro rfl; rw [hk] at hj; cases hj
    simp [Nm.set, this, e], .refl w⟩) h
theorem Nm.set_same (m : Nm) (k : Nat) (u : Value) : m.set k u k = some u := by simp [Nm.set]
theorem Nm.set_ne (m : Nm) {k j : Nat} (u : Value) (h : j ≠ k) : m.set k u j = m j := by simp [Nm.set, h]

section
variable {G : Gh} {kp : List Nat} {st : St} {a : Act} {w : World} {S : Pin} {m : Nm}
/-- A new block under a name that occurs nowhere. What is known for good of the new block may be anything that it holds. -/
theorem Rel.fresh_ (h : Rel G kp st a w S m) {k : Nat} (hf : fresh kp st k = true) {b : Blk} {u : Value} {w' : World} {S' : Pin}
    (hb : Go.RowKit.Below w.heap.size w w') (hS : Ext S S') (hp : ∀ g o, g < w.heap.size → S' g o = S g o) (hA : Agree S' w')
    (hu : ∀ g, bk u = some g → w.heap.size ≤ g) (hh : Held S' (m.set k u) w' k b) : Rel G kp (st.blk k b) a w' S' (m.set k u) := by
  have h1 := h.next hb hS hp hA
  have hf' := hf
  simp only [fresh, Bool.and_eq_true, Bool.not_eq_true'] at hf'
  obtain ⟨⟨hT, hH⟩, hK⟩ := hf'
  refine { h1 with defers := h1.defers, tmps := fun t => (h1.tmps t).set (fresh_get hf t), held := ?_, inj := ?_, own := ?_, m0 := ?_ }
  · intro j c hj
    simp only [St.blk, lk_ins] at hj
    by_cases e : j = k
    · subst e
      rw [if_pos rfl] at hj
      injection hj with hj
      subst hj; exact hh
    · rw [if_neg e] at hj
      refine (h1.held j c hj).keep (Ext.refl _) (fun cs vs hc hv => hv.set ?_) (Nm.set_ne m u e) (fun _ _ _ _ => ⟨rfl, fun _ => rfl⟩)
      exact nnB_in (nnH_get hH hj e) hc
  · intro j j' c c' v v' g hj hj' hne hv hv' hg hg'
    simp only [St.blk, lk_ins] at hj hj'
    by_cases e : j = k
    · subst e
      rw [Nm.set_same] at hv
      injection hv with hv
      subst hv
      rw [if_neg (fun q => hne q.symm)] at hj'
      rw [Nm.set_ne m _ (fun q => hne q.symm)] at hv'
      have := (h.held j' c' hj').lt hv' hg'
      have := hu g hg
      omega
    · rw [if_neg e] at hj
      rw [Nm.set_ne m _ e] at hv
      by_cases e' : j' = k
      · subst e'
        rw [Nm.set_same] at hv'
        injection hv' with hv'
        subst hv'
        have := (h.held j c hj).lt hv hg
        have := hu g hg'
        omega
      · rw [if_neg e'] at hj'
        rw [Nm.set_ne m _ e'] at hv'
        exact h.inj j j' c c' v v' g hj hj' hne hv hv' hg hg'
  · intro j c v g hj hv hg
    simp only [St.blk, lk_ins] at hj
    by_cases e : j = k
    · subst e
      rw [Nm.set_same] at hv
      injection hv with hv
      subst hv
      exact .inl (Nat.le_trans h.size (hu g hg))
    · rw [if_neg e] at hj
      rw [Nm.set_ne m _ e] at hv
      exact h.own j c v g hj hv hg
  · intro j v hj
    obtain ⟨v', hv', hg⟩ := h.m0 j v hj
    have : j ≠ k := fun e => inL_mem hK (e ▸ h.keep j v hj)
    exact ⟨v', by rw [Nm.set_ne m _ this]; exact hv', hg⟩
/-- A new block of cells. -/
theorem Rel.alloc (h : Rel G kp st a w S m) {k : Nat} (hf : fresh kp st k = true) {cs : List AV} {arr : Array Value} (t : TypeId) (hc : CVl S cs m arr.toList) (hn : nnl k cs = true) :
    Rel G kp (st.blk k (.cells cs)) a (w.alloc (.cells arr t)) S (m.set k (.pointer (some ⟨w.heap.size, 0, none⟩))) := by
  refine h.fresh_ hf ((Go.RowKit.Below.refl _ _).alloc (Nat.le_refl _) _) (Ext.refl S) (fun _ _ _ => rfl) ?_ ?_ ?_
  · intro b o v e
    refine ⟨?_, (h.agree b o v e).2⟩
    rw [World.cell?_alloc_lt w _ _ (h.agree.lt e)]
    exact (h.agree b o v e).1
  · intro g hg
    simp only [bk, Option.some.injEq] at hg
    omega
  · refine ⟨w.heap.size, arr, t, Nm.set_same _ _ _, heap_alloc_new w _, hc.set hn, fun o => ?_⟩
    cases e : S w.heap.size o with
    | none => rfl
    | some v => exact absurd (h.agree.lt e) (by omega)
/-- An own block gets other contents. -/
theorem Rel.write (h : Rel G kp st a w S m) {k : Nat} {b b' : Blk} (hk : lk st.heap k = some b) {g : Nat} (hm : m k = some (.pointer (some ⟨g, 0, none⟩))) {w' : World}
    (hos : w'.os = w.os) (htp : w'.tape = w.tape) (hou : w'.output = w.output) (hsz : w'.heap.size = w.heap.size) (hb : ∀ i, i ≠ g → w'.heap[i]? = w.heap[i]?)
    (hn : ∀ o, S g o = none) (hh : Held S m w' k b') : Rel G kp (st.blk k b') a w' S m := by
  have hlk : ∀ j, (∃ c, lk (st.blk k b').heap j = some c) → ∃ c, lk st.heap j = some c := by
    rintro j ⟨c, hj⟩
    simp only [St.blk, lk_ins] at hj
    by_cases e : j = k
    · subst e; exact ⟨b, hk⟩
    · rw [if_neg e] at hj; exact ⟨c, hj⟩
  have hgo := h.own k b _ g hk hm rfl
  refine { h with defers := h.defers, agree := ?_, held := ?_, inj := ?_, own := ?_, os := hos.trans h.os, tape := htp.trans h.tape, output := hou.trans h.output, size := by rw [hsz]; exact h.size, frame := ?_ }
  · intro c o v e
    have hne : c ≠ g := by rintro rfl; rw [hn] at e; cases e
    refine ⟨?_, (h.agree c o v e).2⟩
    rw [← (h.agree c o v e).1]
    exact World.cell?_of_block (w := w) (hb c hne)
  · intro j c hj
    simp only [St.blk, lk_ins] at hj
    by_cases e : j = k
    · subst e
      rw [if_pos rfl] at hj
      injection hj with hj
      subst hj; exact hh
    · rw [if_neg e] at hj
      refine (h.held j c hj).keep (Ext.refl _) (fun _ _ _ hv => hv) rfl (fun u q hu hq => ⟨hb q ?_, fun _ => rfl⟩)
      rintro rfl
      exact h.inj k j b c _ u q hk hj (fun e' => e e'.symm) hm hu rfl hq
  · intro j j' c c' v v' q hj hj' hne hv hv' hq
    obtain ⟨d, hd⟩ := hlk j ⟨c, hj⟩
    obtain ⟨d', hd'⟩ := hlk j' ⟨c', hj'⟩
    exact h.inj j j' d d' v v' q hd hd' hne hv hv' hq
  · intro j c v q hj hv hq
    obtain ⟨d, hd⟩ := hlk j ⟨c, hj⟩
    exact h.own j d v q hd hv hq
  · intro c h1 h2
    have hne : c ≠ g := by
      rintro rfl
      rcases hgo with h3 | h3
      · omega
      · exact h2 h3
    exact (hb c hne).trans (h.frame c h1 h2)
/-- An own map gets other contents. -/
theorem Rel.writeM (h : Rel G kp st a w S m) {k : Nat} {b b' : Blk} (hk : lk st.heap k = some b) {g : Nat} (hm : m k = some (.map (some g))) {w' : World}
    (hos : w'.os = w.os) (htp : w'.tape = w.tape) (hou : w'.output = w.output) (hsz : w'.heap.size = w.heap.size) (hb : ∀ i, i ≠ g → w'.heap[i]? = w.heap[i]?)
    (hn : ∀ o, S g o = none) (hh : Held S m w' k b') : Rel G kp (st.blk k b') a w' S m := by
  have hlk : ∀ j, (∃ c, lk (st.blk k b').heap j = some c) → ∃ c, lk st.heap j = some c := by
    rintro j ⟨c, hj⟩
    simp only [St.blk, lk_ins] at hj
    by_cases e : j = k
    · subst e; exact ⟨b, hk⟩
    · rw [if_neg e] at hj; exact ⟨c, hj⟩
  have hgo := h.own k b _ g hk hm rfl
  refine { h with defers := h.defers, agree := ?_, held := ?_, inj := ?_, own := ?_, os := hos.trans h.os, tape := htp.trans h.tape, output := hou.trans h.output, size := by rw [hsz]; exact h.size, frame := ?_ }
  · intro c o v e
    have hne : c ≠ g := by rintro rfl; rw [hn] at e; cases e
    refine ⟨?_, (h.agree c o v e).2⟩
    rw [← (h.agree c o v e).1]
    exact World.cell?_of_block (w := w) (hb c hne)
  · intro j c hj
    simp only [St.blk, lk_ins] at hj
    by_cases e : j = k
    · subst e
      rw [if_pos rfl] at hj
      injection hj with hj
      subst hj; exact hh
    · rw [if_neg e] at hj
      refine (h.held j c hj).keep (Ext.refl _) (fun _ _ _ hv => hv) rfl (fun u q hu hq => ⟨hb q ?_, fun _ => rfl⟩)
      rintro rfl
      exact h.inj k j b c _ u q hk hj (fun e' => e e'.symm) hm hu rfl hq
  · intro j j' c c' v v' q hj hj' hne hv hv' hq
    obtain ⟨d, hd⟩ := hlk j ⟨c, hj⟩
    obtain ⟨d', hd'⟩ := hlk j' ⟨c', hj'⟩
    exact h.inj j j' d d' v v' q hd hd' hne hv hv' hq
  · intro j c v q hj hv hq
    obtain ⟨d, hd⟩ := hlk j ⟨c, hj⟩
    exact h.own j d v q hd hv hq
  · intro c h1 h2
    have hne : c ≠ g := by
      rintro rfl
      rcases hgo with h3 | h3
      · omega
      · exact h2 h3
    exact (hb c hne).trans (h.frame c h1 h2)
/-- An own row gets other contents. -/
theorem Rel.writeR (h : Rel G kp st a w S m) {k : Nat} {b b' : Blk} (hk : lk st.heap k = some b) {g q d : Nat} (hm : m k = some (.iface 0 (.slice (some ⟨g, 0, none⟩) q d))) (_ : d ≠ 0) {w' : World}
    (hos : w'.os = w.os) (htp : w'.tape = w.tape) (hou : w'.output = w.output) (hsz : w'.heap.size = w.heap.size) (hb : ∀ i, i ≠ g → w'.heap[i]? = w.heap[i]?)
    (hn : ∀ o, S g o = none) (hh : Held S m w' k b') : Rel G kp (st.blk k b') a w' S m := by
  have hlk : ∀ j, (∃ c, lk (st.blk k b').heap j = some c) → ∃ c, lk st.heap j = some c := by
    rintro j ⟨c, hj⟩
    simp only [St.blk, lk_ins] at hj
    by_cases e : j = k
    · subst e; exact ⟨b, hk⟩
    · rw [if_neg e] at hj; exact ⟨c, hj⟩
  have hbk : bk (.iface 0 (.slice (some ⟨g, 0, none⟩) q d)) = some g := rfl
  have hgo := h.own k b _ g hk hm hbk
  refine { h with defers := h.defers, agree := ?_, held := ?_, inj := ?_, own := ?_, os := hos.trans h.os, tape := htp.trans h.tape, output := hou.trans h.output, size := by rw [hsz]; exact h.size, frame := ?_ }
  · intro c o v e
    have hne : c ≠ g := by rintro rfl; rw [hn] at e; cases e
    refine ⟨?_, (h.agree c o v e).2⟩
    rw [← (h.agree c o v e).1]
    exact World.cell?_of_block (w := w) (hb c hne)
  · intro j c hj
    simp only [St.blk, lk_ins] at hj
    by_cases e : j = k
    · subst e
      rw [if_pos rfl] at hj
      injection hj with hj
      subst hj; exact hh
    · rw [if_neg e] at hj
      refine (h.held j c hj).keep (Ext.refl _) (fun _ _ _ hv => hv) rfl (fun u q' hu hq => ⟨hb q' ?_, fun _ => rfl⟩)
      rintro rfl
      exact h.inj k j b c _ u _ hk hj (fun e' => e e'.symm) hm hu hbk hq
  · intro j j' c c' v v' q hj hj' hne hv hv' hq
    obtain ⟨d, hd⟩ := hlk j ⟨c, hj⟩
    obtain ⟨d', hd'⟩ := hlk j' ⟨c', hj'⟩
    exact h.inj j j' d d' v v' q hd hd' hne hv hv' hq
  · intro j c v q hj hv hq
    obtain ⟨d, hd⟩ := hlk j ⟨c, hj⟩
    exact h.own j d v q hd hv hq
  · intro c h1 h2
    have hne : c ≠ g := by
      rintro rfl
      rcases hgo with h3 | h3
      · omega
      · exact h2 h3
    exact (hb c hne).trans (h.frame c h1 h2)
/-- Less is known. -/
theorem Rel.weaken (h : Rel G kp st a w S m) {st' : St} (ht : ∀ t v, CV S (st.get t) m v → CV S (st'.get t) m v)
    (hh : ∀ k b, lk st'.heap k = some b → (∃ b0, lk st.heap k = some b0) ∧ Held S m w k b) : Rel G kp st' a w S m := by
  refine { h with defers := h.defers, tmps := fun t => ht t _ (h.tmps t), held := fun k b hk => (hh k b hk).2, inj := ?_, own := ?_ }
  · intro j j' c c' v v' q hj hj' hne hv hv' hq
    obtain ⟨⟨d, hd⟩, _⟩ := hh j c hj
    obtain ⟨⟨d', hd'⟩, _⟩ := hh j' c' hj'
    exact h.inj j j' d d' v v' q hd hd' hne hv hv' hq
  · intro j c v q hj hv hq
    obtain ⟨⟨d, hd⟩, _⟩ := hh j c hj
    exact h.own j d v q hd hv hq
end
end Go.Proofs.YthdfkiopppkfcaaDoor
