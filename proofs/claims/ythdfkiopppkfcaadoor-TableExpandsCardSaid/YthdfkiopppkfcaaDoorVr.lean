/- Rows: slices that the call makes and may change: made, appended to, known for good from now on. -/
import Derived.Test.YthdfkiopppkfcaaDoorVi
import Derived.Laws.AppendOwnNone
import Derived.Laws.MakeOwn
import Derived.Laws.CopyRow
import Derived.Laws.IdiomCopy
namespace Go.Proofs.YthdfkiopppkfcaaDoor
open Go
open Go.RowKit (Below)
set_option linter.unusedVariables false
set_option linter.unusedSimpArgs false

theorem CVl.append {S : Pin} {m : Nm} : ∀ {xs ys : List AV} {us vs : List Value}, CVl S xs m us → CVl S ys m vs → CVl S (xs ++ ys) m (us ++ vs)
  | [], ys, us, vs, h, k => by simp only [CVl] at h; subst h; exact k
  | x :: xs, ys, us, vs, h, k => by
    simp only [CVl] at h
    obtain ⟨u, us', rfl, h1, h2⟩ := h
    simp only [List.cons_append, CVl]
    exact ⟨u, us' ++ vs, rfl, h1, CVl.append h2 k⟩
theorem flat_len {α : Type} {s : Nat} : ∀ {zs : List (List α)}, (∀ z ∈ zs, z.length = s) → zs.flatten.length = zs.length * s
  | [], _ => by simp
  | z :: zs, h => by
    simp only [List.flatten_cons, List.length_append, List.length_cons, Nat.succ_mul]
    rw [flat_len (fun y hy => h y (List.mem_cons_of_mem _ hy)), h z List.mem_cons_self]; omega
theorem flat_get {α : Type} {s : Nat} : ∀ {zs : List (List α)}, (∀ z ∈ zs, z.length = s) → ∀ {j i : Nat} {x : List α} {y : α}, zs[j]? = some x → x[i]? = some y → zs.flatten[j * s + i]? = some y
  | [], _, j, i, x, y, h, _ => by simp at h
  | z :: zs, h, j, i, x, y, hj, hi => by
    have hz := h z List.mem_cons_self
    cases j with
    | zero =>
      simp at hj
      subst hj
      have : i < z.length := (List.getElem?_eq_some_iff.1 hi).1
      simp only [List.flatten_cons, Nat.zero_mul, Nat.zero_add]
      rw [List.getElem?_append_left this]; exact hi
    | succ j =>
      simp at hj
      simp only [List.flatten_cons]
      rw [List.getElem?_append_right (by rw [hz, Nat.succ_mul]; omega), hz, show (j + 1) * s + i - s = j * s + i by rw [Nat.succ_mul]; omega]
      exact flat_get (fun y hy => h y (List.mem_cons_of_mem _ hy)) hj hi
theorem CVl_flat {S : Pin} {m : Nm} {s : Nat} : ∀ {zs : List (List AV)} {vals : List Value}, vals.length = zs.length * s → (∀ (j : Nat) (x : List AV), zs[j]? = some x → x.length = s ∧ ∀ (i : Nat) (y : AV), x[i]? = some y → ∃ v, vals[j * s + i]? = some v ∧ CV S y m v) → CVl S zs.flatten m vals
  | [], vals, hl, _ => by
    have : vals = [] := List.eq_nil_of_length_eq_zero (by simpa using hl)
    subst this
    simp only [List.flatten_nil, CVl]
  | z :: zs, vals, hl, h => by
    have h0 := h 0 z rfl
    simp only [List.length_cons, Nat.succ_mul] at hl
    have e : vals = vals.take s ++ vals.drop s := (List.take_append_drop s vals).symm
    rw [List.flatten_cons, e]
    have a1 : CVl S z m (vals.take s) := by
      refine CVl.mk (by simp; omega) (fun i y v e1 e2 => ?_)
      obtain ⟨u, hu, hy⟩ := h0.2 i y e1
      rw [List.getElem?_take] at e2
      split at e2
      · simp only [Nat.zero_mul, Nat.zero_add] at hu
        rw [hu] at e2
        injection e2 with e2
        subst e2; exact hy
      · cases e2
    have a2 : CVl S zs.flatten m (vals.drop s) := CVl_flat (s := s) (by simp; omega) (fun j x hj => by
      have := h (j + 1) x (by simpa using hj)
      refine ⟨this.1, fun i y hi => ?_⟩
      obtain ⟨v, hv, hy⟩ := this.2 i y hi
      refine ⟨v, ?_, hy⟩
      rw [List.getElem?_drop, ← hv]
      congr 1
      rw [Nat.succ_mul]; omega)
    clear e
    exact a1.append a2
theorem CE.vals {S : Pin} : ∀ {xs : List (List AV)} {s b o : Nat}, CE S xs s b o → (∀ z ∈ xs, z.length = s) ∧ ∃ vs : List Value, vs.length = xs.length * s ∧ CVl S xs.flatten noNm vs ∧ ∀ (j : Nat) (v : Value), vs[j]? = some v → S b (o + j) = some v
  | [], _, _, _, _ => ⟨by simp, [], by simp, by simp only [List.flatten_nil, CVl], by simp⟩
  | x :: xs, s, b, o, h => by
    simp only [CE] at h
    obtain ⟨h1, h2, h3⟩ := h
    obtain ⟨vs, e1, e2⟩ := h2.vals
    obtain ⟨hl, us, e3, e4, e5⟩ := CE.vals h3
    have hvl := e2.len
    refine ⟨fun z hz => ?_, vs ++ us, ?_, ?_, fun j v e => ?_⟩
    · rcases List.mem_cons.1 hz with rfl | hz
      · exact h1
      · exact hl z hz
    · simp only [List.length_append, List.length_cons, Nat.succ_mul]; omega
    · rw [List.flatten_cons]
      exact e2.append e4
    · by_cases hj : j < vs.length
      · rw [List.getElem?_append_left hj] at e
        exact e1 j v e
      · rw [List.getElem?_append_right (by omega)] at e
        have := e5 _ v e
        rw [← this]
        congr 1
        omega
/-- Contents of a row, from the flat list of its values. -/
theorem row_of_flat {S : Pin} {s : Nat} {zs : List (List AV)} (hz : ∀ z ∈ zs, z.length = s) {cur : Array Value} {vals : List Value} {m0 : Nm} (hc : CVl S zs.flatten m0 vals) (h1 : ∀ v ∈ vals, v.oneCell' = true) (ht : cur.toList.take (zs.length * s) = vals) :
    ∀ (j : Nat) (x : List AV), zs[j]? = some x → x.length = s ∧ ∀ (i : Nat) (y : AV), x[i]? = some y → ∃ v, cur[j * s + i]? = some v ∧ v.oneCell' = true ∧ CV S y m0 v := by
  intro j x hj
  refine ⟨hz x (List.mem_of_getElem? hj), fun i y hi => ?_⟩
  obtain ⟨v, hv, hy⟩ := hc.get (flat_get hz hj hi)
  refine ⟨v, ?_, h1 v (List.mem_of_getElem? hv), hy⟩
  rw [← ht, List.getElem?_take] at hv
  split at hv
  · simpa using hv
  · cases hv
theorem CE.lens {S : Pin} {xs : List (List AV)} {s b o : Nat} (h : CE S xs s b o) : ∀ z ∈ xs, z.length = s := h.vals.1
theorem all_len {s : Nat} {xs : List (List AV)} (h : ∀ (j : Nat) (x : List AV), xs[j]? = some x → x.length = s) : ∀ z ∈ xs, z.length = s := by
  intro z hz
  obtain ⟨j, hj, rfl⟩ := List.getElem_of_mem hz
  exact h j _ (List.getElem?_eq_getElem hj)

/-- The values of a row that is held. -/
theorem Held.vals {S : Pin} {m : Nm} {w : World} {k e s : Nat} {xs : List (List AV)} (h : Held S m w k (.row e s xs)) :
    ∃ A c, m k = some (.iface 0 (.slice A xs.length c)) ∧ xs.length ≤ c ∧ c ≤ maxLen ∧ (∀ z ∈ xs, z.length = s) ∧ ((A = none ∧ c = 0) ∨ ∃ g cur fr, A = some ⟨g, 0, none⟩ ∧ w.heap[g]? = some (.cells cur (rowTy e) fr) ∧ RowMk e cur.size fr ∧ cur.size = c * s ∧ (∀ o, S g o = none)) ∧
      ∃ vals, vals.length = xs.length * s ∧ CVl S xs.flatten (rowNm e m) vals ∧ (∀ v ∈ vals, v.oneCell' = true) ∧ ((A = none ∧ c = 0) ∨ ∃ g cur fr, A = some ⟨g, 0, none⟩ ∧ w.heap[g]? = some (.cells cur (rowTy e) fr) ∧ RowMk e cur.size fr ∧ cur.size = c * s ∧ cur.toList.take (xs.length * s) = vals) ∧ ∀ g, A = some ⟨g, 0, none⟩ → ∀ (j : Nat) (v : Value), vals[j]? = some v → w.cell? ⟨g, j, none⟩ = some v := by
  obtain ⟨A, c, h1, h2, h3, h4⟩ := h
  refine ⟨A, c, h1, h2, h3, ?_⟩
  rcases h4 with ⟨rfl, rfl⟩ | ⟨g, cur, fr, rfl, h5, hfr, h6, h7, h8⟩
  · have hx : xs = [] := List.eq_nil_of_length_eq_zero (by omega)
    subst hx
    exact ⟨by simp, .inl ⟨rfl, rfl⟩, [], by simp, by simp only [List.flatten_nil, CVl], by simp, .inl ⟨rfl, rfl⟩, fun g e => by cases e⟩
  · have hlen := all_len (fun j x hj => (h8 j x hj).1)
    have hle : xs.length * s ≤ cur.size := by rw [h6]; exact Nat.mul_le_mul_right s h2
    have hl : (cur.toList.take (xs.length * s)).length = xs.length * s := by have h9 := Array.length_toList (xs := cur); rw [List.length_take]; omega
    refine ⟨hlen, .inr ⟨g, cur, fr, rfl, h5, hfr, h6, h7⟩, cur.toList.take (xs.length * s), hl, CVl_flat hl (fun j x hj => ⟨(h8 j x hj).1, fun i y hi => ?_⟩), ?_, .inr ⟨g, cur, fr, rfl, h5, hfr, h6, rfl⟩, fun g' e j v hv => ?_⟩
    · obtain ⟨v, hv, _, hy⟩ := (h8 j x hj).2 i y hi
      refine ⟨v, ?_, hy⟩
      have hjl : j < xs.length := (List.getElem?_eq_some_iff.1 hj).1
      have hil : i < s := by have := (List.getElem?_eq_some_iff.1 hi).1; rw [(h8 j x hj).1] at this; exact this
      have : j * s + s ≤ xs.length * s := by rw [← Nat.succ_mul]; exact Nat.mul_le_mul_right s hjl
      rw [List.getElem?_take, if_pos (by omega)]
      simpa using hv
    · intro v hv
      obtain ⟨p, hp, rfl⟩ := List.getElem_of_mem hv
      rw [hl] at hp
      have hs : 0 < s := by
        rcases Nat.eq_zero_or_pos s with h | h
        · subst h; simp at hp
        · exact h
      have hj : p / s < xs.length := Nat.div_lt_of_lt_mul (by rw [Nat.mul_comm]; exact hp)
      have hi : p % s < s := Nat.mod_lt _ hs
      have e1 := List.getElem?_eq_getElem hj
      obtain ⟨hz, hc⟩ := h8 _ _ e1
      have e2 := List.getElem?_eq_getElem (show p % s < (xs[p / s]).length by rw [hz]; exact hi)
      obtain ⟨u, hu, ho, _⟩ := hc _ _ e2
      have hp2 : p / s * s + p % s = p := Nat.div_add_mod' p s
      rw [hp2] at hu
      have : (cur.toList.take (xs.length * s))[p]'(by rw [hl]; exact hp) = u := by
        have h9 : (cur.toList.take (xs.length * s))[p]? = some u := by
          rw [List.getElem?_take, if_pos hp]; simpa using hu
        rw [List.getElem?_eq_getElem (by rw [hl]; exact hp)] at h9
        exact Option.some.inj h9
      rw [this]; exact ho
    · injection e with e
      injection e with e
      subst e
      rw [cell_of_row w g j cur _ fr h5]
      rw [List.getElem?_take] at hv
      split at hv
      · simpa using hv
      · cases hv

/-- A row that the machine's law speaks of, held. -/
theorem Held.of_own {S : Pin} {m : Nm} {w : World} {k e s base : Nat} (he : e < 1000000) {v : Value} {n : Nat} {zs : List (List AV)} {vals : List Value} (hm : m k = some (.iface 0 v)) (ho : w.ownsRow base e s v n vals) (hn : n = zs.length) (hz : ∀ z ∈ zs, z.length = s)
    (hc : CVl S zs.flatten noNm vals) (h1 : ∀ v ∈ vals, v.oneCell' = true) (hS : ∀ g, v.ownBlock = some g → ∀ o, S g o = none) : Held S m w k (.row e s zs) := by
  subst hn
  obtain ⟨hl, h⟩ := ho
  rcases h with ⟨rfl, h0⟩ | ⟨g, c, cur, rfl, _, h2, h3, h4, h5, h6⟩
  · exact ⟨none, 0, by rw [hm, h0], by omega, by unfold maxLen; omega, .inl ⟨rfl, rfl⟩⟩
  · exact ⟨some ⟨g, 0, none⟩, c, hm, h3, h4, .inr ⟨g, cur, (0, 0), rfl, by rw [rowTy_lt he]; exact h2, .none, h5, hS g rfl, by rw [rowNm_lo (by omega)]; exact row_of_flat hz hc h1 h6⟩⟩
theorem flat_sub {α : Type} {s : Nat} : ∀ (l : List (List α)) (p q : Nat), (∀ z ∈ l, z.length = s) → ((l.drop p).take q).flatten = (l.flatten.drop (p * s)).take (q * s)
  | [], p, q, _ => by simp
  | z :: l, 0, 0, _ => by simp
  | z :: l, 0, q + 1, hl => by
    have hz := hl z List.mem_cons_self
    have := flat_sub l 0 q (fun y hy => hl y (List.mem_cons_of_mem _ hy))
    simp only [List.drop_zero, Nat.zero_mul] at this ⊢
    rw [List.take_succ_cons, List.flatten_cons, List.flatten_cons, this, List.take_append, hz, Nat.succ_mul, show q * s + s - s = q * s by omega]
    rw [List.take_of_length_le (l := z) (by rw [hz]; omega)]
  | z :: l, p + 1, q, hl => by
    have hz := hl z List.mem_cons_self
    have := flat_sub l p q (fun y hy => hl y (List.mem_cons_of_mem _ hy))
    rw [List.drop_succ_cons, this, List.flatten_cons, List.drop_append, hz, Nat.succ_mul, show p * s + s - s = p * s by omega]
    rw [@List.drop_eq_nil_of_le _ z _ (by rw [hz]; omega), List.nil_append]
/-- What is appended. -/
def srcK (h : Nat → Option Blk) (s : Nat) : AV → (List (List AV) → List Nat → Prop) → Prop
  | .nils, k => k [] []
  | .rw j s' n, k => (match h j with | some (.row e2 s2 xs) => cond (Nat.beq s s' && Nat.beq s s2 && Nat.blt e2 2000000) (chk (n = xs.length) (k xs [j])) False | _ => False)
  | .mw j s' q eo n _, k => (match h j with | some (.row e2 s2 xs) => cond (Nat.beq s s' && Nat.beq s s2 && Nat.blt e2 2000000) (chk (q = xs.length ∧ eo + n ≤ xs.length) (k ((xs.drop eo).take n) [j])) False | _ => False)
  | x, k => viewS x fun s' _ ys => cond (Nat.beq s s') (k ys []) False
/-- What a source is, in the machine. -/
def Src (S : Pin) (m0 : Nm) (w : World) (s : Nat) (ys : List (List AV)) (v : Value) : Prop :=
  ∃ A c, v = .slice A ys.length c ∧ ys.length ≤ c ∧ (∀ z ∈ ys, z.length = s) ∧ ∃ news : List Value, news.length = ys.length * s ∧ CVl S ys.flatten m0 news ∧ (∀ u ∈ news, u.oneCell' = true) ∧
    ((A = none ∧ c = 0) ∨ ∃ a, A = some a ∧ ∀ (j : Nat) (u : Value), news[j]? = some u → w.cell? (a.add j) = some u)
theorem srcK_sound {h : Nat → Option Blk} {s : Nat} {x : AV} {k : List (List AV) → List Nat → Prop} (H : srcK h s x k) : ∃ ys rd, k ys rd ∧ ∀ (G : Gh) (kp : List Nat) (st : St) (a : Act) (w : World) (S : Pin) (m : Nm) (v : Value), Rel G kp st a w S m → (∀ j ∈ rd, lk st.heap j = h j) → CV S x m v → Src S noNm w s ys v := by
  have view : ∀ {x : AV}, viewS x (fun s' _ ys => cond (Nat.beq s s') (k ys []) False) → ∃ ys rd, k ys rd ∧ ∀ (G : Gh) (kp : List Nat) (st : St) (a : Act) (w : World) (S : Pin) (m : Nm) (v : Value), Rel G kp st a w S m → (∀ j ∈ rd, lk st.heap j = h j) → CV S x m v → Src S noNm w s ys v := by
    intro x H
    obtain ⟨s', f, ys, H, hx⟩ := viewS_sound H
    obtain ⟨hs, H1⟩ := cond_F H
    have hs := Nat.eq_of_beq_eq_true hs
    subst hs
    refine ⟨ys, [], H1, fun G kp st a w S m v hR _ hv => ?_⟩
    obtain ⟨A, c, rfl, h1, h2, h3, h4, h5⟩ := hx S m v hv
    cases A with
    | none =>
      have hc := h4 rfl
      have hy : ys = [] := List.eq_nil_of_length_eq_zero (by omega)
      subst hy
      exact ⟨none, c, rfl, by simp, by simp, [], by simp, by simp only [List.flatten_nil, CVl], by simp, .inl ⟨rfl, hc⟩⟩
    | some ad =>
      obtain ⟨p1, p2⟩ := h5 ad rfl
      obtain ⟨q1, news, q2, q3, q4⟩ := p2.vals
      refine ⟨some ad, c, rfl, h1, q1, news, q2, q3, fun u hu => ?_, .inr ⟨ad, rfl, fun j u hj => ?_⟩⟩
      · obtain ⟨j, hj, rfl⟩ := List.getElem_of_mem hu
        exact (hR.agree _ _ _ (q4 j _ (List.getElem?_eq_getElem hj))).2
      · have p1 := p1 (by
          intro hc0
          have hy : ys.length = 0 := by omega
          have := (List.getElem?_eq_some_iff.1 hj).1
          rw [q2, hy] at this
          omega)
        obtain ⟨b, o, sp⟩ := ad
        simp only at p1
        subst p1
        rw [add_none]
        exact (hR.agree _ _ _ (q4 j u hj)).1
  unfold srcK at H
  split at H
  · refine ⟨[], [], H, fun G kp st a w S m v hR _ hv => ?_⟩
    simp only [CV] at hv
    subst hv
    exact ⟨none, 0, rfl, by simp, by simp, [], by simp, by simp only [List.flatten_nil, CVl], by simp, .inl ⟨rfl, rfl⟩⟩
  · rename_i j s' n
    split at H
    · rename_i e s2 xs hj
      obtain ⟨hs, H0⟩ := cond_F H
      simp only [Bool.and_eq_true] at hs
      have hs1 := Nat.eq_of_beq_eq_true hs.1.1
      have hs2 := Nat.eq_of_beq_eq_true hs.1.2
      have hs3 : e < 2000000 := Nat.le_of_ble_eq_true hs.2
      subst hs1; subst hs2
      obtain ⟨hn, H1⟩ := chk_iff.1 H0
      refine ⟨xs, [j], H1, fun G kp st a w S m v hR hrd hv => ?_⟩
      obtain ⟨A, c, h1, h2, h3, h4, h5, vals, h6, h7, h8, h9, h10⟩ := (hR.held j _ ((hrd j (by simp)).trans hj)).vals
      rw [rowNm_lo hs3] at h7
      simp only [CV] at hv
      obtain ⟨_, A1, q, c1, p1, p2, p3⟩ := hv
      rw [h1] at p1
      injection p1 with p1
      injection p1 with _ p1
      injection p1 with e1 e2 e3
      subst e1; subst e3
      have hv := p3 (by omega)
      subst hv
      refine ⟨A, c, by rw [← e2], h2, h4, vals, h6, h7, h8, ?_⟩
      rcases h5 with ⟨rfl, rfl⟩ | ⟨g, cur, fr, rfl, _⟩
      · exact .inl ⟨rfl, rfl⟩
      · exact .inr ⟨_, rfl, fun i u hi => by rw [add_none, Nat.zero_add]; exact h10 g rfl i u hi⟩
    · exact H.elim
  · rename_i j s' q eo n f
    split at H
    · rename_i e s2 xs hj
      obtain ⟨hs, H0⟩ := cond_F H
      simp only [Bool.and_eq_true] at hs
      have hs1 := Nat.eq_of_beq_eq_true hs.1.1
      have hs2 := Nat.eq_of_beq_eq_true hs.1.2
      have hs3 : e < 2000000 := Nat.le_of_ble_eq_true hs.2
      subst hs1; subst hs2
      obtain ⟨⟨hq, hn⟩, H1⟩ := chk_iff.1 H0
      have hlen : ((xs.drop eo).take n).length = n := by simp; omega
      refine ⟨_, [j], H1, fun G kp st a w S m v hR hrd hv => ?_⟩
      obtain ⟨A, c, h1, h2, h3, h4, h5, vals, h6, h7, h8, h9, h10⟩ := (hR.held j _ ((hrd j (by simp)).trans hj)).vals
      rw [rowNm_lo hs3] at h7
      simp only [CV] at hv
      obtain ⟨A2, c2, rfl, p1, p2, p3, p4, p5, A1, q1, c1, p6, p7, p8⟩ := hv
      rw [h1] at p6
      injection p6 with p6
      injection p6 with _ p6
      injection p6 with e1 e2 e3
      subst e1; subst e3
      have hz' : ∀ z ∈ (xs.drop eo).take n, z.length = s := fun z hz => h4 z (List.mem_of_mem_drop (List.mem_of_mem_take hz))
      by_cases hc2 : c2 = 0
      · have hn0 : n = 0 := by omega
        subst hn0
        refine ⟨A2, c2, by rw [hlen], by rw [hlen]; exact p1, hz', [], by simp, by simp only [List.take_zero, List.flatten_nil, CVl], by simp, ?_⟩
        cases A2 with
        | none => exact .inl ⟨rfl, hc2⟩
        | some ad => exact .inr ⟨ad, rfl, by simp⟩
      · obtain ⟨g, e4, e5⟩ := p8 (by omega) hc2
        subst e4; subst e5
        have hfl : ((xs.drop eo).take n).flatten = (xs.flatten.drop (eo * s)).take (n * s) := by
          exact flat_sub xs eo n h4
        have hpn : eo * s + n * s ≤ xs.length * s := by rw [← Nat.add_mul]; exact Nat.mul_le_mul_right s hn
        refine ⟨_, c2, by rw [hlen], by rw [hlen]; exact p1, hz', (vals.drop (eo * s)).take (n * s), by rw [hlen]; simp; omega, by rw [hfl]; exact (h7.drop _).take _, fun u hu => h8 u (List.mem_of_mem_drop (List.mem_of_mem_take hu)), .inr ⟨_, rfl, fun i u hi => ?_⟩⟩
        rw [add_none]
        rw [List.getElem?_take] at hi
        split at hi
        · rw [List.getElem?_drop] at hi
          exact h10 g rfl _ u hi
        · cases hi
    · exact H.elim
  · exact view H

/-- A row in which names may stand. -/
def srcO (h : Nat → Option Blk) (s : Nat) : AV → (List (List AV) → List Nat → Prop) → Prop
  | .rw j s' n, k => (match h j with | some (.row _ s2 xs) => cond (Nat.beq s s' && Nat.beq s s2 && Nat.blt 0 xs.length) (chk (n = xs.length) (k xs [j])) False | _ => False)
  | _, _ => False
theorem srcO_sound {h : Nat → Option Blk} {s : Nat} {x : AV} {k : List (List AV) → List Nat → Prop} (H : srcO h s x k) : ∃ ys rd, k ys rd ∧ 0 < ys.length ∧ ∀ (G : Gh) (kp : List Nat) (st : St) (a : Act) (w : World) (S : Pin) (m : Nm) (v : Value), Rel G kp st a w S m → (∀ j ∈ rd, lk st.heap j = h j) → CV S x m v → Src S m w s ys v := by
  unfold srcO at H
  split at H
  · rename_i j s' n
    split at H
    · rename_i e s2 xs hj
      obtain ⟨hs, H0⟩ := cond_F H
      simp only [Bool.and_eq_true] at hs
      have hs1 := Nat.eq_of_beq_eq_true hs.1.1
      have hs2 := Nat.eq_of_beq_eq_true hs.1.2
      have hs3 : 0 < xs.length := Nat.le_of_ble_eq_true hs.2
      subst hs1; subst hs2
      obtain ⟨hn, H1⟩ := chk_iff.1 H0
      refine ⟨xs, [j], H1, hs3, fun G kp st a w S m v hR hrd hv => ?_⟩
      obtain ⟨A, c, h1, h2, h3, h4, h5, vals, h6, h7, h8, h9, h10⟩ := (hR.held j _ ((hrd j (by simp)).trans hj)).vals
      have h7 := h7.ext (Ext.refl S) (rowNm_le e m)
      simp only [CV] at hv
      obtain ⟨_, A1, q, c1, p1, p2, p3⟩ := hv
      rw [h1] at p1
      injection p1 with p1
      injection p1 with _ p1
      injection p1 with e1 e2 e3
      subst e1; subst e3
      have hv := p3 (by omega)
      subst hv
      refine ⟨A, c, by rw [← e2], h2, h4, vals, h6, h7, h8, ?_⟩
      rcases h5 with ⟨rfl, rfl⟩ | ⟨g, cur, fr, rfl, _⟩
      · exact .inl ⟨rfl, rfl⟩
      · exact .inr ⟨_, rfl, fun i u hi => by rw [add_none, Nat.zero_add]; exact h10 g rfl i u hi⟩
    · exact H.elim
  · exact H.elim
def opnB (h : Nat → Option Blk) : AV → Bool
  | .rw j _ _ => (match h j with | some (.row e _ _) => Nat.ble 2000000 e | _ => false)
  | _ => false
/-! Lists and numbers in full, where names may stand. -/
def forceNk (n : Nat) (k : Nat → Prop) : Prop := match n with | 0 => k 0 | m + 1 => k (Nat.succ m)
theorem forceNk_eq (n : Nat) (k : Nat → Prop) : forceNk n k = k n := by cases n <;> rfl
def forceAL : List AV → (List AV → Prop) → Prop
  | [], k => k []
  | x :: l, k => forceA x fun x => forceAL l fun l => k (x :: l)
theorem forceAL_eq : ∀ (l : List AV) (k : List AV → Prop), forceAL l k = k l
  | [], k => rfl
  | x :: l, k => by simp only [forceAL, forceA_eq]; exact forceAL_eq l _
def forceLL : List (List AV) → (List (List AV) → Prop) → Prop
  | [], k => k []
  | x :: l, k => forceAL x fun x => forceLL l fun l => k (x :: l)
theorem forceLL_eq : ∀ (l : List (List AV)) (k : List (List AV) → Prop), forceLL l k = k l
  | [], k => rfl
  | x :: l, k => by simp only [forceLL, forceAL_eq]; exact forceLL_eq l _
def fcL (o : Bool) (l : List (List AV)) (k : List (List AV) → Prop) : Prop := cond o (forceLL l k) (k l)
theorem fcL_eq (o : Bool) (l : List (List AV)) (k : List (List AV) → Prop) : fcL o l k = k l := by cases o <;> simp only [fcL, cond_true, cond_false, forceLL_eq]
def fcN (o : Bool) (n : Nat) (k : Nat → Prop) : Prop := cond o (forceNk n k) (k n)
theorem fcN_eq (o : Bool) (n : Nat) (k : Nat → Prop) : fcN o n k = k n := by cases o <;> simp only [fcN, cond_true, cond_false, forceNk_eq]
/-- The type of the row that comes of an append. -/
def tyO (o : Bool) (e : Nat) : Nat := cond o (Nat.add e 2000000) e
def srcG (o : Bool) (h : Nat → Option Blk) (s : Nat) (y : AV) (k : List (List AV) → List Nat → Prop) : Prop := cond o (srcO h s y k) (srcK h s y k)
theorem srcG_sound {o : Bool} {e : Nat} (he : e < 1000000) {h : Nat → Option Blk} {s : Nat} {x : AV} {k : List (List AV) → List Nat → Prop} (H : srcG o h s x k) : ∃ ys rd, k ys rd ∧ (o = true → 0 < ys.length) ∧ ∀ (G : Gh) (kp : List Nat) (st : St) (a : Act) (w : World) (S : Pin) (m : Nm) (v : Value), Rel G kp st a w S m → (∀ j ∈ rd, lk st.heap j = h j) → CV S x m v → Src S (rowNm (tyO o e) m) w s ys v := by
  unfold srcG at H
  cases o with
  | true =>
    obtain ⟨ys, rd, h1, h2, h3⟩ := srcO_sound H
    refine ⟨ys, rd, h1, fun _ => h2, fun G kp st a w S m v hR hrd hv => ?_⟩
    rw [rowNm_hi (by show ¬ e + 2000000 < 2000000; omega)]
    exact h3 G kp st a w S m v hR hrd hv
  | false =>
    obtain ⟨ys, rd, h1, h3⟩ := srcK_sound H
    refine ⟨ys, rd, h1, (fun q => by cases q), fun G kp st a w S m v hR hrd hv => ?_⟩
    rw [rowNm_lo (show tyO false e < 2000000 from Nat.lt_trans he (by decide))]
    exact h3 G kp st a w S m v hR hrd hv
theorem rowTy_tyO {e : Nat} (he : e < 1000000) (o : Bool) : rowTy (tyO o e) = e := by
  cases o with
  | true => exact rowTy_op
  | false => exact rowTy_lt he
theorem RowMk.tyO {e n : Nat} {fr : Nat × Nat} (he : e < 1000000) {o : Bool} (h : RowMk (tyO o e) n fr) : fr = (0, 0) := by
  cases o with
  | true => exact RowMk.op h
  | false => exact h.lt he
theorem rowNm_set {S : Pin} {e k : Nat} {m : Nm} {u : Value} {xs : List AV} {vs : List Value} (h : CVl S xs (rowNm e m) vs) (hn : 2000000 ≤ e → nnl k xs = true) : CVl S xs (rowNm e (m.set k u)) vs := by
  by_cases he : e < 2000000
  · rw [rowNm_lo he] at h ⊢; exact h
  · rw [rowNm_hi he] at h ⊢; exact h.set (hn (by omega))
theorem nnl_app {k : Nat} : ∀ (a b : List AV), nnl k a = true → nnl k b = true → nnl k (a ++ b) = true
  | [], b, _, hb => hb
  | z :: a, b, ha, hb => by
    simp only [nnl, Bool.and_eq_true] at ha
    simp only [List.cons_append, nnl, Bool.and_eq_true]
    exact ⟨ha.1, nnl_app a b ha.2 hb⟩
theorem nnll_flat {k : Nat} : ∀ {xs : List (List AV)}, nnll k xs = true → nnl k xs.flatten = true
  | [], _ => rfl
  | x :: l, h => by
    simp only [nnll, Bool.and_eq_true] at h
    rw [List.flatten_cons]
    exact nnl_app _ _ h.1 (nnll_flat h.2)
theorem grow_le {m : Nm} {k : Nat} {A A' : Option Addr} {n n' c c' : Nat} (hm : m k = some (.iface 0 (.slice A n c))) (hlt : n < n') : MLe m (m.set k (.iface 0 (.slice A' n' c'))) := by
  intro j u hj
  by_cases e : j = k
  · subst e
    rw [hm] at hj
    injection hj with hj
    subst hj
    exact ⟨_, Nm.set_same _ _ _, .inr ⟨_, _, _, _, _, _, hlt, .inr ⟨rfl, rfl⟩⟩⟩
  · exact ⟨u, by rw [Nm.set_ne m _ e]; exact hj, .refl u⟩
theorem Rel.congr' {G : Gh} {kp : List Nat} {st st' : St} {a : Act} {w : World} {S : Pin} {m : Nm} (h : Rel G kp st a w S m) (h1 : ∀ t, st'.get t = st.get t) (h2 : ∀ k, lk st'.heap k = lk st.heap k) : Rel G kp st' a w S m :=
  h.weaken (fun t v hv => by rw [h1]; exact hv) (fun k b hk => by rw [h2] at hk; exact ⟨⟨b, hk⟩, h.held k b hk⟩)
theorem run_append_zero {P : Program} {w : World} {t ty e : TypeId} {i : TypeInfo} (ht : P.underlying t = some (.slice e)) (hi : P.info? e = some i) (A : Option Addr) (n c : Nat) (hn : n ≤ c) (B : Option Addr) (d : Nat) :
    (Builtin.append_ #[t, t] ty #[.slice A n c, .slice B 0 d]).run P w = .ok (.slice A n c) w := by
  have hf : (Builtin.firstCells i.size 0 (.slice B 0 d)).run P w = .ok #[] w := by
    cases B with
    | none => simp [Builtin.firstCells]
    | some b => simp [Builtin.firstCells, loadCells, loadCellsFrom]
  cases A with
  | none => simp [Builtin.append_, run_underlying ht, sizeOf, typeInfo, hi, Builtin.lenOf, hn, hf]
  | some a => simp [Builtin.append_, run_underlying ht, sizeOf, typeInfo, hi, Builtin.lenOf, hn, hf, storeCells]
/-- An append of something to a row: in place, or to a new block. -/
theorem row_append {P : Program} {w : World} {t ty e : TypeId} {i : TypeInfo} {z : Value} (ht : P.underlying t = some (.slice e)) (hi : P.info? e = some i) (hz : i.zero = some z) (hzs : z.cells.size = i.size)
    {A : Option Addr} {n c : Nat} {vals : List Value} (hn : n ≤ c) (hl : vals.length = n * i.size)
    (hA : (A = none ∧ c = 0) ∨ ∃ g cur, A = some ⟨g, 0, none⟩ ∧ w.heap[g]? = some (.cells cur e (0, 0)) ∧ cur.size = c * i.size ∧ cur.toList.take (n * i.size) = vals)
    {a : Addr} {m d : Nat} {news : List Value} (hm : news.length = m * i.size) (hnews : ∀ j u, news[j]? = some u → w.cell? (a.add j) = some u) (h1 : ∀ u ∈ news, u.oneCell' = true) (h0 : 0 < m) (h63 : n + m ≤ maxLen) (hb : (n + m) * i.bytes ≤ 140737488355328) :
    ∃ A' c' w' cur', (Builtin.append_ #[t, t] ty #[.slice A n c, .slice (some a) m d]).run P w = .ok (.slice A' (n + m) c') w' ∧ n + m ≤ c' ∧ c' ≤ max c maxLen ∧ cur'.size = c' * i.size ∧ cur'.toList.take ((n + m) * i.size) = vals ++ news ∧
      ((∃ g, A = some ⟨g, 0, none⟩ ∧ A' = A ∧ c' = c ∧ w' = w.setRow g cur') ∨ (A' = some ⟨w.heap.size, 0, none⟩ ∧ w' = w.drew.alloc (.cells cur' e))) := by
  have h63' : n + m ≤ 9223372036854775807 := by unfold maxLen at h63; omega
  have tk : ∀ (old : Nat), old < n + m → ∀ (us : Array Value), us.toList = vals ++ news → (us ++ Builtin.zeroCells z.cells (grownCap w (n + m) old e - (n + m))).size = grownCap w (n + m) old e * i.size ∧ (us ++ Builtin.zeroCells z.cells (grownCap w (n + m) old e - (n + m))).toList.take ((n + m) * i.size) = vals ++ news := by
    intro old ho us hus
    have hge := grownCap_ge w (n + m) old e
    have hul : us.size = (n + m) * i.size := by have : us.toList.length = us.size := rfl; rw [← this, hus, List.length_append, hl, hm, Nat.add_mul]
    refine ⟨?_, ?_⟩
    · rw [Array.size_append, hul, size_zeroCells, hzs, ← Nat.add_mul]
      congr 1; omega
    · rw [Array.toList_append, List.take_append_of_le_length (by simp; omega), List.take_of_length_le (by simp; omega), hus]
  rcases hA with ⟨rfl, rfl⟩ | ⟨g, cur, rfl, h2, h3, h4⟩
  · have hn0 : n = 0 := by omega
    subst hn0
    have hv : vals = [] := List.eq_nil_of_length_eq_zero (by simpa using hl)
    subst hv
    have hr := run_append_nil (P := P) w t ty e i z ht hi hz a m d news hm hnews h0 (by omega) (by simp at hb; omega)
    obtain ⟨q1, q2⟩ := tk 0 (by omega) news.toArray (by simp)
    simp only [Nat.zero_add] at q1 q2 ⊢
    exact ⟨_, _, _, _, hr, grownCap_ge w m 0 e, Nat.le_trans (grownCap_le_maxLen w m 0 e (by omega)) (Nat.le_max_right _ _), q1, q2, .inr ⟨rfl, rfl⟩⟩
  · by_cases hroom : n + m ≤ c
    · have hfit : n * i.size + news.length ≤ cur.size := by rw [hm, h3, ← Nat.add_mul]; exact Nat.mul_le_mul_right _ hroom
      have hr := run_append_room (P := P) w t ty e i ht hi g n c cur h2 a m d news hm hnews h1 hroom hfit
      refine ⟨_, _, _, _, hr, hroom, Nat.le_max_left _ _, ?_, ?_, .inl ⟨g, rfl, rfl, rfl, rfl⟩⟩
      · have := Array.length_toList (xs := cur)
        simp; omega
      · have hlen : (cur.toList.take (n * i.size) ++ news).length = (n + m) * i.size := by
          rw [h4, List.length_append, hl, hm, Nat.add_mul]
        show ((cur.toList.take (n * i.size) ++ news) ++ cur.toList.drop (n * i.size + news.length)).take ((n + m) * i.size) = _
        rw [List.take_append_of_le_length (by omega), List.take_of_length_le (by omega), h4]
    · have hr := run_append_grow (P := P) w t ty e i z ht hi hz ⟨g, 0, none⟩ n c vals hl (fun j u hj => by
        rw [add_none, Nat.zero_add, cell_of_row w g j cur e (0, 0) h2]
        rw [← h4, List.getElem?_take] at hj
        split at hj
        · simpa using hj
        · cases hj) a m d news hm hnews (by omega) (by omega) (growslice_fits (by omega) hb)
      obtain ⟨q1, q2⟩ := tk c (by omega) (vals.toArray ++ news.toArray) (by simp)
      exact ⟨_, _, _, _, hr, grownCap_ge w _ _ _, Nat.le_trans (grownCap_le_maxLen w _ _ _ h63) (Nat.le_max_right _ _), q1, q2, .inr ⟨rfl, rfl⟩⟩

/-- A row has grown: in its block, or in a new one. -/
theorem Rel.regrow {G : Gh} {kp : List Nat} {st : St} {a : Act} {w : World} {S : Pin} {m : Nm} (h : Rel G kp st a w S m) {k : Nat} {b b' : Blk} (hk : lk st.heap k = some b) {A A' : Option Addr} {n n' c c' : Nat} (hm : m k = some (.iface 0 (.slice A n c))) (hlt : n < n') {w' : World}
    (hos : w'.os = w.os) (htp : w'.tape = w.tape) (hou : w'.output = w.output) (hsz : w.heap.size ≤ w'.heap.size) (hb : ∀ i, i < w.heap.size → bk (.iface 0 (.slice A n c)) ≠ some i → w'.heap[i]? = w.heap[i]?)
    (hn : ∀ g, bk (.iface 0 (.slice A n c)) = some g → ∀ o, S g o = none) (hA : A' = A ∨ A' = some ⟨w.heap.size, 0, none⟩) (hh : Held S (m.set k (.iface 0 (.slice A' n' c'))) w' k b') : Rel G kp (st.blk k b') a w' S (m.set k (.iface 0 (.slice A' n' c'))) := by
  have hle : MLe m (m.set k (.iface 0 (.slice A' n' c'))) := by
    intro j u hj
    by_cases e : j = k
    · subst e
      rw [hm] at hj
      injection hj with hj
      subst hj
      exact ⟨_, Nm.set_same _ _ _, .inr ⟨_, _, _, _, _, _, hlt, .inr ⟨rfl, rfl⟩⟩⟩
    · exact ⟨u, by rw [Nm.set_ne m _ e]; exact hj, .refl u⟩
  have hbk : ∀ g, bk (.iface 0 (.slice A' n' c')) = some g → bk (.iface 0 (.slice A n c)) = some g ∨ g = w.heap.size := by
    intro g hg
    rcases hA with rfl | rfl
    · left
      cases A' with
      | none => simp [bk] at hg
      | some ad => simpa [bk] using hg
    · right; simp [bk] at hg; exact hg.symm
  have hlk : ∀ j, (∃ c, lk (st.blk k b').heap j = some c) → ∃ c, lk st.heap j = some c := by
    rintro j ⟨c, hj⟩
    simp only [St.blk, lk_ins] at hj
    by_cases e : j = k
    · subst e; exact ⟨b, hk⟩
    · rw [if_neg e] at hj; exact ⟨c, hj⟩
  have hold : ∀ j, j ≠ k → (m.set k (.iface 0 (.slice A' n' c'))) j = m j := fun j e => Nm.set_ne m _ e
  refine { h with defers := h.defers, agree := ?_, tmps := fun t => (h.tmps t).ext (Ext.refl S) hle, held := ?_, inj := ?_, own := ?_, os := hos.trans h.os, tape := htp.trans h.tape, output := hou.trans h.output, size := Nat.le_trans h.size hsz, frame := ?_, m0 := h.m0.trans hle }
  · intro c o v e
    refine ⟨?_, (h.agree c o v e).2⟩
    have hne : bk (.iface 0 (.slice A n _)) ≠ some c := fun q => by rw [hn c q] at e; cases e
    rw [← (h.agree c o v e).1]
    exact World.cell?_of_block (w := w) (hb c (h.agree.lt e) hne)
  · intro j d hj
    simp only [St.blk, lk_ins] at hj
    by_cases e : j = k
    · subst e
      rw [if_pos rfl] at hj
      injection hj with hj
      subst hj; exact hh
    · rw [if_neg e] at hj
      refine (h.held j d hj).keep (Ext.refl _) (fun _ _ _ hv => hv.ext (Ext.refl S) hle) (hold j e) (fun u q hu hq => ⟨hb q ((h.held j d hj).lt hu hq) ?_, fun _ => rfl⟩)
      intro hq'
      exact h.inj k j b d _ u q hk hj (fun e' => e e'.symm) hm hu hq' hq
  · intro j j' d d' v v' q hj hj' hne hv hv' hq hq'
    obtain ⟨f, hf⟩ := hlk j ⟨d, hj⟩
    obtain ⟨f', hf'⟩ := hlk j' ⟨d', hj'⟩
    by_cases e : j = k
    · subst e
      rw [Nm.set_same] at hv
      injection hv with hv
      subst hv
      rw [hold j' (fun q => hne q.symm)] at hv'
      rcases hbk q hq with h1 | h1
      · exact h.inj j j' f f' _ v' q hf hf' hne hm hv' h1 hq'
      · have := (h.held j' f' hf').lt hv' hq'
        omega
    · rw [hold j e] at hv
      by_cases e' : j' = k
      · subst e'
        rw [Nm.set_same] at hv'
        injection hv' with hv'
        subst hv'
        rcases hbk q hq' with h1 | h1
        · exact h.inj j j' f f' v _ q hf hf' hne hv hm hq h1
        · have := (h.held j f hf).lt hv hq
          omega
      · rw [hold j' e'] at hv'
        exact h.inj j j' f f' v v' q hf hf' hne hv hv' hq hq'
  · intro j d v q hj hv hq
    obtain ⟨f, hf⟩ := hlk j ⟨d, hj⟩
    by_cases e : j = k
    · subst e
      rw [Nm.set_same] at hv
      injection hv with hv
      subst hv
      rcases hbk q hq with h1 | h1
      · exact h.own j f _ q hf hm h1
      · subst h1; exact .inl h.size
    · rw [hold j e] at hv
      exact h.own j f v q hf hv hq
  · intro d h1 h2
    have hne : bk (.iface 0 (.slice A n _)) ≠ some d := fun q => by
      rcases h.own k b _ d hk hm q with h3 | h3
      · omega
      · exact h2 h3
    exact (hb d (Nat.lt_of_lt_of_le h1 h.size) hne).trans (h.frame d h1 h2)
def aapp (P : Program) (kp : List Nat) (st : St) (nm : Nat) (ts : List TypeId) (xs : List AV) (h : Nat → Option Blk) (K : AV → List (Nat × Blk) → List Nat → Prop) : Prop :=
  match ts, xs with
  | [t, t'], [x, y] => (match P.underlying t with
    | some (.slice e) => (match P.info? e with
      | some i => cond (Nat.beq t t' && Nat.blt 0 i.size && Nat.blt e 1000000) (zeroA P e fun zs => cond (Nat.beq zs.length i.size) (srcG (opnB h y) h i.size y fun ys rd => (match x with
        | .nils => cond (fresh kp st nm && !(inL nm rd) && (!(opnB h y) || nnll nm ys)) (chk (ys.length ≤ 9223372036854775807 ∧ ys.length * i.bytes ≤ 140737488355328) (fcN (opnB h y) ys.length fun n => fcN (opnB h y) (tyO (opnB h y) e) fun e2 => K (.rw nm i.size n) [(nm, .row e2 i.size ys)] rd)) False
        | .rw k s n => (match h k with
          | some (.row e' s' xs) => cond ((Nat.beq e e' || (opnB h y && Nat.beq (tyO (opnB h y) e) e')) && Nat.beq i.size s && Nat.beq i.size s') (chk (n = xs.length ∧ xs.length + ys.length ≤ 9223372036854775807 ∧ (xs.length + ys.length) * i.bytes ≤ 140737488355328) (fcL (opnB h y) (xs ++ ys) fun zs => fcN (opnB h y) zs.length fun n => fcN (opnB h y) (tyO (opnB h y) e) fun e2 => K (.rw k i.size n) [(k, .row e2 i.size zs)] (k :: rd))) False
          | _ => False)
        | _ => False)) False) False
      | none => False)
    | _ => False)
  | _, _ => False

theorem CV.rw_mk {S : Pin} {m : Nm} {k s n : Nat} {A : Option Addr} {c : Nat} (hm : m k = some (.iface 0 (.slice A n c))) (h1 : n ≤ c) (h2 : c ≤ maxLen) (hA : (A = none ∧ c = 0) ∨ ∃ g, A = some ⟨g, 0, none⟩) : CV S (.rw k s n) m (.slice A n c) := by
  simp only [CV]
  refine ⟨⟨A, c, rfl, h1, h2, fun e => ?_, fun a e => ?_⟩, A, n, c, hm, Nat.le_refl _, fun _ => rfl⟩
  · rcases hA with h | ⟨g, h⟩
    · exact h.2
    · rw [h] at e; cases e
  · rcases hA with h | ⟨g, h⟩
    · rw [h.1] at e; cases e
    · rw [h] at e; injection e with e; exact ⟨g, e.symm⟩
theorem aapp_sound {P : Program} {E : Env} {kp : List Nat} {st0 : St} {nt nm : Nat} {o : Oper} {c : Call} {ev : Operand → AV} {h : Nat → Option Blk} {K : AV → List (Nat × Blk) → List Nat → Prop} (ho : o.op = .call c) (hc : c.callee = .builtin .append) (hd : dstOk nt o.dst = true)
    (H : aapp P kp st0 nm c.argTypes.toList (c.args.toList.map ev) h K) : ∃ r u rd, K r u rd ∧ (∀ p ∈ u, p.1 ∉ rd → fresh kp st0 p.1 = true) ∧ Good P E nt o ev h r u rd := by
  unfold aapp at H
  split at H
  · rename_i t t' x y hts hxs
    split at H
    · rename_i e ht
      split at H
      · rename_i i hi
        obtain ⟨hb, H1⟩ := cond_F H
        clear H
        simp only [Bool.and_eq_true] at hb
        have ett := Nat.eq_of_beq_eq_true hb.1.1
        subst ett
        have hpos : 0 < i.size := Nat.le_of_ble_eq_true hb.1.2
        have hle : e < 1000000 := Nat.le_of_ble_eq_true hb.2
        obtain ⟨i', z, hi', hz, H2, _⟩ := zeroA_sound H1
        clear H1
        rw [hi] at hi'
        injection hi' with hi'
        subst hi'
        obtain ⟨hzl, H3⟩ := cond_F H2
        clear H2
        have hzs : z.cells.size = i.size := by
          have := Nat.eq_of_beq_eq_true hzl
          have h9 := (ofVs_cv (fun _ _ => none) noNm z.cells.toList).len
          simp only [Array.length_toList] at h9
          omega
        generalize opnB h y = op at H3
        obtain ⟨ys, rd, H4, hopn, hsrc⟩ := srcG_sound hle H3
        clear H3
        -- the operands
        obtain ⟨ox, oy, hargs, hox, hoy⟩ : ∃ ox oy, c.args.toList = [ox, oy] ∧ ev ox = x ∧ ev oy = y := by
          cases hq : c.args.toList with
          | nil => rw [hq] at hxs; simp at hxs
          | cons p l =>
            cases l with
            | nil => rw [hq] at hxs; simp at hxs
            | cons q l =>
              cases l with
              | nil => rw [hq] at hxs; simp at hxs; exact ⟨p, q, rfl, hxs.1, hxs.2⟩
              | cons r l => rw [hq] at hxs; simp at hxs
        have hargsA : c.args = #[ox, oy] := by rw [← Array.toArray_toList (xs := c.args), hargs]
        have htsA : c.argTypes = #[t, t] := by rw [← Array.toArray_toList (xs := c.argTypes), hts]
        have mx : ox ∈ o.op.operands := by rw [ho]; simp [Op.operands, Call.operands, hc, hargsA]
        have my : oy ∈ o.op.operands := by rw [ho]; simp [Op.operands, Call.operands, hc, hargsA]
        have hrun : ∀ (a : Act) (w : World) (r : Value) (w' : World), (Builtin.append_ #[t, t] o.type #[a.eval ox, a.eval oy]).run P w = .ok r w' → (execOp a.eval o).run P w = .ok (.value r) w' := by
          intro a w r w' hr
          simp [execOp, ho, resolve, hc, invoke, builtin, hargsA, htsA, hr]
        split at H4
        · -- to a nil slice
          obtain ⟨hf0, H5⟩ := cond_F H4
          simp only [Bool.and_eq_true, Bool.not_eq_true'] at hf0
          obtain ⟨⟨hf, hnrd⟩, hnnm⟩ := hf0
          have hnnm : 2000000 ≤ tyO op e → nnl nm ys.flatten = true := fun q => by
            cases op with
            | false => exact absurd (Nat.lt_of_lt_of_le hle (Nat.le_trans (by decide) (show 2000000 ≤ e from q))) (Nat.lt_irrefl _)
            | true => exact nnll_flat (by simpa using hnnm)
          obtain ⟨⟨hlen, hby⟩, H6⟩ := chk_iff.1 H5
          simp only [fcN_eq] at H6
          refine ⟨_, _, _, H6, fun p hp _ => by simp at hp; subst hp; exact hf, good_value hd fun G kp st a w S m hG hR he hrd hfr => ?_⟩
          have hx := he ox mx
          have hy := he oy my
          rw [hox] at hx
          rw [hoy] at hy
          simp only [CV] at hx
          have hfr' : fresh kp st nm = true := hfr (nm, .row (tyO op e) i.size ys) (by simp) (inL_mem hnrd)
          obtain ⟨A, d, hv, hyd, hzl2, news, hnl, hnc, hn1, hnA⟩ := hsrc G kp st a w S m _ hR hrd hy
          have hSn : ∀ g, w.heap.size ≤ g → ∀ o, S g o = none := by
            intro g hg o
            cases e : S g o with
            | none => rfl
            | some v => have := hR.agree.lt e; omega
          by_cases hm0 : ys.length = 0
          · have hys : ys = [] := List.eq_nil_of_length_eq_zero hm0
            subst hys
            refine ⟨.slice none 0 0, w, S, m.set nm (.iface 0 (.slice none 0 0)), hrun a w _ _ ?_, ?_, ?_⟩
            · rw [hx, hv]; exact run_append_zero ht hi none 0 0 (Nat.le_refl _) A d
            · refine hR.fresh_ hfr' (Below.refl _ _) (Ext.refl _) (fun _ _ _ => rfl) hR.agree (fun g hg => by simp [bk] at hg) ?_
              exact ⟨none, 0, Nm.set_same _ _ _, Nat.le_refl _, by unfold maxLen; omega, .inl ⟨rfl, rfl⟩⟩
            · exact CV.rw_mk (Nm.set_same _ _ _) (Nat.le_refl _) (by unfold maxLen; omega) (.inl ⟨rfl, rfl⟩)
          · rcases hnA with ⟨rfl, rfl⟩ | ⟨ad, rfl, hcell⟩
            · omega
            · obtain ⟨A', c', w', cur', hr, q1, q2, q3, q4, q5⟩ := row_append (ty := o.type) (w := w) ht hi hz hzs (A := none) (n := 0) (c := 0) (vals := []) (Nat.le_refl _) (by simp) (.inl ⟨rfl, rfl⟩) hnl hcell hn1 (by omega) (by unfold maxLen; omega) (by rw [Nat.zero_add]; exact hby)
              rcases q5 with ⟨g, hg, _⟩ | ⟨rfl, rfl⟩
              · cases hg
              · simp only [Nat.zero_add, List.nil_append] at hr q1 q4
                have hmx : c' ≤ maxLen := by simpa using q2
                refine ⟨_, _, S, m.set nm (.iface 0 (.slice (some ⟨w.heap.size, 0, none⟩) ys.length c')), hrun a w _ _ (by rw [hx, hv]; exact hr), ?_, ?_⟩
                · refine hR.fresh_ hfr' (((Below.refl _ _).drew).alloc (Nat.le_refl _) _) (Ext.refl _) (fun _ _ _ => rfl) ?_ (fun g hg => by simp [bk] at hg; omega) ?_
                  · intro b o v e
                    refine ⟨?_, (hR.agree b o v e).2⟩
                    rw [World.cell?_alloc_lt _ _ _ (by simpa using hR.agree.lt e)]
                    exact (hR.agree b o v e).1
                  · exact ⟨_, c', Nm.set_same _ _ _, q1, hmx, .inr ⟨w.heap.size, cur', (0, 0), rfl, by rw [rowTy_tyO hle]; exact heap_alloc_new w.drew _, .none, q3, hSn _ (Nat.le_refl _), row_of_flat hzl2 (rowNm_set hnc hnnm) hn1 q4⟩⟩
                · exact CV.rw_mk (Nm.set_same _ _ _) q1 hmx (.inr ⟨_, rfl⟩)
        · rename_i k s n
          split at H4
          · rename_i e' s' xs hk
            obtain ⟨hb2, H5⟩ := cond_F H4
            simp only [Bool.and_eq_true] at hb2
            obtain ⟨⟨b1, b2⟩, b3⟩ := hb2
            have b1 : e' = e ∨ (op = true ∧ e' = tyO op e) := by
              simp only [Bool.or_eq_true, Bool.and_eq_true] at b1
              rcases b1 with b1 | b1
              · exact .inl (Nat.eq_of_beq_eq_true b1).symm
              · exact .inr ⟨b1.1, (Nat.eq_of_beq_eq_true b1.2).symm⟩
            have b2 := Nat.eq_of_beq_eq_true b2
            have b3 := Nat.eq_of_beq_eq_true b3
            obtain ⟨⟨hnx, hlen, hby⟩, H6⟩ := chk_iff.1 H5
            simp only [fcN_eq, fcL_eq] at H6
            refine ⟨_, _, _, H6, fun p hp hnot => by simp at hp; subst hp; exact absurd (List.mem_cons_self) hnot, good_value hd fun G kp st a w S m hG hR he hrd hfr => ?_⟩
            have hx := he ox mx
            have hy := he oy my
            rw [hox] at hx
            rw [hoy] at hy
            have hks : lk st.heap k = some (.row e' s' xs) := by rw [hrd k (by simp)]; exact hk
            have hty : rowTy e' = e := by
              rcases b1 with b1 | b1
              · rw [b1]; exact rowTy_lt hle
              · rw [b1.2]; exact rowTy_tyO hle op
            have hfr1 : ∀ {n : Nat} {fr : Nat × Nat}, RowMk e' n fr → fr = (0, 0) := fun rf => by
              rcases b1 with b1 | b1
              · exact RowMk.lt (b1 ▸ rf) hle
              · exact RowMk.tyO hle (b1.2 ▸ rf)
            have hnm : ∀ m : Nm, MLe (rowNm e' m) (rowNm (tyO op e) m) := fun m => by
              rcases b1 with b1 | b1
              · rw [b1, rowNm_lo (Nat.lt_trans hle (by decide))]; exact MLe.no _
              · rw [b1.2]; exact MLe.refl _
            have hheld := hR.held k _ hks
            rw [← b3] at hheld
            obtain ⟨A, c0, h1, h2, h3, h4, h5, vals, h6, h7, h8, h9, h10⟩ := hheld.vals
            have h7 := h7.ext (Ext.refl S) (hnm m)
            simp only [CV] at hx
            obtain ⟨_, A1, q, c1, p1, p2, p3⟩ := hx
            rw [h1] at p1
            injection p1 with p1
            injection p1 with _ p1
            injection p1 with e1 e2 e3
            subst e1; subst e3
            have hxv := p3 (by omega)
            rw [← e2] at hxv
            obtain ⟨B, d, hv, hyd, hzl2, news, hnl, hnc, hn1, hnA⟩ := hsrc G kp st a w S m _ hR (fun j hj => hrd j (List.mem_cons_of_mem _ hj)) hy
            have hz' : ∀ z ∈ xs ++ ys, z.length = i.size := fun z hz => by
              rcases List.mem_append.1 hz with hz | hz
              · exact h4 z hz
              · exact hzl2 z hz
            have hAr : (A = none ∧ c0 = 0) ∨ ∃ g, A = some ⟨g, 0, none⟩ := by
              rcases h5 with h | ⟨g, _, _, h, _⟩
              · exact .inl h
              · exact .inr ⟨g, h⟩
            by_cases hm0 : ys.length = 0
            · have hys : ys = [] := List.eq_nil_of_length_eq_zero hm0
              subst hys
              rw [List.append_nil]
              refine ⟨.slice A xs.length c0, w, S, m, hrun a w _ _ ?_, ?_, ?_⟩
              · rw [hxv, hv]; exact run_append_zero ht hi A xs.length c0 h2 B d
              · refine hR.congr' (fun t => rfl) (fun j => ?_)
                simp only [St.blks, St.blk, lk_ins]
                by_cases e : j = k
                · subst e
                  have hop : op = false := by
                    cases op with
                    | false => rfl
                    | true => exact absurd (hopn rfl) (by simp)
                  rw [if_pos rfl, hks, b3]
                  subst hop
                  rcases b1 with b1 | b1
                  · rw [b1]; rfl
                  · cases b1.1
                · rw [if_neg e]
              · exact CV.rw_mk h1 h2 h3 hAr
            · rcases hnA with ⟨rfl, rfl⟩ | ⟨ad, rfl, hcell⟩
              · omega
              · have hA' : (A = none ∧ c0 = 0) ∨ ∃ g cur, A = some ⟨g, 0, none⟩ ∧ w.heap[g]? = some (.cells cur e (0, 0)) ∧ cur.size = c0 * i.size ∧ cur.toList.take (xs.length * i.size) = vals := by
                  rcases h9 with h9 | ⟨g, cur, fr, q1, r2, rf, r5, r6⟩
                  · exact .inl h9
                  · have := hfr1 rf
                    subst this
                    rw [hty] at r2
                    exact .inr ⟨g, cur, q1, r2, r5, r6⟩
                obtain ⟨A', c', w', cur', hr, q1, q2, q3, q4, q5⟩ := row_append (ty := o.type) (w := w) ht hi hz hzs h2 h6 hA' hnl hcell hn1 (by omega) (by unfold maxLen; omega) hby
                have hmx : c' ≤ maxLen := Nat.le_trans q2 (by rw [Nat.max_eq_right h3]; exact Nat.le_refl _)
                have hct : CVl S (xs ++ ys).flatten (rowNm (tyO op e) m) (vals ++ news) := by rw [List.flatten_append]; exact h7.append hnc
                have hon : ∀ v ∈ vals ++ news, v.oneCell' = true := fun v hv => by
                  rcases List.mem_append.1 hv with hv | hv
                  · exact h8 v hv
                  · exact hn1 v hv
                have hq4 : cur'.toList.take ((xs ++ ys).length * i.size) = vals ++ news := by rw [List.length_append]; exact q4
                refine ⟨_, w', S, m.set k (.iface 0 (.slice A' (xs.length + ys.length) c')), hrun a w _ _ (by rw [hxv, hv]; exact hr), ?_, ?_⟩
                · rcases q5 with ⟨g, rfl, rfl, rfl, rfl⟩ | ⟨rfl, rfl⟩
                  · obtain ⟨g2, cur, fr, r1, r2, rf, r3, r4⟩ := h5.resolve_left (fun e => by cases e.1)
                    have hfr0 := hfr1 rf
                    subst hfr0
                    rw [hty] at r2
                    injection r1 with r1
                    injection r1 with r1
                    subst r1
                    refine hR.regrow hks h1 (Nat.lt_add_of_pos_right (Nat.pos_of_ne_zero hm0)) rfl rfl rfl (by simp) (fun j hj hne => setRow_other w g j _ (fun e => hne (by subst e; rfl))) (fun g' hg' o => ?_) (.inl rfl) ⟨_, c', by rw [List.length_append]; exact Nm.set_same _ _ _, by rw [List.length_append]; exact q1, hmx, .inr ⟨g, cur', (0, 0), rfl, by rw [rowTy_tyO hle]; exact setRow_heap w g cur cur' e (0, 0) r2, .none, q3, r4, row_of_flat hz' (hct.ext (Ext.refl S) (rowNm_mono _ (grow_le h1 (Nat.lt_add_of_pos_right (Nat.pos_of_ne_zero hm0))))) hon hq4⟩⟩
                    simp [bk] at hg'
                    subst hg'
                    exact r4 o
                  · refine hR.regrow hks h1 (Nat.lt_add_of_pos_right (Nat.pos_of_ne_zero hm0)) rfl rfl rfl (by simp) (fun j hj hne => Below.heap_alloc w.drew _ j (by simpa using hj)) (fun g' hg' o => ?_) (.inr rfl) ⟨_, c', by rw [List.length_append]; exact Nm.set_same _ _ _, by rw [List.length_append]; exact q1, hmx, .inr ⟨w.heap.size, cur', (0, 0), rfl, by rw [rowTy_tyO hle]; exact heap_alloc_new w.drew _, .none, q3, fun o => ?_, row_of_flat hz' (hct.ext (Ext.refl S) (rowNm_mono _ (grow_le h1 (Nat.lt_add_of_pos_right (Nat.pos_of_ne_zero hm0))))) hon hq4⟩⟩
                    · rcases h5 with ⟨rfl, _⟩ | ⟨g2, cur, fr, rfl, r2, rf, r3, r4⟩
                      · simp [bk] at hg'
                      · simp [bk] at hg'
                        subst hg'
                        exact r4 o
                    · cases e : S w.heap.size o with
                      | none => rfl
                      | some v => have := hR.agree.lt e; omega
                · rw [List.length_append]
                  refine CV.rw_mk (Nm.set_same _ _ _) q1 hmx ?_
                  rcases q5 with ⟨g, h, rfl, _⟩ | ⟨h, _⟩
                  · exact .inr ⟨g, h⟩
                  · exact .inr ⟨_, h⟩
          · exact H4.elim
        · exact H4.elim
      · exact H.elim
    · exact H.elim
  · exact H.elim
/-- copy into a row of the call's own that is at least as long, elements of one cell. -/
def acopy (P : Program) (ts : List TypeId) (xs : List AV) (h : Nat → Option Blk) (K : AV → List (Nat × Blk) → List Nat → Prop) : Prop :=
  match ts, xs with
  | [t, _], [x, y] => (match P.underlying t with
    | some (.slice e) => (match P.info? e with
      | some i => cond (Nat.beq i.size 1 && Nat.blt e 1000000) (srcK h 1 y fun ys rd => (match x with
        | .rw k s n => (match h k with
          | some (.row e' s' xs) => cond (Nat.beq e e' && Nat.beq 1 s && Nat.beq 1 s') (chk (n = xs.length ∧ ys.length ≤ xs.length) (K (.int .i64 ys.length) [(k, .row e 1 (ys ++ xs.drop ys.length))] (k :: rd))) False
          | _ => False)
        | _ => False)) False
      | none => False)
    | _ => False)
  | _, _ => False
theorem flat_drop {α : Type} : ∀ {zs : List (List α)} (n : Nat), (∀ z ∈ zs, z.length = 1) → (zs.drop n).flatten = zs.flatten.drop n
  | _, 0, _ => rfl
  | [], n + 1, _ => by simp
  | z :: zs, n + 1, h => by
    have hz := h z List.mem_cons_self
    match z, hz with
    | [a], _ => simpa using flat_drop n (fun y hy => h y (List.mem_cons_of_mem _ hy))
theorem acopy_sound {P : Program} {E : Env} {kp : List Nat} {st0 : St} {nt : Nat} {o : Oper} {c : Call} {ev : Operand → AV} {h : Nat → Option Blk} {K : AV → List (Nat × Blk) → List Nat → Prop} (ho : o.op = .call c) (hc : c.callee = .builtin .copy) (hd : dstOk nt o.dst = true)
    (H : acopy P c.argTypes.toList (c.args.toList.map ev) h K) : ∃ r u rd, K r u rd ∧ (∀ p ∈ u, p.1 ∉ rd → fresh kp st0 p.1 = true) ∧ Good P E nt o ev h r u rd := by
  unfold acopy at H
  split at H
  · rename_i t t' x y hts hxs
    split at H
    · rename_i e ht
      split at H
      · rename_i i hi
        obtain ⟨hb, H3⟩ := cond_F H
        clear H
        simp only [Bool.and_eq_true] at hb
        have hsz : i.size = 1 := Nat.eq_of_beq_eq_true hb.1
        have hle : e < 1000000 := Nat.le_of_ble_eq_true hb.2
        have hs1 : (P.info? e).map (·.size) = some 1 := by rw [hi]; simp [hsz]
        obtain ⟨ys, rd, H4, hsrc⟩ := srcK_sound H3
        clear H3
        obtain ⟨ox, oy, hargs, hox, hoy⟩ : ∃ ox oy, c.args.toList = [ox, oy] ∧ ev ox = x ∧ ev oy = y := by
          cases hq : c.args.toList with
          | nil => rw [hq] at hxs; simp at hxs
          | cons p l =>
            cases l with
            | nil => rw [hq] at hxs; simp at hxs
            | cons q l =>
              cases l with
              | nil => rw [hq] at hxs; simp at hxs; exact ⟨p, q, rfl, hxs.1, hxs.2⟩
              | cons r l => rw [hq] at hxs; simp at hxs
        have hargsA : c.args = #[ox, oy] := by rw [← Array.toArray_toList (xs := c.args), hargs]
        have htsA : c.argTypes = #[t, t'] := by rw [← Array.toArray_toList (xs := c.argTypes), hts]
        have mx : ox ∈ o.op.operands := by rw [ho]; simp [Op.operands, Call.operands, hc, hargsA]
        have my : oy ∈ o.op.operands := by rw [ho]; simp [Op.operands, Call.operands, hc, hargsA]
        have hrun : ∀ (a : Act) (w : World) (r : Value) (w' : World), (Builtin.copy_ #[t, t'] o.type #[a.eval ox, a.eval oy]).run P w = .ok r w' → (execOp a.eval o).run P w = .ok (.value r) w' := by
          intro a w r w' hr
          simp [execOp, ho, resolve, hc, invoke, builtin, hargsA, htsA, hr]
        split at H4
        · rename_i k s n
          split at H4
          · rename_i e' s' xs hk
            obtain ⟨hb2, H5⟩ := cond_F H4
            simp only [Bool.and_eq_true] at hb2
            obtain ⟨⟨b1, b2⟩, b3⟩ := hb2
            have b1 := Nat.eq_of_beq_eq_true b1
            have b2 := Nat.eq_of_beq_eq_true b2
            have b3 := Nat.eq_of_beq_eq_true b3
            obtain ⟨⟨hnx, hlen⟩, H6⟩ := chk_iff.1 H5
            refine ⟨_, _, _, H6, fun p hp hnot => by simp at hp; subst hp; exact absurd (List.mem_cons_self) hnot, good_value hd fun G kp st a w S m hG hR he hrd hfr => ?_⟩
            have hx := he ox mx
            have hy := he oy my
            rw [hox] at hx
            rw [hoy] at hy
            have hks : lk st.heap k = some (.row e' s' xs) := by rw [hrd k (by simp)]; exact hk
            subst b1
            have hheld := hR.held k _ hks
            rw [← b3] at hheld
            obtain ⟨A, c0, h1, h2, h3, h4, h5, vals, h6, h7, h8, h9, h10⟩ := hheld.vals
            simp only [CV] at hx
            obtain ⟨_, A1, q, c1, p1, p2, p3⟩ := hx
            rw [h1] at p1
            injection p1 with p1
            injection p1 with _ p1
            injection p1 with e1 e2 e3
            subst e1; subst e3
            have hxv := p3 (by omega)
            rw [← e2] at hxv
            obtain ⟨B, d, hv, hyd, hzl2, news, hnl, hnc, hn1, hnA⟩ := hsrc G kp st a w S m _ hR (fun j hj => hrd j (List.mem_cons_of_mem _ hj)) hy
            by_cases hm0 : ys.length = 0
            · have hys : ys = [] := List.eq_nil_of_length_eq_zero hm0
              subst hys
              refine ⟨goInt 0, w, S, m, hrun a w _ _ ?_, ?_, ?_⟩
              · rw [hxv, hv]; exact run_copy_none (P := P) w t t' o.type e A B xs.length c0 0 d ht hs1 (by simp)
              · refine hR.congr' (fun t => rfl) (fun j => ?_)
                simp only [St.blks, St.blk, lk_ins]
                by_cases e : j = k
                · subst e; rw [if_pos rfl, hks, b3]; rfl
                · rw [if_neg e]
              · simp only [CV]; exact ⟨rfl, by decide, by decide⟩
            · rcases hnA with ⟨rfl, rfl⟩ | ⟨ad, rfl, hcell⟩
              · omega
              · have hc0 : c0 ≠ 0 := fun z => hm0 (Nat.le_zero.1 (Nat.le_trans hlen (z ▸ h2)))
                obtain ⟨g, cur, fr, rfl, r2, rf, r3, r4⟩ := h5.resolve_left (fun e => hc0 e.2)
                obtain ⟨g', cur', fr', q1, q2, _, _, q6⟩ := h9.resolve_left (fun e => hc0 e.2)
                injection q1 with q1
                injection q1 with q1
                subst q1
                rw [r2] at q2
                injection q2 with q2
                injection q2 with q2
                subst q2
                have hfr0 := rf.lt hle
                subst hfr0
                rw [rowTy_lt hle] at r2
                rw [Nat.mul_one] at r3 q6 hnl h6
                have hcl : cur.toList.length = c0 := by rw [Array.length_toList]; exact r3
                have hmin : news.length = Nat.min ys.length xs.length := by rw [hnl]; exact (Nat.min_eq_left hlen).symm
                have hr := run_copy_row (P := P) w t t' o.type e g 0 xs.length c0 ad ys.length d cur e news ht hs1 r2 hmin hcell (by omega) hn1
                refine ⟨goInt news.length, _, S, m, hrun a w _ _ (by rw [hxv, hv]; exact hr), ?_, ?_⟩
                · rw [rowNm_lo (Nat.lt_trans hle (by decide))] at h7
                  have hz' : ∀ z ∈ ys ++ xs.drop ys.length, z.length = 1 := fun z hz => by
                    rcases List.mem_append.1 hz with hz | hz
                    · exact hzl2 z hz
                    · exact h4 z (List.mem_of_mem_drop hz)
                  have hct : CVl S (ys ++ xs.drop ys.length).flatten noNm (news ++ vals.drop ys.length) := by
                    rw [List.flatten_append, flat_drop _ h4]
                    exact hnc.append (h7.drop _)
                  have hon : ∀ v ∈ news ++ vals.drop ys.length, v.oneCell' = true := fun v hv => by
                    rcases List.mem_append.1 hv with hv | hv
                    · exact hn1 v hv
                    · exact h8 v (List.mem_of_mem_drop hv)
                  have hlen2 : (ys ++ xs.drop ys.length).length = xs.length := by simp; omega
                  have htk : (cur.toList.take 0 ++ news ++ cur.toList.drop (0 + news.length)).toArray.toList.take ((ys ++ xs.drop ys.length).length * 1) = news ++ vals.drop ys.length := by
                    rw [hlen2, ← q6, hnl]
                    simp only [List.take_zero, List.nil_append, Nat.zero_add, Nat.mul_one]
                    rw [List.take_append, List.take_of_length_le (by omega), List.drop_take, hnl]
                  refine hR.writeR hks h1 hc0 rfl rfl rfl (by simp [World.setRow]) (fun j hne => setRow_other w g j _ hne) r4 ⟨_, c0, by rw [hlen2]; exact h1, by rw [hlen2]; exact h2, h3, .inr ⟨g, _, (0, 0), rfl, by rw [rowTy_lt hle]; exact setRow_heap w g cur _ e (0, 0) r2, .none, ?_, r4, by rw [rowNm_lo (Nat.lt_trans hle (by decide))]; exact row_of_flat hz' hct hon htk⟩⟩
                  simp
                  omega
                · simp only [CV]
                  rw [hnl]
                  refine ⟨rfl, by omega, ?_⟩
                  unfold maxLen at h3
                  omega
          · exact H4.elim
        · exact H4.elim
      · exact H.elim
    · exact H.elim
  · exact H.elim
end Go.Proofs.YthdfkiopppkfcaaDoor
