/- Arguments that are structs of integers, by value, and slices of such structs. -/
import Derived.Test.YtjllgdpnbllnjaaArgs
import Derived.Lib.SmallJoins
import Derived.Deep.Slices
import Derived.Deep.Fields
import Derived.ChangeSame
namespace Go.Proofs.Ytjllgdpnbllnjaa
open Go.Joins Go.ChangeShapes Go.WideShapes Go.RowKit Go.Deep

theorem ints_list (l : List Value) (h : ∀ i, i < l.length → ∃ n, l[i]? = some (.int .i64 n) ∧ (Lit.int .i64 n).wf = true) : ∃ zs : List Int, l = zs.map (Value.int .i64) ∧ ∀ z ∈ zs, (Lit.int .i64 z).wf = true := by
  induction l with
  | nil => exact ⟨[], rfl, by simp⟩
  | cons v l ih =>
    obtain ⟨n, hn, hw⟩ := h 0 (by simp)
    obtain ⟨zs, hl, hz⟩ := ih (fun i hi => by have := h (i + 1) (by simp; omega); simpa using this)
    simp at hn
    subst hn hl
    exact ⟨n :: zs, rfl, by simpa [hw] using hz⟩
/-- All fields are ints. -/
def intFields (P : Program) (fs : Array Field) : Bool := fs.all fun f => match P.underlying f.type with | some (.int .i64) => true | _ => false
theorem intFields_at {P : Program} {fs : Array Field} (h : intFields P fs = true) (i : Nat) (hi : i < fs.size) : P.underlying fs[i].type = some (.int .i64) := by
  have := Array.all_eq_true.1 h i hi
  split at this
  · assumption
  · cases this
section
variable {H : Type} {enc : TypeId × Value → H} {P : Program} {w : World} {base : Nat} {spare : Nat → Bool} {held : Bool}
/-- A struct of int fields by value. -/
theorem agg_ints {r : Reach} {b0 : Nat} {t : TypeId} {fs : Array Field} {v : Value} {d : DataW H} {p : List MemPlace} (hs : P.underlying t = some (.struct fs)) (hone : oneCellFields P fs = true) (hC : P.cellsOf t = fs.size)
    (hint : intFields P fs = true) (hv : Value.okWide P w r b0 t v) (h : DataW.Trod enc P w base spare held t v d p) :
    ∃ zs : List Int, v = .agg (zs.map (Value.int .i64)).toArray ∧ zs.length = fs.size ∧ ∀ z ∈ zs, (Lit.int .i64 z).wf = true := by
  obtain ⟨cs, rfl, hsz⟩ := okWide_struct hs hv
  obtain ⟨fuel, hf⟩ := h
  obtain ⟨xs, n, _, hx, _, hlen, hg⟩ := DataW.trod_struct hs hf
  have hsz' : cs.toList.length = fs.size := by simpa using hsz.trans hC
  obtain ⟨zs, hzs, hw⟩ := ints_list cs.toList (fun i hi => by
    have hi' : i < fs.size := by omega
    have hfi : fs[i]? = some fs[i] := Array.getElem?_eq_getElem hi'
    have hgi := hg i _ hfi
    obtain ⟨o, k⟩ := hone_of hone i _ hfi
    have hu := intFields_at hint i hi'
    rw [o, k] at hgi
    have e1 : (((Value.agg cs).cells.toList).drop i).take 1 = [cs.toList[i]] := by
      show (cs.toList.drop i).take 1 = _
      rw [List.drop_eq_getElem_cons hi]; rfl
    rw [e1] at hgi
    have hxi : xs[i]? = some (xs[i]'(by omega)) := List.getElem?_eq_getElem (by omega)
    rw [hxi] at hgi
    obtain ⟨m, hm, _, hwf⟩ := DataW.trod_int hu hgi
    refine ⟨m, ?_, hwf⟩
    rw [List.getElem?_eq_getElem hi]
    simpa using hm)
  refine ⟨zs, ?_, ?_, hw⟩
  · rw [← hzs]
  · rw [← hsz', hzs]; simp
theorem open_slice_fields {t e : TypeId} {fs : Array Field} {fuel : Nat} {cs : List Value} {x : DataW H × List MemPlace} (ht : P.underlying t = some (.slice e)) (he : P.underlying e = some (.struct fs))
    (hone : oneCellFields P fs = true) (hC : P.cellsOf e = fs.size) (h : DataW.trod enc P w base spare held fuel t cs = some x) :
    (cs = [.slice none 0 0] ∧ x = (.nil, [])) ∨
    ∃ (a : Addr) (len cap m : Nat), cs = [.slice (some a) len cap] ∧ len ≤ cap ∧ cap ≤ maxLen ∧ m = (if spare a.block then cap else len) ∧
      ∀ i, i < m → ∀ (j : Nat) (f : Field), fs[j]? = some f → ∃ (v : Value) (y : DataW H × List MemPlace) (n : Nat), w.cell? (a.add (i * fs.size + j)) = some v ∧ DataW.trod enc P w base spare held n f.type [v] = some y := by
  rcases open_slice ht h with h0 | ⟨a, len, cap, m, n, D, Pl, hcs, hb, hl, hm, hmm, hx, hi⟩
  · exact .inl h0
  · refine .inr ⟨a, len, cap, m, hcs, hl, hm, hmm, fun i him j f hj => ?_⟩
    obtain ⟨cs', hc, ht'⟩ := hi i him
    rw [hC] at hc
    obtain ⟨ys, n', hn', hy, hlen, hyl, hf⟩ := DataW.trod_struct he ht'
    obtain ⟨_, hcl, hat⟩ := World.cells?_some hc
    obtain ⟨ho, hk⟩ := hone_of hone j f hj
    have hjl : j < fs.size := (Array.getElem?_eq_some_iff.1 hj).1
    have hcell := hat j hjl
    have hv : cs'[j]? = some (cs'[j]'(by omega)) := List.getElem?_eq_getElem (by omega)
    have h1 := hf j f hj
    rw [ho, hk] at h1
    have hone' : (cs'.drop j).take 1 = [cs'[j]'(by omega)] := by
      rw [List.drop_eq_getElem_cons (by omega)]
      rfl
    rw [hone'] at h1
    have hys : ys[j]? = some (ys[j]'(by omega)) := List.getElem?_eq_getElem (by omega)
    exact ⟨_, _, n', by rw [← Go.Deep.add_add, hcell, hv], h1.trans hys⟩
end
/-- A slice of structs of n int fields that came in: its cells as one list. -/
def RowsIn (n : Nat) (W : World) (A : Option Addr) (len cap : Nat) (zs : List Int) : Prop :=
  Rd W W.heap.size A (zs.map (Value.int .i64)) ∧ zs.length = len * n ∧ len ≤ cap ∧ cap ≤ 9223372036854775807 ∧ (A = none → cap = 0) ∧ ∀ z ∈ zs, (Lit.int .i64 z).wf = true
section
variable {H : Type} {enc : TypeId × Value → H} {P : Program} {w : World} {spare : Nat → Bool} {held : Bool}
theorem rows_ints {t e : TypeId} {fs : Array Field} {fuel : Nat} {cs : List Value} {x : DataW H × List MemPlace} (ht : P.underlying t = some (.slice e)) (he : P.underlying e = some (.struct fs))
    (hone : oneCellFields P fs = true) (hC : P.cellsOf e = fs.size) (hpos : 0 < fs.size) (hint : intFields P fs = true) (h : DataW.trod enc P w 0 spare held fuel t cs = some x) :
    ∃ A len cap zs, cs = [.slice A len cap] ∧ RowsIn fs.size w A len cap zs := by
  rcases open_slice_fields ht he hone hC h with ⟨rfl, _⟩ | ⟨a, len, cap, m, rfl, hl, hm, hmm, hi⟩
  · exact ⟨none, 0, 0, [], rfl, Rd.nil_, by simp, Nat.le_refl _, by omega, fun _ => rfl, by simp⟩
  · have hlm : len ≤ m := by rw [hmm]; split <;> omega
    have each : ∀ k, k < len * fs.size → ∃ n, w.cell? (a.add k) = some (.int .i64 n) ∧ (Lit.int .i64 n).wf = true := by
      intro k hk
      have hd : k / fs.size < len := (Nat.div_lt_iff_lt_mul hpos).2 hk
      have hr : k % fs.size < fs.size := Nat.mod_lt _ hpos
      have hf : fs[k % fs.size]? = some fs[k % fs.size] := Array.getElem?_eq_getElem hr
      obtain ⟨v, y, n, hc, hy⟩ := hi (k / fs.size) (by omega) (k % fs.size) _ hf
      have hu := intFields_at hint _ hr
      obtain ⟨z, hz, _, hwf⟩ := DataW.trod_int hu hy
      simp at hz
      refine ⟨z, ?_, hwf⟩
      rw [show k = k / fs.size * fs.size + k % fs.size from (Nat.div_add_mod' k fs.size).symm, hc, hz]
    have hall : ∃ zs : List Int, zs.length = len * fs.size ∧ (∀ i, i < zs.length → w.cell? (a.add i) = some (.int .i64 (zs.getD i 0))) ∧ ∀ z ∈ zs, (Lit.int .i64 z).wf = true := by
      generalize len * fs.size = M at each
      induction M with
      | zero => exact ⟨[], rfl, by simp, by simp⟩
      | succ M ih =>
        obtain ⟨zs, h1, h2, h3⟩ := ih (fun k hk => each k (by omega))
        obtain ⟨z, h4, h5⟩ := each M (by omega)
        refine ⟨zs ++ [z], by simp [h1], fun i hi => ?_, ?_⟩
        · rcases Nat.lt_or_ge i zs.length with h6 | h6
          · rw [h2 i h6]; simp [List.getElem?_append, h6]
          · have : i = M := by simp at hi; omega
            subst this
            rw [h4]; simp [h1]
        · intro y hy
          rcases List.mem_append.1 hy with hy | hy
          · exact h3 y hy
          · simp at hy; subst hy; exact h5
    obtain ⟨zs, h1, h2, h3⟩ := hall
    have hrd := rd_of_ints (k := .i64) h2 (Nat.le_refl _)
    rw [List.take_length] at hrd
    exact ⟨some a, len, cap, zs, rfl, hrd, h1, hl, by unfold maxLen at hm; omega, (fun h => by cases h), h3⟩
end
theorem len1 {α : Type} {l : List α} (h : l.length = 1) : ∃ a, l = [a] := by
  match l, h with | [a], _ => exact ⟨a, rfl⟩
theorem len2 {α : Type} {l : List α} (h : l.length = 2) : ∃ a b, l = [a, b] := by
  match l, h with | [a, b], _ => exact ⟨a, b, rfl⟩
theorem len3 {α : Type} {l : List α} (h : l.length = 3) : ∃ a b c, l = [a, b, c] := by
  match l, h with | [a, b, c], _ => exact ⟨a, b, c, rfl⟩
theorem len4 {α : Type} {l : List α} (h : l.length = 4) : ∃ a b c d, l = [a, b, c, d] := by
  match l, h with | [a, b, c, d], _ => exact ⟨a, b, c, d, rfl⟩
theorem len5 {α : Type} {l : List α} (h : l.length = 5) : ∃ a b c d e, l = [a, b, c, d, e] := by
  match l, h with | [a, b, c, d, e], _ => exact ⟨a, b, c, d, e, rfl⟩
theorem len6 {α : Type} {l : List α} (h : l.length = 6) : ∃ a b c d e f, l = [a, b, c, d, e, f] := by
  match l, h with | [a, b, c, d, e, f], _ => exact ⟨a, b, c, d, e, f, rfl⟩
end Go.Proofs.Ytjllgdpnbllnjaa
