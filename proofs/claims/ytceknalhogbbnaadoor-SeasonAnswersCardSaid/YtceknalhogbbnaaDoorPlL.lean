/- Places, plain laws: addresses of one place, their normal place, sameness. -/
import Derived.Test.YtceknalhogbbnaaDoorPlC
namespace Go.Proofs.YtceknalhogbbnaaDoor
open Go
set_option linter.unusedVariables false
set_option linter.unusedSimpArgs false

theorem vld_t {f a b c : Int} (h : Vld f a b c) : vld f a b c = true := decide_eq_true h
/-- Which corner of face f the vertex v is: 0, 1, 2; 3 for none. -/
def pos (f v : Int) : Nat := if crn f 2 = v then 2 else if crn f 1 = v then 1 else if crn f 0 = v then 0 else 3
def sel3 (a b c : Int) (k : Nat) : Int := match k with | 0 => a | 1 => b | 2 => c | _ => 0
theorem wt_pos (f a b c v : Int) : wt f a b c v = sel3 a b c (pos f v) := by
  unfold wt pos
  split
  · rfl
  · split
    · rfl
    · split <;> rfl
def allF (p : Int → Int → Bool) : Bool := fcs.all fun f => fcs.all fun n => p f n
theorem allF_get {p : Int → Int → Bool} (h : allF p = true) {f n : Int} (hf : 0 ≤ f ∧ f < 20) (hn : 0 ≤ n ∧ n < 20) : p f n = true := by
  unfold allF at h
  rw [List.all_eq_true] at h
  have h1 := h f (mem_fcs hf)
  rw [List.all_eq_true] at h1
  exact h1 n (mem_fcs hn)
def vts : List Int := [0, 1, 2, 3, 4, 5, 6, 7, 8, 9, 10, 11]
/-- Corners of a face are three vertices. -/
def okF (f n : Int) : Bool := decide (pos n (crn n 0) = 0) && decide (pos n (crn n 1) = 1) && decide (pos n (crn n 2) = 2) &&
  (vts.all fun v => decide (pos f v ≤ 3) && (decide (pos n v = 3) || decide (v = crn n (pos n v))) &&
    (decide (pos n v ≠ 3) || decide (pos f v = 3) || (decide (pos f (crn n 0) ≠ pos f v) && decide (pos f (crn n 1) ≠ pos f v) && decide (pos f (crn n 2) ≠ pos f v)))) &&
  (decide (pos f (crn n 0) = 3) || (decide (pos f (crn n 0) ≠ pos f (crn n 1)) && decide (pos f (crn n 0) ≠ pos f (crn n 2)))) && (decide (pos f (crn n 1) = 3) || decide (pos f (crn n 1) ≠ pos f (crn n 2))) &&
  decide (pos f (crn n 0) ≤ 3) && decide (pos f (crn n 1) ≤ 3) && decide (pos f (crn n 2) ≤ 3)
theorem okF_all : allF okF = true := by decide +kernel
/-- All of the weights is in three of its parts: the fourth is none. -/
theorem miss {a b c : Int} (ha : 0 ≤ a) (hb : 0 ≤ b) (hc : 0 ≤ c) (hs : a + b + c = 840) {p q r j : Nat} (hp : p ≤ 3) (hq : q ≤ 3) (hr : r ≤ 3) (hj : j ≤ 3)
    (h1 : p = 3 ∨ (p ≠ q ∧ p ≠ r)) (h2 : q = 3 ∨ q ≠ r) (hsum : sel3 a b c p + sel3 a b c q + sel3 a b c r = 840) (j3 : j = 3 ∨ (p ≠ j ∧ q ≠ j ∧ r ≠ j)) : sel3 a b c j = 0 := by
  have e : ∀ {k : Nat}, k ≤ 3 → k = 0 ∨ k = 1 ∨ k = 2 ∨ k = 3 := by intro k hk; omega
  rcases e hp with rfl | rfl | rfl | rfl <;> rcases e hq with rfl | rfl | rfl | rfl <;> rcases e hr with rfl | rfl | rfl | rfl <;> rcases e hj with rfl | rfl | rfl | rfl <;> simp only [sel3] at hsum ⊢ <;> omega
/-- A place's row on another face has the same weights. -/
theorem row_wt {f a b c n : Int} (hv : Vld f a b c) (hn : 0 ≤ n ∧ n < 20) (ho : onV f a b c n = true) {v : Int} (hvv : v ∈ vts) :
    wt n (onW f a b c n 0) (onW f a b c n 1) (onW f a b c n 2) v = wt f a b c v := by
  have hV : Vld n (onW f a b c n 0) (onW f a b c n 1) (onW f a b c n 2) := of_decide_eq_true ho
  have ok := allF_get okF_all hv.face hn
  simp only [okF, Bool.and_eq_true, Bool.or_eq_true, decide_eq_true_eq, List.all_eq_true] at ok
  obtain ⟨⟨⟨⟨⟨⟨⟨⟨o0, o1⟩, o2⟩, oa⟩, ob⟩, oc⟩, l0⟩, l1⟩, l2⟩ := ok
  obtain ⟨⟨m1, m2⟩, m3⟩ := oa v hvv
  have hs := hV.sum
  simp only [onW, wt_pos] at hs
  rw [wt_pos, wt_pos]
  have pk : pos n v = 0 ∨ pos n v = 1 ∨ pos n v = 2 ∨ pos n v = 3 := by unfold pos; (repeat' split) <;> simp
  rcases pk with e | e | e | e
  · rw [e] at m2 ⊢; simp only [sel3, onW]; rw [wt_pos]; rw [← (m2.resolve_left (by decide))]; rfl
  · rw [e] at m2 ⊢; simp only [sel3, onW]; rw [wt_pos]; rw [← (m2.resolve_left (by decide))]; rfl
  · rw [e] at m2 ⊢; simp only [sel3, onW]; rw [wt_pos]; rw [← (m2.resolve_left (by decide))]; rfl
  · rw [e]
    show (0 : Int) = _
    refine (miss hv.wa.1 hv.wb.1 hv.wc.1 hv.sum l0 l1 l2 m1 ?_ ?_ hs ?_).symm
    · exact ob
    · exact oc
    · rcases m3 with (h | h) | h
      · exact absurd e h
      · exact .inl h
      · exact .inr ⟨h.1.1, h.1.2, h.2⟩
/-- Everything about a place but its face lies in its weights. -/
theorem crn_vts {n : Int} (hn : 0 ≤ n ∧ n < 20) : crn n 0 ∈ vts ∧ crn n 1 ∈ vts ∧ crn n 2 ∈ vts := by
  have : (fcs.all fun n => decide (crn n 0 ∈ vts) && decide (crn n 1 ∈ vts) && decide (crn n 2 ∈ vts)) = true := by decide +kernel
  rw [List.all_eq_true] at this
  have := this n (mem_fcs hn)
  simpa [and_assoc] using this
theorem onW_congr {f a b c f' a' b' c' n : Int} (hn : 0 ≤ n ∧ n < 20) (h : ∀ v ∈ vts, wt f a b c v = wt f' a' b' c' v) : onW f a b c n 0 = onW f' a' b' c' n 0 ∧ onW f a b c n 1 = onW f' a' b' c' n 1 ∧ onW f a b c n 2 = onW f' a' b' c' n 2 := by
  obtain ⟨h0, h1, h2⟩ := crn_vts hn
  exact ⟨h _ h0, h _ h1, h _ h2⟩
theorem onV_congr {f a b c f' a' b' c' n : Int} (hn : 0 ≤ n ∧ n < 20) (h : ∀ v ∈ vts, wt f a b c v = wt f' a' b' c' v) : onV f a b c n = onV f' a' b' c' n := by
  obtain ⟨h0, h1, h2⟩ := onW_congr hn h
  unfold onV; rw [h0, h1, h2]
/-- The place itself is one of its rows. -/
theorem own_row {f a b c : Int} (hv : Vld f a b c) : onW f a b c f 0 = a ∧ onW f a b c f 1 = b ∧ onW f a b c f 2 = c ∧ onV f a b c f = true := by
  have ok := allF_get okF_all hv.face hv.face
  simp only [okF, Bool.and_eq_true, Bool.or_eq_true, decide_eq_true_eq, List.all_eq_true] at ok
  obtain ⟨⟨⟨⟨⟨⟨⟨⟨o0, o1⟩, o2⟩, _⟩, _⟩, _⟩, _⟩, _⟩, _⟩ := ok
  have e0 : onW f a b c f 0 = a := by simp only [onW, wt_pos, o0, sel3]
  have e1 : onW f a b c f 1 = b := by simp only [onW, wt_pos, o1, sel3]
  have e2 : onW f a b c f 2 = c := by simp only [onW, wt_pos, o2, sel3]
  refine ⟨e0, e1, e2, ?_⟩
  unfold onV; rw [e0, e1, e2]; exact decide_eq_true hv
theorem nrmL_congr {f a b c f' a' b' c' : Int} (h : ∀ v ∈ vts, wt f a b c v = wt f' a' b' c' v) : ∀ (l : List Int), (∀ n ∈ l, 0 ≤ n ∧ n < 20) → (∃ n ∈ l, onV f a b c n = true) → nrmL f a b c l = nrmL f' a' b' c' l
  | [], _, he => by obtain ⟨n, hn, _⟩ := he; cases hn
  | n :: l, hl, he => by
    have hn := hl n (List.mem_cons_self ..)
    obtain ⟨h0, h1, h2⟩ := onW_congr hn h
    have hv := onV_congr hn h
    simp only [nrmL]
    rw [← hv, ← h0, ← h1, ← h2]
    by_cases ho : onV f a b c n = true
    · rw [if_pos ho, if_pos ho]
    · rw [if_neg ho, if_neg ho]
      refine nrmL_congr h l (fun m hm => hl m (List.mem_cons_of_mem _ hm)) ?_
      obtain ⟨m, hm, hmo⟩ := he
      rcases List.mem_cons.1 hm with rfl | hm
      · exact absurd hmo ho
      · exact ⟨m, hm, hmo⟩
theorem fcs_rng {n : Int} (h : n ∈ fcs) : 0 ≤ n ∧ n < 20 := by simp only [fcs, List.mem_cons, List.not_mem_nil, or_false] at h; omega
theorem nrm_congr {f a b c f' a' b' c' : Int} (hv : Vld f a b c) (hv' : Vld f' a' b' c') (h : ∀ v ∈ vts, wt f a b c v = wt f' a' b' c' v) : nrm f a b c = nrm f' a' b' c' := by
  unfold nrm
  rw [if_pos (vld_t hv), if_pos (vld_t hv')]
  exact nrmL_congr h fcs (fun n hn => fcs_rng hn) ⟨f, mem_fcs hv.face, (own_row hv).2.2.2⟩
/-- The normal place is a row. -/
theorem nrmL_row {f a b c : Int} : ∀ (l : List Int), (∃ n ∈ l, onV f a b c n = true) → ∃ n ∈ l, onV f a b c n = true ∧ nrmL f a b c l = (n, onW f a b c n 0, onW f a b c n 1, onW f a b c n 2)
  | [], he => by obtain ⟨n, hn, _⟩ := he; cases hn
  | n :: l, he => by
    simp only [nrmL]
    by_cases ho : onV f a b c n = true
    · exact ⟨n, List.mem_cons_self .., ho, by rw [if_pos ho]⟩
    · rw [if_neg ho]
      obtain ⟨m, hm, hmo⟩ := he
      rcases List.mem_cons.1 hm with rfl | hm
      · exact absurd hmo ho
      · obtain ⟨k, hk, h1, h2⟩ := nrmL_row l ⟨m, hm, hmo⟩
        exact ⟨k, List.mem_cons_of_mem _ hk, h1, h2⟩
theorem nrm_row {f a b c : Int} (hv : Vld f a b c) : ∃ n, (0 ≤ n ∧ n < 20) ∧ onV f a b c n = true ∧ nrm f a b c = (n, onW f a b c n 0, onW f a b c n 1, onW f a b c n 2) := by
  unfold nrm
  rw [if_pos (vld_t hv)]
  obtain ⟨n, hn, h1, h2⟩ := nrmL_row (f := f) (a := a) (b := b) (c := c) fcs ⟨f, mem_fcs hv.face, (own_row hv).2.2.2⟩
  exact ⟨n, fcs_rng hn, h1, h2⟩
theorem sameW_iff (f a b c f' a' b' c' : Int) : sameW f a b c f' a' b' c' = true ↔ ∀ v ∈ vts, wt f a b c v = wt f' a' b' c' v := by
  unfold sameW wts vts
  rw [decide_eq_true_eq]
  simp only [List.cons.injEq, and_true, List.mem_cons, List.not_mem_nil, or_false, forall_eq_or_imp, forall_eq]
theorem same_nrm {f a b c f' a' b' c' : Int} (hv : Vld f a b c) (hv' : Vld f' a' b' c') : sameW f a b c f' a' b' c' = decide (nrm f a b c = nrm f' a' b' c') := by
  rw [Bool.eq_iff_iff, decide_eq_true_eq]
  constructor
  · intro h; exact nrm_congr hv hv' ((sameW_iff ..).1 h)
  · intro h
    obtain ⟨n, hn, h1, h2⟩ := nrm_row hv
    obtain ⟨m, hm, k1, k2⟩ := nrm_row hv'
    rw [h2, k2] at h
    simp only [Prod.mk.injEq] at h
    obtain ⟨e, e0, e1, e2⟩ := h
    rw [sameW_iff]
    intro v hvv
    rw [← row_wt hv hn h1 hvv, ← row_wt hv' hm k1 hvv, e0, e1, e2, e]
/-- What a row is to its place. -/
structure RowOf (f a b c n x y z : Int) : Prop where
  vld : Vld n x y z
  nrm : nrm n x y z = nrm f a b c
  same : sameW n x y z f a b c = true
theorem row_of {f a b c n : Int} (hv : Vld f a b c) (hn : 0 ≤ n ∧ n < 20) (ho : onV f a b c n = true) : RowOf f a b c n (onW f a b c n 0) (onW f a b c n 1) (onW f a b c n 2) :=
  have hV : Vld n (onW f a b c n 0) (onW f a b c n 1) (onW f a b c n 2) := of_decide_eq_true ho
  ⟨hV, nrm_congr hV hv fun v h => row_wt hv hn ho h, (sameW_iff ..).2 fun v h => row_wt hv hn ho h⟩
/-! The rows in their order. -/
theorem adrR_eq (f a b c : Int) : ∀ k : Nat, k ≤ 20 → adrR f a b c k = ((fcs.take k).filter (onV f a b c)).map (onRow f a b c)
  | 0, _ => rfl
  | k + 1, h => by
    have hk : k < 20 := by omega
    have e : fcs.take (k + 1) = fcs.take k ++ [(k : Int)] := by
      have : (List.range 20).all (fun k => decide (fcs.take (k + 1) = fcs.take k ++ [(k : Int)])) = true := by decide +kernel
      rw [List.all_eq_true] at this
      simpa using this k (List.mem_range.2 hk)
    simp only [adrR]
    rw [adrR_eq f a b c k (by omega), e, List.filter_append]
    split
    · next ho => simp [ho]
    · next ho => simp [ho]
def fcsOf (f a b c : Int) : List Int := fcs.filter (onV f a b c)
theorem adr_map {f a b c : Int} (hv : Vld f a b c) : adr f a b c = (fcsOf f a b c).map (onRow f a b c) := by
  unfold adr
  rw [if_pos (vld_t hv), adrR_eq f a b c 20 (by decide)]
  rfl
theorem fcs_sorted : fcs.Pairwise (· < ·) := by decide
theorem fcsOf_sorted (f a b c : Int) : (fcsOf f a b c).Pairwise (· < ·) := fcs_sorted.filter _
theorem fcsOf_mem {f a b c n : Int} : n ∈ fcsOf f a b c ↔ (0 ≤ n ∧ n < 20) ∧ onV f a b c n = true := by
  unfold fcsOf
  rw [List.mem_filter]
  exact ⟨fun h => ⟨fcs_rng h.1, h.2⟩, fun h => ⟨mem_fcs h.1, h.2⟩⟩
/-- How many rows there are: by the zeros. -/
def covB (f n : Int) (x y z : Bool) : Bool := (!x || decide (pos n (crn f 0) ≠ 3)) && (!y || decide (pos n (crn f 1) ≠ 3)) && (!z || decide (pos n (crn f 2) ≠ 3))
theorem cov_cases : (fcs.all fun f => fcs.all fun n => decide (pos f (crn n 0) ≤ 3) && decide (pos f (crn n 1) ≤ 3) && decide (pos f (crn n 2) ≤ 3) &&
    decide ((pos n (crn f 0) = 3) = ¬ (pos f (crn n 0) = 0 ∨ pos f (crn n 1) = 0 ∨ pos f (crn n 2) = 0)) && decide ((pos n (crn f 1) = 3) = ¬ (pos f (crn n 0) = 1 ∨ pos f (crn n 1) = 1 ∨ pos f (crn n 2) = 1)) &&
    decide ((pos n (crn f 2) = 3) = ¬ (pos f (crn n 0) = 2 ∨ pos f (crn n 1) = 2 ∨ pos f (crn n 2) = 2)) && (decide (pos f (crn n 0) = 3) || (decide (pos f (crn n 0) ≠ pos f (crn n 1)) && decide (pos f (crn n 0) ≠ pos f (crn n 2)))) && (decide (pos f (crn n 1) = 3) || decide (pos f (crn n 1) ≠ pos f (crn n 2)))) = true := by
  decide +kernel
theorem sum_cov {a b c : Int} (ha : 0 ≤ a) (hb : 0 ≤ b) (hc : 0 ≤ c) (hs : a + b + c = 840) {p q r : Nat} (hp : p ≤ 3) (hq : q ≤ 3) (hr : r ≤ 3) (h1 : p = 3 ∨ (p ≠ q ∧ p ≠ r)) (h2 : q = 3 ∨ q ≠ r) :
    ((0 ≤ sel3 a b c p ∧ sel3 a b c p ≤ 840) ∧ (0 ≤ sel3 a b c q ∧ sel3 a b c q ≤ 840) ∧ (0 ≤ sel3 a b c r ∧ sel3 a b c r ≤ 840)) ∧
    (sel3 a b c p + sel3 a b c q + sel3 a b c r = 840 ↔ (a ≠ 0 → p = 0 ∨ q = 0 ∨ r = 0) ∧ (b ≠ 0 → p = 1 ∨ q = 1 ∨ r = 1) ∧ (c ≠ 0 → p = 2 ∨ q = 2 ∨ r = 2)) := by
  have e : ∀ {k : Nat}, k ≤ 3 → k = 0 ∨ k = 1 ∨ k = 2 ∨ k = 3 := by intro k hk; omega
  rcases e hp with rfl | rfl | rfl | rfl <;> rcases e hq with rfl | rfl | rfl | rfl <;> rcases e hr with rfl | rfl | rfl | rfl <;> simp [sel3] at h1 h2 ⊢ <;> omega
theorem onV_cov {f a b c n : Int} (hv : Vld f a b c) (hn : 0 ≤ n ∧ n < 20) : onV f a b c n = covB f n (decide (a ≠ 0)) (decide (b ≠ 0)) (decide (c ≠ 0)) := by
  have h := cov_cases
  rw [List.all_eq_true] at h
  have h := h f (mem_fcs hv.face)
  rw [List.all_eq_true] at h
  have h := h n (mem_fcs hn)
  simp only [Bool.and_eq_true, Bool.or_eq_true, decide_eq_true_eq] at h
  obtain ⟨⟨⟨⟨⟨⟨⟨l0, l1⟩, l2⟩, e0⟩, e1⟩, e2⟩, d1⟩, d2⟩ := h
  obtain ⟨hb, hi⟩ := sum_cov hv.wa.1 hv.wb.1 hv.wc.1 hv.sum l0 l1 l2 d1 d2
  rw [Bool.eq_iff_iff]
  unfold onV vld
  rw [decide_eq_true_eq, vld_iff]
  simp only [onW, wt_pos, covB, Bool.and_eq_true, Bool.or_eq_true, Bool.not_eq_true', decide_eq_true_eq, decide_eq_false_iff_not, ne_eq, Decidable.not_not, e0, e1, e2]
  constructor
  · rintro ⟨_, _, _, _, hs⟩
    obtain ⟨k0, k1, k2⟩ := hi.1 hs
    exact ⟨⟨by by_cases h : a = 0; exact .inl h; exact .inr (k0 h), by by_cases h : b = 0; exact .inl h; exact .inr (k1 h)⟩, by by_cases h : c = 0; exact .inl h; exact .inr (k2 h)⟩
  · rintro ⟨⟨k0, k1⟩, k2⟩
    exact ⟨hn, hb.1, hb.2.1, hb.2.2, hi.2 ⟨fun h => k0.resolve_left h, fun h => k1.resolve_left h, fun h => k2.resolve_left h⟩⟩
theorem cnt_all : (fcs.all fun f => [true, false].all fun x => [true, false].all fun y => [true, false].all fun z => (!x && !y && !z) ||
    decide ((fcs.filter fun n => covB f n x y z).length = if (if x then 0 else 1) + (if y then 0 else 1) + (if z then 0 else 1) = 0 then 1 else if (if x then 0 else 1) + (if y then 0 else 1) + (if z then 0 else 1) = 1 then 2 else 5)) = true := by
  decide +kernel
theorem mem_tf (x : Bool) : x ∈ [true, false] := by cases x <;> simp
theorem adr_cnt {f a b c : Int} (hv : Vld f a b c) : ((adr f a b c).length : Int) = ([1, 2, 5] : List Int).getD ((if a = 0 then 1 else 0) + (if b = 0 then 1 else 0) + (if c = 0 then 1 else 0)) 0 ∧ ¬ (a = 0 ∧ b = 0 ∧ c = 0) := by
  have hz : ¬ (a = 0 ∧ b = 0 ∧ c = 0) := by rintro ⟨rfl, rfl, rfl⟩; have := hv.sum; omega
  refine ⟨?_, hz⟩
  have h := cnt_all
  rw [List.all_eq_true] at h
  have h := h f (mem_fcs hv.face)
  rw [List.all_eq_true] at h
  have h := h (decide (a ≠ 0)) (mem_tf _)
  rw [List.all_eq_true] at h
  have h := h (decide (b ≠ 0)) (mem_tf _)
  rw [List.all_eq_true] at h
  have h := h (decide (c ≠ 0)) (mem_tf _)
  have e : fcsOf f a b c = fcs.filter fun n => covB f n (decide (a ≠ 0)) (decide (b ≠ 0)) (decide (c ≠ 0)) := by
    unfold fcsOf
    refine List.filter_congr fun n hn => onV_cov hv (fcs_rng hn)
  rw [adr_map hv, List.length_map, e]
  by_cases h0 : a = 0 <;> by_cases h1 : b = 0 <;> by_cases h2 : c = 0 <;> simp [h0, h1, h2] at h hz ⊢ <;> first | omega | (rw [h]; rfl)
def zc (a : Int) : Int := if a = 0 then 1 else 0
theorem adr_zeros {f a b c : Int} (hv : Vld f a b c) : (zc a + zc b + zc c = 0 ∧ (adr f a b c).length = 1) ∨ (zc a + zc b + zc c = 1 ∧ (adr f a b c).length = 2) ∨ (zc a + zc b + zc c = 2 ∧ (adr f a b c).length = 5) := by
  obtain ⟨h, hz⟩ := adr_cnt hv
  unfold zc
  by_cases h0 : a = 0 <;> by_cases h1 : b = 0 <;> by_cases h2 : c = 0 <;> simp [h0, h1, h2] at h hz ⊢ <;> omega
def encP (r : Int × Int × Int × Int) : List AV := [.int .i64 r.1, .int .i64 r.2.1, .int .i64 r.2.2.1, .int .i64 r.2.2.2]
theorem nrmL_head {f a b c : Int} : ∀ (l : List Int), nrmL f a b c l = ((l.filter (onV f a b c)).map fun n => (n, onW f a b c n 0, onW f a b c n 1, onW f a b c n 2)).headD (f, a, b, c)
  | [] => rfl
  | n :: l => by
    simp only [nrmL]
    by_cases h : onV f a b c n = true
    · rw [if_pos h, List.filter_cons_of_pos h]; rfl
    · rw [if_neg h, List.filter_cons_of_neg h]; exact nrmL_head l
/-- All that the laws need of the addresses. -/
structure Rows (f a b c : Int) (l : List (Int × Int × Int × Int)) : Prop where
  adr : adr f a b c = l.map encP
  row : ∀ r ∈ l, RowOf f a b c r.1 r.2.1 r.2.2.1 r.2.2.2
  asc : l.Pairwise fun r s => r.1 < s.1
  own : (f, a, b, c) ∈ l
  head : l[0]? = some (nrm f a b c)
theorem adr_rows {f a b c : Int} (hv : Vld f a b c) : ∃ l, Rows f a b c l := by
  refine ⟨(fcsOf f a b c).map fun n => (n, onW f a b c n 0, onW f a b c n 1, onW f a b c n 2), ?_, ?_, ?_, ?_, ?_⟩
  · rw [adr_map hv, List.map_map]; rfl
  · intro r hr
    obtain ⟨n, hn, rfl⟩ := List.mem_map.1 hr
    obtain ⟨h1, h2⟩ := fcsOf_mem.1 hn
    exact row_of hv h1 h2
  · exact List.pairwise_map.2 (fcsOf_sorted f a b c)
  · obtain ⟨e0, e1, e2, e3⟩ := own_row hv
    exact List.mem_map.2 ⟨f, fcsOf_mem.2 ⟨hv.face, e3⟩, by rw [e0, e1, e2]⟩
  · have h1 : nrm f a b c = nrmL f a b c fcs := by unfold nrm; rw [if_pos (vld_t hv)]
    rw [h1, nrmL_head]
    have h2 : f ∈ fcsOf f a b c := fcsOf_mem.2 ⟨hv.face, (own_row hv).2.2.2⟩
    unfold fcsOf at h2 ⊢
    cases hf : fcs.filter (onV f a b c) with
    | nil => rw [hf] at h2; cases h2
    | cons n l => rfl
end Go.Proofs.YtceknalhogbbnaaDoor
