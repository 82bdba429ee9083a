/- The statements' example, and the law about reports without a normal. -/
import Derived.Test.YtceknalhogbbnaaDoorSeM
namespace Go.Proofs.YtceknalhogbbnaaDoor
open Go
set_option linter.unusedVariables false
set_option linter.unusedSimpArgs false

theorem chR_at {xs rd : List (List AV)} {t f a b c : Int} {i : Nat} (hi : i < (chR xs rd t f a b c).length) : ∃ k, k < rd.length ∧ (chR xs rd t f a b c).getD i [] = rowE (rd.getD k []) ∧ rejP xs t f a b c (rd.getD k []) = true := by
  have e := gD2 hi
  have hm : (chR xs rd t f a b c)[i] ∈ chR xs rd t f a b c := List.getElem_mem hi
  unfold chR at hm
  obtain ⟨r, hr, h2⟩ := List.mem_map.1 hm
  obtain ⟨h3, h4⟩ := List.mem_filter.1 hr
  obtain ⟨k, hk, h5⟩ := List.mem_iff_getElem.1 h3
  refine ⟨k, hk, ?_, ?_⟩
  · rw [e, gD2 hk, h5]; exact h2.symm
  · rw [gD2 hk, h5]; exact h4
theorem chL_at {xs rd : List (List AV)} {t f a b c : Int} {i : Nat} (hi : i < (chL xs rd t f a b c).length) : ∃ k, k < rd.length ∧ (chL xs rd t f a b c).getD i [] = rowE (rd.getD k []) ∧ rejP xs t f a b c (rd.getD k []) = true := by
  unfold chL at hi ⊢
  by_cases h : exE xs rd t f a b c = 0
  · rw [if_pos h] at hi ⊢; exact chR_at hi
  · rw [if_neg h] at hi; simp at hi
theorem chL_len {xs rd : List (List AV)} {t f a b c : Int} : (chL xs rd t f a b c).length ≤ rd.length := by
  unfold chL
  split
  · have := chR_len (xs := xs) (rd := rd) (t := t) (f := f) (a := a) (b := b) (c := c) rd.length
    rwa [List.take_length] at this
  · simp
theorem chL_ints {xs rd : List (List AV)} {t f a b c : Int} (h : RdsP rd) : IntsB (chL xs rd t f a b c) ∧ Ln (chL xs rd t f a b c) := by
  refine ⟨⟨fun x hx => ?_⟩, ⟨by have := chL_len (xs := xs) (rd := rd) (t := t) (f := f) (a := a) (b := b) (c := c); have := h.sm; omega⟩⟩
  obtain ⟨i, hi, h5⟩ := List.mem_iff_getElem.1 hx
  obtain ⟨k, hk, e, _⟩ := chL_at hi
  obtain ⟨n, v, he, h1, h2⟩ := h.row k hk
  rw [gD2 hi, h5, he] at e
  exact ⟨n, e, h1⟩
/-- The rejected elements ascend. -/
theorem chL_asc {xs rd : List (List AV)} {t f a b c n : Int} (h : RdV n rd) : (chL xs rd t f a b c).Pairwise fun r s => cellI r < cellI s := by
  have hp : rd.Pairwise fun r s => rE r < rE s := by
    rw [List.pairwise_iff_getElem]
    intro i j hi hj hij
    have := h.fasc i j hij hj
    rwa [gD2 hi, gD2 hj] at this
  unfold chL
  split
  · unfold chR
    rw [List.pairwise_map]
    exact (hp.filter _).imp fun h => h
  · exact List.Pairwise.nil
theorem chL_lt {xs rd : List (List AV)} {t f a b c n : Int} (h : RdV n rd) {i j : Nat} (hij : i < j) (hj : j < (chL xs rd t f a b c).length) : cellI ((chL xs rd t f a b c).getD i []) < cellI ((chL xs rd t f a b c).getD j []) := by
  have := List.pairwise_iff_getElem.1 (chL_asc (xs := xs) (t := t) (f := f) (a := a) (b := b) (c := c) h) i j (by omega) hj hij
  rwa [← gD2 (by omega), ← gD2 hj] at this
theorem ord_filter {xs : List (List AV)} (p : List AV → Bool) (h : ordN xs = true) : ordN (xs.filter p) = true := by
  have hp : xs.Pairwise fun r s => cmpR r s < 0 := by
    rw [List.pairwise_iff_getElem]
    intro i j hi hj hij
    have := ord_lt h i j hij hj
    rwa [gD2 hi, gD2 hj] at this
  have hq := hp.filter p
  refine decide_eq_true fun j hj => ?_
  rcases Nat.eq_zero_or_pos j with h0 | h0
  · exact .inl h0
  · right
    have := List.pairwise_iff_getElem.1 hq (j - 1) j (by omega) hj (by omega)
    rwa [← gD2 (by omega), ← gD2 hj] at this
theorem cv_filter {xs : List (List AV)} (p : List AV → Bool) (h : cvE xs = 0) (hn : NrsP xs) : cvE (xs.filter p) = 0 ∧ NrsP (xs.filter p) := by
  have hl : (xs.filter p).length ≤ xs.length := List.length_filter_le ..
  have mem : ∀ i, i < (xs.filter p).length → ∃ k, k < xs.length ∧ (xs.filter p).getD i [] = xs.getD k [] := by
    intro i hi
    obtain ⟨h3, h4⟩ := List.mem_filter.1 (List.getElem_mem hi)
    obtain ⟨k, hk, h5⟩ := List.mem_iff_getElem.1 h3
    exact ⟨k, hk, by rw [gD2 hi, gD2 hk, h5]⟩
  refine ⟨?_, ⟨fun i hi => by obtain ⟨k, hk, e⟩ := mem i hi; rw [e]; exact hn.fr k hk, by have := hn.fs; omega⟩⟩
  unfold cvE at h ⊢
  split at h
  · omega
  · rename_i hlen
    split at h
    · omega
    · rename_i hk
      split at h
      · omega
      · rename_i hr
        split at h
        · rename_i ho
          rw [if_neg (by omega), if_neg, if_neg, if_pos (ord_filter p ho)]
          · intro q
            obtain ⟨x, hx, hy⟩ := List.any_eq_true.1 q
            exact hr (List.any_eq_true.2 ⟨x, (List.mem_filter.1 hx).1, hy⟩)
          · intro q
            obtain ⟨x, hx, hy⟩ := List.any_eq_true.1 q
            exact hk (List.any_eq_true.2 ⟨x, (List.mem_filter.1 hx).1, hy⟩)
        · omega
theorem isN_face {f a b c : Int} (h : isN f a b c = true) : (nrm f a b c).1 = f := by
  unfold isN at h
  simp only [Bool.and_eq_true, decide_eq_true_eq] at h
  exact h.2.1.symm
theorem ex_ok {xs rd : List (List AV)} {t f a b c : Int} (hc : cvE xs = 0) (hr : vdE rd = 0) (hv : Vld f a b c) (ht : 0 ≤ t ∧ t ≤ 52595999) : exE xs rd t f a b c = 0 := by
  unfold exE
  rw [if_pos hc, if_pos hr, if_pos]
  rw [Bool.and_eq_true]
  exact ⟨decide_eq_true hv, decide_eq_true (by omega)⟩
def intsK (f : Bool) (xs ys : List (List AV)) : LInv := ⟨Int, fun i => ⟨[(0, .sl 1 f xs), (1, .rw 0 1 ys.length), (5, .int .i64 i)], [(0, .row 3 1 ys)]⟩, IntsP xs ys, fun i => (xs.length - i).toNat, none⟩
def kintr_s : SpH
  | [.sl 1 f xs, .rw 0 1 n], [.row 3 1 ys] => some ((IntsB xs ∧ IntsB ys) ∧ (Ln xs ∧ Ln ys) ∧ n = ys.length, .bool (intsEq xs ys), [.row 3 1 ys])
  | _, _ => none
set_option maxRecDepth 100000 in
def kintr_T : Prop :=
  ∀ (gl : Glob) (f : Bool) (xs ys : List (List AV)) (n : Nat), (IntsB xs ∧ IntsB ys) ∧ (Ln xs ∧ Ln ys) ∧ n = ys.length → True → True → bif decide ¬(↑xs.length : Int) = (↑n : Int)
  then false = intsEq xs ys ∧ ys = ys ∧ True else (∃ x, IntsP xs ys x ∧ (((bif f then f = true else True) ∧ xs = xs) ∧ n = ys.length ∧ (0 : Int) = x ∧ True) ∧ ys = ys ∧ True) ∧ ∀ (x
  : Int), IntsP xs ys x → bif decide (x < (↑xs.length : Int)) then bif decide ((0 : Int) ≤ x ∧ x < (↑xs.length : Int)) then ∃ n, List.take [AV.int IntKind.i64 n].length (xs.getD
  x.toNat []) = [AV.int IntKind.i64 n] ∧ bif decide ((0 : Int) ≤ x ∧ x < (↑ys.length : Int)) then bif decide (ys.length = ys.length ∧ x.toNat < ys.length) then ∃ n_1, List.take
  [AV.int IntKind.i64 n_1].length (List.drop (0 : Nat) (ys.getD x.toNat [])) = [AV.int IntKind.i64 n_1] ∧ bif decide ¬n = n_1 then false = intsEq xs ys ∧ ys = ys ∧ True else bif
  decide (rng IntKind.i64 (x + (1 : Int))) then ∃ y, IntsP xs ys y ∧ (intsK f xs ys).m y < (intsK f xs ys).m x ∧ (((bif f then f = true else True) ∧ xs = xs) ∧ ys.length = ys.length
  ∧ x + (1 : Int) = y ∧ True) ∧ ys = ys ∧ True else False else False else False else False else true = intsEq xs ys ∧ ys = ys ∧ True
set_option maxRecDepth 100000 in
theorem kintr_P : kintr_T := by
  unfold kintr_T
  intro gl f xs ys n ⟨⟨hx, hy⟩, ⟨lx, ly⟩, hn⟩
  intros
  subst hn
  have l1 := lx.fl
  have l2 := ly.fl
  have bf : cond f (f = true) True := by cases f <;> trivial
  refine cs (fun h => ⟨?_, rfl, trivial⟩) (fun h => ⟨⟨0, ⟨by decide, by omega, fun j h => by omega⟩, ⟨⟨bf, rfl⟩, rfl, rfl, trivial⟩, rfl, trivial⟩, ?_⟩)
  · exact (decide_eq_false fun q => by omega).symm
  rintro i ⟨h0, h1, hn⟩
  refine cs (fun hl => cd1 (by omega) ⟨_, intsB_at hx (by omega), cd1 (by omega) (cd1 (by omega) ⟨_, intsB_at hy (by omega), cs (fun q => ⟨?_, rfl, trivial⟩) (fun q => ?_)⟩)⟩) (fun hl => ⟨?_, rfl, trivial⟩)
  · exact (decide_eq_false fun z => q (z.2 i.toNat (by omega))).symm
  · refine cdI (by omega) ⟨i + 1, ⟨by omega, by omega, fun j hj => ?_⟩, by simp only [intsK]; omega, ⟨⟨bf, rfl⟩, rfl, rfl, trivial⟩, rfl, trivial⟩
    rcases Nat.lt_or_ge j i.toNat with k | k
    · exact hn j (by omega)
    · rw [show j = i.toNat by omega]; exact Decidable.not_not.1 q
  · exact (decide_eq_true ⟨by omega, fun j hj => hn j (by omega)⟩).symm
def kintr_S : Prop := ∀ (gl : Glob) (f : Bool) (xs ys : List (List AV)) (n : Nat), (IntsB xs ∧ IntsB ys) ∧ (Ln xs ∧ Ln ys) ∧ n = ys.length → fnH Tryd.prog { glob := gl, spec := lk [], specH := lk [], shape := [20, 24] } { nt := 26, drop := drp [(1, 960), (4, 14336), (5, 98304), (6, 33423360)], fr := 1000, kp := [0] } (invs [(4, intsK f xs ys)]) 6 Tryd.f19 [.sl 1 f xs, .rw 0 1 n] [.row 3 1 ys] (.bool (intsEq xs ys)) [.row 3 1 ys]
set_option maxRecDepth 100000 in
theorem kintr_e : kintr_T = kintr_S := by kernel_rfl
theorem kintr_v : kintr_S := @Eq.mp (kintr_T) (kintr_S) (kintr_e) kintr_P
theorem kintr_ok (gl : Glob) : HOK Tryd.prog gl 19 kintr_s := by
  refine ⟨fok Tryd.func19 (by kernel_rfl) (by kernel_rfl), ?_⟩
  intro xs bs pre r bs2 h hp
  unfold kintr_s at h
  split at h
  · simp only [Option.some.injEq, Prod.mk.injEq] at h
    obtain ⟨h1, h2, h3⟩ := h
    subst h1 h2 h3
    exact fnH_sound tyNil (by exact specOK rfl rfl trivial trivial) (by kernel_rfl) Tryd.func19 (kintr_v gl _ _ _ _ hp)
  · cases h
def sawake_s (exE : List (List AV) → List (List AV) → Int → Int → Int → Int → Int → Int) (chL : List (List AV) → List (List AV) → Int → Int → Int → Int → Int → List (List AV)) (farV : List (List AV) → List (List AV) → Int → Int → Int → Int → Int → Int → Int) (farB : List (List AV) → List (List AV) → Int → Int → Int → Int → Int → Int → Bool) : Sp
  | [] => some (True, .bool true)
  | _ => none
set_option maxRecDepth 100000 in
def sawake_T (exE : List (List AV) → List (List AV) → Int → Int → Int → Int → Int → Int) (chL : List (List AV) → List (List AV) → Int → Int → Int → Int → Int → List (List AV)) (farV : List (List AV) → List (List AV) → Int → Int → Int → Int → Int → Int → Int) (farB : List (List AV) → List (List AV) → Int → Int → Int → Int → Int → Int → Bool) : Prop :=
  (NrsP [[AV.int IntKind.i64 (1 : Int), AV.int IntKind.i64 (0 : Int), AV.int IntKind.i64 (1 : Int), AV.int IntKind.i64 (10135 : Int), AV.int IntKind.i64 (6 : Int)]] ∧ RdsP [[AV.int
  IntKind.i64 (1 : Int), AV.int IntKind.i64 (10142 : Int)]]) ∧ (NrsP [[AV.int IntKind.i64 (1 : Int), AV.int IntKind.i64 (0 : Int), AV.int IntKind.i64 (1 : Int), AV.int IntKind.i64
  (10135 : Int), AV.int IntKind.i64 (6 : Int)]] ∧ RdsP [[AV.int IntKind.i64 (1 : Int), AV.int IntKind.i64 (10142 : Int)]]) ∧ (NrsP [[AV.int IntKind.i64 (1 : Int), AV.int IntKind.i64
  (0 : Int), AV.int IntKind.i64 (1 : Int), AV.int IntKind.i64 (10135 : Int), AV.int IntKind.i64 (6 : Int)]] ∧ RdsP [[AV.int IntKind.i64 (1 : Int), AV.int IntKind.i64 (10141 : Int)]])
  ∧ ((IntsB (YtceknalhogbbnaaDoor.chL [[AV.int IntKind.i64 (1 : Int), AV.int IntKind.i64 (0 : Int), AV.int IntKind.i64 (1 : Int), AV.int IntKind.i64 (10135 : Int), AV.int IntKind.i64
  (6 : Int)]] [[AV.int IntKind.i64 (1 : Int), AV.int IntKind.i64 (10142 : Int)]] (0 : Int) (0 : Int) (840 : Int) (0 : Int) (0 : Int)) ∧ IntsB [[AV.int IntKind.i64 (1 : Int)]]) ∧ (Ln
  (YtceknalhogbbnaaDoor.chL [[AV.int IntKind.i64 (1 : Int), AV.int IntKind.i64 (0 : Int), AV.int IntKind.i64 (1 : Int), AV.int IntKind.i64 (10135 : Int), AV.int IntKind.i64 (6 :
  Int)]] [[AV.int IntKind.i64 (1 : Int), AV.int IntKind.i64 (10142 : Int)]] (0 : Int) (0 : Int) (840 : Int) (0 : Int) (0 : Int)) ∧ Ln [[AV.int IntKind.i64 (1 : Int)]]) ∧ (1 : Nat) =
  (1 : Nat)) ∧ decide ((7 : Int) = (7 : Int)) = true
set_option maxRecDepth 100000 in
theorem sawake_P : sawake_T exE chL farV farB := by
  unfold sawake_T
  have one : ∀ n : Int, rng .i64 n → NrsP [[.int .i64 1, .int .i64 0, .int .i64 1, .int .i64 10135, .int .i64 6]] ∧ RdsP [[.int .i64 1, .int .i64 n]] := by
    intro n hn
    refine ⟨⟨fun i hi => ?_, by simp⟩, ⟨fun i hi => ?_, by simp⟩⟩
    · simp only [List.length_singleton] at hi
      rw [show i = 0 by omega]
      exact ⟨1, 0, 1, 10135, 6, rfl, by decide, by decide, by decide, by decide, by decide⟩
    · simp only [List.length_singleton] at hi
      rw [show i = 0 by omega]
      exact ⟨1, n, rfl, by decide, hn⟩
  have h1 := one 10142 (by decide)
  exact ⟨h1, h1, one 10141 (by decide), ⟨⟨(chL_ints h1.2).1, ⟨fun x hx => ⟨1, by simpa using hx, by decide⟩⟩⟩, ⟨(chL_ints h1.2).2, ⟨by simp⟩⟩, rfl⟩, rfl⟩
def sawake_S (exE : List (List AV) → List (List AV) → Int → Int → Int → Int → Int → Int) (chL : List (List AV) → List (List AV) → Int → Int → Int → Int → Int → List (List AV)) (farV : List (List AV) → List (List AV) → Int → Int → Int → Int → Int → Int → Int) (farB : List (List AV) → List (List AV) → Int → Int → Int → Int → Int → Int → Bool) : Prop := fnK Tryd.prog { glob := glb, spec := lk [(17, (scheck_s Go.Proofs.YtceknalhogbbnaaDoor.exE Go.Proofs.YtceknalhogbbnaaDoor.lkE Go.Proofs.YtceknalhogbbnaaDoor.lkN)), (20, sfar_s)], specH := lk [(19, kintr_s)], nowf := true } { nt := 60, drop := drp [(1, 3584), (2, 61440), (3, 4128768), (4, 264241152), (5, 1879048192), (6, 135291469824), (7, 1152921367167893504)], frz := fun id => cond (Nat.beq id 3) [1000010, 1000014] (cond (Nat.beq id 6) [1000029] []) } (fun _ _ => none) 6 Tryd.f8 [] (.bool true)
set_option maxRecDepth 100000 in
theorem sawake_e (exE : List (List AV) → List (List AV) → Int → Int → Int → Int → Int → Int) (chL : List (List AV) → List (List AV) → Int → Int → Int → Int → Int → List (List AV)) (farV : List (List AV) → List (List AV) → Int → Int → Int → Int → Int → Int → Int) (farB : List (List AV) → List (List AV) → Int → Int → Int → Int → Int → Int → Bool) : sawake_T exE chL farV farB = sawake_S exE chL farV farB := by kernel_rfl
theorem sawake_v : sawake_S exE chL farV farB := @Eq.mp (sawake_T exE chL farV farB) (sawake_S exE chL farV farB) (sawake_e exE chL farV farB) sawake_P
theorem sawake_ok : SOK Tryd.prog glb 8 (sawake_s exE chL farV farB) := by
  refine ⟨fok Tryd.func8 (by kernel_rfl) (by kernel_rfl), ?_⟩
  intro xs pre r h hp
  unfold sawake_s at h
  split at h
  · simp only [Option.some.injEq, Prod.mk.injEq] at h
    obtain ⟨h1, h2⟩ := h
    subst h1 h2
    exact fnK_sound tyNil (by exact specOK rfl rfl ⟨(scheck_ok), (sfar_ok), trivial⟩ ⟨(kintr_ok glb), trivial⟩) (by kernel_rfl) Tryd.func8 rfl (sawake_v  )
  · cases h
theorem any_take {p : List AV → Bool} {xs : List (List AV)} {i : Nat} (h : i < xs.length) : (xs.take (i + 1)).any p = ((xs.take i).any p || p (xs.getD i [])) := by
  rw [List.take_add_one, List.any_append, List.getElem?_eq_getElem h, gD2 h]
  simp
theorem filter_take {p : List AV → Bool} {xs : List (List AV)} {i : Nat} (h : i < xs.length) : (xs.take (i + 1)).filter p = (xs.take i).filter p ++ if p (xs.getD i []) then [xs.getD i []] else [] := by
  rw [List.take_add_one, List.filter_append, List.getElem?_eq_getElem h, gD2 h]
  cases hp : p xs[i] <;> simp [hp]
structure NoP1 (L : List (List AV)) (i : Int) : Prop where
  flo : 0 ≤ i
  fhi : i ≤ L.length
structure NoP2 (rd : List (List AV)) (n : Int) (x : Int × Bool) : Prop where
  flo : 0 ≤ x.1
  fhi : x.1 ≤ rd.length
  fb : x.2 = (rd.take x.1.toNat).any fun r => decide (rE r = n)
structure NoP3 (ys : List (List AV)) (f : Int) (x : Int × List (List AV)) : Prop where
  flo : 0 ≤ x.1
  fhi : x.1 ≤ ys.length
  fz : x.2 = (ys.take x.1.toNat).filter fun r => !decide (nC 1 r = f)
def noH (k : Int) (nm : ByteArray) (t f a b c : Int) (rd ys : List (List AV)) : List (Nat × Blk) := [(5, .cells [.sl 5 false ys]), (6, .cells [.int .i64 k, .str nm, .int .i64 t, .int .i64 f, .int .i64 a, .int .i64 b, .int .i64 c, .sl 2 false rd])]
def no1I (k : Int) (nm : ByteArray) (t f a b c : Int) (rd ys L : List (List AV)) : LInv := ⟨Int, fun i => ⟨[(5, .ptr 5 0), (6, .ptr 6 0), (7, .sl 1 false L), (46, .sl 1 false L), (47, .int .i64 L.length), (48, .int .i64 i)], noH k nm t f a b c rd ys⟩, NoP1 L, fun i => (L.length - i).toNat, none⟩
def no2I (k : Int) (nm : ByteArray) (t f a b c : Int) (rd ys L : List (List AV)) (i n : Int) : LInv := ⟨Int × Bool, fun x => ⟨[(5, .ptr 5 0), (6, .ptr 6 0), (7, .sl 1 false L), (46, .sl 1 false L), (47, .int .i64 L.length), (48, .int .i64 i), (9, .int .i64 i), (10, .int .i64 n), (11, .bool x.2), (54, .sl 2 false rd), (55, .int .i64 rd.length), (56, .int .i64 x.1)], noH k nm t f a b c rd ys⟩, NoP2 rd n, fun x => (rd.length - x.1).toNat, none⟩
def no3I (k : Int) (nm : ByteArray) (t f a b c : Int) (rd ys : List (List AV)) : LInv := ⟨Int × List (List AV), fun x => ⟨[(5, .ptr 5 0), (6, .ptr 6 0), (14, .ptr 14 0), (85, .sl 5 false ys), (86, .int .i64 ys.length), (87, .int .i64 x.1)], (14, .cells [.rw 600 5 x.2.length]) :: (600, .row 43 5 x.2) :: noH k nm t f a b c rd ys⟩, NoP3 ys f, fun x => (ys.length - x.1).toNat, none⟩
def noJ (id : Nat) (st : St) : Option LInv := match lk st.heap 5, lk st.heap 6 with
  | some (.cells [.sl _ _ ys]), some (.cells [.int _ k, .str nm, .int _ t, .int _ f, .int _ a, .int _ b, .int _ c, .sl _ _ rd]) =>
    cond (Nat.beq id 10) (match lk st.tmps 7 with
      | some (.sl _ _ L) => some (no1I k nm t f a b c rd ys L)
      | _ => none) (cond (Nat.beq id 14) (match lk st.tmps 7, lk st.tmps 9, lk st.tmps 10 with
      | some (.sl _ _ L), some (.int _ i), some (.int _ n) => some (no2I k nm t f a b c rd ys L i n)
      | _, _, _ => none) (cond (Nat.beq id 23) (some (no3I k nm t f a b c rd ys)) none))
  | _, _ => none
def lnone_s : Sp
  | [.sl 1 false xs] => some (IntsA xs, .bool true)
  | _ => none
set_option maxRecDepth 100000 in
def lnone_T (exE : List (List AV) → List (List AV) → Int → Int → Int → Int → Int → Int) (chL : List (List AV) → List (List AV) → Int → Int → Int → Int → Int → List (List AV)) (farV : List (List AV) → List (List AV) → Int → Int → Int → Int → Int → Int → Int) (farB : List (List AV) → List (List AV) → Int → Int → Int → Int → Int → Int → Bool) (lkE : List (List AV) → Int → Int → Int → Int → Int → Int → Int) (lkN : List (List AV) → Int → Int → Int → Int → Int → Int → Nat → Int) (kdP : List AV → Bool) (rgP : List AV → Bool) (cmp3 : Int → Int → Int → Int → Int → Int → Int) : Prop :=
  ∀ (xs : List (List AV)), (∀ (x : List AV), List.Mem x xs → ∃ n, x = [AV.int IntKind.i64 n] ∧ rng IntKind.i64 n) → True → True ∧ SrcQ (List.take (2000 : Nat) xs) (0 : Int) ∧ ∀ (m j
  : Int), MinQ m j → (SrcQ (List.take (2000 : Nat) xs) j ∧ (0 : Int) ≤ m ∧ m ≤ (52595999 : Int)) ∧ ∀ (ys : List (List AV)) (j : Int), CliQ ys j → (SrcQ (List.take (2000 : Nat) xs) j
  ∧ (0 : Int) ≤ m ∧ m ≤ (52595999 : Int)) ∧ ∀ (k : Int) (nm : ByteArray) (t f a b c : Int) (ys_1 : List (List AV)) (j : Int), RepQ k nm t f a b c ys_1 j → SrcQ (List.take (2000 :
  Nat) xs) j ∧ ∀ (f a b c j : Int), PlaQ f a b c j → (NrsP ys ∧ RdsP ys_1) ∧ bif decide ¬exE ys ys_1 t f a b c = (0 : Int) then False else (∃ x, NoP1 (YtceknalhogbbnaaDoor.chL ys
  ys_1 t f a b c) x ∧ ((0 : Nat) = (0 : Nat) ∧ (0 : Nat) = (0 : Nat) ∧ (True ∧ YtceknalhogbbnaaDoor.chL ys ys_1 t f a b c = YtceknalhogbbnaaDoor.chL ys ys_1 t f a b c) ∧ (True ∧
  YtceknalhogbbnaaDoor.chL ys ys_1 t f a b c = YtceknalhogbbnaaDoor.chL ys ys_1 t f a b c) ∧ (↑(YtceknalhogbbnaaDoor.chL ys ys_1 t f a b c).length : Int) =
  (↑(YtceknalhogbbnaaDoor.chL ys ys_1 t f a b c).length : Int) ∧ (0 : Int) = x ∧ True) ∧ ((True ∧ ys = ys) ∧ True) ∧ (k = k ∧ nm = nm ∧ t = t ∧ f = f ∧ a = a ∧ b = b ∧ c = c ∧ (True
  ∧ ys_1 = ys_1) ∧ True) ∧ True) ∧ ∀ (x : Int), NoP1 (YtceknalhogbbnaaDoor.chL ys ys_1 t f a b c) x → bif decide (x < (↑(YtceknalhogbbnaaDoor.chL ys ys_1 t f a b c).length : Int))
  then bif decide ((0 : Int) ≤ x ∧ x < (↑(YtceknalhogbbnaaDoor.chL ys ys_1 t f a b c).length : Int)) then ∃ n, List.take [AV.int IntKind.i64 n].length ((YtceknalhogbbnaaDoor.chL ys
  ys_1 t f a b c).getD x.toNat []) = [AV.int IntKind.i64 n] ∧ (∃ x_1, NoP2 ys_1 n x_1 ∧ ((0 : Nat) = (0 : Nat) ∧ (0 : Nat) = (0 : Nat) ∧ (True ∧ YtceknalhogbbnaaDoor.chL ys ys_1 t f
  a b c = YtceknalhogbbnaaDoor.chL ys ys_1 t f a b c) ∧ (True ∧ YtceknalhogbbnaaDoor.chL ys ys_1 t f a b c = YtceknalhogbbnaaDoor.chL ys ys_1 t f a b c) ∧ (↑(YtceknalhogbbnaaDoor.chL
  ys ys_1 t f a b c).length : Int) = (↑(YtceknalhogbbnaaDoor.chL ys ys_1 t f a b c).length : Int) ∧ x = x ∧ x = x ∧ n = n ∧ false = x_1.snd ∧ (True ∧ ys_1 = ys_1) ∧ (↑ys_1.length :
  Int) = (↑ys_1.length : Int) ∧ (0 : Int) = x_1.fst ∧ True) ∧ ((True ∧ ys = ys) ∧ True) ∧ (k = k ∧ nm = nm ∧ t = t ∧ f = f ∧ a = a ∧ b = b ∧ c = c ∧ (True ∧ ys_1 = ys_1) ∧ True) ∧
  True) ∧ ∀ (x_1 : Int × Bool), NoP2 ys_1 n x_1 → bif decide (x_1.fst < (↑ys_1.length : Int)) then bif decide ((0 : Int) ≤ x_1.fst ∧ x_1.fst < (↑ys_1.length : Int)) then ∃ n_1 n_2,
  List.take [AV.int IntKind.i64 n_1, AV.int IntKind.i64 n_2].length (ys_1.getD x_1.fst.toNat []) = [AV.int IntKind.i64 n_1, AV.int IntKind.i64 n_2] ∧ bif x_1.snd then bif decide (rng
  IntKind.i64 (x_1.fst + (1 : Int))) then ∃ y, NoP2 ys_1 n y ∧ (no2I k nm t f a b c ys_1 ys (YtceknalhogbbnaaDoor.chL ys ys_1 t f a b c) x n).m y < (no2I k nm t f a b c ys_1 ys
  (YtceknalhogbbnaaDoor.chL ys ys_1 t f a b c) x n).m x_1 ∧ ((0 : Nat) = (0 : Nat) ∧ (0 : Nat) = (0 : Nat) ∧ (True ∧ YtceknalhogbbnaaDoor.chL ys ys_1 t f a b c =
  YtceknalhogbbnaaDoor.chL ys ys_1 t f a b c) ∧ (True ∧ YtceknalhogbbnaaDoor.chL ys ys_1 t f a b c = YtceknalhogbbnaaDoor.chL ys ys_1 t f a b c) ∧ (↑(YtceknalhogbbnaaDoor.chL ys ys_1
  t f a b c).length : Int) = (↑(YtceknalhogbbnaaDoor.chL ys ys_1 t f a b c).length : Int) ∧ x = x ∧ x = x ∧ n = n ∧ true = y.snd ∧ (True ∧ ys_1 = ys_1) ∧ (↑ys_1.length : Int) =
  (↑ys_1.length : Int) ∧ x_1.fst + (1 : Int) = y.fst ∧ True) ∧ ((True ∧ ys = ys) ∧ True) ∧ (k = k ∧ nm = nm ∧ t = t ∧ f = f ∧ a = a ∧ b = b ∧ c = c ∧ (True ∧ ys_1 = ys_1) ∧ True) ∧
  True else False else bif decide (rng IntKind.i64 (x_1.fst + (1 : Int))) then ∃ y, NoP2 ys_1 n y ∧ (no2I k nm t f a b c ys_1 ys (YtceknalhogbbnaaDoor.chL ys ys_1 t f a b c) x n).m y
  < (no2I k nm t f a b c ys_1 ys (YtceknalhogbbnaaDoor.chL ys ys_1 t f a b c) x n).m x_1 ∧ ((0 : Nat) = (0 : Nat) ∧ (0 : Nat) = (0 : Nat) ∧ (True ∧ YtceknalhogbbnaaDoor.chL ys ys_1 t
  f a b c = YtceknalhogbbnaaDoor.chL ys ys_1 t f a b c) ∧ (True ∧ YtceknalhogbbnaaDoor.chL ys ys_1 t f a b c = YtceknalhogbbnaaDoor.chL ys ys_1 t f a b c) ∧
  (↑(YtceknalhogbbnaaDoor.chL ys ys_1 t f a b c).length : Int) = (↑(YtceknalhogbbnaaDoor.chL ys ys_1 t f a b c).length : Int) ∧ x = x ∧ x = x ∧ n = n ∧ decide (n_1 = n) = y.snd ∧
  (True ∧ ys_1 = ys_1) ∧ (↑ys_1.length : Int) = (↑ys_1.length : Int) ∧ x_1.fst + (1 : Int) = y.fst ∧ True) ∧ ((True ∧ ys = ys) ∧ True) ∧ (k = k ∧ nm = nm ∧ t = t ∧ f = f ∧ a = a ∧ b
  = b ∧ c = c ∧ (True ∧ ys_1 = ys_1) ∧ True) ∧ True else False else False else bif !x_1.snd then false = true else bif decide ((0 : Int) < x) then bif decide (rng IntKind.i64 (x - (1
  : Int))) then bif decide ((0 : Int) ≤ x - (1 : Int) ∧ x - (1 : Int) < (↑(YtceknalhogbbnaaDoor.chL ys ys_1 t f a b c).length : Int)) then ∃ n_1, List.take [AV.int IntKind.i64
  n_1].length ((YtceknalhogbbnaaDoor.chL ys ys_1 t f a b c).getD (x - (1 : Int)).toNat []) = [AV.int IntKind.i64 n_1] ∧ bif decide (n ≤ n_1) then false = true else bif decide (rng
  IntKind.i64 (x + (1 : Int))) then ∃ y, NoP1 (YtceknalhogbbnaaDoor.chL ys ys_1 t f a b c) y ∧ (no1I k nm t f a b c ys_1 ys (YtceknalhogbbnaaDoor.chL ys ys_1 t f a b c)).m y < (no1I
  k nm t f a b c ys_1 ys (YtceknalhogbbnaaDoor.chL ys ys_1 t f a b c)).m x ∧ ((0 : Nat) = (0 : Nat) ∧ (0 : Nat) = (0 : Nat) ∧ (True ∧ YtceknalhogbbnaaDoor.chL ys ys_1 t f a b c =
  YtceknalhogbbnaaDoor.chL ys ys_1 t f a b c) ∧ (True ∧ YtceknalhogbbnaaDoor.chL ys ys_1 t f a b c = YtceknalhogbbnaaDoor.chL ys ys_1 t f a b c) ∧ (↑(YtceknalhogbbnaaDoor.chL ys ys_1
  t f a b c).length : Int) = (↑(YtceknalhogbbnaaDoor.chL ys ys_1 t f a b c).length : Int) ∧ x + (1 : Int) = y ∧ True) ∧ ((True ∧ ys = ys) ∧ True) ∧ (k = k ∧ nm = nm ∧ t = t ∧ f = f ∧
  a = a ∧ b = b ∧ c = c ∧ (True ∧ ys_1 = ys_1) ∧ True) ∧ True else False else False else False else bif decide (rng IntKind.i64 (x + (1 : Int))) then ∃ y, NoP1
  (YtceknalhogbbnaaDoor.chL ys ys_1 t f a b c) y ∧ (no1I k nm t f a b c ys_1 ys (YtceknalhogbbnaaDoor.chL ys ys_1 t f a b c)).m y < (no1I k nm t f a b c ys_1 ys
  (YtceknalhogbbnaaDoor.chL ys ys_1 t f a b c)).m x ∧ ((0 : Nat) = (0 : Nat) ∧ (0 : Nat) = (0 : Nat) ∧ (True ∧ YtceknalhogbbnaaDoor.chL ys ys_1 t f a b c = YtceknalhogbbnaaDoor.chL
  ys ys_1 t f a b c) ∧ (True ∧ YtceknalhogbbnaaDoor.chL ys ys_1 t f a b c = YtceknalhogbbnaaDoor.chL ys ys_1 t f a b c) ∧ (↑(YtceknalhogbbnaaDoor.chL ys ys_1 t f a b c).length : Int)
  = (↑(YtceknalhogbbnaaDoor.chL ys ys_1 t f a b c).length : Int) ∧ x + (1 : Int) = y ∧ True) ∧ ((True ∧ ys = ys) ∧ True) ∧ (k = k ∧ nm = nm ∧ t = t ∧ f = f ∧ a = a ∧ b = b ∧ c = c ∧
  (True ∧ ys_1 = ys_1) ∧ True) ∧ True else False else False else (∃ x, NoP3 ys f x ∧ ((0 : Nat) = (0 : Nat) ∧ (0 : Nat) = (0 : Nat) ∧ (0 : Nat) = (0 : Nat) ∧ (True ∧ ys = ys) ∧
  (↑ys.length : Int) = (↑ys.length : Int) ∧ (0 : Int) = x.fst ∧ True) ∧ ((0 : Nat) = x.snd.length ∧ True) ∧ [] = x.snd ∧ ((True ∧ ys = ys) ∧ True) ∧ (k = k ∧ nm = nm ∧ t = t ∧ f = f
  ∧ a = a ∧ b = b ∧ c = c ∧ (True ∧ ys_1 = ys_1) ∧ True) ∧ True) ∧ ∀ (x : Int × List (List AV)), NoP3 ys f x → bif decide (x.fst < (↑ys.length : Int)) then bif decide ((0 : Int) ≤
  x.fst ∧ x.fst < (↑ys.length : Int)) then ∃ n n_1 n_2 n_3 n_4, List.take [AV.int IntKind.i64 n, AV.int IntKind.i64 n_1, AV.int IntKind.i64 n_2, AV.int IntKind.i64 n_3, AV.int
  IntKind.i64 n_4].length (ys.getD x.fst.toNat []) = [AV.int IntKind.i64 n, AV.int IntKind.i64 n_1, AV.int IntKind.i64 n_2, AV.int IntKind.i64 n_3, AV.int IntKind.i64 n_4] ∧ bif
  decide ¬n_1 = f then bif decide (x.snd.length = x.snd.length ∧ x.snd.length + [[AV.int IntKind.i64 n, AV.int IntKind.i64 n_1, AV.int IntKind.i64 n_2, AV.int IntKind.i64 n_3, AV.int
  IntKind.i64 n_4]].length ≤ (9223372036854775807 : Nat) ∧ (x.snd.length + [[AV.int IntKind.i64 n, AV.int IntKind.i64 n_1, AV.int IntKind.i64 n_2, AV.int IntKind.i64 n_3, AV.int
  IntKind.i64 n_4]].length) * (40 : Nat) ≤ (140737488355328 : Nat)) then bif decide (rng IntKind.i64 (x.fst + (1 : Int))) then ∃ y, NoP3 ys f y ∧ (no3I k nm t f a b c ys_1 ys).m y <
  (no3I k nm t f a b c ys_1 ys).m x ∧ ((0 : Nat) = (0 : Nat) ∧ (0 : Nat) = (0 : Nat) ∧ (0 : Nat) = (0 : Nat) ∧ (True ∧ ys = ys) ∧ (↑ys.length : Int) = (↑ys.length : Int) ∧ x.fst + (1
  : Int) = y.fst ∧ True) ∧ ((x.snd ++ [[AV.int IntKind.i64 n, AV.int IntKind.i64 n_1, AV.int IntKind.i64 n_2, AV.int IntKind.i64 n_3, AV.int IntKind.i64 n_4]]).length = y.snd.length
  ∧ True) ∧ x.snd ++ [[AV.int IntKind.i64 n, AV.int IntKind.i64 n_1, AV.int IntKind.i64 n_2, AV.int IntKind.i64 n_3, AV.int IntKind.i64 n_4]] = y.snd ∧ ((True ∧ ys = ys) ∧ True) ∧ (k
  = k ∧ nm = nm ∧ t = t ∧ f = f ∧ a = a ∧ b = b ∧ c = c ∧ (True ∧ ys_1 = ys_1) ∧ True) ∧ True else False else False else bif decide (rng IntKind.i64 (x.fst + (1 : Int))) then ∃ y,
  NoP3 ys f y ∧ (no3I k nm t f a b c ys_1 ys).m y < (no3I k nm t f a b c ys_1 ys).m x ∧ ((0 : Nat) = (0 : Nat) ∧ (0 : Nat) = (0 : Nat) ∧ (0 : Nat) = (0 : Nat) ∧ (True ∧ ys = ys) ∧
  (↑ys.length : Int) = (↑ys.length : Int) ∧ x.fst + (1 : Int) = y.fst ∧ True) ∧ (x.snd.length = y.snd.length ∧ True) ∧ x.snd = y.snd ∧ ((True ∧ ys = ys) ∧ True) ∧ (k = k ∧ nm = nm ∧
  t = t ∧ f = f ∧ a = a ∧ b = b ∧ c = c ∧ (True ∧ ys_1 = ys_1) ∧ True) ∧ True else False else False else bif decide (x.snd.length = x.snd.length) then (NrsP x.snd ∧ RdsP ys_1) ∧ bif
  decide (exE x.snd ys_1 t f a b c = (0 : Int)) then bif decide ((↑(YtceknalhogbbnaaDoor.chL x.snd ys_1 t f a b c).length : Int) = (0 : Int)) then True ∧ true = true else false =
  true else false = true else False
set_option maxRecDepth 100000 in
theorem lnone_P : lnone_T exE chL farV farB lkE lkN kdP rgP cmp3 := by
  unfold lnone_T
  intro xs hz _
  have hs : SrcI (List.take 2000 xs) := SrcI.take hz
  refine ⟨trivial, ⟨hs, by decide⟩, fun m j q1 => ⟨⟨⟨hs, q1.fj⟩, q1.fm⟩, fun ys j q2 => ⟨⟨⟨hs, q2.fj⟩, q1.fm⟩, fun k nm t f0 a0 b0 c0 rd j q3 => ⟨⟨hs, q3.fj⟩, fun f a b c j q4 => ?_⟩⟩⟩⟩
  obtain ⟨hrd, hvd⟩ := rdV_ok q3.fr
  have hex := ex_ok q2.fc hvd q4.fv q3.ft
  have hs2 := hrd.sm
  have hn2 := q2.fl
  have hh : ((True ∧ ys = ys) ∧ True) ∧ (k = k ∧ nm = nm ∧ t = t ∧ f = f ∧ a = a ∧ b = b ∧ c = c ∧ (True ∧ rd = rd) ∧ True) ∧ True := ⟨⟨⟨trivial, rfl⟩, trivial⟩, ⟨rfl, rfl, rfl, rfl, rfl, rfl, rfl, ⟨trivial, rfl⟩, trivial⟩, trivial⟩
  have hL := chL_ints (xs := ys) (t := t) (f := f) (a := a) (b := b) (c := c) hrd
  refine ⟨⟨q2.fp, hrd⟩, cs (fun q => absurd hex q) (fun _ => ⟨⟨0, ⟨by decide, by omega⟩, ⟨rfl, rfl, ⟨trivial, rfl⟩, ⟨trivial, rfl⟩, rfl, rfl, trivial⟩, hh⟩, ?_⟩)⟩
  have hLl := hL.2.fl
  rintro i ⟨i0, i1⟩
  refine cs (fun hi => cd1 (by omega) ⟨_, intsB_at hL.1 (by omega), ⟨(0, false), ⟨by simp, by simp, by simp⟩, ⟨rfl, rfl, ⟨trivial, rfl⟩, ⟨trivial, rfl⟩, rfl, rfl, rfl, rfl, rfl, ⟨trivial, rfl⟩, rfl, rfl, trivial⟩, hh⟩, ?_⟩) (fun hi => ?_)
  · have hi : i.toNat < (chL ys rd t f a b c).length := by omega
    rintro ⟨q, b0⟩ ⟨h0, h1, hb⟩
    simp only at h0 h1 hb
    dsimp only
    refine cs (fun hq => cd1 (by omega) ?_) (fun hq => ?_)
    · have hq' : q.toNat < rd.length := by omega
      obtain ⟨e, v, he, _⟩ := hrd.row q.toNat hq'
      have st := any_take (p := fun r => decide (rE r = cellI ((chL ys rd t f a b c).getD i.toNat []))) hq'
      rw [← hb] at st
      have ee : rE (rd.getD q.toNat []) = e := by rw [he]; rfl
      simp only [ee] at st
      have eq : (q + 1).toNat = q.toNat + 1 := by omega
      refine ⟨e, v, by rw [he]; rfl, csplit (fun hb => ?_) (fun hb => ?_)⟩
      · refine cdI (by omega) ⟨(q + 1, true), ⟨by simp only; omega, by simp only; omega, ?_⟩, by simp only [no2I]; omega, ⟨rfl, rfl, ⟨trivial, rfl⟩, ⟨trivial, rfl⟩, rfl, rfl, rfl, rfl, rfl, ⟨trivial, rfl⟩, rfl, rfl, trivial⟩, hh⟩
        simp only; rw [eq, st, hb]; rfl
      · refine cdI (by omega) ⟨(q + 1, _), ⟨by simp only; omega, by simp only; omega, ?_⟩, by simp only [no2I]; omega, ⟨rfl, rfl, ⟨trivial, rfl⟩, ⟨trivial, rfl⟩, rfl, rfl, rfl, rfl, rfl, ⟨trivial, rfl⟩, rfl, rfl, trivial⟩, hh⟩
        simp only; rw [eq, st, hb]; rfl
    · obtain ⟨z, hz, ez, _⟩ := chL_at hi
      have hany : b0 = true := by
        rw [hb, List.take_of_length_le (by omega)]
        refine any_yes hz (decide_eq_true ?_)
        rw [ez]; rfl
      subst hany
      refine csplit (fun q => by cases q) (fun _ => cs (fun hp => cdI (by omega) (cd1 (by omega) ⟨_, intsB_at hL.1 (by omega), cs (fun q => ?_) (fun _ => ?_)⟩)) (fun _ => ?_))
      · have := chL_lt q3.fr (xs := ys) (t := t) (f := f) (a := a) (b := b) (c := c) (i := (i - 1).toNat) (j := i.toNat) (by omega) hi
        omega
      · exact cdI (by omega) ⟨i + 1, ⟨by omega, by omega⟩, by simp only [no1I]; omega, ⟨rfl, rfl, ⟨trivial, rfl⟩, ⟨trivial, rfl⟩, rfl, rfl, trivial⟩, hh⟩
      · exact cdI (by omega) ⟨i + 1, ⟨by omega, by omega⟩, by simp only [no1I]; omega, ⟨rfl, rfl, ⟨trivial, rfl⟩, ⟨trivial, rfl⟩, rfl, rfl, trivial⟩, hh⟩
  · refine ⟨⟨(0, []), ⟨by simp, by simp, by simp⟩, ⟨rfl, rfl, rfl, ⟨trivial, rfl⟩, rfl, rfl, trivial⟩, ⟨rfl, trivial⟩, rfl, hh⟩, ?_⟩
    rintro ⟨i, zs⟩ ⟨h0, h1, hz⟩
    simp only at h0 h1 hz
    dsimp only
    have hzl : zs.length ≤ ys.length := by rw [hz]; exact Nat.le_trans (List.length_filter_le ..) (by rw [List.length_take]; omega)
    refine cs (fun hi => cd1 (by omega) ?_) (fun hi => ?_)
    · have hi' : i.toNat < ys.length := by omega
      obtain ⟨e, g, q, u, s, he, _⟩ := q2.fp.fr i.toNat hi'
      have st := filter_take (p := fun r => !decide (nC 1 r = f)) hi'
      rw [← hz, he] at st
      have eq : (i + 1).toNat = i.toNat + 1 := by omega
      refine ⟨e, g, q, u, s, by rw [he]; rfl, cs (fun hg => cd1 ⟨rfl, by simp; omega, by simp; omega⟩ ?_) (fun hg => ?_)⟩
      · refine cdI (by omega) ⟨(i + 1, _), ⟨by simp only; omega, by simp only; omega, ?_⟩, by simp only [no3I]; omega, ⟨rfl, rfl, rfl, ⟨trivial, rfl⟩, rfl, rfl, trivial⟩, ⟨rfl, trivial⟩, rfl, hh⟩
        simp only
        rw [eq, st, if_pos]
        show (!decide (g = f)) = true
        rw [decide_eq_false hg]; rfl
      · refine cdI (by omega) ⟨(i + 1, zs), ⟨by simp only; omega, by simp only; omega, ?_⟩, by simp only [no3I]; omega, ⟨rfl, rfl, rfl, ⟨trivial, rfl⟩, rfl, rfl, trivial⟩, ⟨rfl, trivial⟩, rfl, hh⟩
        simp only
        rw [eq, st, if_neg, List.append_nil]
        show ¬ (!decide (g = f)) = true
        rw [decide_eq_true (Decidable.not_not.1 hg)]; simp
    · rw [List.take_of_length_le (by omega)] at hz
      obtain ⟨c1, c2⟩ := cv_filter (fun r => !decide (nC 1 r = f)) q2.fc q2.fp
      rw [← hz] at c1 c2
      have hez := ex_ok c1 hvd q4.fv q3.ft
      have hnil : (chL zs rd t f a b c).length = 0 := by
        rcases Nat.eq_zero_or_pos (chL zs rd t f a b c).length with h | h
        · exact h
        · obtain ⟨z, _, _, hr⟩ := chL_at h
          have hr := (of_decide_eq_true hr).1
          have hany : zs.any (mtP (rE (rd.getD z [])) (nrm f a b c).1 (dtM t)) = false := by
            rw [isN_face q4.fn, hz]
            rw [List.any_filter]
            refine any_no fun j hj => ?_
            cases hd : decide (nC 1 (ys.getD j []) = f) with
            | true => rfl
            | false =>
              have := of_decide_eq_false hd
              exact decide_eq_false fun q => this q.2.1
          unfold lkE at hr
          rw [if_pos c1, hany] at hr
          split at hr
          · simp at hr
          · omega
      refine cd1 rfl ⟨⟨c2, hrd⟩, cs (fun _ => cs (fun _ => ⟨trivial, rfl⟩) (fun q => absurd (by omega) q)) (fun q => absurd hez q)⟩
def lnone_S (exE : List (List AV) → List (List AV) → Int → Int → Int → Int → Int → Int) (chL : List (List AV) → List (List AV) → Int → Int → Int → Int → Int → List (List AV)) (farV : List (List AV) → List (List AV) → Int → Int → Int → Int → Int → Int → Int) (farB : List (List AV) → List (List AV) → Int → Int → Int → Int → Int → Int → Bool) (lkE : List (List AV) → Int → Int → Int → Int → Int → Int → Int) (lkN : List (List AV) → Int → Int → Int → Int → Int → Int → Nat → Int) (kdP : List AV → Bool) (rgP : List AV → Bool) (cmp3 : Int → Int → Int → Int → Int → Int → Int) : Prop := ∀ (xs : List (List AV)), IntsA xs → fnK Tryd.prog { glob := glb, spec := lk [(8, (sawake_s exE chL farV farB)), (17, (scheck_s exE lkE lkN)), (50, (cValid_s kdP rgP cmp3))], specH := lk [(9, newsrc_s)], specQ := lk [(10, qminute_s), (23, dclimate_s), (15, qreport_s), (24, qplace_s)], shape := [52, 59, 78, 90], nowf := true } { nt := 120, drop := drp [(1, 1572864), (2, 6291456), (3, 58720256), (4, 469762048), (5, 3758096384), (6, 270582939648), (7, 274877906944), (8, 69269232549888), (11, 7881299347898368), (13, 9007199254740992), (15, 864691128455135232), (16, 146421031085069565952), (17, 147573952589676412928), (18, 4835408130553337345998848), (20, 9671406556917033397649408), (22, 19342813113834066795298816), (24, 1856910058928070412348686336), (25, 76752282435693577043745701888), (26, 9982748476797306536786537742336), (27, 10141204801825835211973625643008), (28, 1277791805030055236708676831019008), (29, 1327929921570282165996674436198039552)], frz := fun id => cond (Nat.beq id 28) [1000600] [], emp := fun id => cond (Nat.beq id 22) [(1001400, 600, 43, 5)] [] } (noJ) 6 Tryd.f6 [.sl 1 false xs] (.bool true)
set_option maxRecDepth 100000 in
theorem lnone_e (exE : List (List AV) → List (List AV) → Int → Int → Int → Int → Int → Int) (chL : List (List AV) → List (List AV) → Int → Int → Int → Int → Int → List (List AV)) (farV : List (List AV) → List (List AV) → Int → Int → Int → Int → Int → Int → Int) (farB : List (List AV) → List (List AV) → Int → Int → Int → Int → Int → Int → Bool) (lkE : List (List AV) → Int → Int → Int → Int → Int → Int → Int) (lkN : List (List AV) → Int → Int → Int → Int → Int → Int → Nat → Int) (kdP : List AV → Bool) (rgP : List AV → Bool) (cmp3 : Int → Int → Int → Int → Int → Int → Int) : lnone_T exE chL farV farB lkE lkN kdP rgP cmp3 = lnone_S exE chL farV farB lkE lkN kdP rgP cmp3 := by kernel_rfl
theorem lnone_v : lnone_S exE chL farV farB lkE lkN kdP rgP cmp3 := @Eq.mp (lnone_T exE chL farV farB lkE lkN kdP rgP cmp3) (lnone_S exE chL farV farB lkE lkN kdP rgP cmp3) (lnone_e exE chL farV farB lkE lkN kdP rgP cmp3) lnone_P
theorem lnone_ok : SOK Tryd.prog glb 6 lnone_s := by
  refine ⟨fok Tryd.func6 (by kernel_rfl) (by kernel_rfl), ?_⟩
  intro xs pre r h hp
  unfold lnone_s at h
  split at h
  · simp only [Option.some.injEq, Prod.mk.injEq] at h
    obtain ⟨h1, h2⟩ := h
    subst h1 h2
    exact fnK_sound tyNil (by exact specOK rfl rfl ⟨(sawake_ok), (scheck_ok), (cValid_ok), trivial⟩ ⟨(newsrc_ok glb), trivial⟩ (d := qsOf rfl ⟨(qminute_ok glb), (dclimate_ok glb), (qreport_ok glb), (qplace_ok glb), trivial⟩)) (by kernel_rfl) Tryd.func6 rfl (lnone_v  _ hp)
  · cases h
end Go.Proofs.YtceknalhogbbnaaDoor
