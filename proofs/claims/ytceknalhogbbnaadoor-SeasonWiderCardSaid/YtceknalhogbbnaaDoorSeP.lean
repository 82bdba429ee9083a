/- The law about greater spreads. -/
import Derived.Test.YtceknalhogbbnaaDoorSeN
namespace Go.Proofs.YtceknalhogbbnaaDoor
open Go
set_option linter.unusedVariables false
set_option linter.unusedSimpArgs false

theorem in_chL {ys rd : List (List AV)} {f a b c t n : Int} {j : Nat} (h : exE ys rd t f a b c = 0) (hr : RdV n rd) (hj : j < rd.length) : inI (chL ys rd t f a b c) (rE (rd.getD j [])) = rejP ys t f a b c (rd.getD j []) := by
  cases hq : rejP ys t f a b c (rd.getD j []) with
  | true =>
    refine List.any_eq_true.2 ⟨rowE (rd.getD j []), ?_, decide_eq_true rfl⟩
    unfold chL chR
    rw [if_pos h]
    exact List.mem_map.2 ⟨_, List.mem_filter.2 ⟨by rw [gD2 hj]; exact List.getElem_mem hj, hq⟩, rfl⟩
  | false =>
    refine any_no fun i hi => ?_
    obtain ⟨k, hk, e, hr2⟩ := chL_at hi
    rw [e]
    refine decide_eq_false fun q => ?_
    have q : rE (rd.getD k []) = rE (rd.getD j []) := q
    rcases Nat.lt_trichotomy k j with h1 | h1 | h1
    · have := hr.fasc k j h1 hj; omega
    · rw [h1, hq] at hr2; cases hr2
    · have := hr.fasc j k h1 hk; omega
structure LeP2 (xs : List (List AV)) (i : Int) : Prop where
  flo : 0 ≤ i
  fhi : i ≤ xs.length
def rowsC : Option Blk → Option (List (List AV))
  | some (.cells [.sl _ _ xs]) => some xs
  | some (.cells [.frz _ _ _ xs]) => some xs
  | _ => none
/-- Row r' has the key and the mean of r and no smaller spread. -/
structure WiR (r r' : List AV) : Prop where
  fr : ∃ e g q a s s' : Int, r = [.int .i64 e, .int .i64 g, .int .i64 q, .int .i64 a, .int .i64 s] ∧ r' = [.int .i64 e, .int .i64 g, .int .i64 q, .int .i64 a, .int .i64 s'] ∧ (rng .i64 e ∧ rng .i64 g ∧ rng .i64 q ∧ rng .i64 a) ∧ s ≤ s' ∧ s' ≤ s + 100 ∧ 0 ≤ s ∧ s ≤ 20000
theorem look_gen {ys : List (List AV)} {e f a b c t : Int} {k : Nat} (hc : cvE ys = 0) (hv : Vld f a b c) (ht : 0 ≤ t ∧ t ≤ 52595999) (hk : k < ys.length) (hm : mtP e (nrm f a b c).1 (dtM t) (ys.getD k []) = true) : lkE ys e f a b c t = 0 ∧ ∀ n, lkN ys e f a b c t n = nC n (ys.getD k []) := by
  have ho := (cv_zero hc).2.2.2
  have h1 : lkE ys e f a b c t = 0 := by
    unfold lkE
    rw [if_pos hc, if_pos, if_pos (any_yes hk hm)]
    rw [Bool.and_eq_true]
    exact ⟨decide_eq_true hv, decide_eq_true (by omega)⟩
  refine ⟨h1, fun n => ?_⟩
  unfold lkN
  rw [if_pos h1]
  have e2 : ys.findIdx (mtP e (nrm f a b c).1 (dtM t)) = k := by
    refine (List.findIdx_eq hk).2 ⟨by rw [← gD2 hk]; exact hm, fun j hj => ?_⟩
    cases hq : mtP e (nrm f a b c).1 (dtM t) ys[j] with
    | false => rfl
    | true =>
      have hl := ord_lt ho j k hj hk
      rw [gD2 (by omega)] at hl
      have q1 := of_decide_eq_true hq
      have q2 := of_decide_eq_true hm
      unfold cmpR at hl
      rw [q1.1, q1.2.1, q1.2.2, q2.1, q2.2.1, q2.2.2, cmp3_neg] at hl
      omega
  rw [e2]
theorem rej_wider {ys zs : List (List AV)} {f a b c t : Int} {r : List AV} (zl : zs.length = ys.length) (hw : ∀ k, k < ys.length → WiR (ys.getD k []) (zs.getD k [])) (hy : cvE ys = 0) (hz : cvE zs = 0) (hv : Vld f a b c) (ht : 0 ≤ t ∧ t ≤ 52595999) (h : rejP zs t f a b c r = true) : rejP ys t f a b c r = true := by
  have h0 := of_decide_eq_true h
  have hany : zs.any (mtP (rE r) (nrm f a b c).1 (dtM t)) = true := by
    have h1 := h0.1
    unfold lkE at h1
    rw [if_pos hz] at h1
    split at h1
    · split at h1
      · assumption
      · omega
    · omega
  obtain ⟨x, hx, hm⟩ := List.any_eq_true.1 hany
  obtain ⟨k, hk, h5⟩ := List.mem_iff_getElem.1 hx
  rw [← h5, ← gD2 hk] at hm
  obtain ⟨e, g, q, u, s, s', e1, e2, _, hs, _⟩ := (hw k (by omega)).fr
  have hm' : mtP (rE r) (nrm f a b c).1 (dtM t) (ys.getD k []) = true := by rw [e1]; rw [e2] at hm; exact hm
  obtain ⟨a1, a2⟩ := look_gen hz hv ht hk hm
  obtain ⟨b1, b2⟩ := look_gen hy hv ht (by omega) hm'
  have h2 := h0.2
  rw [a2, a2, e2] at h2
  refine decide_eq_true ⟨b1, ?_⟩
  rw [b2, b2, e1]
  have h2 : s' < max (rV r - u) (u - rV r) := h2
  show s < max (rV r - u) (u - rV r)
  omega
structure WiP1 (ys : List (List AV)) (x : Int × Int × List (List AV)) : Prop where
  flo : 0 ≤ x.1
  fhi : x.1 ≤ ys.length
  fj : 0 ≤ x.2.1
  fl : x.2.2.length = ys.length
  fz : ∀ k, k < ys.length → WiR (ys.getD k []) (x.2.2.getD k []) ∧ (x.1 ≤ k → x.2.2.getD k [] = ys.getD k [])
structure WiP2 (x : Int × Int) : Prop where
  flo : 0 ≤ x.1
  fhi : x.1 ≤ 4
  fj : 0 ≤ x.2
def wi1I (xs : List (List AV)) (m : Int) (ys : List (List AV)) : LInv := ⟨Int × Int × List (List AV), fun x => ⟨[(3, .ptr 18 0), (4, .int .i64 m), (5, .ptr 5 0), (6, .ptr 6 0), (31, .int .i64 ys.length), (32, .int .i64 x.1)], [(18, .cells [.sl 1 false xs, .int .i64 x.2.1]), (5, .cells [.sl 5 false ys]), (6, .cells [.rw 24 5 ys.length]), (24, .row 43 5 x.2.2)]⟩, WiP1 ys, fun x => (ys.length - x.1).toNat, none⟩
def wi2I (xs : List (List AV)) (m : Int) (ys zs : List (List AV)) : LInv := ⟨Int × Int, fun x => ⟨[(3, .ptr 18 0), (4, .int .i64 m), (5, .ptr 5 0), (6, .ptr 6 0), (8, .int .i64 x.1)], [(18, .cells [.sl 1 false xs, .int .i64 x.2]), (5, .cells [.sl 5 false ys]), (6, .cells [.sl 5 false zs])]⟩, WiP2, fun x => (4 - x.1).toNat, none⟩
def wi3I (xs : List (List AV)) (m j i : Int) (ys zs La Lb : List (List AV)) : LInv := ⟨Int, fun q => ⟨[(3, .ptr 18 0), (4, .int .i64 m), (5, .ptr 5 0), (6, .ptr 6 0), (8, .int .i64 i), (11, .sl 1 false La), (98, .sl 1 false Lb), (99, .int .i64 Lb.length), (100, .int .i64 q)], [(18, .cells [.sl 1 false xs, .int .i64 j]), (5, .cells [.sl 5 false ys]), (6, .cells [.sl 5 false zs])]⟩, LeP2 Lb, fun q => (Lb.length - q).toNat, none⟩
def wiJ (id : Nat) (st : St) : Option LInv := match lk st.tmps 4, lk st.heap 18, rowsC (lk st.heap 5) with
  | some (.int _ m), some (.cells [.sl _ _ xs, .int _ j]), some ys =>
    cond (Nat.beq id 6) (some (wi1I xs m ys)) (match rowsC (lk st.heap 6) with
    | some zs => cond (Nat.beq id 11) (some (wi2I xs m ys zs)) (cond (Nat.beq id 23) (match lk st.tmps 8, lk st.tmps 11, lk st.tmps 98 with
      | some (.int _ i), some (.sl _ _ La), some (.sl _ _ Lb) => some (wi3I xs m j i ys zs La Lb)
      | _, _, _ => none) none)
    | _ => none)
  | _, _, _ => none
def lwider_s (exE : List (List AV) → List (List AV) → Int → Int → Int → Int → Int → Int) (chL : List (List AV) → List (List AV) → Int → Int → Int → Int → Int → List (List AV)) (cvE : List (List AV) → Int) : Sp
  | [.sl 1 false xs] => some (IntsA xs, .bool true)
  | _ => none
set_option maxRecDepth 100000 in
def lwider_T (exE : List (List AV) → List (List AV) → Int → Int → Int → Int → Int → Int) (chL : List (List AV) → List (List AV) → Int → Int → Int → Int → Int → List (List AV)) (cvE : List (List AV) → Int) : Prop :=
  ∀ (xs : List (List AV)), (∀ (x : List AV), List.Mem x xs → ∃ n, x = [AV.int IntKind.i64 n] ∧ rng IntKind.i64 n) → True → True ∧ SrcQ (List.take (2000 : Nat) xs) (0 : Int) ∧ ∀ (m j
  : Int), MinQ m j → (SrcQ (List.take (2000 : Nat) xs) j ∧ (0 : Int) ≤ m ∧ m ≤ (52595999 : Int)) ∧ ∀ (ys : List (List AV)) (j : Int), CliQ ys j → bif decide ((0 : Nat) = (0 : Nat) ∧
  (0 : Nat) + ys.length ≤ (9223372036854775807 : Nat) ∧ ((0 : Nat) + ys.length) * (40 : Nat) ≤ (140737488355328 : Nat)) then (∃ x, WiP1 ys x ∧ ((0 : Nat) = (0 : Nat) ∧ m = m ∧ (0 :
  Nat) = (0 : Nat) ∧ (0 : Nat) = (0 : Nat) ∧ (↑([] ++ ys).length : Int) = (↑ys.length : Int) ∧ (0 : Int) = x.fst ∧ True) ∧ ((True ∧ List.take (2000 : Nat) xs = List.take (2000 : Nat)
  xs) ∧ j = x.snd.fst ∧ True) ∧ ((True ∧ ys = ys) ∧ True) ∧ (([] ++ ys).length = ys.length ∧ True) ∧ [] ++ ys = x.snd.snd ∧ True) ∧ ∀ (x : Int × Int × List (List AV)), WiP1 ys x →
  bif decide (x.fst < (↑ys.length : Int)) then bif decide ((0 : Int) ≤ x.fst ∧ x.fst < (↑ys.length : Int)) then bif decide (ys.length = x.snd.snd.length ∧ x.fst.toNat <
  x.snd.snd.length) then ∃ n, List.take [AV.int IntKind.i64 n].length (List.drop (4 : Nat) (x.snd.snd.getD x.fst.toNat [])) = [AV.int IntKind.i64 n] ∧ SrcQ (List.take (2000 : Nat)
  xs) x.snd.fst ∧ ∀ (v j : Int), NumQ (100 : Int) v j → bif decide (rng IntKind.i64 (n + v)) then bif decide ((0 : Int) ≤ x.fst ∧ x.fst < (↑ys.length : Int)) then bif decide
  (ys.length = x.snd.snd.length ∧ x.fst.toNat < x.snd.snd.length) then bif decide (rng IntKind.i64 (x.fst + (1 : Int))) then ∃ y, WiP1 ys y ∧ (wi1I (List.take (2000 : Nat) xs) m
  ys).m y < (wi1I (List.take (2000 : Nat) xs) m ys).m x ∧ ((0 : Nat) = (0 : Nat) ∧ m = m ∧ (0 : Nat) = (0 : Nat) ∧ (0 : Nat) = (0 : Nat) ∧ (↑ys.length : Int) = (↑ys.length : Int) ∧
  x.fst + (1 : Int) = y.fst ∧ True) ∧ ((True ∧ List.take (2000 : Nat) xs = List.take (2000 : Nat) xs) ∧ j = y.snd.fst ∧ True) ∧ ((True ∧ ys = ys) ∧ True) ∧ (ys.length = ys.length ∧
  True) ∧ setEl x.snd.snd x.fst.toNat (4 : Nat) [AV.int IntKind.i64 (n + v)] = y.snd.snd ∧ True else False else False else False else False else False else False else (∃ x_1, WiP2
  x_1 ∧ ((0 : Nat) = (0 : Nat) ∧ m = m ∧ (0 : Nat) = (0 : Nat) ∧ (0 : Nat) = (0 : Nat) ∧ (0 : Int) = x_1.fst ∧ True) ∧ ((True ∧ List.take (2000 : Nat) xs = List.take (2000 : Nat) xs)
  ∧ x.snd.fst = x_1.snd ∧ True) ∧ ((True ∧ ys = ys) ∧ True) ∧ ((ys.length = x.snd.snd.length ∧ x.snd.snd = x.snd.snd) ∧ True) ∧ True) ∧ ∀ (x_1 : Int × Int), WiP2 x_1 → bif decide
  (x_1.fst < (4 : Int)) then (SrcQ (List.take (2000 : Nat) xs) x_1.snd ∧ (0 : Int) ≤ m ∧ m ≤ (52595999 : Int)) ∧ ∀ (k : Int) (nm : ByteArray) (t f a b c : Int) (ys_1 : List (List
  AV)) (j : Int), RepQ k nm t f a b c ys_1 j → SrcQ (List.take (2000 : Nat) xs) j ∧ ∀ (f a b c j : Int), PlaQ f a b c j → bif decide ((0 : Int) < (↑ys.length : Int)) then SrcQ
  (List.take (2000 : Nat) xs) j ∧ ∀ (v j : Int), NumQ (↑ys.length : Int) v j → bif decide ((0 : Int) ≤ v ∧ v < (↑ys.length : Int)) then ∃ n n_1 n_2 n_3 n_4, List.take [AV.int
  IntKind.i64 n, AV.int IntKind.i64 n_1, AV.int IntKind.i64 n_2, AV.int IntKind.i64 n_3, AV.int IntKind.i64 n_4].length (ys.getD v.toNat []) = [AV.int IntKind.i64 n, AV.int
  IntKind.i64 n_1, AV.int IntKind.i64 n_2, AV.int IntKind.i64 n_3, AV.int IntKind.i64 n_4] ∧ (NrsP ys ∧ RdsP ys_1) ∧ (NrsP x.snd.snd ∧ RdsP ys_1) ∧ bif decide
  ¬YtceknalhogbbnaaDoor.exE ys ys_1 t n_1 (280 : Int) (280 : Int) (280 : Int) = (0 : Int) then NrsP x.snd.snd ∧ bif decide ¬YtceknalhogbbnaaDoor.cvE x.snd.snd = (0 : Int) then True ∧
  true = true else false = true else bif decide ¬YtceknalhogbbnaaDoor.exE x.snd.snd ys_1 t n_1 (280 : Int) (280 : Int) (280 : Int) = (0 : Int) then NrsP x.snd.snd ∧ bif decide
  ¬YtceknalhogbbnaaDoor.cvE x.snd.snd = (0 : Int) then True ∧ true = true else false = true else (∃ x_2, LeP2 (YtceknalhogbbnaaDoor.chL x.snd.snd ys_1 t n_1 (280 : Int) (280 : Int)
  (280 : Int)) x_2 ∧ ((0 : Nat) = (0 : Nat) ∧ m = m ∧ (0 : Nat) = (0 : Nat) ∧ (0 : Nat) = (0 : Nat) ∧ x_1.fst = x_1.fst ∧ (True ∧ YtceknalhogbbnaaDoor.chL ys ys_1 t n_1 (280 : Int)
  (280 : Int) (280 : Int) = YtceknalhogbbnaaDoor.chL ys ys_1 t n_1 (280 : Int) (280 : Int) (280 : Int)) ∧ (True ∧ YtceknalhogbbnaaDoor.chL x.snd.snd ys_1 t n_1 (280 : Int) (280 :
  Int) (280 : Int) = YtceknalhogbbnaaDoor.chL x.snd.snd ys_1 t n_1 (280 : Int) (280 : Int) (280 : Int)) ∧ (↑(YtceknalhogbbnaaDoor.chL x.snd.snd ys_1 t n_1 (280 : Int) (280 : Int)
  (280 : Int)).length : Int) = (↑(YtceknalhogbbnaaDoor.chL x.snd.snd ys_1 t n_1 (280 : Int) (280 : Int) (280 : Int)).length : Int) ∧ (0 : Int) = x_2 ∧ True) ∧ ((True ∧ List.take
  (2000 : Nat) xs = List.take (2000 : Nat) xs) ∧ j = j ∧ True) ∧ ((True ∧ ys = ys) ∧ True) ∧ ((True ∧ x.snd.snd = x.snd.snd) ∧ True) ∧ True) ∧ ∀ (x_2 : Int), LeP2
  (YtceknalhogbbnaaDoor.chL x.snd.snd ys_1 t n_1 (280 : Int) (280 : Int) (280 : Int)) x_2 → bif decide (x_2 < (↑(YtceknalhogbbnaaDoor.chL x.snd.snd ys_1 t n_1 (280 : Int) (280 : Int)
  (280 : Int)).length : Int)) then bif decide ((0 : Int) ≤ x_2 ∧ x_2 < (↑(YtceknalhogbbnaaDoor.chL x.snd.snd ys_1 t n_1 (280 : Int) (280 : Int) (280 : Int)).length : Int)) then ∃ n,
  List.take [AV.int IntKind.i64 n].length ((YtceknalhogbbnaaDoor.chL x.snd.snd ys_1 t n_1 (280 : Int) (280 : Int) (280 : Int)).getD x_2.toNat []) = [AV.int IntKind.i64 n] ∧ (IntsB
  (YtceknalhogbbnaaDoor.chL ys ys_1 t n_1 (280 : Int) (280 : Int) (280 : Int)) ∧ Ln (YtceknalhogbbnaaDoor.chL ys ys_1 t n_1 (280 : Int) (280 : Int) (280 : Int))) ∧ bif !inI
  (YtceknalhogbbnaaDoor.chL ys ys_1 t n_1 (280 : Int) (280 : Int) (280 : Int)) n then false = true else bif decide (rng IntKind.i64 (x_2 + (1 : Int))) then ∃ y, LeP2
  (YtceknalhogbbnaaDoor.chL x.snd.snd ys_1 t n_1 (280 : Int) (280 : Int) (280 : Int)) y ∧ (wi3I (List.take (2000 : Nat) xs) m j x_1.fst ys x.snd.snd (YtceknalhogbbnaaDoor.chL ys ys_1
  t n_1 (280 : Int) (280 : Int) (280 : Int)) (YtceknalhogbbnaaDoor.chL x.snd.snd ys_1 t n_1 (280 : Int) (280 : Int) (280 : Int))).m y < (wi3I (List.take (2000 : Nat) xs) m j x_1.fst
  ys x.snd.snd (YtceknalhogbbnaaDoor.chL ys ys_1 t n_1 (280 : Int) (280 : Int) (280 : Int)) (YtceknalhogbbnaaDoor.chL x.snd.snd ys_1 t n_1 (280 : Int) (280 : Int) (280 : Int))).m x_2
  ∧ ((0 : Nat) = (0 : Nat) ∧ m = m ∧ (0 : Nat) = (0 : Nat) ∧ (0 : Nat) = (0 : Nat) ∧ x_1.fst = x_1.fst ∧ (True ∧ YtceknalhogbbnaaDoor.chL ys ys_1 t n_1 (280 : Int) (280 : Int) (280 :
  Int) = YtceknalhogbbnaaDoor.chL ys ys_1 t n_1 (280 : Int) (280 : Int) (280 : Int)) ∧ (True ∧ YtceknalhogbbnaaDoor.chL x.snd.snd ys_1 t n_1 (280 : Int) (280 : Int) (280 : Int) =
  YtceknalhogbbnaaDoor.chL x.snd.snd ys_1 t n_1 (280 : Int) (280 : Int) (280 : Int)) ∧ (↑(YtceknalhogbbnaaDoor.chL x.snd.snd ys_1 t n_1 (280 : Int) (280 : Int) (280 : Int)).length :
  Int) = (↑(YtceknalhogbbnaaDoor.chL x.snd.snd ys_1 t n_1 (280 : Int) (280 : Int) (280 : Int)).length : Int) ∧ x_2 + (1 : Int) = y ∧ True) ∧ ((True ∧ List.take (2000 : Nat) xs =
  List.take (2000 : Nat) xs) ∧ j = j ∧ True) ∧ ((True ∧ ys = ys) ∧ True) ∧ ((True ∧ x.snd.snd = x.snd.snd) ∧ True) ∧ True else False else False else bif decide (rng IntKind.i64
  (x_1.fst + (1 : Int))) then ∃ y, WiP2 y ∧ (wi2I (List.take (2000 : Nat) xs) m ys x.snd.snd).m y < (wi2I (List.take (2000 : Nat) xs) m ys x.snd.snd).m x_1 ∧ ((0 : Nat) = (0 : Nat) ∧
  m = m ∧ (0 : Nat) = (0 : Nat) ∧ (0 : Nat) = (0 : Nat) ∧ x_1.fst + (1 : Int) = y.fst ∧ True) ∧ ((True ∧ List.take (2000 : Nat) xs = List.take (2000 : Nat) xs) ∧ j = y.snd ∧ True) ∧
  ((True ∧ ys = ys) ∧ True) ∧ ((True ∧ x.snd.snd = x.snd.snd) ∧ True) ∧ True else False else False else (NrsP ys ∧ RdsP ys_1) ∧ (NrsP x.snd.snd ∧ RdsP ys_1) ∧ bif decide
  ¬YtceknalhogbbnaaDoor.exE ys ys_1 t f a b c = (0 : Int) then NrsP x.snd.snd ∧ bif decide ¬YtceknalhogbbnaaDoor.cvE x.snd.snd = (0 : Int) then True ∧ true = true else false = true
  else bif decide ¬YtceknalhogbbnaaDoor.exE x.snd.snd ys_1 t f a b c = (0 : Int) then NrsP x.snd.snd ∧ bif decide ¬YtceknalhogbbnaaDoor.cvE x.snd.snd = (0 : Int) then True ∧ true =
  true else false = true else (∃ x_2, LeP2 (YtceknalhogbbnaaDoor.chL x.snd.snd ys_1 t f a b c) x_2 ∧ ((0 : Nat) = (0 : Nat) ∧ m = m ∧ (0 : Nat) = (0 : Nat) ∧ (0 : Nat) = (0 : Nat) ∧
  x_1.fst = x_1.fst ∧ (True ∧ YtceknalhogbbnaaDoor.chL ys ys_1 t f a b c = YtceknalhogbbnaaDoor.chL ys ys_1 t f a b c) ∧ (True ∧ YtceknalhogbbnaaDoor.chL x.snd.snd ys_1 t f a b c =
  YtceknalhogbbnaaDoor.chL x.snd.snd ys_1 t f a b c) ∧ (↑(YtceknalhogbbnaaDoor.chL x.snd.snd ys_1 t f a b c).length : Int) = (↑(YtceknalhogbbnaaDoor.chL x.snd.snd ys_1 t f a b
  c).length : Int) ∧ (0 : Int) = x_2 ∧ True) ∧ ((True ∧ List.take (2000 : Nat) xs = List.take (2000 : Nat) xs) ∧ j = j ∧ True) ∧ ((True ∧ ys = ys) ∧ True) ∧ ((True ∧ x.snd.snd =
  x.snd.snd) ∧ True) ∧ True) ∧ ∀ (x_2 : Int), LeP2 (YtceknalhogbbnaaDoor.chL x.snd.snd ys_1 t f a b c) x_2 → bif decide (x_2 < (↑(YtceknalhogbbnaaDoor.chL x.snd.snd ys_1 t f a b
  c).length : Int)) then bif decide ((0 : Int) ≤ x_2 ∧ x_2 < (↑(YtceknalhogbbnaaDoor.chL x.snd.snd ys_1 t f a b c).length : Int)) then ∃ n, List.take [AV.int IntKind.i64 n].length
  ((YtceknalhogbbnaaDoor.chL x.snd.snd ys_1 t f a b c).getD x_2.toNat []) = [AV.int IntKind.i64 n] ∧ (IntsB (YtceknalhogbbnaaDoor.chL ys ys_1 t f a b c) ∧ Ln
  (YtceknalhogbbnaaDoor.chL ys ys_1 t f a b c)) ∧ bif !inI (YtceknalhogbbnaaDoor.chL ys ys_1 t f a b c) n then false = true else bif decide (rng IntKind.i64 (x_2 + (1 : Int))) then ∃
  y, LeP2 (YtceknalhogbbnaaDoor.chL x.snd.snd ys_1 t f a b c) y ∧ (wi3I (List.take (2000 : Nat) xs) m j x_1.fst ys x.snd.snd (YtceknalhogbbnaaDoor.chL ys ys_1 t f a b c)
  (YtceknalhogbbnaaDoor.chL x.snd.snd ys_1 t f a b c)).m y < (wi3I (List.take (2000 : Nat) xs) m j x_1.fst ys x.snd.snd (YtceknalhogbbnaaDoor.chL ys ys_1 t f a b c)
  (YtceknalhogbbnaaDoor.chL x.snd.snd ys_1 t f a b c)).m x_2 ∧ ((0 : Nat) = (0 : Nat) ∧ m = m ∧ (0 : Nat) = (0 : Nat) ∧ (0 : Nat) = (0 : Nat) ∧ x_1.fst = x_1.fst ∧ (True ∧
  YtceknalhogbbnaaDoor.chL ys ys_1 t f a b c = YtceknalhogbbnaaDoor.chL ys ys_1 t f a b c) ∧ (True ∧ YtceknalhogbbnaaDoor.chL x.snd.snd ys_1 t f a b c = YtceknalhogbbnaaDoor.chL
  x.snd.snd ys_1 t f a b c) ∧ (↑(YtceknalhogbbnaaDoor.chL x.snd.snd ys_1 t f a b c).length : Int) = (↑(YtceknalhogbbnaaDoor.chL x.snd.snd ys_1 t f a b c).length : Int) ∧ x_2 + (1 :
  Int) = y ∧ True) ∧ ((True ∧ List.take (2000 : Nat) xs = List.take (2000 : Nat) xs) ∧ j = j ∧ True) ∧ ((True ∧ ys = ys) ∧ True) ∧ ((True ∧ x.snd.snd = x.snd.snd) ∧ True) ∧ True else
  False else False else bif decide (rng IntKind.i64 (x_1.fst + (1 : Int))) then ∃ y, WiP2 y ∧ (wi2I (List.take (2000 : Nat) xs) m ys x.snd.snd).m y < (wi2I (List.take (2000 : Nat)
  xs) m ys x.snd.snd).m x_1 ∧ ((0 : Nat) = (0 : Nat) ∧ m = m ∧ (0 : Nat) = (0 : Nat) ∧ (0 : Nat) = (0 : Nat) ∧ x_1.fst + (1 : Int) = y.fst ∧ True) ∧ ((True ∧ List.take (2000 : Nat)
  xs = List.take (2000 : Nat) xs) ∧ j = y.snd ∧ True) ∧ ((True ∧ ys = ys) ∧ True) ∧ ((True ∧ x.snd.snd = x.snd.snd) ∧ True) ∧ True else False else True ∧ true = true else False
set_option maxRecDepth 100000 in
theorem lwider_P : lwider_T exE chL cvE := by
  unfold lwider_T
  intro xs hz0 _
  have hz : IntsA xs := hz0
  have hs : SrcI (List.take 2000 xs) := SrcI.take hz
  clear hz hz0
  refine ⟨trivial, ⟨hs, by decide⟩, fun m j q1 => ⟨⟨⟨hs, q1.fj⟩, q1.fm⟩, fun ys j q2 => ?_⟩⟩
  have hl := q2.fl
  have hr0 : ∀ k, k < ys.length → WiR (ys.getD k []) (ys.getD k []) := by
    intro k hk
    obtain ⟨e, g, q, a, s, he, r1, r2, r3, r4, r5⟩ := q2.fp.fr k hk
    have hb : rgP (ys.getD k []) = false := by
      have := (cv_zero q2.fc).2.2.1
      cases hp : rgP (ys.getD k []) with
      | false => rfl
      | true => rw [any_yes hk hp] at this; cases this
    rw [he] at hb
    have hb : (!rgB g q a s) = false := hb
    have hb : rgB g q a s = true := by cases h : rgB g q a s with
      | true => rfl
      | false => rw [h] at hb; cases hb
    have hb := of_decide_eq_true hb
    rw [he]
    exact ⟨e, g, q, a, s, s, rfl, rfl, ⟨r1, r2, r3, r4⟩, by omega, by omega, by omega, by omega⟩
  refine cd1 ⟨rfl, by omega, by omega⟩ ⟨⟨(0, j, ys), ⟨by simp, by simp, q2.fj, rfl, fun k hk => ⟨hr0 k hk, fun _ => rfl⟩⟩, ⟨rfl, rfl, rfl, rfl, rfl, rfl, trivial⟩, ⟨⟨trivial, rfl⟩, rfl, trivial⟩, ⟨⟨trivial, rfl⟩, trivial⟩, ⟨rfl, trivial⟩, rfl, trivial⟩, ?_⟩
  rintro ⟨i, j, zs⟩ ⟨i0, i1, hj, zl, hz⟩
  simp only at i0 i1 hj zl hz
  dsimp only
  refine cs (fun hi => cd1 (by omega) (cd1 (by omega) ?_)) (fun hi => ?_)
  · have hik : i.toNat < zs.length := by omega
    obtain ⟨hw, h0⟩ := hz i.toNat (by omega)
    have e0 := h0 (by omega)
    obtain ⟨e, g, q, a, s, s', h1, h2, h3, h4, h5, h6, h7⟩ := hw.fr
    have h1' := e0.trans h1
    refine ⟨s, by rw [h1']; rfl, ⟨hs, hj⟩, fun v j q3 => ?_⟩
    have hv := q3.fv (by omega)
    have e1 : setEl zs i.toNat 4 [.int .i64 (s + v)] = zs.set i.toNat [.int .i64 e, .int .i64 g, .int .i64 q, .int .i64 a, .int .i64 (s + v)] := by unfold setEl; rw [h1']; rfl
    refine cdI (by omega) (cd1 (by omega) (cd1 (by omega) (cdI (by omega) ⟨(i + 1, j, setEl zs i.toNat 4 [.int .i64 (s + v)]), ⟨by simp only; omega, by simp only; omega, q3.fj, (List.length_set ..).trans zl, fun k hk => ?_⟩, by simp only [wi1I]; omega, ⟨rfl, rfl, rfl, rfl, rfl, rfl, trivial⟩, ⟨⟨trivial, rfl⟩, rfl, trivial⟩, ⟨⟨trivial, rfl⟩, trivial⟩, ⟨rfl, trivial⟩, rfl, trivial⟩)))
    simp only
    rw [e1, gD_set hik]
    by_cases hki : k = i.toNat
    · rw [if_pos hki]
      refine ⟨?_, fun hh => by omega⟩
      rw [hki, h1]
      exact ⟨e, g, q, a, s, s + v, rfl, rfl, h3, by omega, by omega, h6, h7⟩
    · rw [if_neg hki]
      exact ⟨(hz k hk).1, fun hh => (hz k hk).2 (by omega)⟩
  have hnz : NrsP zs := by
    refine ⟨fun k hk => ?_, by omega⟩
    obtain ⟨e, g, q, a, s, s', h1, h2, h3, h4, h5, h6, h7⟩ := (hz k (by omega)).1.fr
    exact ⟨e, g, q, a, s', h2, h3.1, h3.2.1, h3.2.2.1, h3.2.2.2, by show _ ∧ _; omega⟩
  have hh : ∀ j : Int, ((True ∧ List.take 2000 xs = List.take 2000 xs) ∧ j = j ∧ True) ∧ ((True ∧ ys = ys) ∧ True) ∧ ((True ∧ zs = zs) ∧ True) ∧ True := fun j => ⟨⟨⟨trivial, rfl⟩, rfl, trivial⟩, ⟨⟨trivial, rfl⟩, trivial⟩, ⟨⟨trivial, rfl⟩, trivial⟩, trivial⟩
  refine ⟨⟨(0, j), ⟨by simp, by simp, hj⟩, ⟨rfl, rfl, rfl, rfl, rfl, trivial⟩, ⟨⟨trivial, rfl⟩, rfl, trivial⟩, ⟨⟨trivial, rfl⟩, trivial⟩, ⟨⟨zl.symm, rfl⟩, trivial⟩, trivial⟩, ?_⟩
  clear hj
  rintro ⟨i, j⟩ ⟨j0, j1, hj⟩
  simp only at j0 j1 hj
  dsimp only
  refine cs (fun hi4 => ⟨⟨⟨hs, hj⟩, q1.fm⟩, fun k nm t f0 a0 b0 c0 rd j q3 => ⟨⟨hs, q3.fj⟩, fun f a b c j q4 => ?_⟩⟩) (fun _ => ⟨trivial, rfl⟩)
  clear hj
  obtain ⟨hrd, hvd⟩ := rdV_ok q3.fr
  refine cs (fun hlen => ⟨⟨hs, q4.fj⟩, fun v j q5 => ?_⟩) (fun hlen => ?_)
  · have hv := q5.fv (by omega)
    have hj := q5.fj
    obtain ⟨e, g, q, u, s, s', h1, h2, h3, h4, h5, h6, h7⟩ := (hz v.toNat (by omega)).1.fr
    have V : Vld g 280 280 280 := by
      have hb : rgP (ys.getD v.toNat []) = false := by
        have := (cv_zero q2.fc).2.2.1
        cases hp : rgP (ys.getD v.toNat []) with
        | false => rfl
        | true => rw [any_yes (by omega) hp] at this; cases this
      rw [h1] at hb
      have hb : (!rgB g q u s) = false := hb
      have hb : rgB g q u s = true := by cases h : rgB g q u s with
        | true => rfl
        | false => rw [h] at hb; cases hb
      have hb := of_decide_eq_true hb
      exact ⟨hb.1, by decide, by decide, by decide, by decide⟩
    refine cd1 (by omega) ⟨e, g, q, u, s, by rw [h1]; rfl, ?_⟩
    have hey := ex_ok q2.fc hvd V q3.ft
    refine ⟨⟨q2.fp, hrd⟩, ⟨hnz, hrd⟩, cs (fun q => absurd hey q) (fun _ => cs (fun q => ⟨hnz, cs (fun _ => ⟨trivial, rfl⟩) (fun w => absurd (ex_ok (Decidable.not_not.1 w) hvd V q3.ft) q)⟩) (fun hez => ⟨⟨0, ⟨by decide, by omega⟩, ⟨rfl, rfl, rfl, rfl, rfl, ⟨trivial, rfl⟩, ⟨trivial, rfl⟩, rfl, rfl, trivial⟩, hh _⟩, ?_⟩))⟩
    have hez := Decidable.not_not.1 hez
    rintro q ⟨h0, h1⟩
    have hLl := (chL_ints (xs := zs) (t := t) (f := g) (a := 280) (b := 280) (c := 280) hrd).2.fl
    refine cs (fun hq => cd1 (by omega) ⟨_, intsB_at (chL_ints hrd).1 (by omega), chL_ints hrd, csplit (fun w => ?_) (fun _ => cdI (by omega) ⟨q + 1, ⟨by omega, by omega⟩, by simp only [wi3I]; omega, ⟨rfl, rfl, rfl, rfl, rfl, ⟨trivial, rfl⟩, ⟨trivial, rfl⟩, rfl, rfl, trivial⟩, hh _⟩)⟩) (fun _ => cdI (by omega) ⟨(i + 1, _), ⟨by simp only; omega, by simp only; omega, hj⟩, by simp only [wi2I]; omega, ⟨rfl, rfl, rfl, rfl, rfl, trivial⟩, hh _⟩)
    exfalso
    have hq' : q.toNat < (chL zs rd t g 280 280 280).length := by omega
    obtain ⟨kk, hkk, e, hr⟩ := chL_at hq'
    rw [e] at w
    have w : (!inI (chL ys rd t g 280 280 280) (rE (rd.getD kk []))) = true := w
    rw [in_chL hey q3.fr hkk, rej_wider zl (fun k hk => (hz k hk).1) q2.fc (ex_zero hez).1 V q3.ft hr] at w
    cases w
  · have hj := q4.fj
    have hey := ex_ok q2.fc hvd q4.fv q3.ft
    refine ⟨⟨q2.fp, hrd⟩, ⟨hnz, hrd⟩, cs (fun q => absurd hey q) (fun _ => cs (fun q => ⟨hnz, cs (fun _ => ⟨trivial, rfl⟩) (fun w => absurd (ex_ok (Decidable.not_not.1 w) hvd q4.fv q3.ft) q)⟩) (fun hez => ⟨⟨0, ⟨by decide, by omega⟩, ⟨rfl, rfl, rfl, rfl, rfl, ⟨trivial, rfl⟩, ⟨trivial, rfl⟩, rfl, rfl, trivial⟩, hh _⟩, ?_⟩))⟩
    have hez := Decidable.not_not.1 hez
    rintro q ⟨h0, h1⟩
    have hLl := (chL_ints (xs := zs) (t := t) (f := f) (a := a) (b := b) (c := c) hrd).2.fl
    refine cs (fun hq => cd1 (by omega) ⟨_, intsB_at (chL_ints hrd).1 (by omega), chL_ints hrd, csplit (fun w => ?_) (fun _ => cdI (by omega) ⟨q + 1, ⟨by omega, by omega⟩, by simp only [wi3I]; omega, ⟨rfl, rfl, rfl, rfl, rfl, ⟨trivial, rfl⟩, ⟨trivial, rfl⟩, rfl, rfl, trivial⟩, hh _⟩)⟩) (fun _ => cdI (by omega) ⟨(i + 1, _), ⟨by simp only; omega, by simp only; omega, hj⟩, by simp only [wi2I]; omega, ⟨rfl, rfl, rfl, rfl, rfl, trivial⟩, hh _⟩)
    exfalso
    have hq' : q.toNat < (chL zs rd t f a b c).length := by omega
    obtain ⟨kk, hkk, e, hr⟩ := chL_at hq'
    rw [e] at w
    have w : (!inI (chL ys rd t f a b c) (rE (rd.getD kk []))) = true := w
    rw [in_chL hey q3.fr hkk, rej_wider zl (fun k hk => (hz k hk).1) q2.fc (ex_zero hez).1 q4.fv q3.ft hr] at w
    cases w
def lwider_S (exE : List (List AV) → List (List AV) → Int → Int → Int → Int → Int → Int) (chL : List (List AV) → List (List AV) → Int → Int → Int → Int → Int → List (List AV)) (cvE : List (List AV) → Int) : Prop := ∀ (xs : List (List AV)), IntsA xs → fnK Tryd.prog { glob := glb, spec := lk [(8, (sawake_s Go.Proofs.YtceknalhogbbnaaDoor.exE Go.Proofs.YtceknalhogbbnaaDoor.chL Go.Proofs.YtceknalhogbbnaaDoor.farV Go.Proofs.YtceknalhogbbnaaDoor.farB)), (17, (scheck_s Go.Proofs.YtceknalhogbbnaaDoor.exE Go.Proofs.YtceknalhogbbnaaDoor.lkE Go.Proofs.YtceknalhogbbnaaDoor.lkN)), (22, kin_s), (25, (rcValid_s Go.Proofs.YtceknalhogbbnaaDoor.cmp3 Go.Proofs.YtceknalhogbbnaaDoor.iL Go.Proofs.YtceknalhogbbnaaDoor.inLo Go.Proofs.YtceknalhogbbnaaDoor.inHi Go.Proofs.YtceknalhogbbnaaDoor.inD Go.Proofs.YtceknalhogbbnaaDoor.inE))], specH := lk [(9, newsrc_s)], specQ := lk [(13, qn_s), (10, qminute_s), (23, dclimate_s), (15, qreport_s), (24, qplace_s)], shape := [40, 69, 103], nowf := true } { nt := 110, drop := drp [(1, 393216), (2, 1572864), (3, 14680064), (4, 520093696), (5, 1610612736), (7, 17179869184), (8, 70334384439296), (9, 70368744177664), (11, 140737488355328), (12, 1688849860263936), (13, 15762598695796736), (14, 126100789566373888), (15, 1008806316530991104), (16, 1178285777708197609472), (17, 17708874310761169551360), (18, 1190036353683150593851392), (19, 76162326635721638006489088), (20, 2398508826115424282617053184), (21, 311960889899915829274579304448), (24, 15211807202738752817960438464512), (25, 141976867225561692967630759002112), (27, 324518553658426726783156020576256), (28, 649037107316853453566312041152512)], frz := fun id => cond (Nat.beq id 10) [1000024] [] } (wiJ) 6 Tryd.f5 [.sl 1 false xs] (.bool true)
set_option maxRecDepth 100000 in
theorem lwider_e (exE : List (List AV) → List (List AV) → Int → Int → Int → Int → Int → Int) (chL : List (List AV) → List (List AV) → Int → Int → Int → Int → Int → List (List AV)) (cvE : List (List AV) → Int) : lwider_T exE chL cvE = lwider_S exE chL cvE := by kernel_rfl
theorem lwider_v : lwider_S exE chL cvE := @Eq.mp (lwider_T exE chL cvE) (lwider_S exE chL cvE) (lwider_e exE chL cvE) lwider_P
theorem lwider_ok : SOK Tryd.prog glb 5 (lwider_s exE chL cvE) := by
  refine ⟨fok Tryd.func5 (by kernel_rfl) (by kernel_rfl), ?_⟩
  intro xs pre r h hp
  unfold lwider_s at h
  split at h
  · simp only [Option.some.injEq, Prod.mk.injEq] at h
    obtain ⟨h1, h2⟩ := h
    subst h1 h2
    exact fnK_sound tyNil (by exact specOK rfl rfl ⟨(sawake_ok), (scheck_ok), (kin_ok glb), (rcValid_ok glb), trivial⟩ ⟨(newsrc_ok glb), trivial⟩ (d := qsOf rfl ⟨(qn_ok glb), (qminute_ok glb), (dclimate_ok glb), (qreport_ok glb), (qplace_ok glb), trivial⟩)) (by kernel_rfl) Tryd.func5 rfl (lwider_v  _ hp)
  · cases h
end Go.Proofs.YtceknalhogbbnaaDoor
