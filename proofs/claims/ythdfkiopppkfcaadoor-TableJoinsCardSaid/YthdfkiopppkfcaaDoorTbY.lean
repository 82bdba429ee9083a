/- Tables: the reference's expander, on the level m. -/
import Derived.Test.YthdfkiopppkfcaaDoorTbP
namespace Go.Proofs.YthdfkiopppkfcaaDoor
open Go
set_option linter.unusedVariables false
set_option linter.unusedSimpArgs false

/-- Codes stand once; the tables are short. -/
structure UnP (es ss : LLA) : Prop where
  fn : (hds es ++ hds ss).Nodup
  fe : es.length ≤ 40
  fs : ss.length ≤ 40
  fq : ∀ i, i < ss.length → (sqC (ss.getD i [])).length ≤ 20
structure EpP (F : LLA → LLA → Int → LLA × Rs) (q : Int) (es ss cs : LLA) (d : Int) (R : Rs) (x : Int × LLA × Int) : Prop where
  flo : 0 ≤ x.1
  fhi : x.1 ≤ cs.length
  fx : ExP q es ss d x.2.1 x.2.2
  fr : ∃ n, (cs.drop x.1.toNat).length ≤ n ∧ alL F n (cs.drop x.1.toNat) x.2.1 x.2.2 = R
structure EqP (es out : LLA) (c : Int) (x : Int × LLA × Bool) : Prop where
  flo : 0 ≤ x.1
  fhi : x.1 ≤ es.length
  fo : x.2.1 = out ++ (es.take x.1.toNat).filter (hcP c)
  fb : x.2.2 = (es.take x.1.toNat).any (hcP c)
structure ErP (A : LLA → Int → LLA → Int → Rs) (q : Int) (es ss out : LLA) (c d k : Int) (x : Int × LLA × Int × Bool) : Prop where
  flo : 0 ≤ x.1
  fhi : x.1 ≤ ss.length
  fx : ExP q es ss d x.2.1 x.2.2.1
  fb : x.2.2.2 = (ss.take x.1.toNat).any (hcP c)
  f0 : x.2.2.2 = false → x.2.1 = out ∧ x.2.2.1 = k
  f1 : x.2.2.2 = true → sqR A ss c d out k = (0, x.2.1, x.2.2.1)
structure EtP (A : LLA → Int → LLA → Int → Rs) (q : Int) (es ss cs : LLA) (d y : Int) (R : Rs) (x : Int × LLA × Int) : Prop where
  flo : 0 ≤ x.1
  fhi : x.1 ≤ y
  fx : ExP q es ss d x.2.1 x.2.2
  fr : rpR A cs d (y - x.1).toNat x.2.1 x.2.2 = R
theorem knd_cs (c : Int) : knd c = 0 ∨ knd c = 1 ∨ knd c = 2 ∨ (knd c = 3 ∧ 20000 ≤ c ∧ 1 ≤ rpX c ∧ rpX c ≤ 20 ∧ 1 ≤ rpY c ∧ rpY c ≤ 20) := by
  unfold knd
  (repeat' split) <;> omega
theorem idx_yes {p : List AV → Bool} {xs : LLA} (h : xs.any p = true) : idxP p xs = (xs.findIdx p : Int) ∧ ¬ idxP p xs < 0 := by
  have : idxP p xs = (xs.findIdx p : Int) := by unfold idxP; rw [if_pos h]
  exact ⟨this, by omega⟩
theorem idx_no {p : List AV → Bool} {xs : LLA} (h : xs.any p = false) : idxP p xs < 0 := by
  unfold idxP; rw [if_neg (by rw [h]; simp)]; decide
theorem flt_one {c : Int} : ∀ {xs : LLA}, (hds xs).Nodup → xs.any (hcP c) = true → xs.filter (hcP c) = [xs.getD (xs.findIdx (hcP c)) []]
  | [], _, h => by simp at h
  | x :: xs, hn, h => by
    have hn : (hdI x :: hds xs).Nodup := hn
    rw [List.nodup_cons] at hn
    cases hx : hcP c x with
    | true =>
      have e1 : hdI x = c := of_decide_eq_true hx
      have e2 : xs.filter (hcP c) = [] := by
        rw [List.filter_eq_nil_iff]
        intro a ha hq
        have e3 : hdI a = c := of_decide_eq_true hq
        exact hn.1 (by rw [e1, ← e3]; exact List.mem_map.2 ⟨a, ha, rfl⟩)
      rw [List.filter_cons_of_pos hx, e2, List.findIdx_cons, hx]; rfl
    | false =>
      have h2 : xs.any (hcP c) = true := by simpa [hx] using h
      rw [List.filter_cons_of_neg (by rw [hx]; simp), flt_one hn.2 h2, List.findIdx_cons, hx]; rfl
theorem flt_take {p : List AV → Bool} {xs : LLA} {i : Nat} (h : i < xs.length) : (xs.take (i + 1)).filter p = (xs.take i).filter p ++ (if p (xs.getD i []) then [xs.getD i []] else []) := by
  have e : xs.getD i [] = xs[i] := by rw [List.getD_eq_getElem?_getD, List.getElem?_eq_getElem h]; rfl
  rw [List.take_add_one, List.getElem?_eq_getElem h, List.filter_append, e]
  simp [List.filter_cons]
theorem no_two {c : Int} {xs : LLA} {q : Nat} (hn : (hds xs).Nodup) (hq : q < xs.length) (hc : hcP c (xs.getD q []) = true) : (xs.take q).any (hcP c) = false := by
  cases h : (xs.take q).any (hcP c) with
  | false => rfl
  | true =>
    obtain ⟨a, ha, e⟩ := List.any_eq_true.1 h
    obtain ⟨r, hr, er⟩ := List.mem_iff_getElem.1 ha
    rw [List.length_take] at hr
    rw [List.getElem_take] at er
    have e1 : hdAt xs r = c := by
      unfold hdAt
      rw [List.getD_eq_getElem?_getD, List.getElem?_eq_getElem (by omega), Option.getD_some, er]
      exact of_decide_eq_true e
    have e2 : hdAt xs q = c := of_decide_eq_true hc
    exact absurd hn (hds_dup (a := q) (b := r) (by omega) hq (e2.trans e1.symm))
theorem idx_q {c : Int} {xs : LLA} {q : Nat} (hn : (hds xs).Nodup) (hq : q < xs.length) (hc : hcP c (xs.getD q []) = true) : (q : Int) = idxP (hcP c) xs := by
  refine idx_some hq hc fun j hj => ?_
  have h := no_two hn hq hc
  have e : xs.getD j [] = (xs.take q).getD j [] := by rw [List.getD_eq_getElem?_getD, List.getD_eq_getElem?_getD, List.getElem?_take, if_pos hj]
  rw [e]
  exact any_at h (by rw [List.length_take]; omega)
theorem ExP.up {q q' k k' : Int} {es ss out out' : LLA} {d : Int} (h : ExP q es ss d out k) (ho : out'.length ≤ 60) (hk : k ≤ k') (h5 : k' ≤ 500) (hq : 500 - k' < q') : ExP q' es ss d out' k' :=
  ⟨h.fe, h.fs, ho, by have := h.f0; omega, h5, hq, h.fd⟩
section
variable (m : Nat)
def epT (h : Bool) (cs : LLA) (d i : Int) (n r : Nat) : List (Nat × AV) := [(1, .sl 1 false cs), (2, .int .i64 d), (3, .ptr 0 0), (4, .rw r 5 n), (5, .ptr 1005 0), (10, .nils), (11, .int .i64 0), (12, .int .i64 i)]
def epH (es ss out : LLA) (v k : Int) (f g : Bool) (r : Nat) : List (Nat × Blk) := [(0, .cells [.int .i64 k]), (r, .row 23 5 out), (1005, .cells [.int .i64 v, .sl 5 f es, .sl 2 g ss])]
def ep2 (es ss cs : LLA) (v d : Int) (f g h : Bool) (r : Nat) (R : Rs) : LInv := ⟨Int × LLA × Int, fun x => ⟨epT h cs d x.1 x.2.1.length r, epH es ss x.2.1 v x.2.2 f g r⟩, EpP (fun cs out k => fiR (alR es ss m) es ss cs d out k) (m + 1) es ss cs d R, fun x => (cs.length - x.1).toNat, none⟩
def ep25 (es ss cs out : LLA) (v d i c k : Int) (f g h : Bool) (r : Nat) : LInv := ⟨Int × LLA × Bool, fun x => ⟨epT h cs d i x.2.1.length r ++ [(13, .int .i64 c), (14, .bool x.2.2), (93, .sl 5 false es), (94, .int .i64 es.length), (95, .int .i64 x.1)], epH es ss x.2.1 v k f g r⟩, EqP es out c, fun x => (es.length - x.1).toNat, none⟩
def ep37 (es ss cs out : LLA) (v d i c k : Int) (f g h : Bool) (r : Nat) : LInv := ⟨Int × LLA × Int × Bool, fun x => ⟨epT h cs d i x.2.1.length r ++ [(13, .int .i64 c), (17, .bool x.2.2.2), (116, .sl 2 false ss), (117, .int .i64 ss.length), (118, .int .i64 x.1)], epH es ss x.2.1 v x.2.2.1 f g r⟩, ErP (alR es ss m) m es ss out c d k, fun x => (ss.length - x.1).toNat, none⟩
def ep13 (es ss cs out : LLA) (v d i X Y k : Int) (f g h : Bool) (r : Nat) : LInv := ⟨Int × LLA × Int, fun x => ⟨epT h cs d i x.2.1.length r ++ [(22, .int .i64 X), (23, .int .i64 Y), (24, .int .i64 x.1)], epH es ss x.2.1 v x.2.2 f g r⟩, EtP (alR es ss m) m es ss ((cs.drop (i + 1).toNat).take X.toNat) d Y (rpR (alR es ss m) ((cs.drop (i + 1).toNat).take X.toNat) d Y.toNat out k), fun x => (Y - x.1).toNat, none⟩
def epJ (es ss cs : LLA) (v d : Int) (f g h : Bool) (r : Nat) (R : Rs) (id : Nat) (st : St) : Option LInv :=
  cond (Nat.beq id 2) (some (ep2 m es ss cs v d f g h r R)) (match lk st.tmps 12, lk st.heap 0, lk st.heap r with
    | some (.int _ i), some (.cells [.int _ k]), some (.row _ _ out) =>
      cond (Nat.beq id 13) (match lk st.tmps 22, lk st.tmps 23 with | some (.int _ X), some (.int _ Y) => some (ep13 m es ss cs out v d i X Y k f g h r) | _, _ => none)
      (match lk st.tmps 13 with
        | some (.int _ c) => cond (Nat.beq id 25) (some (ep25 es ss cs out v d i c k f g h r)) (cond (Nat.beq id 37) (some (ep37 m es ss cs out v d i c k f g h r)) none)
        | _ => none)
    | _, _, _ => none)
def rexp_s (alE : Nat → LLA → LLA → LLA → Int → LLA → Int → Int) (alO : Nat → LLA → LLA → LLA → Int → LLA → Int → LLA) (alK : Nat → LLA → LLA → LLA → Int → LLA → Int → Int) : SpQ
  | [.agg [.int .i64 v, .sl 5 f es, .sl 2 g ss], .sl 1 h cs, .int .i64 d, .ptr 0 0, .rw 1 5 n], [.cells [.int .i64 k], .row 23 5 out] => some fun K => ((((ExP m es ss d out k ∧ CdsP cs) ∧ UnP es ss) ∧ cs.length ≤ 20) ∧ n = out.length) ∧ cond (decide (alE m es ss cs d out k = 0)) (K (.tup [.rw 1 5 (alO m es ss cs d out k).length, .int .i64 0]) [.cells [.int .i64 (alK m es ss cs d out k)], .row 23 5 (alO m es ss cs d out k)]) (∀ (kk : Int) (oo : LLA), K (.tup [.nils, .int .i64 (alE m es ss cs d out k)]) [.cells [.int .i64 kk], .row 23 5 oo])
  | _, _ => none
end
variable (m : Nat)
--KIND rexp Q synoptic/synopticref08.expand
set_option maxRecDepth 100000 in
def gexp_T (m : Nat) (alE : Nat → LLA → LLA → LLA → Int → LLA → Int → Int) (alO : Nat → LLA → LLA → LLA → Int → LLA → Int → LLA) (alK : Nat → LLA → LLA → LLA → Int → LLA → Int → Int) (knd : Int → Int) : Prop :=
  ∀ (gl : Glob) (es ss cs out : List (List AV)) (v d k : Int) (f g h : Bool) (n : Nat), (((ExP ((↑m : Int) + (1 : Int)) es ss d out k ∧ CdsP cs) ∧ UnP es ss) ∧ cs.length ≤ (20 :
  Nat)) ∧ n = out.length → (∃ x, EpP (fun cs out k => fiR (alR es ss m) es ss cs d out k) ((↑m : Int) + (1 : Int)) es ss cs d (alR es ss (m + (1 : Nat)) cs d out k) x ∧ ((True ∧ cs =
  cs) ∧ d = d ∧ (0 : Nat) = (0 : Nat) ∧ n = List.length x.snd.fst ∧ (0 : Nat) = (0 : Nat) ∧ True ∧ (0 : Int) = (0 : Int) ∧ (0 : Int) = x.fst ∧ True) ∧ (k = x.snd.snd ∧ True) ∧ out =
  x.snd.fst ∧ (v = v ∧ ((bif f then f = true else True) ∧ es = es) ∧ ((bif g then g = true else True) ∧ ss = ss) ∧ True) ∧ True) ∧ ∀ (x : Int × LLA × Int), EpP (fun cs out k => fiR
  (alR es ss m) es ss cs d out k) ((↑m : Int) + (1 : Int)) es ss cs d (alR es ss (m + (1 : Nat)) cs d out k) x → bif decide (x.fst < (↑cs.length : Int)) then bif decide ((0 : Int) ≤
  x.fst ∧ x.fst < (↑cs.length : Int)) then ∃ n, List.take [AV.int IntKind.i64 n].length (cs.getD x.fst.toNat []) = [AV.int IntKind.i64 n] ∧ bif decide (rng IntKind.i64 (x.snd.snd +
  (1 : Int))) then bif decide ((500 : Int) < x.snd.snd + (1 : Int)) then bif decide (alE (m + (1 : Nat)) es ss cs d out k = (0 : Int)) then (False ∧ (2 : Int) = (0 : Int) ∧ True) ∧
  (x.snd.snd + (1 : Int) = alK (m + (1 : Nat)) es ss cs d out k ∧ True) ∧ x.snd.fst = alO (m + (1 : Nat)) es ss cs d out k ∧ True else ∃ kk oo, (True ∧ (2 : Int) = alE (m + (1 :
  Nat)) es ss cs d out k ∧ True) ∧ (x.snd.snd + (1 : Int) = kk ∧ True) ∧ x.snd.fst = oo ∧ True else True ∧ bif decide (knd n = (0 : Int)) then bif decide (alE (m + (1 : Nat)) es ss
  cs d out k = (0 : Int)) then (False ∧ (1 : Int) = (0 : Int) ∧ True) ∧ (x.snd.snd + (1 : Int) = alK (m + (1 : Nat)) es ss cs d out k ∧ True) ∧ x.snd.fst = alO (m + (1 : Nat)) es ss
  cs d out k ∧ True else ∃ kk oo, (True ∧ (1 : Int) = alE (m + (1 : Nat)) es ss cs d out k ∧ True) ∧ (x.snd.snd + (1 : Int) = kk ∧ True) ∧ x.snd.fst = oo ∧ True else bif decide (knd
  n = (1 : Int)) then (∃ x_1, EqP es x.snd.fst n x_1 ∧ ((True ∧ cs = cs) ∧ d = d ∧ (0 : Nat) = (0 : Nat) ∧ List.length x.snd.fst = List.length x_1.snd.fst ∧ (0 : Nat) = (0 : Nat) ∧
  True ∧ (0 : Int) = (0 : Int) ∧ x.fst = x.fst ∧ n = n ∧ false = x_1.snd.snd ∧ (True ∧ es = es) ∧ (↑es.length : Int) = (↑es.length : Int) ∧ (0 : Int) = x_1.fst ∧ True) ∧ (x.snd.snd +
  (1 : Int) = x.snd.snd + (1 : Int) ∧ True) ∧ x.snd.fst = x_1.snd.fst ∧ (v = v ∧ ((bif f then f = true else True) ∧ es = es) ∧ ((bif g then g = true else True) ∧ ss = ss) ∧ True) ∧
  True) ∧ ∀ (x_1 : Int × LLA × Bool), EqP es x.snd.fst n x_1 → bif decide (x_1.fst < (↑es.length : Int)) then bif decide ((0 : Int) ≤ x_1.fst ∧ x_1.fst < (↑es.length : Int)) then ∃
  n_1 n_2 n_3 n_4 n_5, List.take [AV.int IntKind.i64 n_1, AV.int IntKind.i64 n_2, AV.int IntKind.i64 n_3, AV.int IntKind.i64 n_4, AV.int IntKind.i64 n_5].length (es.getD
  x_1.fst.toNat []) = [AV.int IntKind.i64 n_1, AV.int IntKind.i64 n_2, AV.int IntKind.i64 n_3, AV.int IntKind.i64 n_4, AV.int IntKind.i64 n_5] ∧ bif decide (n_1 = n) then bif decide
  (List.length x_1.snd.fst = List.length x_1.snd.fst ∧ List.length x_1.snd.fst + [[AV.int IntKind.i64 n_1, AV.int IntKind.i64 n_2, AV.int IntKind.i64 n_3, AV.int IntKind.i64 n_4,
  AV.int IntKind.i64 n_5]].length ≤ (9223372036854775807 : Nat) ∧ (List.length x_1.snd.fst + [[AV.int IntKind.i64 n_1, AV.int IntKind.i64 n_2, AV.int IntKind.i64 n_3, AV.int
  IntKind.i64 n_4, AV.int IntKind.i64 n_5]].length) * (40 : Nat) ≤ (140737488355328 : Nat)) then bif decide (rng IntKind.i64 (x_1.fst + (1 : Int))) then ∃ y, EqP es x.snd.fst n y ∧
  (ep25 es ss cs x.snd.fst v d x.fst n (x.snd.snd + (1 : Int)) f g h (1 : Nat)).m y < (ep25 es ss cs x.snd.fst v d x.fst n (x.snd.snd + (1 : Int)) f g h (1 : Nat)).m x_1 ∧ ((True ∧
  cs = cs) ∧ d = d ∧ (0 : Nat) = (0 : Nat) ∧ (x_1.snd.fst ++ [[AV.int IntKind.i64 n_1, AV.int IntKind.i64 n_2, AV.int IntKind.i64 n_3, AV.int IntKind.i64 n_4, AV.int IntKind.i64
  n_5]]).length = List.length y.snd.fst ∧ (0 : Nat) = (0 : Nat) ∧ True ∧ (0 : Int) = (0 : Int) ∧ x.fst = x.fst ∧ n = n ∧ true = y.snd.snd ∧ (True ∧ es = es) ∧ (↑es.length : Int) =
  (↑es.length : Int) ∧ x_1.fst + (1 : Int) = y.fst ∧ True) ∧ (x.snd.snd + (1 : Int) = x.snd.snd + (1 : Int) ∧ True) ∧ x_1.snd.fst ++ [[AV.int IntKind.i64 n_1, AV.int IntKind.i64 n_2,
  AV.int IntKind.i64 n_3, AV.int IntKind.i64 n_4, AV.int IntKind.i64 n_5]] = y.snd.fst ∧ (v = v ∧ ((bif f then f = true else True) ∧ es = es) ∧ ((bif g then g = true else True) ∧ ss
  = ss) ∧ True) ∧ True else False else False else bif decide (rng IntKind.i64 (x_1.fst + (1 : Int))) then ∃ y, EqP es x.snd.fst n y ∧ (ep25 es ss cs x.snd.fst v d x.fst n (x.snd.snd
  + (1 : Int)) f g h (1 : Nat)).m y < (ep25 es ss cs x.snd.fst v d x.fst n (x.snd.snd + (1 : Int)) f g h (1 : Nat)).m x_1 ∧ ((True ∧ cs = cs) ∧ d = d ∧ (0 : Nat) = (0 : Nat) ∧
  List.length x_1.snd.fst = List.length y.snd.fst ∧ (0 : Nat) = (0 : Nat) ∧ True ∧ (0 : Int) = (0 : Int) ∧ x.fst = x.fst ∧ n = n ∧ x_1.snd.snd = y.snd.snd ∧ (True ∧ es = es) ∧
  (↑es.length : Int) = (↑es.length : Int) ∧ x_1.fst + (1 : Int) = y.fst ∧ True) ∧ (x.snd.snd + (1 : Int) = x.snd.snd + (1 : Int) ∧ True) ∧ x_1.snd.fst = y.snd.fst ∧ (v = v ∧ ((bif f
  then f = true else True) ∧ es = es) ∧ ((bif g then g = true else True) ∧ ss = ss) ∧ True) ∧ True else False else False else bif !x_1.snd.snd then bif decide (alE (m + (1 : Nat)) es
  ss cs d out k = (0 : Int)) then (False ∧ (6 : Int) = (0 : Int) ∧ True) ∧ (x.snd.snd + (1 : Int) = alK (m + (1 : Nat)) es ss cs d out k ∧ True) ∧ x_1.snd.fst = alO (m + (1 : Nat))
  es ss cs d out k ∧ True else ∃ kk oo, (True ∧ (6 : Int) = alE (m + (1 : Nat)) es ss cs d out k ∧ True) ∧ (x.snd.snd + (1 : Int) = kk ∧ True) ∧ x_1.snd.fst = oo ∧ True else bif
  decide ((60 : Int) < (↑(List.length x_1.snd.fst) : Int)) then bif decide (alE (m + (1 : Nat)) es ss cs d out k = (0 : Int)) then (False ∧ (2 : Int) = (0 : Int) ∧ True) ∧ (x.snd.snd
  + (1 : Int) = alK (m + (1 : Nat)) es ss cs d out k ∧ True) ∧ x_1.snd.fst = alO (m + (1 : Nat)) es ss cs d out k ∧ True else ∃ kk oo, (True ∧ (2 : Int) = alE (m + (1 : Nat)) es ss
  cs d out k ∧ True) ∧ (x.snd.snd + (1 : Int) = kk ∧ True) ∧ x_1.snd.fst = oo ∧ True else bif decide (rng IntKind.i64 (x.fst + (1 : Int))) then ∃ y, EpP (fun cs out k => fiR (alR es
  ss m) es ss cs d out k) ((↑m : Int) + (1 : Int)) es ss cs d (alR es ss (m + (1 : Nat)) cs d out k) y ∧ (ep2 m es ss cs v d f g h (1 : Nat) (alR es ss (m + (1 : Nat)) cs d out k)).m
  y < (ep2 m es ss cs v d f g h (1 : Nat) (alR es ss (m + (1 : Nat)) cs d out k)).m x ∧ ((True ∧ cs = cs) ∧ d = d ∧ (0 : Nat) = (0 : Nat) ∧ List.length x_1.snd.fst = List.length
  y.snd.fst ∧ (0 : Nat) = (0 : Nat) ∧ True ∧ (0 : Int) = (0 : Int) ∧ x.fst + (1 : Int) = y.fst ∧ True) ∧ (x.snd.snd + (1 : Int) = y.snd.snd ∧ True) ∧ x_1.snd.fst = y.snd.fst ∧ (v = v
  ∧ ((bif f then f = true else True) ∧ es = es) ∧ ((bif g then g = true else True) ∧ ss = ss) ∧ True) ∧ True else False else bif decide (knd n = (2 : Int)) then (∃ x_1, ErP (alR es
  ss m) (↑m : Int) es ss x.snd.fst n d (x.snd.snd + (1 : Int)) x_1 ∧ ((True ∧ cs = cs) ∧ d = d ∧ (0 : Nat) = (0 : Nat) ∧ List.length x.snd.fst = List.length x_1.snd.fst ∧ (0 : Nat) =
  (0 : Nat) ∧ True ∧ (0 : Int) = (0 : Int) ∧ x.fst = x.fst ∧ n = n ∧ false = x_1.snd.snd.snd ∧ (True ∧ ss = ss) ∧ (↑ss.length : Int) = (↑ss.length : Int) ∧ (0 : Int) = x_1.fst ∧
  True) ∧ (x.snd.snd + (1 : Int) = x_1.snd.snd.fst ∧ True) ∧ x.snd.fst = x_1.snd.fst ∧ (v = v ∧ ((bif f then f = true else True) ∧ es = es) ∧ ((bif g then g = true else True) ∧ ss =
  ss) ∧ True) ∧ True) ∧ ∀ (x_1 : Int × LLA × Int × Bool), ErP (alR es ss m) (↑m : Int) es ss x.snd.fst n d (x.snd.snd + (1 : Int)) x_1 → bif decide (x_1.fst < (↑ss.length : Int))
  then bif decide ((0 : Int) ≤ x_1.fst ∧ x_1.fst < (↑ss.length : Int)) then ∃ n_1 xs, List.take [AV.int IntKind.i64 n_1, AV.sl (1 : Nat) false xs].length (ss.getD x_1.fst.toNat []) =
  [AV.int IntKind.i64 n_1, AV.sl (1 : Nat) false xs] ∧ bif decide ¬n_1 = n then bif decide (rng IntKind.i64 (x_1.fst + (1 : Int))) then ∃ y, ErP (alR es ss m) (↑m : Int) es ss
  x.snd.fst n d (x.snd.snd + (1 : Int)) y ∧ (ep37 m es ss cs x.snd.fst v d x.fst n (x.snd.snd + (1 : Int)) f g h (1 : Nat)).m y < (ep37 m es ss cs x.snd.fst v d x.fst n (x.snd.snd +
  (1 : Int)) f g h (1 : Nat)).m x_1 ∧ ((True ∧ cs = cs) ∧ d = d ∧ (0 : Nat) = (0 : Nat) ∧ List.length x_1.snd.fst = List.length y.snd.fst ∧ (0 : Nat) = (0 : Nat) ∧ True ∧ (0 : Int) =
  (0 : Int) ∧ x.fst = x.fst ∧ n = n ∧ x_1.snd.snd.snd = y.snd.snd.snd ∧ (True ∧ ss = ss) ∧ (↑ss.length : Int) = (↑ss.length : Int) ∧ x_1.fst + (1 : Int) = y.fst ∧ True) ∧
  (x_1.snd.snd.fst = y.snd.snd.fst ∧ True) ∧ x_1.snd.fst = y.snd.fst ∧ (v = v ∧ ((bif f then f = true else True) ∧ es = es) ∧ ((bif g then g = true else True) ∧ ss = ss) ∧ True) ∧
  True else False else bif decide ((20 : Int) < d) then bif decide (alE (m + (1 : Nat)) es ss cs d out k = (0 : Int)) then (False ∧ (2 : Int) = (0 : Int) ∧ True) ∧ (x_1.snd.snd.fst =
  alK (m + (1 : Nat)) es ss cs d out k ∧ True) ∧ x_1.snd.fst = alO (m + (1 : Nat)) es ss cs d out k ∧ True else ∃ kk oo, (True ∧ (2 : Int) = alE (m + (1 : Nat)) es ss cs d out k ∧
  True) ∧ (x_1.snd.snd.fst = kk ∧ True) ∧ x_1.snd.fst = oo ∧ True else bif decide (rng IntKind.i64 (d + (1 : Int))) then ((((ExP (↑m : Int) es ss (d + (1 : Int)) x_1.snd.fst
  x_1.snd.snd.fst ∧ CdsP xs) ∧ UnP es ss) ∧ xs.length ≤ (20 : Nat)) ∧ List.length x_1.snd.fst = List.length x_1.snd.fst) ∧ bif decide (alE m es ss xs (d + (1 : Int)) x_1.snd.fst
  x_1.snd.snd.fst = (0 : Int)) then bif decide (rng IntKind.i64 (x_1.fst + (1 : Int))) then ∃ y, ErP (alR es ss m) (↑m : Int) es ss x.snd.fst n d (x.snd.snd + (1 : Int)) y ∧ (ep37 m
  es ss cs x.snd.fst v d x.fst n (x.snd.snd + (1 : Int)) f g h (1 : Nat)).m y < (ep37 m es ss cs x.snd.fst v d x.fst n (x.snd.snd + (1 : Int)) f g h (1 : Nat)).m x_1 ∧ ((True ∧ cs =
  cs) ∧ d = d ∧ (0 : Nat) = (0 : Nat) ∧ List.length (alO m es ss xs (d + (1 : Int)) x_1.snd.fst x_1.snd.snd.fst) = List.length y.snd.fst ∧ (0 : Nat) = (0 : Nat) ∧ True ∧ (0 : Int) =
  (0 : Int) ∧ x.fst = x.fst ∧ n = n ∧ true = y.snd.snd.snd ∧ (True ∧ ss = ss) ∧ (↑ss.length : Int) = (↑ss.length : Int) ∧ x_1.fst + (1 : Int) = y.fst ∧ True) ∧ (alK m es ss xs (d +
  (1 : Int)) x_1.snd.fst x_1.snd.snd.fst = y.snd.snd.fst ∧ True) ∧ alO m es ss xs (d + (1 : Int)) x_1.snd.fst x_1.snd.snd.fst = y.snd.fst ∧ (v = v ∧ ((bif f then f = true else True)
  ∧ es = es) ∧ ((bif g then g = true else True) ∧ ss = ss) ∧ True) ∧ True else False else ∀ (kk : Int) (oo : LLA), bif decide ¬alE m es ss xs (d + (1 : Int)) x_1.snd.fst
  x_1.snd.snd.fst = (0 : Int) then bif decide (alE (m + (1 : Nat)) es ss cs d out k = (0 : Int)) then (False ∧ alE m es ss xs (d + (1 : Int)) x_1.snd.fst x_1.snd.snd.fst = (0 : Int)
  ∧ True) ∧ (kk = alK (m + (1 : Nat)) es ss cs d out k ∧ True) ∧ oo = alO (m + (1 : Nat)) es ss cs d out k ∧ True else ∃ kk_1 oo_1, (True ∧ alE m es ss xs (d + (1 : Int)) x_1.snd.fst
  x_1.snd.snd.fst = alE (m + (1 : Nat)) es ss cs d out k ∧ True) ∧ (kk = kk_1 ∧ True) ∧ oo = oo_1 ∧ True else bif decide (rng IntKind.i64 (x_1.fst + (1 : Int))) then ∃ y, ErP (alR es
  ss m) (↑m : Int) es ss x.snd.fst n d (x.snd.snd + (1 : Int)) y ∧ (ep37 m es ss cs x.snd.fst v d x.fst n (x.snd.snd + (1 : Int)) f g h (1 : Nat)).m y < (ep37 m es ss cs x.snd.fst v
  d x.fst n (x.snd.snd + (1 : Int)) f g h (1 : Nat)).m x_1 ∧ ((True ∧ cs = cs) ∧ d = d ∧ (0 : Nat) = (0 : Nat) ∧ False ∧ (0 : Nat) = (0 : Nat) ∧ True ∧ (0 : Int) = (0 : Int) ∧ x.fst
  = x.fst ∧ n = n ∧ true = y.snd.snd.snd ∧ (True ∧ ss = ss) ∧ (↑ss.length : Int) = (↑ss.length : Int) ∧ x_1.fst + (1 : Int) = y.fst ∧ True) ∧ (kk = y.snd.snd.fst ∧ True) ∧ oo =
  y.snd.fst ∧ (v = v ∧ ((bif f then f = true else True) ∧ es = es) ∧ ((bif g then g = true else True) ∧ ss = ss) ∧ True) ∧ True else False else False else False else bif
  !x_1.snd.snd.snd then bif decide (alE (m + (1 : Nat)) es ss cs d out k = (0 : Int)) then (False ∧ (6 : Int) = (0 : Int) ∧ True) ∧ (x_1.snd.snd.fst = alK (m + (1 : Nat)) es ss cs d
  out k ∧ True) ∧ x_1.snd.fst = alO (m + (1 : Nat)) es ss cs d out k ∧ True else ∃ kk oo, (True ∧ (6 : Int) = alE (m + (1 : Nat)) es ss cs d out k ∧ True) ∧ (x_1.snd.snd.fst = kk ∧
  True) ∧ x_1.snd.fst = oo ∧ True else bif decide (rng IntKind.i64 (x.fst + (1 : Int))) then ∃ y, EpP (fun cs out k => fiR (alR es ss m) es ss cs d out k) ((↑m : Int) + (1 : Int)) es
  ss cs d (alR es ss (m + (1 : Nat)) cs d out k) y ∧ (ep2 m es ss cs v d f g h (1 : Nat) (alR es ss (m + (1 : Nat)) cs d out k)).m y < (ep2 m es ss cs v d f g h (1 : Nat) (alR es ss
  (m + (1 : Nat)) cs d out k)).m x ∧ ((True ∧ cs = cs) ∧ d = d ∧ (0 : Nat) = (0 : Nat) ∧ List.length x_1.snd.fst = List.length y.snd.fst ∧ (0 : Nat) = (0 : Nat) ∧ True ∧ (0 : Int) =
  (0 : Int) ∧ x.fst + (1 : Int) = y.fst ∧ True) ∧ (x_1.snd.snd.fst = y.snd.snd ∧ True) ∧ x_1.snd.fst = y.snd.fst ∧ (v = v ∧ ((bif f then f = true else True) ∧ es = es) ∧ ((bif g then
  g = true else True) ∧ ss = ss) ∧ True) ∧ True else False else bif decide (rng IntKind.i64 (n - (20000 : Int))) then bif decide (rng IntKind.i64 ((n - (20000 : Int)).tdiv (100 :
  Int))) then bif decide (rng IntKind.i64 (n - (20000 : Int))) then bif decide (rng IntKind.i64 (x.fst + (n - (20000 : Int)).tdiv (100 : Int))) then bif decide ((↑cs.length : Int) ≤
  x.fst + (n - (20000 : Int)).tdiv (100 : Int)) then bif decide (alE (m + (1 : Nat)) es ss cs d out k = (0 : Int)) then (False ∧ (11 : Int) = (0 : Int) ∧ True) ∧ (x.snd.snd + (1 :
  Int) = alK (m + (1 : Nat)) es ss cs d out k ∧ True) ∧ x.snd.fst = alO (m + (1 : Nat)) es ss cs d out k ∧ True else ∃ kk oo, (True ∧ (11 : Int) = alE (m + (1 : Nat)) es ss cs d out
  k ∧ True) ∧ (x.snd.snd + (1 : Int) = kk ∧ True) ∧ x.snd.fst = oo ∧ True else (∃ x_1, EtP (alR es ss m) (↑m : Int) es ss (List.take ((n - (20000 : Int)).tdiv (100 : Int)).toNat
  (List.drop (x.fst + (1 : Int)).toNat cs)) d ((n - (20000 : Int)).tmod (100 : Int)) (rpR (alR es ss m) (List.take ((n - (20000 : Int)).tdiv (100 : Int)).toNat (List.drop (x.fst + (1
  : Int)).toNat cs)) d ((n - (20000 : Int)).tmod (100 : Int)).toNat x.snd.fst (x.snd.snd + (1 : Int))) x_1 ∧ ((True ∧ cs = cs) ∧ d = d ∧ (0 : Nat) = (0 : Nat) ∧ List.length x.snd.fst
  = List.length x_1.snd.fst ∧ (0 : Nat) = (0 : Nat) ∧ True ∧ (0 : Int) = (0 : Int) ∧ x.fst = x.fst ∧ (n - (20000 : Int)).tdiv (100 : Int) = (n - (20000 : Int)).tdiv (100 : Int) ∧ (n
  - (20000 : Int)).tmod (100 : Int) = (n - (20000 : Int)).tmod (100 : Int) ∧ (0 : Int) = x_1.fst ∧ True) ∧ (x.snd.snd + (1 : Int) = x_1.snd.snd ∧ True) ∧ x.snd.fst = x_1.snd.fst ∧ (v
  = v ∧ ((bif f then f = true else True) ∧ es = es) ∧ ((bif g then g = true else True) ∧ ss = ss) ∧ True) ∧ True) ∧ ∀ (x_1 : Int × LLA × Int), EtP (alR es ss m) (↑m : Int) es ss
  (List.take ((n - (20000 : Int)).tdiv (100 : Int)).toNat (List.drop (x.fst + (1 : Int)).toNat cs)) d ((n - (20000 : Int)).tmod (100 : Int)) (rpR (alR es ss m) (List.take ((n -
  (20000 : Int)).tdiv (100 : Int)).toNat (List.drop (x.fst + (1 : Int)).toNat cs)) d ((n - (20000 : Int)).tmod (100 : Int)).toNat x.snd.fst (x.snd.snd + (1 : Int))) x_1 → bif decide
  (x_1.fst < (n - (20000 : Int)).tmod (100 : Int)) then bif decide (rng IntKind.i64 (x.fst + (1 : Int))) then bif decide (rng IntKind.i64 (x.fst + (1 : Int))) then bif decide (rng
  IntKind.i64 (x.fst + (1 : Int) + (n - (20000 : Int)).tdiv (100 : Int))) then bif decide ((0 : Int) ≤ x.fst + (1 : Int) + (n - (20000 : Int)).tdiv (100 : Int) ∧ x.fst + (1 : Int) +
  (n - (20000 : Int)).tdiv (100 : Int) ≤ (↑cs.length : Int)) then bif decide ((0 : Int) ≤ x.fst + (1 : Int) ∧ x.fst + (1 : Int) ≤ x.fst + (1 : Int) + (n - (20000 : Int)).tdiv (100 :
  Int)) then ((((ExP (↑m : Int) es ss d x_1.snd.fst x_1.snd.snd ∧ CdsP (List.drop (x.fst + (1 : Int)).toNat (List.take (x.fst + (1 : Int) + (n - (20000 : Int)).tdiv (100 :
  Int)).toNat cs))) ∧ UnP es ss) ∧ (List.drop (x.fst + (1 : Int)).toNat (List.take (x.fst + (1 : Int) + (n - (20000 : Int)).tdiv (100 : Int)).toNat cs)).length ≤ (20 : Nat)) ∧
  List.length x_1.snd.fst = List.length x_1.snd.fst) ∧ bif decide (alE m es ss (List.drop (x.fst + (1 : Int)).toNat (List.take (x.fst + (1 : Int) + (n - (20000 : Int)).tdiv (100 :
  Int)).toNat cs)) d x_1.snd.fst x_1.snd.snd = (0 : Int)) then bif decide (rng IntKind.i64 (x_1.fst + (1 : Int))) then ∃ y, EtP (alR es ss m) (↑m : Int) es ss (List.take ((n - (20000
  : Int)).tdiv (100 : Int)).toNat (List.drop (x.fst + (1 : Int)).toNat cs)) d ((n - (20000 : Int)).tmod (100 : Int)) (rpR (alR es ss m) (List.take ((n - (20000 : Int)).tdiv (100 :
  Int)).toNat (List.drop (x.fst + (1 : Int)).toNat cs)) d ((n - (20000 : Int)).tmod (100 : Int)).toNat x.snd.fst (x.snd.snd + (1 : Int))) y ∧ (ep13 m es ss cs x.snd.fst v d x.fst ((n
  - (20000 : Int)).tdiv (100 : Int)) ((n - (20000 : Int)).tmod (100 : Int)) (x.snd.snd + (1 : Int)) f g h (1 : Nat)).m y < (ep13 m es ss cs x.snd.fst v d x.fst ((n - (20000 :
  Int)).tdiv (100 : Int)) ((n - (20000 : Int)).tmod (100 : Int)) (x.snd.snd + (1 : Int)) f g h (1 : Nat)).m x_1 ∧ ((True ∧ cs = cs) ∧ d = d ∧ (0 : Nat) = (0 : Nat) ∧ List.length (alO
  m es ss (List.drop (x.fst + (1 : Int)).toNat (List.take (x.fst + (1 : Int) + (n - (20000 : Int)).tdiv (100 : Int)).toNat cs)) d x_1.snd.fst x_1.snd.snd) = List.length y.snd.fst ∧
  (0 : Nat) = (0 : Nat) ∧ True ∧ (0 : Int) = (0 : Int) ∧ x.fst = x.fst ∧ (n - (20000 : Int)).tdiv (100 : Int) = (n - (20000 : Int)).tdiv (100 : Int) ∧ (n - (20000 : Int)).tmod (100 :
  Int) = (n - (20000 : Int)).tmod (100 : Int) ∧ x_1.fst + (1 : Int) = y.fst ∧ True) ∧ (alK m es ss (List.drop (x.fst + (1 : Int)).toNat (List.take (x.fst + (1 : Int) + (n - (20000 :
  Int)).tdiv (100 : Int)).toNat cs)) d x_1.snd.fst x_1.snd.snd = y.snd.snd ∧ True) ∧ alO m es ss (List.drop (x.fst + (1 : Int)).toNat (List.take (x.fst + (1 : Int) + (n - (20000 :
  Int)).tdiv (100 : Int)).toNat cs)) d x_1.snd.fst x_1.snd.snd = y.snd.fst ∧ (v = v ∧ ((bif f then f = true else True) ∧ es = es) ∧ ((bif g then g = true else True) ∧ ss = ss) ∧
  True) ∧ True else False else ∀ (kk : Int) (oo : LLA), bif decide ¬alE m es ss (List.drop (x.fst + (1 : Int)).toNat (List.take (x.fst + (1 : Int) + (n - (20000 : Int)).tdiv (100 :
  Int)).toNat cs)) d x_1.snd.fst x_1.snd.snd = (0 : Int) then bif decide (alE (m + (1 : Nat)) es ss cs d out k = (0 : Int)) then (False ∧ alE m es ss (List.drop (x.fst + (1 :
  Int)).toNat (List.take (x.fst + (1 : Int) + (n - (20000 : Int)).tdiv (100 : Int)).toNat cs)) d x_1.snd.fst x_1.snd.snd = (0 : Int) ∧ True) ∧ (kk = alK (m + (1 : Nat)) es ss cs d
  out k ∧ True) ∧ oo = alO (m + (1 : Nat)) es ss cs d out k ∧ True else ∃ kk_1 oo_1, (True ∧ alE m es ss (List.drop (x.fst + (1 : Int)).toNat (List.take (x.fst + (1 : Int) + (n -
  (20000 : Int)).tdiv (100 : Int)).toNat cs)) d x_1.snd.fst x_1.snd.snd = alE (m + (1 : Nat)) es ss cs d out k ∧ True) ∧ (kk = kk_1 ∧ True) ∧ oo = oo_1 ∧ True else bif decide (rng
  IntKind.i64 (x_1.fst + (1 : Int))) then ∃ y, EtP (alR es ss m) (↑m : Int) es ss (List.take ((n - (20000 : Int)).tdiv (100 : Int)).toNat (List.drop (x.fst + (1 : Int)).toNat cs)) d
  ((n - (20000 : Int)).tmod (100 : Int)) (rpR (alR es ss m) (List.take ((n - (20000 : Int)).tdiv (100 : Int)).toNat (List.drop (x.fst + (1 : Int)).toNat cs)) d ((n - (20000 :
  Int)).tmod (100 : Int)).toNat x.snd.fst (x.snd.snd + (1 : Int))) y ∧ (ep13 m es ss cs x.snd.fst v d x.fst ((n - (20000 : Int)).tdiv (100 : Int)) ((n - (20000 : Int)).tmod (100 :
  Int)) (x.snd.snd + (1 : Int)) f g h (1 : Nat)).m y < (ep13 m es ss cs x.snd.fst v d x.fst ((n - (20000 : Int)).tdiv (100 : Int)) ((n - (20000 : Int)).tmod (100 : Int)) (x.snd.snd +
  (1 : Int)) f g h (1 : Nat)).m x_1 ∧ ((True ∧ cs = cs) ∧ d = d ∧ (0 : Nat) = (0 : Nat) ∧ False ∧ (0 : Nat) = (0 : Nat) ∧ True ∧ (0 : Int) = (0 : Int) ∧ x.fst = x.fst ∧ (n - (20000 :
  Int)).tdiv (100 : Int) = (n - (20000 : Int)).tdiv (100 : Int) ∧ (n - (20000 : Int)).tmod (100 : Int) = (n - (20000 : Int)).tmod (100 : Int) ∧ x_1.fst + (1 : Int) = y.fst ∧ True) ∧
  (kk = y.snd.snd ∧ True) ∧ oo = y.snd.fst ∧ (v = v ∧ ((bif f then f = true else True) ∧ es = es) ∧ ((bif g then g = true else True) ∧ ss = ss) ∧ True) ∧ True else False else False
  else False else False else False else False else bif decide (rng IntKind.i64 (x.fst + (n - (20000 : Int)).tdiv (100 : Int))) then bif decide (rng IntKind.i64 (x.fst + (n - (20000 :
  Int)).tdiv (100 : Int) + (1 : Int))) then ∃ y, EpP (fun cs out k => fiR (alR es ss m) es ss cs d out k) ((↑m : Int) + (1 : Int)) es ss cs d (alR es ss (m + (1 : Nat)) cs d out k) y
  ∧ (ep2 m es ss cs v d f g h (1 : Nat) (alR es ss (m + (1 : Nat)) cs d out k)).m y < (ep2 m es ss cs v d f g h (1 : Nat) (alR es ss (m + (1 : Nat)) cs d out k)).m x ∧ ((True ∧ cs =
  cs) ∧ d = d ∧ (0 : Nat) = (0 : Nat) ∧ List.length x_1.snd.fst = List.length y.snd.fst ∧ (0 : Nat) = (0 : Nat) ∧ True ∧ (0 : Int) = (0 : Int) ∧ x.fst + (n - (20000 : Int)).tdiv (100
  : Int) + (1 : Int) = y.fst ∧ True) ∧ (x_1.snd.snd = y.snd.snd ∧ True) ∧ x_1.snd.fst = y.snd.fst ∧ (v = v ∧ ((bif f then f = true else True) ∧ es = es) ∧ ((bif g then g = true else
  True) ∧ ss = ss) ∧ True) ∧ True else False else False else False else False else False else False else False else False else bif decide (alE (m + (1 : Nat)) es ss cs d out k = (0 :
  Int)) then (List.length x.snd.fst = List.length (alO (m + (1 : Nat)) es ss cs d out k) ∧ (0 : Int) = (0 : Int) ∧ True) ∧ (x.snd.snd = alK (m + (1 : Nat)) es ss cs d out k ∧ True) ∧
  x.snd.fst = alO (m + (1 : Nat)) es ss cs d out k ∧ True else ∃ kk oo, (False ∧ (0 : Int) = alE (m + (1 : Nat)) es ss cs d out k ∧ True) ∧ (x.snd.snd = kk ∧ True) ∧ x.snd.fst = oo ∧
  True
set_option maxRecDepth 100000 in
theorem gexp_P : gexp_T m alE alO alK knd := by
  unfold gexp_T
  intro gl es ss cs out v d k f g h n ⟨⟨⟨⟨hp, hc⟩, hu⟩, hcl⟩, hn⟩
  subst hn
  have bf : cond f (f = true) True := by cases f <;> trivial
  have bg : cond g (g = true) True := by cases g <;> trivial
  have hle := hu.fe
  have hls := hu.fs
  have ndE : (hds es).Nodup := (List.nodup_append.1 hu.fn).1
  have ndS : (hds ss).Nodup := (List.nodup_append.1 hu.fn).2.1
  refine ⟨⟨(0, out, k), ⟨by simp, by simp, hp, cs.length, by simp, rfl⟩, by (repeat' (first | exact trivial | exact rfl | assumption | apply And.intro))⟩, ?_⟩
  unfold alE alO alK
  generalize alR es ss (m + 1) cs d out k = R
  rintro ⟨i, o, j⟩ ⟨i0, i1, ix, nn, hnn, hr⟩
  simp only at i0 i1 ix hnn hr
  dsimp only
  have err : ∀ {A : Prop} {e K : Int} {O : LLA}, R.1 = e → ¬ e = 0 → cond (decide (R.1 = 0)) A (∃ (kk : Int) (oo : LLA), (True ∧ e = R.1 ∧ True) ∧ (K = kk ∧ True) ∧ O = oo ∧ True) := fun {A e K O} h1 h2 => csx (fun q => absurd (h1 ▸ q) h2) (fun _ => ⟨K, O, ⟨trivial, h1.symm, trivial⟩, ⟨rfl, trivial⟩, rfl, trivial⟩)
  refine csx (fun hi => cd1 (by omega) ?_) (fun hi => ?_)
  · obtain ⟨c, hcc, _⟩ := hc.fr i.toNat (by omega)
    have j0 := ix.f0
    have j5 := ix.f5
    have jm := ix.fm
    have jo := ix.fo
    have d0 := ix.fd
    have ld : (cs.drop i.toNat).length = cs.length - i.toNat := List.length_drop
    obtain ⟨nn, rfl⟩ : ∃ q', nn = q' + 1 := ⟨nn - 1, by omega⟩
    rw [alL, if_neg (by omega)] at hr
    have hg : cellI ((cs.drop i.toNat).getD 0 []) = c := by
      rw [List.getD_eq_getElem?_getD, List.getElem?_drop, Nat.add_zero, ← List.getD_eq_getElem?_getD, hcc]; rfl
    have hd : (cs.drop i.toNat).drop 1 = cs.drop (i + 1).toNat := by
      rw [List.drop_drop, show i.toNat + 1 = (i + 1).toNat by omega]
    refine ⟨c, by rw [hcc]; rfl, cdI (by omega) (csx (fun hb => ?_) (fun hb => ⟨trivial, ?_⟩))⟩
    · rw [fi_big hb, if_neg (show ¬ (2 : Int) = 0 by decide)] at hr
      exact err (by rw [← hr]) (by decide)
    have hx1 : ExP (m + 1) es ss d o (j + 1) := ix.next jo (by omega) (by omega)
    have hxm : ExP m es ss d o (j + 1) := ix.up jo (by omega) (by omega) (by omega)
    rcases knd_cs c with hk | hk | hk | ⟨hk, k1, k2, k3, k4, k5⟩
    · refine cd1 hk ?_
      rw [fi_0 hb (by rw [hg, hk]; decide) (by rw [hg, hk]; decide) (by rw [hg, hk]; decide), if_neg (show ¬ (1 : Int) = 0 by decide)] at hr
      exact err (by rw [← hr]) (by decide)
    · refine cd0 (by omega) (cd1 hk ⟨⟨(0, o, false), ⟨by simp, by simp, by simp, by simp⟩, by (repeat' (first | exact trivial | exact rfl | assumption | apply And.intro))⟩, ?_⟩)
      rw [fi_1 hb (by rw [hg]; exact hk), hg, hd] at hr
      simp only at hr
      rintro ⟨q, o2, b⟩ ⟨q0, q1, qo, qb⟩
      simp only at q0 q1 qo qb
      dsimp only
      have hol : o2.length ≤ 60 + 40 := by
        rw [qo, List.length_append]
        have := List.length_filter_le (hcP c) (es.take q.toNat)
        rw [List.length_take] at this
        omega
      refine csx (fun hq => cd1 (by omega) ?_) (fun hq => ?_)
      · obtain ⟨c1, a1, a2, a3, a4, ha, _⟩ := hp.fe.fr q.toNat (by omega)
        have hx : hcP c (es.getD q.toNat []) = decide (c1 = c) := by rw [ha]; rfl
        refine ⟨c1, a1, a2, a3, a4, by rw [ha]; rfl, csx (fun he => cd1 ⟨rfl, by simp; omega, by simp; omega⟩ (cdI (by omega) ⟨(q + 1, o2 ++ [[.int .i64 c1, .int .i64 a1, .int .i64 a2, .int .i64 a3, .int .i64 a4]], true), ⟨by simp only; omega, by simp only; omega, ?_, ?_⟩, by simp only [ep25]; omega, by (repeat' (first | exact trivial | exact rfl | assumption | apply And.intro))⟩)) (fun he => cdI (by omega) ⟨(q + 1, o2, b), ⟨by simp only; omega, by simp only; omega, ?_, ?_⟩, by simp only [ep25]; omega, by (repeat' (first | exact trivial | exact rfl | assumption | apply And.intro))⟩)⟩
        · simp only
          rw [show (q + 1).toNat = q.toNat + 1 by omega, flt_take (by omega), hx, decide_eq_true he, ha, qo]; simp
        · simp only
          rw [show (q + 1).toNat = q.toNat + 1 by omega, any_take (by omega), hx, decide_eq_true he]; simp
        · simp only
          rw [show (q + 1).toNat = q.toNat + 1 by omega, flt_take (by omega), hx, decide_eq_false he, qo]; simp
        · simp only
          rw [show (q + 1).toNat = q.toNat + 1 by omega, any_take (by omega), hx, decide_eq_false he, qb]; simp
      · rw [List.take_of_length_le (by omega)] at qo qb
        refine csplit (fun hb2 => ?_) (fun hb2 => ?_)
        · have : es.any (hcP c) = false := by rw [← qb]; simpa using hb2
          have e6 : enErr es c o.length = 6 := by unfold enErr; rw [if_pos (idx_no this)]
          rw [e6, if_neg (show ¬ (6 : Int) = 0 by decide)] at hr
          exact err (by rw [← hr]) (by decide)
        · have hany : es.any (hcP c) = true := by rw [← qb]; simpa using hb2
          obtain ⟨y1, y2⟩ := idx_yes hany
          have y3 := flt_one ndE hany
          have ol : o2.length = o.length + 1 := by rw [qo, y3]; simp
          refine csx (fun h6 => ?_) (fun h6 => ?_)
          · have e2 : enErr es c o.length = 2 := by unfold enErr; rw [if_neg y2, if_pos (by omega)]
            rw [e2, if_neg (show ¬ (2 : Int) = 0 by decide)] at hr
            exact err (by rw [← hr]) (by decide)
          · have e0 : enErr es c o.length = 0 := by unfold enErr; rw [if_neg y2, if_neg (by omega)]
            have eo : enOut es c o = o2 := by
              unfold enOut
              rw [if_pos e0, y1, Int.toNat_natCast, qo, y3]
            rw [e0, if_pos rfl, eo] at hr
            exact cdI (by omega) ⟨(i + 1, o2, j + 1), ⟨by simp only; omega, by simp only; omega, ix.next (by simp only; omega) (by simp only; omega) (by simp only; omega), nn, by simp only [List.length_drop]; omega, hr⟩, by simp only [ep2]; omega, by (repeat' (first | exact trivial | exact rfl | assumption | apply And.intro))⟩
    · refine cd0 (by omega) (cd0 (by omega) (cd1 hk ⟨⟨(0, o, j + 1, false), ⟨by simp, by simp, hxm, by simp, fun _ => ⟨rfl, rfl⟩, fun e => by cases e⟩, by (repeat' (first | exact trivial | exact rfl | assumption | apply And.intro))⟩, ?_⟩))
      rw [fi_2 hb (by rw [hg]; exact hk), hg, hd] at hr
      simp only at hr
      rintro ⟨q, o2, j2, b⟩ ⟨q0, q1, qx, qb, qf, qt⟩
      simp only at q0 q1 qx qb qf qt
      dsimp only
      refine csx (fun hq => cd1 (by omega) ?_) (fun hq => ?_)
      · obtain ⟨c1, xs, ha, _, hxs⟩ := hp.fs.fr q.toNat (by omega)
        have hx : hcP c (ss.getD q.toNat []) = decide (c1 = c) := by rw [ha]; rfl
        refine ⟨c1, xs, by rw [ha]; rfl, csx (fun he => cdI (by omega) ⟨(q + 1, o2, j2, b), ⟨by simp only; omega, by simp only; omega, qx, ?_, qf, qt⟩, by simp only [ep37]; omega, by (repeat' (first | exact trivial | exact rfl | assumption | apply And.intro))⟩) (fun he => ?_)⟩
        · simp only
          rw [show (q + 1).toNat = q.toNat + 1 by omega, any_take (by omega), hx, decide_eq_false he, qb]; simp
        have hxl : xs.length ≤ 20 := by have := hu.fq q.toNat (by omega); rw [ha] at this; exact this
        have he := Decidable.not_not.1 he
        have hx : hcP c (ss.getD q.toNat []) = true := by rw [hx]; exact decide_eq_true he
        have hb0 : b = false := by rw [qb]; exact no_two ndS (by omega) hx
        obtain ⟨z1, z2⟩ := qf hb0
        subst z1 z2
        have hidx := idx_q ndS (by omega) hx
        have hsq : sqR (alR es ss m) ss c d o2 (j + 1) = if 20 < d then (2, o2, j + 1) else alR es ss m xs (d + 1) o2 (j + 1) := by
          unfold sqR
          rw [if_neg (by omega), ← hidx, Int.toNat_natCast, ha]; rfl
        rw [hsq] at hr
        refine csx (fun h20 => ?_) (fun h20 => cdI (by omega) ⟨⟨⟨⟨⟨⟨hp.fe, hp.fs, jo, by omega, by omega, by omega, by omega⟩, hxs⟩, hu⟩, hxl⟩, rfl⟩, ?_⟩)
        · rw [if_pos h20, if_neg (show ¬ (2 : Int) = 0 by decide)] at hr
          exact err (by rw [← hr]) (by decide)
        rw [if_neg h20] at hr hsq
        have hal := alR_ok es ss m xs (d + 1) o2 (j + 1) ⟨hp.fe, hp.fs, jo, by omega, by omega, by omega, by omega⟩ hxs
        refine csx (fun hz => cdI (by omega) ⟨(q + 1, (alR es ss m xs (d + 1) o2 (j + 1)).2.1, (alR es ss m xs (d + 1) o2 (j + 1)).2.2, true), ⟨by simp only; omega, by simp only; omega, hxm.up hal.fo hal.fk (hal.fz hz) ?_, ?_, (fun e => by cases e), fun _ => ?_⟩, by simp only [ep37]; omega, by (repeat' (first | exact trivial | exact rfl | assumption | apply And.intro))⟩) (fun hz kk oo => csx (fun _ => ?_) (fun h2 => absurd (Decidable.not_not.1 h2) hz))
        · have := hal.fk; simp only; omega
        · simp only
          rw [show (q + 1).toNat = q.toNat + 1 by omega, any_take (by omega), hx]; simp
        · simp only
          rw [hsq, ← hz]
        · rw [if_neg hz] at hr
          exact err (by rw [← hr]) hz
      · rw [List.take_of_length_le (by omega)] at qb
        refine csplit (fun hb2 => ?_) (fun hb2 => ?_)
        · have : ss.any (hcP c) = false := by rw [← qb]; simpa using hb2
          have e6 : sqR (alR es ss m) ss c d o (j + 1) = (6, o, j + 1) := by unfold sqR; rw [if_pos (idx_no this)]
          rw [e6, if_neg (show ¬ (6 : Int) = 0 by decide)] at hr
          exact err (by rw [← hr]) (by decide)
        · have hb3 : b = true := by simpa using hb2
          rw [qt hb3, if_pos rfl] at hr
          have x5 := qx.f5
          have xo := qx.fo
          have xm := qx.fm
          exact cdI (by omega) ⟨(i + 1, o2, j2), ⟨by simp only; omega, by simp only; omega, ⟨qx.fe, qx.fs, xo, qx.f0, x5, by simp only; omega, qx.fd⟩, nn, by simp only [List.length_drop]; omega, hr⟩, by simp only [ep2]; omega, by (repeat' (first | exact trivial | exact rfl | assumption | apply And.intro))⟩
    · have e1 : (c - 20000).tdiv 100 = rpX c := Int.tdiv_eq_ediv_of_nonneg (by omega)
      have e2 : (c - 20000).tmod 100 = rpY c := Int.tmod_eq_emod_of_nonneg (by omega)
      have hrng : rng .i64 c := by obtain ⟨c', h1, h2⟩ := hc.fr i.toNat (by omega); rw [hcc] at h1; simp only [List.cons.injEq, AV.int.injEq, true_and, and_true] at h1; rw [h1]; exact h2
      have hrng : -9223372036854775808 ≤ c ∧ c ≤ 9223372036854775807 := hrng
      rw [e1, e2]
      have h3 := hk
      refine cd0 (by omega) (cd0 (by omega) (cd0 (by omega) (cdI (by omega) (cdI (by omega) (cdI (by omega) (cdI (by omega) (csx (fun hs => ?_) (fun hs => ?_))))))))
      · rw [fi_3s hb (by rw [hg]; exact hk) (by rw [hg, hd, List.length_drop]; omega), if_neg (show ¬ (11 : Int) = 0 by decide)] at hr
        exact err (by rw [← hr]) (by decide)
      rw [fi_3 hb (by rw [hg]; exact hk) (by rw [hg, hd, List.length_drop]; omega), hg, hd] at hr
      generalize rpX c = X at *
      generalize rpY c = Y at *
      have hsl : List.drop (i + 1).toNat (List.take (i + 1 + X).toNat cs) = List.take X.toNat (List.drop (i + 1).toNat cs) := by
        rw [List.drop_take, show (i + 1 + X).toNat - (i + 1).toNat = X.toNat by omega]
      rw [hsl]
      have hct : CdsP (List.take X.toNat (List.drop (i + 1).toNat cs)) := (hc.drop _).take _
      refine ⟨⟨(0, o, j + 1), ⟨by simp, by simp only; omega, hxm, by simp⟩, by (repeat' (first | exact trivial | exact rfl | assumption | apply And.intro))⟩, ?_⟩
      rintro ⟨t, o2, j2⟩ ⟨t0, t1, tx, tr⟩
      simp only at t0 t1 tx tr
      dsimp only
      have x0 := tx.f0
      have x5 := tx.f5
      have xo := tx.fo
      have xm := tx.fm
      refine csx (fun ht => cdI (by omega) (cdI (by omega) (cdI (by omega) (cd1 (by omega) (cd1 (by omega) ⟨⟨⟨⟨⟨tx, hct⟩, hu⟩, by rw [List.length_take, List.length_drop]; omega⟩, rfl⟩, ?_⟩))))) (fun ht => cdI (by omega) (cdI (by omega) ?_))
      · rw [show (Y - t).toNat = (Y - (t + 1)).toNat + 1 by omega, rpR] at tr
        have hal := alR_ok es ss m _ d o2 j2 tx hct
        refine csx (fun hz => ?_) (fun hz kk oo => csx (fun _ => ?_) (fun h2 => absurd (Decidable.not_not.1 h2) hz))
        · rw [if_pos hz] at tr
          have := hal.fk
          have := hal.fz hz
          exact cdI (by omega) ⟨(t + 1, _, _), ⟨by simp only; omega, by simp only; omega, tx.next hal.fo hal.fk (hal.fz hz), tr⟩, by simp only [ep13]; omega, by (repeat' (first | exact trivial | exact rfl | assumption | apply And.intro))⟩
        · rw [if_neg hz] at tr
          rw [← tr, if_neg hz] at hr
          simp only at hr
          rw [if_neg hz] at hr
          exact err (by rw [← hr]) hz
      · rw [show (Y - t).toNat = 0 by omega, rpR] at tr
        rw [← tr, if_pos rfl] at hr
        simp only [if_true] at hr
        rw [List.drop_drop, show (i + 1).toNat + X.toNat = (i + X + 1).toNat by omega] at hr
        exact ⟨(i + X + 1, o2, j2), ⟨by simp only; omega, by simp only; omega, ⟨tx.fe, tx.fs, xo, x0, x5, by simp only; omega, tx.fd⟩, nn, by simp only [List.length_drop]; omega, hr⟩, by simp only [ep2]; omega, by (repeat' (first | exact trivial | exact rfl | assumption | apply And.intro))⟩
  · rw [alL_end (by rw [List.length_drop]; omega)] at hr
    rw [← hr]
    exact cd1 rfl ⟨⟨rfl, rfl, trivial⟩, ⟨rfl, trivial⟩, rfl, trivial⟩
def gexp_S (m : Nat) (alE : Nat → LLA → LLA → LLA → Int → LLA → Int → Int) (alO : Nat → LLA → LLA → LLA → Int → LLA → Int → LLA) (alK : Nat → LLA → LLA → LLA → Int → LLA → Int → Int) (knd : Int → Int) : Prop := ∀ (gl : Glob) (es ss cs out : List (List AV)) (v d k : Int) (f g h : Bool) (n : Nat), (((ExP (m + 1) es ss d out k ∧ CdsP cs) ∧ UnP es ss) ∧ cs.length ≤ 20) ∧ n = out.length → fnQ Tryd.prog { glob := gl, spec := lk [(40, (tkind_s knd))], specH := lk [], specQ := lk [(38, (rexp_s m alE alO alK))], shape := [36, 98, 121], slz := [(121, [1])], nowf := true } { nt := 147, drop := drp [(2, 939524096), (3, 6442450944), (4, 128849018880), (5, 4260607557632), (6, 30786325577728), (8, 70368744177664), (9, 17732923532771328), (10, 558446353793941504), (13, 3458764513820540928), (14, 27670116110564327424), (15, 2417814745741110930309120), (16, 2417851639229258349412352), (17, 9671406556917033397649408), (18, 19342813113834066795298816), (19, 270799383593676935134183424), (20, 618970019642690137449562112), (22, 2475880078570760549798248448), (24, 4951760157141521099596496896), (26, 475368975085586025561263702016), (27, 4436777100798802905238461218816), (28, 152118072027387528179604384645120), (29, 162259276829213363391578010288128), (30, 324518553658426726783156020576256), (32, 3894222643901120721397872246915072), (34, 20769187434139310514121985316880384), (36, 41538374868278621028243970633760768), (38, 3987683987354747618711421180841033728), (39, 37218383881977644441306597687849648128), (41, 85070591730234615865843651857942052864), (43, 696558005087161034709527821412829528850432), (44, 696898287454081973172991196020261297061888), (45, 2787593149816327892691964784081045188247552), (46, 5575186299632655785383929568162090376495104), (47, 11150372599265311570767859136324180752990208), (48, 22300745198530623141535718272648361505980416), (50, 89202980794122492566142873090593446023921664)], fr := 1000, kp := [0, 1], own := true } (epJ m es ss cs v d f g h 1 (alR es ss (m + 1) cs d out k)) 6 Tryd.f38 [.agg [.int .i64 v, .sl 5 f es, .sl 2 g ss], .sl 1 h cs, .int .i64 d, .ptr 0 0, .rw 1 5 n] [.cells [.int .i64 k], .row 23 5 out] (fun r2 bs2 => cond (decide (alE (m + 1) es ss cs d out k = 0)) (le r2 (.tup [.rw 1 5 (alO (m + 1) es ss cs d out k).length, .int .i64 0]) ∧ leBs bs2 [.cells [.int .i64 (alK (m + 1) es ss cs d out k)], .row 23 5 (alO (m + 1) es ss cs d out k)]) (∃ (kk : Int) (oo : List (List AV)), le r2 (.tup [.nils, .int .i64 (alE (m + 1) es ss cs d out k)]) ∧ leBs bs2 [.cells [.int .i64 kk], .row 23 5 oo]))
set_option maxRecDepth 100000 in
theorem gexp_e (m : Nat) (alE : Nat → LLA → LLA → LLA → Int → LLA → Int → Int) (alO : Nat → LLA → LLA → LLA → Int → LLA → Int → LLA) (alK : Nat → LLA → LLA → LLA → Int → LLA → Int → Int) (knd : Int → Int) : gexp_T m alE alO alK knd = gexp_S m alE alO alK knd := by kernel_rfl
theorem gexp_v : gexp_S m alE alO alK knd := @Eq.mp (gexp_T m alE alO alK knd) (gexp_S m alE alO alK knd) (gexp_e m alE alO alK knd) (gexp_P m)
end Go.Proofs.YthdfkiopppkfcaaDoor
