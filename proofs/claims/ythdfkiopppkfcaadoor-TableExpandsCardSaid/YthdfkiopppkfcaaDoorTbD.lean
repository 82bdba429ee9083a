/- Tables: the law's bent tables. -/
import Derived.Test.YthdfkiopppkfcaaDoorTbKA
namespace Go.Proofs.YthdfkiopppkfcaaDoor
open Go
set_option linter.unusedVariables false
set_option linter.unusedSimpArgs false

/-- The lists of codes are short. -/
structure SqB (ss : LLA) : Prop where
  fb : ∀ i, i < ss.length → (sqC (ss.getD i [])).length ≤ 1000
theorem sqb_sn {x cs : LLA} {a : Int} (hx : SqB x) (hc : cs.length ≤ 1000) : SqB (x ++ [[.int .i64 a, .sl 1 false cs]]) := ⟨fun i hi => by
  rw [List.length_append, List.length_singleton] at hi
  by_cases q : i < x.length
  · rw [List.getD_eq_getElem?_getD, List.getElem?_append_left q, ← List.getD_eq_getElem?_getD]; exact hx.fb i q
  · rw [List.getD_eq_getElem?_getD, List.getElem?_append_right (by omega), show i - x.length = 0 by omega]
    exact hc⟩
structure BenQ (es ss : LLA) (v j : Int) : Prop where
  fe : EnsP es
  fs : SqsP ss
  fl : es.length ≤ 100
  fm : ss.length ≤ 100
  fv : rng .i64 v
  fj : 0 ≤ j
  fb : SqB ss
structure BnP (es : LLA) : Prop where
  fe : EnsP es
  fl : es.length ≤ 41
def bn5 (xs ss : LLA) (v j : Int) (m : Nat) : LInv := ⟨LLA, fun es => ⟨[(3, .ptr 1003 0), (4, .ptr 1004 0)], [(0, .cells [.sl 1 false xs, .int .i64 j]), (1003, .cells [.int .i64 v, .rw 1006 5 es.length, .rw 1011 2 m]), (1004, .cells [.int .i64 0, .nils, .nils]), (1006, .row 23 5 es), (1011, .row 49 2 ss)]⟩, BnP, fun es => 41 - es.length, none⟩
def bnJ (id : Nat) (st : St) : Option LInv := match lk st.heap 0, lk st.heap 1003, lk st.heap 1011 with
  | some (.cells [.sl _ _ xs, .int _ j]), some (.cells [.int _ v, _, .rw _ _ m]), some (.row _ _ ss) => cond (Nat.beq id 5) (some (bn5 xs ss v j m)) none
  | _, _, _ => none
theorem ens_set {es : LLA} (he : EnsP es) {k c : Nat} {n : Int} (hk : k < es.length) (hc : c < 5) (hn : rng .i64 n) : EnsP (setEl es k c [.int .i64 n]) ∧ (setEl es k c [.int .i64 n]).length = es.length := by
  obtain ⟨a1, a2, a3, a4, a5, hr, r1, r2, r3, r4, r5⟩ := he.fr k hk
  have key : ∃ row, setEl es k c [.int .i64 n] = es.set k row ∧ ∃ c e w sc l : Int, row = [.int .i64 c, .int .i64 e, .int .i64 w, .int .i64 sc, .int .i64 l] ∧ rng .i64 c ∧ rng .i64 e ∧ rng .i64 w ∧ rng .i64 sc ∧ rng .i64 l := by
    rcases c with _ | _ | _ | _ | _ | c
    · exact ⟨_, by unfold setEl; rw [hr]; rfl, n, a2, a3, a4, a5, rfl, hn, r2, r3, r4, r5⟩
    · exact ⟨_, by unfold setEl; rw [hr]; rfl, a1, n, a3, a4, a5, rfl, r1, hn, r3, r4, r5⟩
    · exact ⟨_, by unfold setEl; rw [hr]; rfl, a1, a2, n, a4, a5, rfl, r1, r2, hn, r4, r5⟩
    · exact ⟨_, by unfold setEl; rw [hr]; rfl, a1, a2, a3, n, a5, rfl, r1, r2, r3, hn, r5⟩
    · exact ⟨_, by unfold setEl; rw [hr]; rfl, a1, a2, a3, a4, n, rfl, r1, r2, r3, r4, hn⟩
    · omega
  obtain ⟨row, e, hrow⟩ := key
  rw [e]
  refine ⟨⟨fun i hi => ?_, by rw [List.length_set]; exact he.fl⟩, List.length_set⟩
  rw [List.length_set] at hi
  by_cases q : i = k
  · subst q
    rw [List.getD_eq_getElem?_getD, List.getElem?_set_self hi]; exact hrow
  · rw [List.getD_eq_getElem?_getD, List.getElem?_set_ne (fun w => q w.symm), ← List.getD_eq_getElem?_getD]; exact he.fr i hi
theorem ens_sn {x : LLA} {a1 a2 a3 a4 a5 : Int} (hx : EnsP x) (hl : x.length ≤ 1000) (h1 : rng .i64 a1) (h2 : rng .i64 a2) (h3 : rng .i64 a3) (h4 : rng .i64 a4) (h5 : rng .i64 a5) : EnsP (x ++ [[.int .i64 a1, .int .i64 a2, .int .i64 a3, .int .i64 a4, .int .i64 a5]]) := ⟨fun i hi => by
  rw [List.length_append, List.length_singleton] at hi
  by_cases q : i < x.length
  · rw [List.getD_eq_getElem?_getD, List.getElem?_append_left q, ← List.getD_eq_getElem?_getD]; exact hx.fr i q
  · rw [List.getD_eq_getElem?_getD, List.getElem?_append_right (by omega), show i - x.length = 0 by omega]
    exact ⟨a1, a2, a3, a4, a5, rfl, h1, h2, h3, h4, h5⟩, by simp; omega⟩
theorem sqs_sn {x cs : LLA} {a : Int} (hx : SqsP x) (hl : x.length ≤ 1000) (h1 : rng .i64 a) (hc : CdsP cs) : SqsP (x ++ [[.int .i64 a, .sl 1 false cs]]) := ⟨fun i hi => by
  rw [List.length_append, List.length_singleton] at hi
  by_cases q : i < x.length
  · rw [List.getD_eq_getElem?_getD, List.getElem?_append_left q, ← List.getD_eq_getElem?_getD]; exact hx.fr i q
  · rw [List.getD_eq_getElem?_getD, List.getElem?_append_right (by omega), show i - x.length = 0 by omega]
    exact ⟨a, cs, rfl, h1, hc⟩, by simp; omega⟩
def lbent_s : SpQ
  | [.ptr 0 0, .agg [.int .i64 ver, .sl 5 f es, .sl 2 g ss]], [.cells [.sl 1 false xs, .int .i64 i]] => some (fun K => (SrcQ xs i ∧ BenQ es ss ver 0 ∧ (1 ≤ es.length ∧ es.length ≤ 40) ∧ ss.length ≤ 40) ∧ (∀ (es2 ss2 : List (List AV)) (v j : Int), (BenQ es2 ss2 v j) → K (.agg [.int .i64 v, .sl 5 false es2, .sl 2 false ss2]) [.cells [.sl 1 false xs, .int .i64 j]]))
  | _, _ => none
set_option maxRecDepth 100000 in
def lbent_T : Prop :=
  ∀ (gl : Glob) (xs es ss : List (List AV)) (i ver : Int) (f g : Bool), SrcQ xs i ∧ BenQ es ss ver (0 : Int) ∧ ((1 : Nat) ≤ es.length ∧ es.length ≤ (40 : Nat)) ∧ ss.length ≤ (40 :
  Nat) → bif decide ((0 : Nat) = (0 : Nat) ∧ (0 : Nat) + es.length ≤ (9223372036854775807 : Nat) ∧ ((0 : Nat) + es.length) * (40 : Nat) ≤ (140737488355328 : Nat)) then bif decide ((0
  : Nat) = (0 : Nat) ∧ (0 : Nat) + ss.length ≤ (9223372036854775807 : Nat) ∧ ((0 : Nat) + ss.length) * (32 : Nat) ≤ (140737488355328 : Nat)) then SrcQ xs i ∧ ∀ (v j : Int), NumQ
  (↑([] ++ es).length : Int) v j → bif decide ((0 : Int) ≤ v ∧ v < (↑([] ++ es).length : Int)) then SrcQ xs j ∧ ∀ (v_1 j : Int), NumQ (9 : Int) v_1 j → bif decide (v_1 = (0 : Int))
  then (SrcQ xs j ∧ ((4 : Nat) = (4 : Nat) ∧ (1 : Nat) ≤ (4 : Nat) ∧ (4 : Nat) ≤ (1000 : Nat)) ∧ IntsB [[AV.int IntKind.i64 (0 : Int)], [AV.int IntKind.i64 (1 : Int)], [AV.int
  IntKind.i64 (99 : Int)], [AV.int IntKind.i64 (100 : Int)]]) ∧ ∀ (v j : Int), PickQ [[AV.int IntKind.i64 (0 : Int)], [AV.int IntKind.i64 (1 : Int)], [AV.int IntKind.i64 (99 : Int)],
  [AV.int IntKind.i64 (100 : Int)]] (AV.int IntKind.i64 v) j → bif decide (([] ++ es).length = ([] ++ es).length) then bif decide (([] ++ ss).length = ([] ++ ss).length) then ∃ es2
  ss2 v_2 j_1, BenQ es2 ss2 v_2 j_1 ∧ (v = v_2 ∧ (True ∧ [] ++ es = es2) ∧ (True ∧ [] ++ ss = ss2) ∧ True) ∧ ((True ∧ xs = xs) ∧ j = j_1 ∧ True) ∧ True else False else False else bif
  decide (v_1 = (1 : Int)) then (SrcQ xs j ∧ ((4 : Nat) = (4 : Nat) ∧ (1 : Nat) ≤ (4 : Nat) ∧ (4 : Nat) ≤ (1000 : Nat)) ∧ IntsB [[AV.int IntKind.i64 (1 : Int)], [AV.int IntKind.i64
  (2 : Int)], [AV.int IntKind.i64 (24 : Int)], [AV.int IntKind.i64 (25 : Int)]]) ∧ ∀ (v_2 j : Int), PickQ [[AV.int IntKind.i64 (1 : Int)], [AV.int IntKind.i64 (2 : Int)], [AV.int
  IntKind.i64 (24 : Int)], [AV.int IntKind.i64 (25 : Int)]] (AV.int IntKind.i64 v_2) j → bif decide (([] ++ es).length = ([] ++ es).length ∧ v.toNat < ([] ++ es).length) then bif
  decide (([] ++ es).length = (setEl ([] ++ es) v.toNat (2 : Nat) [AV.int IntKind.i64 v_2]).length) then bif decide (([] ++ ss).length = ([] ++ ss).length) then ∃ es2 ss2 v_3 j_1,
  BenQ es2 ss2 v_3 j_1 ∧ (ver = v_3 ∧ (True ∧ setEl ([] ++ es) v.toNat (2 : Nat) [AV.int IntKind.i64 v_2] = es2) ∧ (True ∧ [] ++ ss = ss2) ∧ True) ∧ ((True ∧ xs = xs) ∧ j = j_1 ∧
  True) ∧ True else False else False else False else bif decide (v_1 = (2 : Int)) then (SrcQ xs j ∧ ((4 : Nat) = (4 : Nat) ∧ (1 : Nat) ≤ (4 : Nat) ∧ (4 : Nat) ≤ (1000 : Nat)) ∧ IntsB
  [[AV.int IntKind.i64 (0 : Int)], [AV.int IntKind.i64 (1 : Int)], [AV.int IntKind.i64 (1000 : Int)], [AV.int IntKind.i64 (1001 : Int)]]) ∧ ∀ (v_2 j : Int), PickQ [[AV.int
  IntKind.i64 (0 : Int)], [AV.int IntKind.i64 (1 : Int)], [AV.int IntKind.i64 (1000 : Int)], [AV.int IntKind.i64 (1001 : Int)]] (AV.int IntKind.i64 v_2) j → bif decide (([] ++
  es).length = ([] ++ es).length ∧ v.toNat < ([] ++ es).length) then bif decide (([] ++ es).length = (setEl ([] ++ es) v.toNat (3 : Nat) [AV.int IntKind.i64 v_2]).length) then bif
  decide (([] ++ ss).length = ([] ++ ss).length) then ∃ es2 ss2 v_3 j_1, BenQ es2 ss2 v_3 j_1 ∧ (ver = v_3 ∧ (True ∧ setEl ([] ++ es) v.toNat (3 : Nat) [AV.int IntKind.i64 v_2] =
  es2) ∧ (True ∧ [] ++ ss = ss2) ∧ True) ∧ ((True ∧ xs = xs) ∧ j = j_1 ∧ True) ∧ True else False else False else False else bif decide (v_1 = (3 : Int)) then (SrcQ xs j ∧ ((4 : Nat)
  = (4 : Nat) ∧ (1 : Nat) ≤ (4 : Nat) ∧ (4 : Nat) ≤ (1000 : Nat)) ∧ IntsB [[AV.int IntKind.i64 (-100001 : Int)], [AV.int IntKind.i64 (-100000 : Int)], [AV.int IntKind.i64 (100000 :
  Int)], [AV.int IntKind.i64 (100001 : Int)]]) ∧ ∀ (v_2 j : Int), PickQ [[AV.int IntKind.i64 (-100001 : Int)], [AV.int IntKind.i64 (-100000 : Int)], [AV.int IntKind.i64 (100000 :
  Int)], [AV.int IntKind.i64 (100001 : Int)]] (AV.int IntKind.i64 v_2) j → bif decide (([] ++ es).length = ([] ++ es).length ∧ v.toNat < ([] ++ es).length) then bif decide (([] ++
  es).length = (setEl ([] ++ es) v.toNat (4 : Nat) [AV.int IntKind.i64 v_2]).length) then bif decide (([] ++ ss).length = ([] ++ ss).length) then ∃ es2 ss2 v_3 j_1, BenQ es2 ss2 v_3
  j_1 ∧ (ver = v_3 ∧ (True ∧ setEl ([] ++ es) v.toNat (4 : Nat) [AV.int IntKind.i64 v_2] = es2) ∧ (True ∧ [] ++ ss = ss2) ∧ True) ∧ ((True ∧ xs = xs) ∧ j = j_1 ∧ True) ∧ True else
  False else False else False else bif decide (v_1 = (4 : Int)) then (SrcQ xs j ∧ ((5 : Nat) = (5 : Nat) ∧ (1 : Nat) ≤ (5 : Nat) ∧ (5 : Nat) ≤ (1000 : Nat)) ∧ IntsB [[AV.int
  IntKind.i64 (0 : Int)], [AV.int IntKind.i64 (1 : Int)], [AV.int IntKind.i64 (100 : Int)], [AV.int IntKind.i64 (9999 : Int)], [AV.int IntKind.i64 (10000 : Int)]]) ∧ ∀ (v_2 j : Int),
  PickQ [[AV.int IntKind.i64 (0 : Int)], [AV.int IntKind.i64 (1 : Int)], [AV.int IntKind.i64 (100 : Int)], [AV.int IntKind.i64 (9999 : Int)], [AV.int IntKind.i64 (10000 : Int)]]
  (AV.int IntKind.i64 v_2) j → bif decide (([] ++ es).length = ([] ++ es).length ∧ v.toNat < ([] ++ es).length) then bif decide (([] ++ es).length = (setEl ([] ++ es) v.toNat (0 :
  Nat) [AV.int IntKind.i64 v_2]).length) then bif decide (([] ++ ss).length = ([] ++ ss).length) then ∃ es2 ss2 v_3 j_1, BenQ es2 ss2 v_3 j_1 ∧ (ver = v_3 ∧ (True ∧ setEl ([] ++ es)
  v.toNat (0 : Nat) [AV.int IntKind.i64 v_2] = es2) ∧ (True ∧ [] ++ ss = ss2) ∧ True) ∧ ((True ∧ xs = xs) ∧ j = j_1 ∧ True) ∧ True else False else False else False else bif decide
  (v_1 = (5 : Int)) then (SrcQ xs j ∧ ((4 : Nat) = (4 : Nat) ∧ (1 : Nat) ≤ (4 : Nat) ∧ (4 : Nat) ≤ (1000 : Nat)) ∧ IntsB [[AV.int IntKind.i64 (0 : Int)], [AV.int IntKind.i64 (1 :
  Int)], [AV.int IntKind.i64 (11 : Int)], [AV.int IntKind.i64 (12 : Int)]]) ∧ ∀ (v_2 j : Int), PickQ [[AV.int IntKind.i64 (0 : Int)], [AV.int IntKind.i64 (1 : Int)], [AV.int
  IntKind.i64 (11 : Int)], [AV.int IntKind.i64 (12 : Int)]] (AV.int IntKind.i64 v_2) j → bif decide (([] ++ es).length = ([] ++ es).length ∧ v.toNat < ([] ++ es).length) then bif
  decide (([] ++ es).length = (setEl ([] ++ es) v.toNat (1 : Nat) [AV.int IntKind.i64 v_2]).length) then bif decide (([] ++ ss).length = ([] ++ ss).length) then ∃ es2 ss2 v_3 j_1,
  BenQ es2 ss2 v_3 j_1 ∧ (ver = v_3 ∧ (True ∧ setEl ([] ++ es) v.toNat (1 : Nat) [AV.int IntKind.i64 v_2] = es2) ∧ (True ∧ [] ++ ss = ss2) ∧ True) ∧ ((True ∧ xs = xs) ∧ j = j_1 ∧
  True) ∧ True else False else False else False else bif decide (v_1 = (6 : Int)) then (SrcQ xs j ∧ ((4 : Nat) = (4 : Nat) ∧ (1 : Nat) ≤ (4 : Nat) ∧ (4 : Nat) ≤ (1000 : Nat)) ∧ IntsB
  [[AV.int IntKind.i64 (9999 : Int)], [AV.int IntKind.i64 (10000 : Int)], [AV.int IntKind.i64 (19999 : Int)], [AV.int IntKind.i64 (20000 : Int)]]) ∧ ∀ (v j : Int), PickQ [[AV.int
  IntKind.i64 (9999 : Int)], [AV.int IntKind.i64 (10000 : Int)], [AV.int IntKind.i64 (19999 : Int)], [AV.int IntKind.i64 (20000 : Int)]] (AV.int IntKind.i64 v) j → (SrcQ xs j ∧ (0 :
  Int) ≤ (3 : Int) ∧ (3 : Int) ≤ (100 : Int)) ∧ ∀ (cs : List (List AV)) (j : Int), CsQ (3 : Int) cs j → bif decide (([] ++ ss).length = ([] ++ ss).length ∧ ([] ++ ss).length +
  [[AV.int IntKind.i64 v, AV.sl (1 : Nat) false cs]].length ≤ (9223372036854775807 : Nat) ∧ (([] ++ ss).length + [[AV.int IntKind.i64 v, AV.sl (1 : Nat) false cs]].length) * (32 :
  Nat) ≤ (140737488355328 : Nat)) then bif decide (([] ++ es).length = ([] ++ es).length) then bif decide (([] ++ ss ++ [[AV.int IntKind.i64 v, AV.sl (1 : Nat) false cs]]).length =
  ([] ++ ss ++ [[AV.int IntKind.i64 v, AV.sl (1 : Nat) false cs]]).length) then ∃ es2 ss2 v_2 j_1, BenQ es2 ss2 v_2 j_1 ∧ (ver = v_2 ∧ (True ∧ [] ++ es = es2) ∧ (True ∧ [] ++ ss ++
  [[AV.int IntKind.i64 v, AV.sl (1 : Nat) false cs]] = ss2) ∧ True) ∧ ((True ∧ xs = xs) ∧ j = j_1 ∧ True) ∧ True else False else False else False else bif decide (v_1 = (7 : Int))
  then bif decide (([] ++ ss).length = ([] ++ ss).length ∧ ([] ++ ss).length + (1 : Nat) ≤ (9223372036854775807 : Nat) ∧ (([] ++ ss).length + (1 : Nat)) * (32 : Nat) ≤
  (140737488355328 : Nat)) then bif decide (([] ++ es).length = ([] ++ es).length) then bif decide (([] ++ ss ++ [[AV.int IntKind.i64 (15000 : Int), AV.sl (1 : Nat) false [[AV.int
  IntKind.i64 (20120 : Int)], [AV.int IntKind.i64 (15000 : Int)]]]]).length = ([] ++ ss ++ [[AV.int IntKind.i64 (15000 : Int), AV.sl (1 : Nat) false [[AV.int IntKind.i64 (20120 :
  Int)], [AV.int IntKind.i64 (15000 : Int)]]]]).length) then ∃ es2 ss2 v j_1, BenQ es2 ss2 v j_1 ∧ (ver = v ∧ (True ∧ [] ++ es = es2) ∧ (True ∧ [] ++ ss ++ [[AV.int IntKind.i64
  (15000 : Int), AV.sl (1 : Nat) false [[AV.int IntKind.i64 (20120 : Int)], [AV.int IntKind.i64 (15000 : Int)]]]] = ss2) ∧ True) ∧ ((True ∧ xs = xs) ∧ j = j_1 ∧ True) ∧ True else
  False else False else False else (∃ x, BnP x ∧ ((0 : Nat) = (0 : Nat) ∧ (0 : Nat) = (0 : Nat) ∧ True) ∧ ((True ∧ xs = xs) ∧ j = j ∧ True) ∧ (ver = ver ∧ ([] ++ es).length =
  List.length x ∧ ([] ++ ss).length = ([] ++ ss).length ∧ True) ∧ ((0 : Int) = (0 : Int) ∧ True ∧ True ∧ True) ∧ [] ++ es = x ∧ [] ++ ss = [] ++ ss ∧ True) ∧ ∀ (x : List (List AV)),
  BnP x → bif decide ((↑x.length : Int) < (41 : Int)) then bif decide (rng IntKind.i64 ((2000 : Int) + (↑x.length : Int))) then bif decide (x.length = x.length ∧ x.length + [[AV.int
  IntKind.i64 ((2000 : Int) + (↑x.length : Int)), AV.int IntKind.i64 (1 : Int), AV.int IntKind.i64 (8 : Int), AV.int IntKind.i64 (1 : Int), AV.int IntKind.i64 (0 : Int)]].length ≤
  (9223372036854775807 : Nat) ∧ (x.length + [[AV.int IntKind.i64 ((2000 : Int) + (↑x.length : Int)), AV.int IntKind.i64 (1 : Int), AV.int IntKind.i64 (8 : Int), AV.int IntKind.i64 (1
  : Int), AV.int IntKind.i64 (0 : Int)]].length) * (40 : Nat) ≤ (140737488355328 : Nat)) then ∃ y, BnP y ∧ (bn5 xs ([] ++ ss) ver j ([] ++ ss).length).m y < (bn5 xs ([] ++ ss) ver j
  ([] ++ ss).length).m x ∧ ((0 : Nat) = (0 : Nat) ∧ (0 : Nat) = (0 : Nat) ∧ True) ∧ ((True ∧ xs = xs) ∧ j = j ∧ True) ∧ (ver = ver ∧ (x ++ [[AV.int IntKind.i64 ((2000 : Int) +
  (↑x.length : Int)), AV.int IntKind.i64 (1 : Int), AV.int IntKind.i64 (8 : Int), AV.int IntKind.i64 (1 : Int), AV.int IntKind.i64 (0 : Int)]]).length = List.length y ∧ ([] ++
  ss).length = ([] ++ ss).length ∧ True) ∧ ((0 : Int) = (0 : Int) ∧ True ∧ True ∧ True) ∧ x ++ [[AV.int IntKind.i64 ((2000 : Int) + (↑x.length : Int)), AV.int IntKind.i64 (1 : Int),
  AV.int IntKind.i64 (8 : Int), AV.int IntKind.i64 (1 : Int), AV.int IntKind.i64 (0 : Int)]] = y ∧ [] ++ ss = [] ++ ss ∧ True else False else False else bif decide (x.length =
  x.length) then bif decide (([] ++ ss).length = ([] ++ ss).length) then ∃ es2 ss2 v j_1, BenQ es2 ss2 v j_1 ∧ (ver = v ∧ (True ∧ x = es2) ∧ (True ∧ [] ++ ss = ss2) ∧ True) ∧ ((True
  ∧ xs = xs) ∧ j = j_1 ∧ True) ∧ True else False else False else False else False else False
set_option maxRecDepth 100000 in
theorem lbent_P : lbent_T := by
  unfold lbent_T
  intro gl xs es ss i ver f g ⟨hs, hb, ⟨l1, l2⟩, l3⟩
  have s := hs.s
  have hfe := hb.fe
  have hfs := hb.fs
  have hfv := hb.fv
  have hfb := hb.fb
  rw [List.nil_append es, List.nil_append ss]
  refine cd1 ⟨rfl, by omega, by omega⟩ (cd1 ⟨rfl, by omega, by omega⟩ ⟨hs, fun k j q1 => cd1 (by have := q1.fv (by omega); omega) ⟨⟨s, q1.fj⟩, fun w j q2 => ?_⟩⟩)
  have hk := q1.fv (by omega)
  have hj := q2.fj
  have st : ∀ (c : Nat) (n : Int), c < 5 → rng .i64 n → EnsP (setEl es k.toNat c [.int .i64 n]) ∧ (setEl es k.toNat c [.int .i64 n]).length = es.length := fun c n h1 h2 => ens_set hfe (by omega) h1 h2
  refine csx (fun _ => ?_) (fun _ => ?_)
  · refine ⟨⟨⟨s, hj⟩, ⟨rfl, by decide, by decide⟩, ints_of [0, 1, 99, 100] (by decide)⟩, fun v j q => ?_⟩
    have hp := pick_of [0, 1, 99, 100] q; simp only [List.mem_cons, List.not_mem_nil, or_false] at hp
    exact cd1 rfl (cd1 rfl ⟨es, ss, v, j, ⟨hfe, hfs, by omega, by omega, by show _ ∧ _; omega, q.fj, hfb⟩, by (repeat' (first | exact trivial | exact rfl | apply And.intro))⟩)
  refine csx (fun _ => ?_) (fun _ => ?_)
  · refine ⟨⟨⟨s, hj⟩, ⟨rfl, by decide, by decide⟩, ints_of [1, 2, 24, 25] (by decide)⟩, fun v j q => ?_⟩
    have hp := pick_of [1, 2, 24, 25] q; simp only [List.mem_cons, List.not_mem_nil, or_false] at hp
    obtain ⟨u1, u2⟩ := st 2 v (by decide) (by show _ ∧ _; omega)
    exact cd1 ⟨rfl, by omega⟩ (cd1 u2.symm (cd1 rfl ⟨_, ss, ver, j, ⟨u1, hfs, by omega, by omega, hfv, q.fj, hfb⟩, by (repeat' (first | exact trivial | exact rfl | apply And.intro))⟩))
  refine csx (fun _ => ?_) (fun _ => ?_)
  · refine ⟨⟨⟨s, hj⟩, ⟨rfl, by decide, by decide⟩, ints_of [0, 1, 1000, 1001] (by decide)⟩, fun v j q => ?_⟩
    have hp := pick_of [0, 1, 1000, 1001] q; simp only [List.mem_cons, List.not_mem_nil, or_false] at hp
    obtain ⟨u1, u2⟩ := st 3 v (by decide) (by show _ ∧ _; omega)
    exact cd1 ⟨rfl, by omega⟩ (cd1 u2.symm (cd1 rfl ⟨_, ss, ver, j, ⟨u1, hfs, by omega, by omega, hfv, q.fj, hfb⟩, by (repeat' (first | exact trivial | exact rfl | apply And.intro))⟩))
  refine csx (fun _ => ?_) (fun _ => ?_)
  · refine ⟨⟨⟨s, hj⟩, ⟨rfl, by decide, by decide⟩, ints_of [-100001, -100000, 100000, 100001] (by decide)⟩, fun v j q => ?_⟩
    have hp := pick_of [-100001, -100000, 100000, 100001] q; simp only [List.mem_cons, List.not_mem_nil, or_false] at hp
    obtain ⟨u1, u2⟩ := st 4 v (by decide) (by show _ ∧ _; omega)
    exact cd1 ⟨rfl, by omega⟩ (cd1 u2.symm (cd1 rfl ⟨_, ss, ver, j, ⟨u1, hfs, by omega, by omega, hfv, q.fj, hfb⟩, by (repeat' (first | exact trivial | exact rfl | apply And.intro))⟩))
  refine csx (fun _ => ?_) (fun _ => ?_)
  · refine ⟨⟨⟨s, hj⟩, ⟨rfl, by decide, by decide⟩, ints_of [0, 1, 100, 9999, 10000] (by decide)⟩, fun v j q => ?_⟩
    have hp := pick_of [0, 1, 100, 9999, 10000] q; simp only [List.mem_cons, List.not_mem_nil, or_false] at hp
    obtain ⟨u1, u2⟩ := st 0 v (by decide) (by show _ ∧ _; omega)
    exact cd1 ⟨rfl, by omega⟩ (cd1 u2.symm (cd1 rfl ⟨_, ss, ver, j, ⟨u1, hfs, by omega, by omega, hfv, q.fj, hfb⟩, by (repeat' (first | exact trivial | exact rfl | apply And.intro))⟩))
  refine csx (fun _ => ?_) (fun _ => ?_)
  · refine ⟨⟨⟨s, hj⟩, ⟨rfl, by decide, by decide⟩, ints_of [0, 1, 11, 12] (by decide)⟩, fun v j q => ?_⟩
    have hp := pick_of [0, 1, 11, 12] q; simp only [List.mem_cons, List.not_mem_nil, or_false] at hp
    obtain ⟨u1, u2⟩ := st 1 v (by decide) (by show _ ∧ _; omega)
    exact cd1 ⟨rfl, by omega⟩ (cd1 u2.symm (cd1 rfl ⟨_, ss, ver, j, ⟨u1, hfs, by omega, by omega, hfv, q.fj, hfb⟩, by (repeat' (first | exact trivial | exact rfl | apply And.intro))⟩))
  refine csx (fun _ => ?_) (fun _ => ?_)
  · refine ⟨⟨⟨s, hj⟩, ⟨rfl, by decide, by decide⟩, ints_of [9999, 10000, 19999, 20000] (by decide)⟩, fun v j q => ⟨⟨⟨s, q.fj⟩, by decide, by decide⟩, fun cs j qc => ?_⟩⟩
    have hp := pick_of [9999, 10000, 19999, 20000] q; simp only [List.mem_cons, List.not_mem_nil, or_false] at hp
    exact cd1 ⟨rfl, by simp; omega, by simp; omega⟩ (cd1 rfl (cd1 rfl ⟨es, _, ver, j, ⟨hfe, sqs_sn (a := v) hfs (by omega) (by show _ ∧ _; omega) (qc.fc.cds (by decide)), by omega, by simp; omega, hfv, qc.fj, sqb_sn hfb (by have := qc.fc.fl; omega)⟩, by (repeat' (first | exact trivial | exact rfl | apply And.intro))⟩))
  refine csx (fun _ => ?_) (fun _ => ?_)
  · exact cd1 ⟨rfl, by omega, by omega⟩ (cd1 rfl (cd1 rfl ⟨es, _, ver, j, ⟨hfe, sqs_sn (a := 15000) hfs (by omega) (by decide) (cds_of [20120, 15000] (by decide) (by decide)), by omega, by simp; omega, hfv, hj, sqb_sn hfb (by simp)⟩, by (repeat' (first | exact trivial | exact rfl | apply And.intro))⟩))
  refine ⟨⟨es, ⟨hfe, by omega⟩, by (repeat' (first | exact trivial | exact rfl | apply And.intro))⟩, ?_⟩
  rintro x ⟨x1, x2⟩
  refine csx (fun hx => cdI (by omega) (cd1 ⟨rfl, by simp; omega, by simp; omega⟩ ⟨_, ⟨ens_sn (a1 := 2000 + (x.length : Int)) (a2 := 1) (a3 := 8) (a4 := 1) (a5 := 0) x1 (by omega) (by show _ ∧ _; omega) (by decide) (by decide) (by decide) (by decide), by simp; omega⟩, by simp only [bn5, List.length_append, List.length_singleton]; omega, by (repeat' (first | exact trivial | exact rfl | apply And.intro))⟩)) (fun hx => cd1 rfl (cd1 rfl ⟨x, ss, ver, j, ⟨x1, hfs, by omega, by omega, hfv, hj, hfb⟩, by (repeat' (first | exact trivial | exact rfl | apply And.intro))⟩))
def lbent_S : Prop := ∀ (gl : Glob) (xs es ss : List (List AV)) (i ver : Int) (f g : Bool), SrcQ xs i ∧ BenQ es ss ver 0 ∧ (1 ≤ es.length ∧ es.length ≤ 40) ∧ ss.length ≤ 40 → fnQ Tryd.prog { glob := gl, spec := lk [], specH := lk [], specQ := lk [(10, qn_s), (30, qpick_s), (17, lcodes_s)], nowf := true, bst := [49] } { nt := 109, drop := drp [(1, 1984), (2, 63488), (3, 16711680), (4, 16777216), (5, 469762048), (6, 1098437885952), (7, 2199023255552), (8, 65970697666560), (9, 140737488355328), (10, 17732923532771328), (11, 36028797018963968), (12, 4539628424389459968), (13, 9223372036854775808), (14, 1162144876643701751808), (15, 2361183241434822606848), (16, 297509088420787648462848), (17, 604462909807314587353088), (18, 76162326635721638006489088), (19, 154742504910672534362390528), (20, 633515815104293355679626821632), (21, 1267650600228229401496703205376), (22, 321983252457970267980162614165504), (23, 324518553658426726783156020576256)], fr := 1000, kp := [0] } (bnJ) 6 Tryd.f24 [.ptr 0 0, .agg [.int .i64 ver, .sl 5 f es, .sl 2 g ss]] [.cells [.sl 1 false xs, .int .i64 i]] (fun r2 bs2 => ∃ (es2 ss2 : List (List AV)) (v j : Int), (BenQ es2 ss2 v j) ∧ le r2 (.agg [.int .i64 v, .sl 5 false es2, .sl 2 false ss2]) ∧ leBs bs2 [.cells [.sl 1 false xs, .int .i64 j]])
set_option maxRecDepth 100000 in
theorem lbent_e : lbent_T = lbent_S := by kernel_rfl
theorem lbent_v : lbent_S := @Eq.mp (lbent_T) (lbent_S) (lbent_e) (lbent_P)
theorem lbent_ok (gl : Glob) : QOK Tryd.prog gl 24 lbent_s := by
  refine ⟨fok Tryd.func24 (by kernel_rfl) (by kernel_rfl), ?_⟩
  intro xs bs T h K hT
  unfold lbent_s at h
  split at h
  · simp only [Option.some.injEq] at h
    subst h
    obtain ⟨hp, hK⟩ := hT
    obtain ⟨r, bs2, ⟨o0, o1, o2, o3, hq, hl, hb⟩, hC⟩ := fnQ_sound tyNil (by exact specOK rfl rfl trivial trivial (d := qsOf rfl ⟨(qn_ok gl), (qpick_ok gl), (lcodes_ok gl), trivial⟩)) (by kernel_rfl) Tryd.func24 (lbent_v gl _ _ _ _ _ _ _ hp)
    exact ⟨_, _, hK o0 o1 o2 o3 hq, hC.le hl hb⟩
  · cases h
end Go.Proofs.YthdfkiopppkfcaaDoor
