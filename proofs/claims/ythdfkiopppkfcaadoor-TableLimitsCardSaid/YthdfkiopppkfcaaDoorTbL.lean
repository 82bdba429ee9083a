/- The law of limits: an expansion of exactly MaxExpanded entries. -/
import Derived.Test.YthdfkiopppkfcaaDoorTbM
namespace Go.Proofs.YthdfkiopppkfcaaDoor
open Go
set_option linter.unusedVariables false
set_option linter.unusedSimpArgs false

theorem csn {p : Prop} [Decidable p] {A B : Prop} (h : p → A) (k : ¬ p → B) : cond (decide p) A B := csplit (fun q => h (of_decide_eq_true q)) (fun q => k (of_decide_eq_false q))
structure LmP (x : Int) (p : Int × Int × LLA) : Prop where
  flo : 0 ≤ p.1
  fhi : p.1 ≤ x
  fj : 0 ≤ p.2.1
  fl : (p.2.2.length : Int) = p.1
  fr : ∀ i, i < p.2.2.length → ∃ k : Int, p.2.2.getD i [] = [.int .i64 (100 * k)] ∧ 1 ≤ k ∧ k ≤ 11
def lmI (xs es ss : LLA) (x y : Int) : LInv := ⟨Int × Int × LLA, fun p => ⟨[(3, .ptr 19 0), (4, .ptr 4 0), (5, .int .i64 x), (6, .int .i64 y), (7, .rw 500 1 p.2.2.length), (8, .int .i64 p.1)], [(19, .cells [.sl 1 false xs, .int .i64 p.2.1]), (4, .cells [.int .i64 1, .sl 5 false es, .sl 2 false ss]), (500, .row 3 1 p.2.2)]⟩, LmP x, fun p => (x - p.1).toNat, none⟩
def lmJ (id : Nat) (st : St) : Option LInv := match lk st.tmps 5, lk st.tmps 6, lk st.heap 19, lk st.heap 4 with
  | some (.int _ x), some (.int _ y), some (.cells [.sl _ _ xs, .int _ j]), some (.cells [_, .sl _ _ es, .sl _ _ ss]) => cond (Nat.beq id 7) (some (lmI xs es ss x y)) none
  | _, _, _, _ => none
theorem idx_in {p : List AV → Bool} {xs : LLA} {i : Nat} (hi : i < xs.length) (h : p (xs.getD i []) = true) : ¬ idxP p xs < 0 := by
  have e : xs.getD i [] = xs[i] := by rw [List.getD_eq_getElem?_getD, List.getElem?_eq_getElem hi]; rfl
  unfold idxP
  rw [if_pos (List.any_eq_true.2 ⟨xs[i], List.getElem_mem hi, by rw [← e]; exact h⟩)]
  omega
theorem LmP.pl {x i j : Int} {cs es : LLA} (p : LmP x (i, j, cs)) (he : EnP es) (hl : es.length = 11) : PlC es cs := fun q hq => by
  obtain ⟨k, e, k1, k2⟩ := p.fr q hq
  simp only at e
  rw [e]
  obtain ⟨w, sc, e2, _⟩ := he.fr (k - 1).toNat (by omega)
  refine ⟨?_, idx_in (i := (k - 1).toNat) (by omega) ?_⟩
  · show knd (100 * k) = 1
    unfold knd; rw [if_neg (by omega), if_pos (by omega)]
  · rw [e2]
    exact decide_eq_true (by show 100 * (((k - 1).toNat : Int) + 1) = 100 * k; omega)
theorem LmP.add {x i j u j' : Int} {cs : LLA} (p : LmP x (i, j, cs)) (hi : i < x) (u1 : 1 ≤ u) (u2 : u ≤ 11) (hj : 0 ≤ j') : LmP x (i + 1, j', cs ++ [[.int .i64 (100 * u)]]) := by
  obtain ⟨h0, h1, h2, h3, h4⟩ := p
  simp only at h0 h1 h2 h3 h4
  refine ⟨by simp only; omega, by simp only; omega, hj, by simp; omega, fun q hq => ?_⟩
  simp only [List.length_append, List.length_singleton] at hq
  by_cases hl : q < cs.length
  · obtain ⟨c, a1, a2⟩ := h4 q hl
    refine ⟨c, ?_, a2⟩
    rw [List.getD_eq_getElem?_getD, List.getElem?_append_left hl, ← List.getD_eq_getElem?_getD]; exact a1
  · refine ⟨u, ?_, u1, u2⟩
    rw [List.getD_eq_getElem?_getD, List.getElem?_append_right (by omega), show q - cs.length = 0 by omega]; rfl
theorem LmP.cds {x i j : Int} {cs : LLA} (p : LmP x (i, j, cs)) (hx : x ≤ 20) {c : Int} (hc : rng .i64 c) : CdsP ([[.int .i64 c]] ++ cs) := ⟨fun q hq => by
  rcases q with _ | q
  · exact ⟨c, rfl, hc⟩
  · have hq' : q < cs.length := by simpa using hq
    obtain ⟨k, e, k1, k2⟩ := p.fr q hq'
    exact ⟨100 * k, e, by show _ ∧ _; omega⟩, by
  have h1 := p.fhi
  have h2 := p.fl
  simp only at h1 h2
  simp; omega⟩
def emS : LLA := [[.int .i64 10000, .sl 1 false [[.int .i64 20120], [.int .i64 10001]]], [.int .i64 10001, .sl 1 false [[.int .i64 20120], [.int .i64 10002]]], [.int .i64 10002, .sl 1 false [[.int .i64 20120], [.int .i64 10003]]], [.int .i64 10003, .sl 1 false []]]
theorem em_sq : SqsP emS := by
  have a : ∀ n : Int, rng .i64 n → CdsP [[.int .i64 20120], [.int .i64 n]] := fun n h => cds_of [20120, n] (by
    intro x hx
    simp only [List.mem_cons, List.not_mem_nil, or_false] at hx
    rcases hx with rfl | rfl
    · decide
    · exact h) (by simp)
  refine ⟨fun i hi => ?_, by simp [emS]⟩
  have hi : i < 4 := hi
  rcases i with _ | _ | _ | _ | i
  · exact ⟨_, _, rfl, by decide, a _ (by decide)⟩
  · exact ⟨_, _, rfl, by decide, a _ (by decide)⟩
  · exact ⟨_, _, rfl, by decide, a _ (by decide)⟩
  · exact ⟨_, _, rfl, by decide, CdsP.nil⟩
  · omega
theorem em_en : EnsP [] := ⟨fun i hi => by simp at hi, by simp⟩
theorem em_2 : exE [] emS 1 [[.int .i64 10000]] = 2 := by kernel_rfl
theorem em_0 : exE [] emS 1 [[.int .i64 10002]] = 0 := by kernel_rfl
theorem em_l : (exO [] emS 1 [[.int .i64 10002]]).length = 0 := by kernel_rfl
def llim_s : Sp
  | [.sl 1 false xs] => some (IntsA xs, .bool true)
  | _ => none
set_option maxRecDepth 100000 in
def llim_T (exO : LLA → LLA → Int → LLA → LLA) (exE : LLA → LLA → Int → LLA → Int) : Prop :=
  ∀ (xs : List (List AV)), (∀ (x : List AV), List.Mem x xs → ∃ n, x = [AV.int IntKind.i64 n] ∧ rng IntKind.i64 n) → True → True ∧ SrcQ (List.take (2000 : Nat) xs) (0 : Int) ∧ ∀ (es
  ss : List (List AV)) (j : Int), TabQ es ss j → (SrcQ (List.take (2000 : Nat) xs) j ∧ (1 : Int) ≤ (20 : Int) ∧ (-1000000000 : Int) ≤ (1 : Int) ∧ (20 : Int) ≤ (1000000000 : Int)) ∧ ∀
  (v j : Int), ((1 : Int) ≤ v ∧ v ≤ (20 : Int)) ∧ (0 : Int) ≤ j → bif decide ¬v = (0 : Int) then bif decide (rng IntKind.i64 (Int.tdiv (60 : Int) v)) then (∃ x, LmP v x ∧ ((0 : Nat)
  = (0 : Nat) ∧ (0 : Nat) = (0 : Nat) ∧ v = v ∧ Int.tdiv (60 : Int) v = Int.tdiv (60 : Int) v ∧ (0 : Nat) = List.length x.snd.snd ∧ (0 : Int) = x.fst ∧ True) ∧ ((True ∧ List.take
  (2000 : Nat) xs = List.take (2000 : Nat) xs) ∧ j = x.snd.fst ∧ True) ∧ ((1 : Int) = (1 : Int) ∧ (True ∧ es = es) ∧ (True ∧ ss = ss) ∧ True) ∧ [] = x.snd.snd ∧ True) ∧ ∀ (x : Int ×
  Int × LLA), LmP v x → bif decide (x.fst < v) then (SrcQ (List.take (2000 : Nat) xs) x.snd.fst ∧ (1 : Int) ≤ (11 : Int) ∧ (-1000000000 : Int) ≤ (1 : Int) ∧ (11 : Int) ≤ (1000000000
  : Int)) ∧ ∀ (v_1 j : Int), ((1 : Int) ≤ v_1 ∧ v_1 ≤ (11 : Int)) ∧ (0 : Int) ≤ j → bif decide (rng IntKind.i64 ((100 : Int) * v_1)) then bif decide (List.length x.snd.snd =
  List.length x.snd.snd ∧ List.length x.snd.snd + [[AV.int IntKind.i64 ((100 : Int) * v_1)]].length ≤ (9223372036854775807 : Nat) ∧ (List.length x.snd.snd + [[AV.int IntKind.i64
  ((100 : Int) * v_1)]].length) * (8 : Nat) ≤ (140737488355328 : Nat)) then bif decide (rng IntKind.i64 (x.fst + (1 : Int))) then ∃ y, LmP v y ∧ (lmI (List.take (2000 : Nat) xs) es
  ss v (Int.tdiv (60 : Int) v)).m y < (lmI (List.take (2000 : Nat) xs) es ss v (Int.tdiv (60 : Int) v)).m x ∧ ((0 : Nat) = (0 : Nat) ∧ (0 : Nat) = (0 : Nat) ∧ v = v ∧ Int.tdiv (60 :
  Int) v = Int.tdiv (60 : Int) v ∧ (x.snd.snd ++ [[AV.int IntKind.i64 ((100 : Int) * v_1)]]).length = List.length y.snd.snd ∧ x.fst + (1 : Int) = y.fst ∧ True) ∧ ((True ∧ List.take
  (2000 : Nat) xs = List.take (2000 : Nat) xs) ∧ j = y.snd.fst ∧ True) ∧ ((1 : Int) = (1 : Int) ∧ (True ∧ es = es) ∧ (True ∧ ss = ss) ∧ True) ∧ x.snd.snd ++ [[AV.int IntKind.i64
  ((100 : Int) * v_1)]] = y.snd.snd ∧ True else False else False else False else bif decide ((20 : Int) < Int.tdiv (60 : Int) v) then True ∧ true = true else bif decide ((19 : Int) <
  v) then True ∧ true = true else bif decide (rng IntKind.i64 ((100 : Int) * v)) then bif decide (rng IntKind.i64 ((20000 : Int) + (100 : Int) * v)) then bif decide (rng IntKind.i64
  ((20000 : Int) + (100 : Int) * v + Int.tdiv (60 : Int) v)) then bif decide (List.length x.snd.snd = List.length x.snd.snd) then bif decide ((1 : Nat) = [[AV.int IntKind.i64 ((20000
  : Int) + (100 : Int) * v + Int.tdiv (60 : Int) v)]].length ∧ [[AV.int IntKind.i64 ((20000 : Int) + (100 : Int) * v + Int.tdiv (60 : Int) v)]].length + List.length x.snd.snd ≤
  (9223372036854775807 : Nat) ∧ ([[AV.int IntKind.i64 ((20000 : Int) + (100 : Int) * v + Int.tdiv (60 : Int) v)]].length + List.length x.snd.snd) * (8 : Nat) ≤ (140737488355328 :
  Nat)) then bif decide (([[AV.int IntKind.i64 ((20000 : Int) + (100 : Int) * v + Int.tdiv (60 : Int) v)]] ++ x.snd.snd).length = ([[AV.int IntKind.i64 ((20000 : Int) + (100 : Int) *
  v + Int.tdiv (60 : Int) v)]] ++ x.snd.snd).length) then ((EnsP es ∧ SqsP ss) ∧ CdsP ([[AV.int IntKind.i64 ((20000 : Int) + (100 : Int) * v + Int.tdiv (60 : Int) v)]] ++ x.snd.snd))
  ∧ bif decide (rng IntKind.i64 ((100 : Int) * v)) then bif decide (rng IntKind.i64 ((20000 : Int) + (100 : Int) * v)) then bif decide (rng IntKind.i64 (Int.tdiv (60 : Int) v + (1 :
  Int))) then bif decide (rng IntKind.i64 ((20000 : Int) + (100 : Int) * v + min (20 : Int) (Int.tdiv (60 : Int) v + (1 : Int)))) then bif decide (List.length x.snd.snd = List.length
  x.snd.snd) then bif decide ((1 : Nat) = [[AV.int IntKind.i64 ((20000 : Int) + (100 : Int) * v + min (20 : Int) (Int.tdiv (60 : Int) v + (1 : Int)))]].length ∧ [[AV.int IntKind.i64
  ((20000 : Int) + (100 : Int) * v + min (20 : Int) (Int.tdiv (60 : Int) v + (1 : Int)))]].length + List.length x.snd.snd ≤ (9223372036854775807 : Nat) ∧ ([[AV.int IntKind.i64
  ((20000 : Int) + (100 : Int) * v + min (20 : Int) (Int.tdiv (60 : Int) v + (1 : Int)))]].length + List.length x.snd.snd) * (8 : Nat) ≤ (140737488355328 : Nat)) then bif decide
  (([[AV.int IntKind.i64 ((20000 : Int) + (100 : Int) * v + min (20 : Int) (Int.tdiv (60 : Int) v + (1 : Int)))]] ++ x.snd.snd).length = ([[AV.int IntKind.i64 ((20000 : Int) + (100 :
  Int) * v + min (20 : Int) (Int.tdiv (60 : Int) v + (1 : Int)))]] ++ x.snd.snd).length) then ((EnsP es ∧ SqsP ss) ∧ CdsP ([[AV.int IntKind.i64 ((20000 : Int) + (100 : Int) * v + min
  (20 : Int) (Int.tdiv (60 : Int) v + (1 : Int)))]] ++ x.snd.snd)) ∧ bif decide ¬exE es ss (1 : Int) ([[AV.int IntKind.i64 ((20000 : Int) + (100 : Int) * v + Int.tdiv (60 : Int) v)]]
  ++ x.snd.snd) = (0 : Int) then false = true else bif decide (rng IntKind.i64 (v * Int.tdiv (60 : Int) v)) then bif decide ¬(↑(List.length (exO es ss (1 : Int) ([[AV.int IntKind.i64
  ((20000 : Int) + (100 : Int) * v + Int.tdiv (60 : Int) v)]] ++ x.snd.snd))) : Int) = v * Int.tdiv (60 : Int) v then false = true else bif decide (rng IntKind.i64 (Int.tdiv (60 :
  Int) v + (1 : Int))) then bif decide (rng IntKind.i64 (v * min (20 : Int) (Int.tdiv (60 : Int) v + (1 : Int)))) then bif decide ((60 : Int) < v * min (20 : Int) (Int.tdiv (60 :
  Int) v + (1 : Int))) then bif decide ¬exE es ss (1 : Int) ([[AV.int IntKind.i64 ((20000 : Int) + (100 : Int) * v + min (20 : Int) (Int.tdiv (60 : Int) v + (1 : Int)))]] ++
  x.snd.snd) = (2 : Int) then false = true else bif decide ((0 : Int) < (↑(List.length (exO es ss (1 : Int) ([[AV.int IntKind.i64 ((20000 : Int) + (100 : Int) * v + min (20 : Int)
  (Int.tdiv (60 : Int) v + (1 : Int)))]] ++ x.snd.snd))) : Int)) then false = true else ((EnsP [] ∧ SqsP [[AV.int IntKind.i64 (10000 : Int), AV.sl (1 : Nat) false [[AV.int
  IntKind.i64 (20120 : Int)], [AV.int IntKind.i64 (10001 : Int)]]], [AV.int IntKind.i64 (10001 : Int), AV.sl (1 : Nat) false [[AV.int IntKind.i64 (20120 : Int)], [AV.int IntKind.i64
  (10002 : Int)]]], [AV.int IntKind.i64 (10002 : Int), AV.sl (1 : Nat) false [[AV.int IntKind.i64 (20120 : Int)], [AV.int IntKind.i64 (10003 : Int)]]], [AV.int IntKind.i64 (10003 :
  Int), AV.sl (1 : Nat) false []]]) ∧ CdsP [[AV.int IntKind.i64 (10000 : Int)]]) ∧ ((EnsP [] ∧ SqsP [[AV.int IntKind.i64 (10000 : Int), AV.sl (1 : Nat) false [[AV.int IntKind.i64
  (20120 : Int)], [AV.int IntKind.i64 (10001 : Int)]]], [AV.int IntKind.i64 (10001 : Int), AV.sl (1 : Nat) false [[AV.int IntKind.i64 (20120 : Int)], [AV.int IntKind.i64 (10002 :
  Int)]]], [AV.int IntKind.i64 (10002 : Int), AV.sl (1 : Nat) false [[AV.int IntKind.i64 (20120 : Int)], [AV.int IntKind.i64 (10003 : Int)]]], [AV.int IntKind.i64 (10003 : Int),
  AV.sl (1 : Nat) false []]]) ∧ CdsP [[AV.int IntKind.i64 (10002 : Int)]]) ∧ bif decide (exE [] [[AV.int IntKind.i64 (10000 : Int), AV.sl (1 : Nat) false [[AV.int IntKind.i64 (20120
  : Int)], [AV.int IntKind.i64 (10001 : Int)]]], [AV.int IntKind.i64 (10001 : Int), AV.sl (1 : Nat) false [[AV.int IntKind.i64 (20120 : Int)], [AV.int IntKind.i64 (10002 : Int)]]],
  [AV.int IntKind.i64 (10002 : Int), AV.sl (1 : Nat) false [[AV.int IntKind.i64 (20120 : Int)], [AV.int IntKind.i64 (10003 : Int)]]], [AV.int IntKind.i64 (10003 : Int), AV.sl (1 :
  Nat) false []]] (1 : Int) [[AV.int IntKind.i64 (10000 : Int)]] = (2 : Int)) then bif decide (exE [] [[AV.int IntKind.i64 (10000 : Int), AV.sl (1 : Nat) false [[AV.int IntKind.i64
  (20120 : Int)], [AV.int IntKind.i64 (10001 : Int)]]], [AV.int IntKind.i64 (10001 : Int), AV.sl (1 : Nat) false [[AV.int IntKind.i64 (20120 : Int)], [AV.int IntKind.i64 (10002 :
  Int)]]], [AV.int IntKind.i64 (10002 : Int), AV.sl (1 : Nat) false [[AV.int IntKind.i64 (20120 : Int)], [AV.int IntKind.i64 (10003 : Int)]]], [AV.int IntKind.i64 (10003 : Int),
  AV.sl (1 : Nat) false []]] (1 : Int) [[AV.int IntKind.i64 (10002 : Int)]] = (0 : Int)) then bif decide ((↑(List.length (exO [] [[AV.int IntKind.i64 (10000 : Int), AV.sl (1 : Nat)
  false [[AV.int IntKind.i64 (20120 : Int)], [AV.int IntKind.i64 (10001 : Int)]]], [AV.int IntKind.i64 (10001 : Int), AV.sl (1 : Nat) false [[AV.int IntKind.i64 (20120 : Int)],
  [AV.int IntKind.i64 (10002 : Int)]]], [AV.int IntKind.i64 (10002 : Int), AV.sl (1 : Nat) false [[AV.int IntKind.i64 (20120 : Int)], [AV.int IntKind.i64 (10003 : Int)]]], [AV.int
  IntKind.i64 (10003 : Int), AV.sl (1 : Nat) false []]] (1 : Int) [[AV.int IntKind.i64 (10002 : Int)]])) : Int) = (0 : Int)) then True ∧ true = true else false = true else false =
  true else false = true else ((EnsP [] ∧ SqsP [[AV.int IntKind.i64 (10000 : Int), AV.sl (1 : Nat) false [[AV.int IntKind.i64 (20120 : Int)], [AV.int IntKind.i64 (10001 : Int)]]],
  [AV.int IntKind.i64 (10001 : Int), AV.sl (1 : Nat) false [[AV.int IntKind.i64 (20120 : Int)], [AV.int IntKind.i64 (10002 : Int)]]], [AV.int IntKind.i64 (10002 : Int), AV.sl (1 :
  Nat) false [[AV.int IntKind.i64 (20120 : Int)], [AV.int IntKind.i64 (10003 : Int)]]], [AV.int IntKind.i64 (10003 : Int), AV.sl (1 : Nat) false []]]) ∧ CdsP [[AV.int IntKind.i64
  (10000 : Int)]]) ∧ ((EnsP [] ∧ SqsP [[AV.int IntKind.i64 (10000 : Int), AV.sl (1 : Nat) false [[AV.int IntKind.i64 (20120 : Int)], [AV.int IntKind.i64 (10001 : Int)]]], [AV.int
  IntKind.i64 (10001 : Int), AV.sl (1 : Nat) false [[AV.int IntKind.i64 (20120 : Int)], [AV.int IntKind.i64 (10002 : Int)]]], [AV.int IntKind.i64 (10002 : Int), AV.sl (1 : Nat) false
  [[AV.int IntKind.i64 (20120 : Int)], [AV.int IntKind.i64 (10003 : Int)]]], [AV.int IntKind.i64 (10003 : Int), AV.sl (1 : Nat) false []]]) ∧ CdsP [[AV.int IntKind.i64 (10002 :
  Int)]]) ∧ bif decide (exE [] [[AV.int IntKind.i64 (10000 : Int), AV.sl (1 : Nat) false [[AV.int IntKind.i64 (20120 : Int)], [AV.int IntKind.i64 (10001 : Int)]]], [AV.int
  IntKind.i64 (10001 : Int), AV.sl (1 : Nat) false [[AV.int IntKind.i64 (20120 : Int)], [AV.int IntKind.i64 (10002 : Int)]]], [AV.int IntKind.i64 (10002 : Int), AV.sl (1 : Nat) false
  [[AV.int IntKind.i64 (20120 : Int)], [AV.int IntKind.i64 (10003 : Int)]]], [AV.int IntKind.i64 (10003 : Int), AV.sl (1 : Nat) false []]] (1 : Int) [[AV.int IntKind.i64 (10000 :
  Int)]] = (2 : Int)) then bif decide (exE [] [[AV.int IntKind.i64 (10000 : Int), AV.sl (1 : Nat) false [[AV.int IntKind.i64 (20120 : Int)], [AV.int IntKind.i64 (10001 : Int)]]],
  [AV.int IntKind.i64 (10001 : Int), AV.sl (1 : Nat) false [[AV.int IntKind.i64 (20120 : Int)], [AV.int IntKind.i64 (10002 : Int)]]], [AV.int IntKind.i64 (10002 : Int), AV.sl (1 :
  Nat) false [[AV.int IntKind.i64 (20120 : Int)], [AV.int IntKind.i64 (10003 : Int)]]], [AV.int IntKind.i64 (10003 : Int), AV.sl (1 : Nat) false []]] (1 : Int) [[AV.int IntKind.i64
  (10002 : Int)]] = (0 : Int)) then bif decide ((↑(List.length (exO [] [[AV.int IntKind.i64 (10000 : Int), AV.sl (1 : Nat) false [[AV.int IntKind.i64 (20120 : Int)], [AV.int
  IntKind.i64 (10001 : Int)]]], [AV.int IntKind.i64 (10001 : Int), AV.sl (1 : Nat) false [[AV.int IntKind.i64 (20120 : Int)], [AV.int IntKind.i64 (10002 : Int)]]], [AV.int
  IntKind.i64 (10002 : Int), AV.sl (1 : Nat) false [[AV.int IntKind.i64 (20120 : Int)], [AV.int IntKind.i64 (10003 : Int)]]], [AV.int IntKind.i64 (10003 : Int), AV.sl (1 : Nat) false
  []]] (1 : Int) [[AV.int IntKind.i64 (10002 : Int)]])) : Int) = (0 : Int)) then True ∧ true = true else false = true else false = true else false = true else False else False else
  False else False else False else False else False else False else False else False else False else False else False else False else False else False else False else False
set_option maxRecDepth 100000 in
theorem llim_P : llim_T exO exE := by
  unfold llim_T
  intro xs hz _
  have hs : SrcI (List.take 2000 xs) := SrcI.take hz
  refine ⟨trivial, ⟨hs, by decide⟩, fun es ss j t => ⟨⟨⟨hs, t.fj⟩, by decide, by decide, by decide⟩, fun v j hvj => ?_⟩⟩
  obtain ⟨⟨v1, v2⟩, hj⟩ := hvj
  have he := t.fe.ens t.fl
  have hq := t.fs.sqs
  have va := t.va (v := 1) (by decide) (by decide)
  obtain ⟨y, hy, y0, y1, y2⟩ : ∃ y : Int, Int.tdiv 60 v = y ∧ 1 ≤ y ∧ y ≤ 60 ∧ v * y ≤ 60 := by
    refine ⟨60 / v, Int.tdiv_eq_ediv_of_nonneg (by decide), ?_, ?_, Int.mul_ediv_self_le (by omega)⟩
    · exact (Int.le_ediv_iff_mul_le (by omega)).2 (by omega)
    · exact Int.ediv_le_self _ (by decide)
  rw [hy]
  refine cd1 (by omega) (cdI (by omega) ⟨⟨(0, j, []), ⟨by simp, by simp; omega, hj, by simp, fun q hq => by simp at hq⟩, by (repeat' (first | exact trivial | exact rfl | apply And.intro))⟩, ?_⟩)
  clear hj
  rintro ⟨i, j, cs⟩ p
  have p0 : 0 ≤ i := p.flo
  have p1 : i ≤ v := p.fhi
  have p2 : (cs.length : Int) = i := p.fl
  refine csn (fun hi => ⟨⟨⟨hs, p.fj⟩, by decide, by decide, by decide⟩, fun u j' hu => ?_⟩) (fun hi => csn (fun _ => ⟨trivial, rfl⟩) (fun y3 => csn (fun _ => ⟨trivial, rfl⟩) (fun v3 => ?_)))
  · obtain ⟨⟨u1, u2⟩, hj⟩ := hu
    have hi : i < v := hi
    refine cdI (by omega) (cd1 ⟨rfl, by simp; omega, by simp; omega⟩ (cdI (by simp only; omega) ⟨(i + 1, j', _), p.add hi u1 u2 hj, by simp only [lmI]; omega, by (repeat' (first | exact trivial | exact rfl | apply And.intro))⟩))
  have hi : ¬ i < v := hi
  have pl := p.pl t.fe t.fl
  obtain ⟨X, rfl⟩ : ∃ X : Nat, v = X := ⟨v.toNat, by omega⟩
  obtain ⟨Y, rfl⟩ : ∃ Y : Nat, y = Y := ⟨y.toNat, by omega⟩
  obtain ⟨M, hM⟩ : ∃ M : Nat, M = min 20 (Y + 1) := ⟨_, rfl⟩
  have eM : min (20 : Int) ((Y : Int) + 1) = (M : Int) := by omega
  have hxl : cs.length = X := by omega
  have L1 := (lim (ss := ss) (v := 1) va pl hxl (x := X) (y := Y) (by omega) (by omega) (by omega) (by omega)).1 (by rw [Nat.mul_comm]; exact_mod_cast y2)
  have L2 := (lim (ss := ss) (v := 1) va pl hxl (x := X) (y := M) (by omega) (by omega) (by omega) (by omega)).2
  have cXY : ((Y * X : Nat) : Int) = (X : Int) * (Y : Int) := by rw [Int.natCast_mul, Int.mul_comm]
  have cXM : ((M * X : Nat) : Int) = (X : Int) * (M : Int) := by rw [Int.natCast_mul, Int.mul_comm]
  have hMX : M * X ≤ 400 := Nat.le_trans (Nat.mul_le_mul (show M ≤ 20 by omega) (show X ≤ 20 by omega)) (by decide)
  rw [eM]
  refine cdI (by omega) (cdI (by omega) (cdI (by omega) (cd1 rfl (cd1 ⟨rfl, by simp; omega, by simp; omega⟩ (cd1 rfl ⟨⟨⟨he, hq⟩, p.cds v2 (by show _ ∧ _; omega)⟩, ?_⟩)))))
  refine cdI (by omega) (cdI (by omega) (cdI (by omega) (cdI (by omega) (cd1 rfl (cd1 ⟨rfl, by simp; omega, by simp; omega⟩ (cd1 rfl ⟨⟨⟨he, hq⟩, p.cds v2 (by show _ ∧ _; omega)⟩, ?_⟩))))))
  refine csn (fun h => absurd L1.1 h) (fun _ => cdI (by rw [← cXY]; omega) (csn (fun h => absurd (by rw [← cXY]; exact congrArg Nat.cast L1.2) h) (fun _ => cdI (by omega) (cdI (by rw [← cXM]; omega) (csn (fun h => ?_) (fun _ => ?_))))))
  · rw [← cXM] at h
    have L2 := L2 (by omega)
    refine csn (fun q => absurd L2.1 q) (fun _ => csn (fun q => ?_) (fun _ => ?_))
    · have : (exO es ss 1 ([[.int .i64 (20000 + 100 * (X : Int) + (M : Int))]] ++ cs)).length = 0 := by
        have e := congrArg List.length L2.2
        simpa using e
      have q : (0 : Int) < ((exO es ss 1 ([[.int .i64 (20000 + 100 * (X : Int) + (M : Int))]] ++ cs)).length : Int) := q
      omega
    · exact ⟨⟨⟨em_en, em_sq⟩, cds_of [10000] (by decide) (by decide)⟩, ⟨⟨em_en, em_sq⟩, cds_of [10002] (by decide) (by decide)⟩, cd1 em_2 (cd1 em_0 (cd1 (by have := em_l; exact congrArg Nat.cast this) ⟨trivial, rfl⟩))⟩
  · exact ⟨⟨⟨em_en, em_sq⟩, cds_of [10000] (by decide) (by decide)⟩, ⟨⟨em_en, em_sq⟩, cds_of [10002] (by decide) (by decide)⟩, cd1 em_2 (cd1 em_0 (cd1 (by have := em_l; exact congrArg Nat.cast this) ⟨trivial, rfl⟩))⟩
def llim_S (exO : LLA → LLA → Int → LLA → LLA) (exE : LLA → LLA → Int → LLA → Int) : Prop := ∀ (xs : List (List AV)), IntsA xs → fnK Tryd.prog { glob := glb, spec := lk [(18, (texpand_s exO exE)), (16, tawake_s)], specH := lk [(8, newsrc_s)], specQ := lk [(9, qtable_s), (20, qrange_s)], nowf := true, nls := [(49, 1, 1), (30, 1, 5)] } { nt := 132, drop := drp [(1, 786432), (2, 3145728), (3, 12582912), (4, 50331648), (7, 201326592), (8, 1610612736), (9, 135291469824), (10, 4260607557632), (11, 8796093022208), (12, 144097595889811456), (13, 4722222367681569357824), (14, 2413129272746388704198656), (16, 79223326810985879076845125632), (18, 80971182089578153020601917243392), (19, 5111167220120220946834707324076032), (20, 327114702087694140597421268740866048), (21, 5444185563736069186445767767143221297152)], frz := fun id => cond (Nat.beq id 19) [1000097, 1000099, 1000101, 1000104] [], emp := fun id => cond (Nat.beq id 6) [(7, 500, 3, 1)] [] } (lmJ) 6 Tryd.f6 [.sl 1 false xs] (.bool true)
set_option maxRecDepth 100000 in
theorem llim_e (exO : LLA → LLA → Int → LLA → LLA) (exE : LLA → LLA → Int → LLA → Int) : llim_T exO exE = llim_S exO exE := by kernel_rfl
theorem llim_v : llim_S exO exE := @Eq.mp (llim_T exO exE) (llim_S exO exE) (llim_e exO exE) (llim_P)
theorem llim_ok : SOK Tryd.prog glb 6 llim_s := by
  refine ⟨fok Tryd.func6 (by kernel_rfl) (by kernel_rfl), ?_⟩
  intro xs pre r h hp
  unfold llim_s at h
  split at h
  · simp only [Option.some.injEq, Prod.mk.injEq] at h
    obtain ⟨h1, h2⟩ := h
    subst h1 h2
    exact fnK_sound tyNil (by exact specOK rfl rfl ⟨(texpand_ok), (tawake_ok), trivial⟩ ⟨(newsrc_ok glb), trivial⟩ (d := qsOf rfl ⟨(qtable_ok), (qrange_ok glb), trivial⟩)) (by kernel_rfl) Tryd.func6 rfl (llim_v  _ hp)
  · cases h
end Go.Proofs.YthdfkiopppkfcaaDoor
