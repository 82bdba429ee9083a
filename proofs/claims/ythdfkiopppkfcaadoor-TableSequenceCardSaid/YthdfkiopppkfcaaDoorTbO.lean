/- Tables: drawn tables whose rows are the caller's own. -/
import Derived.Test.YthdfkiopppkfcaaDoorTbM
namespace Go.Proofs.YthdfkiopppkfcaaDoor
open Go
set_option linter.unusedVariables false
set_option linter.unusedSimpArgs false

def qtableO_s : SpQ
  | [.ptr 0 0, .int .i64 ver], [.cells [.sl 1 false xs, .int .i64 i]] => some (fun K => (SrcQ xs i) ∧ (∀ (es ss : List (List AV)) (j : Int), (TabQ es ss j) → K (.agg [.int .i64 ver, .rw 1 5 es.length, .rw 2 2 ss.length]) [.cells [.sl 1 false xs, .int .i64 j], .row 23 5 es, .row 49 2 ss]))
  | _, _ => none
set_option maxRecDepth 100000 in
def qtableO_T : Prop :=
  ∀ (xs : List (List AV)) (i ver : Int), SrcQ xs i → (∃ x, TaP1 x ∧ ((0 : Nat) = (0 : Nat) ∧ (0 : Nat) = (0 : Nat) ∧ (0 : Nat) = (0 : Nat) ∧ (1 : Int) = x.fst ∧ True) ∧ ((True ∧ xs =
  xs) ∧ i = x.snd.fst ∧ True) ∧ ((0 : Int) = (0 : Int) ∧ True ∧ True ∧ True) ∧ (ver = ver ∧ (0 : Nat) = x.snd.snd.length ∧ (0 : Nat) = (0 : Nat) ∧ True) ∧ [] = x.snd.snd ∧ ([] : List
  (List AV)) = [] ∧ True) ∧ ∀ (x : Int × Int × List (List AV)), TaP1 x → bif decide (x.fst ≤ (11 : Int)) then True ∧ bif decide (rng IntKind.i64 ((100 : Int) * x.fst)) then SrcQ xs
  x.snd.fst ∧ ∀ (v j : Int), NumQ (4 : Int) v j → bif decide (v = (0 : Int)) then (SrcQ xs j ∧ ((3 : Nat) = (3 : Nat) ∧ (1 : Nat) ≤ (3 : Nat) ∧ (3 : Nat) ≤ (1000 : Nat)) ∧ IntsB
  [[AV.int IntKind.i64 (2 : Int)], [AV.int IntKind.i64 (5 : Int)], [AV.int IntKind.i64 (10 : Int)]]) ∧ ∀ (v j : Int), PickQ [[AV.int IntKind.i64 (2 : Int)], [AV.int IntKind.i64 (5 :
  Int)], [AV.int IntKind.i64 (10 : Int)]] (AV.int IntKind.i64 v) j → bif decide (x.snd.snd.length = x.snd.snd.length ∧ x.snd.snd.length + [[AV.int IntKind.i64 ((100 : Int) * x.fst),
  AV.int IntKind.i64 x.fst, AV.int IntKind.i64 (12 : Int), AV.int IntKind.i64 v, AV.int IntKind.i64 (inLo x.fst)]].length ≤ (9223372036854775807 : Nat) ∧ (x.snd.snd.length + [[AV.int
  IntKind.i64 ((100 : Int) * x.fst), AV.int IntKind.i64 x.fst, AV.int IntKind.i64 (12 : Int), AV.int IntKind.i64 v, AV.int IntKind.i64 (inLo x.fst)]].length) * (40 : Nat) ≤
  (140737488355328 : Nat)) then bif decide (rng IntKind.i64 (x.fst + (1 : Int))) then ∃ y, TaP1 y ∧ (ta1I xs ver).m y < (ta1I xs ver).m x ∧ ((0 : Nat) = (0 : Nat) ∧ (0 : Nat) = (0 :
  Nat) ∧ (0 : Nat) = (0 : Nat) ∧ x.fst + (1 : Int) = y.fst ∧ True) ∧ ((True ∧ xs = xs) ∧ j = y.snd.fst ∧ True) ∧ ((0 : Int) = (0 : Int) ∧ True ∧ True ∧ True) ∧ (ver = ver ∧
  (x.snd.snd ++ [[AV.int IntKind.i64 ((100 : Int) * x.fst), AV.int IntKind.i64 x.fst, AV.int IntKind.i64 (12 : Int), AV.int IntKind.i64 v, AV.int IntKind.i64 (inLo x.fst)]]).length =
  y.snd.snd.length ∧ (0 : Nat) = (0 : Nat) ∧ True) ∧ x.snd.snd ++ [[AV.int IntKind.i64 ((100 : Int) * x.fst), AV.int IntKind.i64 x.fst, AV.int IntKind.i64 (12 : Int), AV.int
  IntKind.i64 v, AV.int IntKind.i64 (inLo x.fst)]] = y.snd.snd ∧ ([] : List (List AV)) = [] ∧ True else False else False else bif decide (v = (1 : Int)) then (SrcQ xs j ∧ (8 : Int) ≤
  (20 : Int) ∧ (-1000000000 : Int) ≤ (8 : Int) ∧ (20 : Int) ≤ (1000000000 : Int)) ∧ ∀ (v j : Int), ((8 : Int) ≤ v ∧ v ≤ (20 : Int)) ∧ (0 : Int) ≤ j → bif decide (x.snd.snd.length =
  x.snd.snd.length ∧ x.snd.snd.length + [[AV.int IntKind.i64 ((100 : Int) * x.fst), AV.int IntKind.i64 x.fst, AV.int IntKind.i64 v, AV.int IntKind.i64 (1 : Int), AV.int IntKind.i64
  (inLo x.fst)]].length ≤ (9223372036854775807 : Nat) ∧ (x.snd.snd.length + [[AV.int IntKind.i64 ((100 : Int) * x.fst), AV.int IntKind.i64 x.fst, AV.int IntKind.i64 v, AV.int
  IntKind.i64 (1 : Int), AV.int IntKind.i64 (inLo x.fst)]].length) * (40 : Nat) ≤ (140737488355328 : Nat)) then bif decide (rng IntKind.i64 (x.fst + (1 : Int))) then ∃ y, TaP1 y ∧
  (ta1I xs ver).m y < (ta1I xs ver).m x ∧ ((0 : Nat) = (0 : Nat) ∧ (0 : Nat) = (0 : Nat) ∧ (0 : Nat) = (0 : Nat) ∧ x.fst + (1 : Int) = y.fst ∧ True) ∧ ((True ∧ xs = xs) ∧ j =
  y.snd.fst ∧ True) ∧ ((0 : Int) = (0 : Int) ∧ True ∧ True ∧ True) ∧ (ver = ver ∧ (x.snd.snd ++ [[AV.int IntKind.i64 ((100 : Int) * x.fst), AV.int IntKind.i64 x.fst, AV.int
  IntKind.i64 v, AV.int IntKind.i64 (1 : Int), AV.int IntKind.i64 (inLo x.fst)]]).length = y.snd.snd.length ∧ (0 : Nat) = (0 : Nat) ∧ True) ∧ x.snd.snd ++ [[AV.int IntKind.i64 ((100
  : Int) * x.fst), AV.int IntKind.i64 x.fst, AV.int IntKind.i64 v, AV.int IntKind.i64 (1 : Int), AV.int IntKind.i64 (inLo x.fst)]] = y.snd.snd ∧ ([] : List (List AV)) = [] ∧ True
  else False else False else bif decide (x.snd.snd.length = x.snd.snd.length ∧ x.snd.snd.length + [[AV.int IntKind.i64 ((100 : Int) * x.fst), AV.int IntKind.i64 x.fst, AV.int
  IntKind.i64 (13 : Int), AV.int IntKind.i64 (1 : Int), AV.int IntKind.i64 (inLo x.fst)]].length ≤ (9223372036854775807 : Nat) ∧ (x.snd.snd.length + [[AV.int IntKind.i64 ((100 : Int)
  * x.fst), AV.int IntKind.i64 x.fst, AV.int IntKind.i64 (13 : Int), AV.int IntKind.i64 (1 : Int), AV.int IntKind.i64 (inLo x.fst)]].length) * (40 : Nat) ≤ (140737488355328 : Nat))
  then bif decide (rng IntKind.i64 (x.fst + (1 : Int))) then ∃ y, TaP1 y ∧ (ta1I xs ver).m y < (ta1I xs ver).m x ∧ ((0 : Nat) = (0 : Nat) ∧ (0 : Nat) = (0 : Nat) ∧ (0 : Nat) = (0 :
  Nat) ∧ x.fst + (1 : Int) = y.fst ∧ True) ∧ ((True ∧ xs = xs) ∧ j = y.snd.fst ∧ True) ∧ ((0 : Int) = (0 : Int) ∧ True ∧ True ∧ True) ∧ (ver = ver ∧ (x.snd.snd ++ [[AV.int
  IntKind.i64 ((100 : Int) * x.fst), AV.int IntKind.i64 x.fst, AV.int IntKind.i64 (13 : Int), AV.int IntKind.i64 (1 : Int), AV.int IntKind.i64 (inLo x.fst)]]).length =
  y.snd.snd.length ∧ (0 : Nat) = (0 : Nat) ∧ True) ∧ x.snd.snd ++ [[AV.int IntKind.i64 ((100 : Int) * x.fst), AV.int IntKind.i64 x.fst, AV.int IntKind.i64 (13 : Int), AV.int
  IntKind.i64 (1 : Int), AV.int IntKind.i64 (inLo x.fst)]] = y.snd.snd ∧ ([] : List (List AV)) = [] ∧ True else False else False else False else SrcQ xs x.snd.fst ∧ ∀ (v j : Int),
  NumQ (4 : Int) v j → (v = (0 : Int) ∨ v = (1 : Int) ∨ v = (2 : Int) ∨ v = (3 : Int) ∨ False) ∧ (v = (0 : Int) → ∃ es ss j_1, TabQ es ss j_1 ∧ (ver = ver ∧ x.snd.snd.length =
  es.length ∧ (0 : Nat) = ss.length ∧ True) ∧ ((True ∧ xs = xs) ∧ j = j_1 ∧ True) ∧ x.snd.snd = es ∧ [] = ss ∧ True) ∧ (v = (1 : Int) → SrcQ xs j ∧ ∀ (v j : Int), NumQ (4 : Int) v j
  → (∃ x_1, TaP3 x_1 ∧ ((0 : Nat) = (0 : Nat) ∧ (0 : Nat) = (0 : Nat) ∧ (0 : Nat) = (0 : Nat) ∧ (1 : Int) = (1 : Int) ∧ (0 : Nat) = (0 : Nat) ∧ v = x_1.fst ∧ True) ∧ ((True ∧ xs =
  xs) ∧ j = x_1.snd.fst ∧ True) ∧ ((0 : Int) = (0 : Int) ∧ True ∧ True ∧ True) ∧ (ver = ver ∧ x.snd.snd.length = x.snd.snd.length ∧ (0 : Nat) = (0 : Nat) ∧ True) ∧ ((10000 : Int) =
  (10000 : Int) ∧ (0 : Nat) = x_1.snd.snd.length ∧ True) ∧ x.snd.snd = x.snd.snd ∧ ([] : List (List AV)) = [] ∧ [] = x_1.snd.snd ∧ True) ∧ ∀ (x_1 : Int × Int × List (List AV)), TaP3
  x_1 → bif decide ((0 : Int) < x_1.fst) then SrcQ xs x_1.snd.fst ∧ ∀ (v j : Int), CodQ v j → bif decide (x_1.snd.snd.length = x_1.snd.snd.length ∧ x_1.snd.snd.length + [[AV.int
  IntKind.i64 v]].length ≤ (9223372036854775807 : Nat) ∧ (x_1.snd.snd.length + [[AV.int IntKind.i64 v]].length) * (8 : Nat) ≤ (140737488355328 : Nat)) then bif decide (rng
  IntKind.i64 (x_1.fst - (1 : Int))) then ∃ y, TaP3 y ∧ (ta3I xs ver (1 : Int) (10000 : Int) x.snd.snd.length (0 : Nat) (1600 : Nat) [((1500 : Nat), Blk.row (23 : Nat) (5 : Nat)
  x.snd.snd), ((1501 : Nat), Blk.row (49 : Nat) (2 : Nat) []), ((1600 : Nat), Blk.row (3 : Nat) (1 : Nat) [])]).m y < (ta3I xs ver (1 : Int) (10000 : Int) x.snd.snd.length (0 : Nat)
  (1600 : Nat) [((1500 : Nat), Blk.row (23 : Nat) (5 : Nat) x.snd.snd), ((1501 : Nat), Blk.row (49 : Nat) (2 : Nat) []), ((1600 : Nat), Blk.row (3 : Nat) (1 : Nat) [])]).m x_1 ∧ ((0
  : Nat) = (0 : Nat) ∧ (0 : Nat) = (0 : Nat) ∧ (0 : Nat) = (0 : Nat) ∧ (1 : Int) = (1 : Int) ∧ (0 : Nat) = (0 : Nat) ∧ x_1.fst - (1 : Int) = y.fst ∧ True) ∧ ((True ∧ xs = xs) ∧ j =
  y.snd.fst ∧ True) ∧ ((0 : Int) = (0 : Int) ∧ True ∧ True ∧ True) ∧ (ver = ver ∧ x.snd.snd.length = x.snd.snd.length ∧ (0 : Nat) = (0 : Nat) ∧ True) ∧ ((10000 : Int) = (10000 : Int)
  ∧ (x_1.snd.snd ++ [[AV.int IntKind.i64 v]]).length = y.snd.snd.length ∧ True) ∧ x.snd.snd = x.snd.snd ∧ ([] : List (List AV)) = [] ∧ x_1.snd.snd ++ [[AV.int IntKind.i64 v]] =
  y.snd.snd ∧ True else False else False else (∃ x_2, TaP4 x_1.snd.snd.length x_2 ∧ ((0 : Nat) = (0 : Nat) ∧ (0 : Nat) = (0 : Nat) ∧ (0 : Nat) = (0 : Nat) ∧ (0 : Int) = (0 : Int) ∧
  (1 : Int) = (1 : Int) ∧ (0 : Int) = (0 : Int) ∧ x_1.snd.snd.length = x_1.snd.snd.length ∧ (↑x_1.snd.snd.length : Int) = (↑x_1.snd.snd.length : Int) ∧ (0 : Int) = x_2.fst ∧ True) ∧
  ((True ∧ xs = xs) ∧ x_1.snd.fst = x_1.snd.fst ∧ True) ∧ ((0 : Int) = (0 : Int) ∧ True ∧ True ∧ True) ∧ (ver = ver ∧ x.snd.snd.length = x.snd.snd.length ∧ (1 : Nat) = (1 : Nat) ∧
  True) ∧ x.snd.snd = x.snd.snd ∧ [[AV.int IntKind.i64 (10000 : Int), AV.rw (1600 : Nat) (1 : Nat) x_1.snd.snd.length]] = [[AV.int IntKind.i64 (10000 : Int), AV.rw (1600 : Nat) (1 :
  Nat) x_1.snd.snd.length]] ∧ x_1.snd.snd = x_2.snd ∧ True) ∧ ∀ (x_2 : Int × List (List AV)), TaP4 x_1.snd.snd.length x_2 → bif decide (x_2.fst < (↑x_1.snd.snd.length : Int)) then
  bif decide ((0 : Int) ≤ x_2.fst ∧ x_2.fst < (↑x_1.snd.snd.length : Int)) then bif decide (x_1.snd.snd.length = x_2.snd.length ∧ x_2.fst.toNat < x_2.snd.length) then ∃ n, List.take
  [AV.int IntKind.i64 n].length (List.drop (0 : Nat) (x_2.snd.getD x_2.fst.toNat [])) = [AV.int IntKind.i64 n] ∧ bif decide (n < (1 : Int)) then bif decide ((0 : Int) ≤ x_2.fst ∧
  x_2.fst < (↑x_1.snd.snd.length : Int)) then bif decide (x_1.snd.snd.length = x_2.snd.length ∧ x_2.fst.toNat < x_2.snd.length) then bif decide (rng IntKind.i64 (x_2.fst + (1 :
  Int))) then ∃ y, TaP4 x_1.snd.snd.length y ∧ (ta4I xs ver (0 : Int) x_1.snd.fst (1 : Int) x.snd.snd.length (1 : Nat) (1600 : Nat) x_1.snd.snd.length [((1500 : Nat), Blk.row (23 :
  Nat) (5 : Nat) x.snd.snd), ((1501 : Nat), Blk.row (2000049 : Nat) (2 : Nat) [[AV.int IntKind.i64 (10000 : Int), AV.rw (1600 : Nat) (1 : Nat) x_1.snd.snd.length]]), ((1600 : Nat),
  Blk.row (3 : Nat) (1 : Nat) x_1.snd.snd)]).m y < (ta4I xs ver (0 : Int) x_1.snd.fst (1 : Int) x.snd.snd.length (1 : Nat) (1600 : Nat) x_1.snd.snd.length [((1500 : Nat), Blk.row (23
  : Nat) (5 : Nat) x.snd.snd), ((1501 : Nat), Blk.row (2000049 : Nat) (2 : Nat) [[AV.int IntKind.i64 (10000 : Int), AV.rw (1600 : Nat) (1 : Nat) x_1.snd.snd.length]]), ((1600 : Nat),
  Blk.row (3 : Nat) (1 : Nat) x_1.snd.snd)]).m x_2 ∧ ((0 : Nat) = (0 : Nat) ∧ (0 : Nat) = (0 : Nat) ∧ (0 : Nat) = (0 : Nat) ∧ (0 : Int) = (0 : Int) ∧ (1 : Int) = (1 : Int) ∧ (0 :
  Int) = (0 : Int) ∧ x_1.snd.snd.length = x_1.snd.snd.length ∧ (↑x_1.snd.snd.length : Int) = (↑x_1.snd.snd.length : Int) ∧ x_2.fst + (1 : Int) = y.fst ∧ True) ∧ ((True ∧ xs = xs) ∧
  x_1.snd.fst = x_1.snd.fst ∧ True) ∧ ((0 : Int) = (0 : Int) ∧ True ∧ True ∧ True) ∧ (ver = ver ∧ x.snd.snd.length = x.snd.snd.length ∧ (1 : Nat) = (1 : Nat) ∧ True) ∧ x.snd.snd =
  x.snd.snd ∧ [[AV.int IntKind.i64 (10000 : Int), AV.rw (1600 : Nat) (1 : Nat) x_1.snd.snd.length]] = [[AV.int IntKind.i64 (10000 : Int), AV.rw (1600 : Nat) (1 : Nat)
  x_1.snd.snd.length]] ∧ setEl x_2.snd x_2.fst.toNat (0 : Nat) [AV.int IntKind.i64 (100 : Int)] = y.snd ∧ True else False else False else False else bif decide ((30000 : Int) ≤ n)
  then bif decide ((0 : Int) ≤ x_2.fst ∧ x_2.fst < (↑x_1.snd.snd.length : Int)) then bif decide (x_1.snd.snd.length = x_2.snd.length ∧ x_2.fst.toNat < x_2.snd.length) then bif decide
  (rng IntKind.i64 (x_2.fst + (1 : Int))) then ∃ y, TaP4 x_1.snd.snd.length y ∧ (ta4I xs ver (0 : Int) x_1.snd.fst (1 : Int) x.snd.snd.length (1 : Nat) (1600 : Nat)
  x_1.snd.snd.length [((1500 : Nat), Blk.row (23 : Nat) (5 : Nat) x.snd.snd), ((1501 : Nat), Blk.row (2000049 : Nat) (2 : Nat) [[AV.int IntKind.i64 (10000 : Int), AV.rw (1600 : Nat)
  (1 : Nat) x_1.snd.snd.length]]), ((1600 : Nat), Blk.row (3 : Nat) (1 : Nat) x_1.snd.snd)]).m y < (ta4I xs ver (0 : Int) x_1.snd.fst (1 : Int) x.snd.snd.length (1 : Nat) (1600 :
  Nat) x_1.snd.snd.length [((1500 : Nat), Blk.row (23 : Nat) (5 : Nat) x.snd.snd), ((1501 : Nat), Blk.row (2000049 : Nat) (2 : Nat) [[AV.int IntKind.i64 (10000 : Int), AV.rw (1600 :
  Nat) (1 : Nat) x_1.snd.snd.length]]), ((1600 : Nat), Blk.row (3 : Nat) (1 : Nat) x_1.snd.snd)]).m x_2 ∧ ((0 : Nat) = (0 : Nat) ∧ (0 : Nat) = (0 : Nat) ∧ (0 : Nat) = (0 : Nat) ∧ (0
  : Int) = (0 : Int) ∧ (1 : Int) = (1 : Int) ∧ (0 : Int) = (0 : Int) ∧ x_1.snd.snd.length = x_1.snd.snd.length ∧ (↑x_1.snd.snd.length : Int) = (↑x_1.snd.snd.length : Int) ∧ x_2.fst +
  (1 : Int) = y.fst ∧ True) ∧ ((True ∧ xs = xs) ∧ x_1.snd.fst = x_1.snd.fst ∧ True) ∧ ((0 : Int) = (0 : Int) ∧ True ∧ True ∧ True) ∧ (ver = ver ∧ x.snd.snd.length = x.snd.snd.length
  ∧ (1 : Nat) = (1 : Nat) ∧ True) ∧ x.snd.snd = x.snd.snd ∧ [[AV.int IntKind.i64 (10000 : Int), AV.rw (1600 : Nat) (1 : Nat) x_1.snd.snd.length]] = [[AV.int IntKind.i64 (10000 :
  Int), AV.rw (1600 : Nat) (1 : Nat) x_1.snd.snd.length]] ∧ setEl x_2.snd x_2.fst.toNat (0 : Nat) [AV.int IntKind.i64 (100 : Int)] = y.snd ∧ True else False else False else False
  else bif decide (n = (20000 : Int)) then bif decide ((0 : Int) ≤ x_2.fst ∧ x_2.fst < (↑x_1.snd.snd.length : Int)) then bif decide (x_1.snd.snd.length = x_2.snd.length ∧
  x_2.fst.toNat < x_2.snd.length) then bif decide (rng IntKind.i64 (x_2.fst + (1 : Int))) then ∃ y, TaP4 x_1.snd.snd.length y ∧ (ta4I xs ver (0 : Int) x_1.snd.fst (1 : Int)
  x.snd.snd.length (1 : Nat) (1600 : Nat) x_1.snd.snd.length [((1500 : Nat), Blk.row (23 : Nat) (5 : Nat) x.snd.snd), ((1501 : Nat), Blk.row (2000049 : Nat) (2 : Nat) [[AV.int
  IntKind.i64 (10000 : Int), AV.rw (1600 : Nat) (1 : Nat) x_1.snd.snd.length]]), ((1600 : Nat), Blk.row (3 : Nat) (1 : Nat) x_1.snd.snd)]).m y < (ta4I xs ver (0 : Int) x_1.snd.fst (1
  : Int) x.snd.snd.length (1 : Nat) (1600 : Nat) x_1.snd.snd.length [((1500 : Nat), Blk.row (23 : Nat) (5 : Nat) x.snd.snd), ((1501 : Nat), Blk.row (2000049 : Nat) (2 : Nat) [[AV.int
  IntKind.i64 (10000 : Int), AV.rw (1600 : Nat) (1 : Nat) x_1.snd.snd.length]]), ((1600 : Nat), Blk.row (3 : Nat) (1 : Nat) x_1.snd.snd)]).m x_2 ∧ ((0 : Nat) = (0 : Nat) ∧ (0 : Nat)
  = (0 : Nat) ∧ (0 : Nat) = (0 : Nat) ∧ (0 : Int) = (0 : Int) ∧ (1 : Int) = (1 : Int) ∧ (0 : Int) = (0 : Int) ∧ x_1.snd.snd.length = x_1.snd.snd.length ∧ (↑x_1.snd.snd.length : Int)
  = (↑x_1.snd.snd.length : Int) ∧ x_2.fst + (1 : Int) = y.fst ∧ True) ∧ ((True ∧ xs = xs) ∧ x_1.snd.fst = x_1.snd.fst ∧ True) ∧ ((0 : Int) = (0 : Int) ∧ True ∧ True ∧ True) ∧ (ver =
  ver ∧ x.snd.snd.length = x.snd.snd.length ∧ (1 : Nat) = (1 : Nat) ∧ True) ∧ x.snd.snd = x.snd.snd ∧ [[AV.int IntKind.i64 (10000 : Int), AV.rw (1600 : Nat) (1 : Nat)
  x_1.snd.snd.length]] = [[AV.int IntKind.i64 (10000 : Int), AV.rw (1600 : Nat) (1 : Nat) x_1.snd.snd.length]] ∧ setEl x_2.snd x_2.fst.toNat (0 : Nat) [AV.int IntKind.i64 (100 :
  Int)] = y.snd ∧ True else False else False else False else bif decide (n = (20100 : Int)) then bif decide ((0 : Int) ≤ x_2.fst ∧ x_2.fst < (↑x_1.snd.snd.length : Int)) then bif
  decide (x_1.snd.snd.length = x_2.snd.length ∧ x_2.fst.toNat < x_2.snd.length) then bif decide (rng IntKind.i64 (x_2.fst + (1 : Int))) then ∃ y, TaP4 x_1.snd.snd.length y ∧ (ta4I xs
  ver (0 : Int) x_1.snd.fst (1 : Int) x.snd.snd.length (1 : Nat) (1600 : Nat) x_1.snd.snd.length [((1500 : Nat), Blk.row (23 : Nat) (5 : Nat) x.snd.snd), ((1501 : Nat), Blk.row
  (2000049 : Nat) (2 : Nat) [[AV.int IntKind.i64 (10000 : Int), AV.rw (1600 : Nat) (1 : Nat) x_1.snd.snd.length]]), ((1600 : Nat), Blk.row (3 : Nat) (1 : Nat) x_1.snd.snd)]).m y <
  (ta4I xs ver (0 : Int) x_1.snd.fst (1 : Int) x.snd.snd.length (1 : Nat) (1600 : Nat) x_1.snd.snd.length [((1500 : Nat), Blk.row (23 : Nat) (5 : Nat) x.snd.snd), ((1501 : Nat),
  Blk.row (2000049 : Nat) (2 : Nat) [[AV.int IntKind.i64 (10000 : Int), AV.rw (1600 : Nat) (1 : Nat) x_1.snd.snd.length]]), ((1600 : Nat), Blk.row (3 : Nat) (1 : Nat)
  x_1.snd.snd)]).m x_2 ∧ ((0 : Nat) = (0 : Nat) ∧ (0 : Nat) = (0 : Nat) ∧ (0 : Nat) = (0 : Nat) ∧ (0 : Int) = (0 : Int) ∧ (1 : Int) = (1 : Int) ∧ (0 : Int) = (0 : Int) ∧
  x_1.snd.snd.length = x_1.snd.snd.length ∧ (↑x_1.snd.snd.length : Int) = (↑x_1.snd.snd.length : Int) ∧ x_2.fst + (1 : Int) = y.fst ∧ True) ∧ ((True ∧ xs = xs) ∧ x_1.snd.fst =
  x_1.snd.fst ∧ True) ∧ ((0 : Int) = (0 : Int) ∧ True ∧ True ∧ True) ∧ (ver = ver ∧ x.snd.snd.length = x.snd.snd.length ∧ (1 : Nat) = (1 : Nat) ∧ True) ∧ x.snd.snd = x.snd.snd ∧
  [[AV.int IntKind.i64 (10000 : Int), AV.rw (1600 : Nat) (1 : Nat) x_1.snd.snd.length]] = [[AV.int IntKind.i64 (10000 : Int), AV.rw (1600 : Nat) (1 : Nat) x_1.snd.snd.length]] ∧
  setEl x_2.snd x_2.fst.toNat (0 : Nat) [AV.int IntKind.i64 (100 : Int)] = y.snd ∧ True else False else False else False else bif decide (n = (20021 : Int)) then bif decide ((0 :
  Int) ≤ x_2.fst ∧ x_2.fst < (↑x_1.snd.snd.length : Int)) then bif decide (x_1.snd.snd.length = x_2.snd.length ∧ x_2.fst.toNat < x_2.snd.length) then bif decide (rng IntKind.i64
  (x_2.fst + (1 : Int))) then ∃ y, TaP4 x_1.snd.snd.length y ∧ (ta4I xs ver (0 : Int) x_1.snd.fst (1 : Int) x.snd.snd.length (1 : Nat) (1600 : Nat) x_1.snd.snd.length [((1500 : Nat),
  Blk.row (23 : Nat) (5 : Nat) x.snd.snd), ((1501 : Nat), Blk.row (2000049 : Nat) (2 : Nat) [[AV.int IntKind.i64 (10000 : Int), AV.rw (1600 : Nat) (1 : Nat) x_1.snd.snd.length]]),
  ((1600 : Nat), Blk.row (3 : Nat) (1 : Nat) x_1.snd.snd)]).m y < (ta4I xs ver (0 : Int) x_1.snd.fst (1 : Int) x.snd.snd.length (1 : Nat) (1600 : Nat) x_1.snd.snd.length [((1500 :
  Nat), Blk.row (23 : Nat) (5 : Nat) x.snd.snd), ((1501 : Nat), Blk.row (2000049 : Nat) (2 : Nat) [[AV.int IntKind.i64 (10000 : Int), AV.rw (1600 : Nat) (1 : Nat)
  x_1.snd.snd.length]]), ((1600 : Nat), Blk.row (3 : Nat) (1 : Nat) x_1.snd.snd)]).m x_2 ∧ ((0 : Nat) = (0 : Nat) ∧ (0 : Nat) = (0 : Nat) ∧ (0 : Nat) = (0 : Nat) ∧ (0 : Int) = (0 :
  Int) ∧ (1 : Int) = (1 : Int) ∧ (0 : Int) = (0 : Int) ∧ x_1.snd.snd.length = x_1.snd.snd.length ∧ (↑x_1.snd.snd.length : Int) = (↑x_1.snd.snd.length : Int) ∧ x_2.fst + (1 : Int) =
  y.fst ∧ True) ∧ ((True ∧ xs = xs) ∧ x_1.snd.fst = x_1.snd.fst ∧ True) ∧ ((0 : Int) = (0 : Int) ∧ True ∧ True ∧ True) ∧ (ver = ver ∧ x.snd.snd.length = x.snd.snd.length ∧ (1 : Nat)
  = (1 : Nat) ∧ True) ∧ x.snd.snd = x.snd.snd ∧ [[AV.int IntKind.i64 (10000 : Int), AV.rw (1600 : Nat) (1 : Nat) x_1.snd.snd.length]] = [[AV.int IntKind.i64 (10000 : Int), AV.rw
  (1600 : Nat) (1 : Nat) x_1.snd.snd.length]] ∧ setEl x_2.snd x_2.fst.toNat (0 : Nat) [AV.int IntKind.i64 (100 : Int)] = y.snd ∧ True else False else False else False else bif decide
  (n = (22121 : Int)) then bif decide ((0 : Int) ≤ x_2.fst ∧ x_2.fst < (↑x_1.snd.snd.length : Int)) then bif decide (x_1.snd.snd.length = x_2.snd.length ∧ x_2.fst.toNat <
  x_2.snd.length) then bif decide (rng IntKind.i64 (x_2.fst + (1 : Int))) then ∃ y, TaP4 x_1.snd.snd.length y ∧ (ta4I xs ver (0 : Int) x_1.snd.fst (1 : Int) x.snd.snd.length (1 :
  Nat) (1600 : Nat) x_1.snd.snd.length [((1500 : Nat), Blk.row (23 : Nat) (5 : Nat) x.snd.snd), ((1501 : Nat), Blk.row (2000049 : Nat) (2 : Nat) [[AV.int IntKind.i64 (10000 : Int),
  AV.rw (1600 : Nat) (1 : Nat) x_1.snd.snd.length]]), ((1600 : Nat), Blk.row (3 : Nat) (1 : Nat) x_1.snd.snd)]).m y < (ta4I xs ver (0 : Int) x_1.snd.fst (1 : Int) x.snd.snd.length (1
  : Nat) (1600 : Nat) x_1.snd.snd.length [((1500 : Nat), Blk.row (23 : Nat) (5 : Nat) x.snd.snd), ((1501 : Nat), Blk.row (2000049 : Nat) (2 : Nat) [[AV.int IntKind.i64 (10000 : Int),
  AV.rw (1600 : Nat) (1 : Nat) x_1.snd.snd.length]]), ((1600 : Nat), Blk.row (3 : Nat) (1 : Nat) x_1.snd.snd)]).m x_2 ∧ ((0 : Nat) = (0 : Nat) ∧ (0 : Nat) = (0 : Nat) ∧ (0 : Nat) =
  (0 : Nat) ∧ (0 : Int) = (0 : Int) ∧ (1 : Int) = (1 : Int) ∧ (0 : Int) = (0 : Int) ∧ x_1.snd.snd.length = x_1.snd.snd.length ∧ (↑x_1.snd.snd.length : Int) = (↑x_1.snd.snd.length :
  Int) ∧ x_2.fst + (1 : Int) = y.fst ∧ True) ∧ ((True ∧ xs = xs) ∧ x_1.snd.fst = x_1.snd.fst ∧ True) ∧ ((0 : Int) = (0 : Int) ∧ True ∧ True ∧ True) ∧ (ver = ver ∧ x.snd.snd.length =
  x.snd.snd.length ∧ (1 : Nat) = (1 : Nat) ∧ True) ∧ x.snd.snd = x.snd.snd ∧ [[AV.int IntKind.i64 (10000 : Int), AV.rw (1600 : Nat) (1 : Nat) x_1.snd.snd.length]] = [[AV.int
  IntKind.i64 (10000 : Int), AV.rw (1600 : Nat) (1 : Nat) x_1.snd.snd.length]] ∧ setEl x_2.snd x_2.fst.toNat (0 : Nat) [AV.int IntKind.i64 (100 : Int)] = y.snd ∧ True else False else
  False else False else bif decide (rng IntKind.i64 (x_2.fst + (1 : Int))) then ∃ y, TaP4 x_1.snd.snd.length y ∧ (ta4I xs ver (0 : Int) x_1.snd.fst (1 : Int) x.snd.snd.length (1 :
  Nat) (1600 : Nat) x_1.snd.snd.length [((1500 : Nat), Blk.row (23 : Nat) (5 : Nat) x.snd.snd), ((1501 : Nat), Blk.row (2000049 : Nat) (2 : Nat) [[AV.int IntKind.i64 (10000 : Int),
  AV.rw (1600 : Nat) (1 : Nat) x_1.snd.snd.length]]), ((1600 : Nat), Blk.row (3 : Nat) (1 : Nat) x_1.snd.snd)]).m y < (ta4I xs ver (0 : Int) x_1.snd.fst (1 : Int) x.snd.snd.length (1
  : Nat) (1600 : Nat) x_1.snd.snd.length [((1500 : Nat), Blk.row (23 : Nat) (5 : Nat) x.snd.snd), ((1501 : Nat), Blk.row (2000049 : Nat) (2 : Nat) [[AV.int IntKind.i64 (10000 : Int),
  AV.rw (1600 : Nat) (1 : Nat) x_1.snd.snd.length]]), ((1600 : Nat), Blk.row (3 : Nat) (1 : Nat) x_1.snd.snd)]).m x_2 ∧ ((0 : Nat) = (0 : Nat) ∧ (0 : Nat) = (0 : Nat) ∧ (0 : Nat) =
  (0 : Nat) ∧ (0 : Int) = (0 : Int) ∧ (1 : Int) = (1 : Int) ∧ (0 : Int) = (0 : Int) ∧ x_1.snd.snd.length = x_1.snd.snd.length ∧ (↑x_1.snd.snd.length : Int) = (↑x_1.snd.snd.length :
  Int) ∧ x_2.fst + (1 : Int) = y.fst ∧ True) ∧ ((True ∧ xs = xs) ∧ x_1.snd.fst = x_1.snd.fst ∧ True) ∧ ((0 : Int) = (0 : Int) ∧ True ∧ True ∧ True) ∧ (ver = ver ∧ x.snd.snd.length =
  x.snd.snd.length ∧ (1 : Nat) = (1 : Nat) ∧ True) ∧ x.snd.snd = x.snd.snd ∧ [[AV.int IntKind.i64 (10000 : Int), AV.rw (1600 : Nat) (1 : Nat) x_1.snd.snd.length]] = [[AV.int
  IntKind.i64 (10000 : Int), AV.rw (1600 : Nat) (1 : Nat) x_1.snd.snd.length]] ∧ x_2.snd = y.snd ∧ True else False else False else False else bif decide (x_1.snd.snd.length =
  x_2.snd.length) then ∃ es ss j, TabQ es ss j ∧ (ver = ver ∧ x.snd.snd.length = es.length ∧ (1 : Nat) = ss.length ∧ True) ∧ ((True ∧ xs = xs) ∧ x_1.snd.fst = j ∧ True) ∧ x.snd.snd =
  es ∧ [[AV.int IntKind.i64 (10000 : Int), AV.sl (1 : Nat) false x_2.snd]] = ss ∧ True else False) ∧ (v = (2 : Int) → SrcQ xs j ∧ ∀ (v j : Int), NumQ (4 : Int) v j → (∃ x_1, TaP3 x_1
  ∧ ((0 : Nat) = (0 : Nat) ∧ (0 : Nat) = (0 : Nat) ∧ (0 : Nat) = (0 : Nat) ∧ (2 : Int) = (2 : Int) ∧ (0 : Nat) = (0 : Nat) ∧ v = x_1.fst ∧ True) ∧ ((True ∧ xs = xs) ∧ j = x_1.snd.fst
  ∧ True) ∧ ((0 : Int) = (0 : Int) ∧ True ∧ True ∧ True) ∧ (ver = ver ∧ x.snd.snd.length = x.snd.snd.length ∧ (0 : Nat) = (0 : Nat) ∧ True) ∧ ((10000 : Int) = (10000 : Int) ∧ (0 :
  Nat) = x_1.snd.snd.length ∧ True) ∧ x.snd.snd = x.snd.snd ∧ ([] : List (List AV)) = [] ∧ [] = x_1.snd.snd ∧ True) ∧ ∀ (x_1 : Int × Int × List (List AV)), TaP3 x_1 → bif decide ((0
  : Int) < x_1.fst) then SrcQ xs x_1.snd.fst ∧ ∀ (v j : Int), CodQ v j → bif decide (x_1.snd.snd.length = x_1.snd.snd.length ∧ x_1.snd.snd.length + [[AV.int IntKind.i64 v]].length ≤
  (9223372036854775807 : Nat) ∧ (x_1.snd.snd.length + [[AV.int IntKind.i64 v]].length) * (8 : Nat) ≤ (140737488355328 : Nat)) then bif decide (rng IntKind.i64 (x_1.fst - (1 : Int)))
  then ∃ y, TaP3 y ∧ (ta3I xs ver (2 : Int) (10000 : Int) x.snd.snd.length (0 : Nat) (1600 : Nat) [((1500 : Nat), Blk.row (23 : Nat) (5 : Nat) x.snd.snd), ((1501 : Nat), Blk.row (49
  : Nat) (2 : Nat) []), ((1600 : Nat), Blk.row (3 : Nat) (1 : Nat) [])]).m y < (ta3I xs ver (2 : Int) (10000 : Int) x.snd.snd.length (0 : Nat) (1600 : Nat) [((1500 : Nat), Blk.row
  (23 : Nat) (5 : Nat) x.snd.snd), ((1501 : Nat), Blk.row (49 : Nat) (2 : Nat) []), ((1600 : Nat), Blk.row (3 : Nat) (1 : Nat) [])]).m x_1 ∧ ((0 : Nat) = (0 : Nat) ∧ (0 : Nat) = (0 :
  Nat) ∧ (0 : Nat) = (0 : Nat) ∧ (2 : Int) = (2 : Int) ∧ (0 : Nat) = (0 : Nat) ∧ x_1.fst - (1 : Int) = y.fst ∧ True) ∧ ((True ∧ xs = xs) ∧ j = y.snd.fst ∧ True) ∧ ((0 : Int) = (0 :
  Int) ∧ True ∧ True ∧ True) ∧ (ver = ver ∧ x.snd.snd.length = x.snd.snd.length ∧ (0 : Nat) = (0 : Nat) ∧ True) ∧ ((10000 : Int) = (10000 : Int) ∧ (x_1.snd.snd ++ [[AV.int
  IntKind.i64 v]]).length = y.snd.snd.length ∧ True) ∧ x.snd.snd = x.snd.snd ∧ ([] : List (List AV)) = [] ∧ x_1.snd.snd ++ [[AV.int IntKind.i64 v]] = y.snd.snd ∧ True else False else
  False else SrcQ xs x_1.snd.fst ∧ ∀ (v j : Int), NumQ (4 : Int) v j → (∃ x_2, TaP3 x_2 ∧ ((0 : Nat) = (0 : Nat) ∧ (0 : Nat) = (0 : Nat) ∧ (0 : Nat) = (0 : Nat) ∧ (1 : Int) = (1 :
  Int) ∧ (0 : Nat) = (0 : Nat) ∧ v = x_2.fst ∧ True) ∧ ((True ∧ xs = xs) ∧ j = x_2.snd.fst ∧ True) ∧ ((0 : Int) = (0 : Int) ∧ True ∧ True ∧ True) ∧ (ver = ver ∧ x.snd.snd.length =
  x.snd.snd.length ∧ (1 : Nat) = (1 : Nat) ∧ True) ∧ ((10001 : Int) = (10001 : Int) ∧ (0 : Nat) = x_2.snd.snd.length ∧ True) ∧ x.snd.snd = x.snd.snd ∧ [[AV.int IntKind.i64 (10000 :
  Int), AV.rw (1600 : Nat) (1 : Nat) x_1.snd.snd.length]] = [[AV.int IntKind.i64 (10000 : Int), AV.rw (1600 : Nat) (1 : Nat) x_1.snd.snd.length]] ∧ x_1.snd.snd = x_1.snd.snd ∧ [] =
  x_2.snd.snd ∧ True) ∧ ∀ (x_2 : Int × Int × List (List AV)), TaP3 x_2 → bif decide ((0 : Int) < x_2.fst) then SrcQ xs x_2.snd.fst ∧ ∀ (v j : Int), CodQ v j → bif decide
  (x_2.snd.snd.length = x_2.snd.snd.length ∧ x_2.snd.snd.length + [[AV.int IntKind.i64 v]].length ≤ (9223372036854775807 : Nat) ∧ (x_2.snd.snd.length + [[AV.int IntKind.i64
  v]].length) * (8 : Nat) ≤ (140737488355328 : Nat)) then bif decide (rng IntKind.i64 (x_2.fst - (1 : Int))) then ∃ y, TaP3 y ∧ (ta3I xs ver (1 : Int) (10001 : Int) x.snd.snd.length
  (1 : Nat) (1601 : Nat) [((1500 : Nat), Blk.row (23 : Nat) (5 : Nat) x.snd.snd), ((1501 : Nat), Blk.row (2000049 : Nat) (2 : Nat) [[AV.int IntKind.i64 (10000 : Int), AV.rw (1600 :
  Nat) (1 : Nat) x_1.snd.snd.length]]), ((1600 : Nat), Blk.row (3 : Nat) (1 : Nat) x_1.snd.snd), ((1601 : Nat), Blk.row (3 : Nat) (1 : Nat) [])]).m y < (ta3I xs ver (1 : Int) (10001
  : Int) x.snd.snd.length (1 : Nat) (1601 : Nat) [((1500 : Nat), Blk.row (23 : Nat) (5 : Nat) x.snd.snd), ((1501 : Nat), Blk.row (2000049 : Nat) (2 : Nat) [[AV.int IntKind.i64 (10000
  : Int), AV.rw (1600 : Nat) (1 : Nat) x_1.snd.snd.length]]), ((1600 : Nat), Blk.row (3 : Nat) (1 : Nat) x_1.snd.snd), ((1601 : Nat), Blk.row (3 : Nat) (1 : Nat) [])]).m x_2 ∧ ((0 :
  Nat) = (0 : Nat) ∧ (0 : Nat) = (0 : Nat) ∧ (0 : Nat) = (0 : Nat) ∧ (1 : Int) = (1 : Int) ∧ (0 : Nat) = (0 : Nat) ∧ x_2.fst - (1 : Int) = y.fst ∧ True) ∧ ((True ∧ xs = xs) ∧ j =
  y.snd.fst ∧ True) ∧ ((0 : Int) = (0 : Int) ∧ True ∧ True ∧ True) ∧ (ver = ver ∧ x.snd.snd.length = x.snd.snd.length ∧ (1 : Nat) = (1 : Nat) ∧ True) ∧ ((10001 : Int) = (10001 : Int)
  ∧ (x_2.snd.snd ++ [[AV.int IntKind.i64 v]]).length = y.snd.snd.length ∧ True) ∧ x.snd.snd = x.snd.snd ∧ [[AV.int IntKind.i64 (10000 : Int), AV.rw (1600 : Nat) (1 : Nat)
  x_1.snd.snd.length]] = [[AV.int IntKind.i64 (10000 : Int), AV.rw (1600 : Nat) (1 : Nat) x_1.snd.snd.length]] ∧ x_1.snd.snd = x_1.snd.snd ∧ x_2.snd.snd ++ [[AV.int IntKind.i64 v]] =
  y.snd.snd ∧ True else False else False else (∃ x_3, TaP4 x_1.snd.snd.length x_3 ∧ ((0 : Nat) = (0 : Nat) ∧ (0 : Nat) = (0 : Nat) ∧ (0 : Nat) = (0 : Nat) ∧ (0 : Int) = (0 : Int) ∧
  (2 : Int) = (2 : Int) ∧ (0 : Int) = (0 : Int) ∧ x_1.snd.snd.length = x_1.snd.snd.length ∧ (↑x_1.snd.snd.length : Int) = (↑x_1.snd.snd.length : Int) ∧ (0 : Int) = x_3.fst ∧ True) ∧
  ((True ∧ xs = xs) ∧ x_2.snd.fst = x_2.snd.fst ∧ True) ∧ ((0 : Int) = (0 : Int) ∧ True ∧ True ∧ True) ∧ (ver = ver ∧ x.snd.snd.length = x.snd.snd.length ∧ (2 : Nat) = (2 : Nat) ∧
  True) ∧ x.snd.snd = x.snd.snd ∧ [[AV.int IntKind.i64 (10000 : Int), AV.rw (1600 : Nat) (1 : Nat) x_1.snd.snd.length], [AV.int IntKind.i64 (10001 : Int), AV.rw (1601 : Nat) (1 :
  Nat) x_2.snd.snd.length]] = [[AV.int IntKind.i64 (10000 : Int), AV.rw (1600 : Nat) (1 : Nat) x_1.snd.snd.length], [AV.int IntKind.i64 (10001 : Int), AV.rw (1601 : Nat) (1 : Nat)
  x_2.snd.snd.length]] ∧ x_1.snd.snd = x_3.snd ∧ x_2.snd.snd = x_2.snd.snd ∧ True) ∧ ∀ (x_3 : Int × List (List AV)), TaP4 x_1.snd.snd.length x_3 → bif decide (x_3.fst <
  (↑x_1.snd.snd.length : Int)) then bif decide ((0 : Int) ≤ x_3.fst ∧ x_3.fst < (↑x_1.snd.snd.length : Int)) then bif decide (x_1.snd.snd.length = x_3.snd.length ∧ x_3.fst.toNat <
  x_3.snd.length) then ∃ n, List.take [AV.int IntKind.i64 n].length (List.drop (0 : Nat) (x_3.snd.getD x_3.fst.toNat [])) = [AV.int IntKind.i64 n] ∧ bif decide (n < (1 : Int)) then
  bif decide ((0 : Int) ≤ x_3.fst ∧ x_3.fst < (↑x_1.snd.snd.length : Int)) then bif decide (x_1.snd.snd.length = x_3.snd.length ∧ x_3.fst.toNat < x_3.snd.length) then bif decide (rng
  IntKind.i64 (x_3.fst + (1 : Int))) then ∃ y, TaP4 x_1.snd.snd.length y ∧ (ta4I xs ver (0 : Int) x_2.snd.fst (2 : Int) x.snd.snd.length (2 : Nat) (1600 : Nat) x_1.snd.snd.length
  [((1500 : Nat), Blk.row (23 : Nat) (5 : Nat) x.snd.snd), ((1501 : Nat), Blk.row (2000049 : Nat) (2 : Nat) [[AV.int IntKind.i64 (10000 : Int), AV.rw (1600 : Nat) (1 : Nat)
  x_1.snd.snd.length], [AV.int IntKind.i64 (10001 : Int), AV.rw (1601 : Nat) (1 : Nat) x_2.snd.snd.length]]), ((1600 : Nat), Blk.row (3 : Nat) (1 : Nat) x_1.snd.snd), ((1601 : Nat),
  Blk.row (3 : Nat) (1 : Nat) x_2.snd.snd)]).m y < (ta4I xs ver (0 : Int) x_2.snd.fst (2 : Int) x.snd.snd.length (2 : Nat) (1600 : Nat) x_1.snd.snd.length [((1500 : Nat), Blk.row (23
  : Nat) (5 : Nat) x.snd.snd), ((1501 : Nat), Blk.row (2000049 : Nat) (2 : Nat) [[AV.int IntKind.i64 (10000 : Int), AV.rw (1600 : Nat) (1 : Nat) x_1.snd.snd.length], [AV.int
  IntKind.i64 (10001 : Int), AV.rw (1601 : Nat) (1 : Nat) x_2.snd.snd.length]]), ((1600 : Nat), Blk.row (3 : Nat) (1 : Nat) x_1.snd.snd), ((1601 : Nat), Blk.row (3 : Nat) (1 : Nat)
  x_2.snd.snd)]).m x_3 ∧ ((0 : Nat) = (0 : Nat) ∧ (0 : Nat) = (0 : Nat) ∧ (0 : Nat) = (0 : Nat) ∧ (0 : Int) = (0 : Int) ∧ (2 : Int) = (2 : Int) ∧ (0 : Int) = (0 : Int) ∧
  x_1.snd.snd.length = x_1.snd.snd.length ∧ (↑x_1.snd.snd.length : Int) = (↑x_1.snd.snd.length : Int) ∧ x_3.fst + (1 : Int) = y.fst ∧ True) ∧ ((True ∧ xs = xs) ∧ x_2.snd.fst =
  x_2.snd.fst ∧ True) ∧ ((0 : Int) = (0 : Int) ∧ True ∧ True ∧ True) ∧ (ver = ver ∧ x.snd.snd.length = x.snd.snd.length ∧ (2 : Nat) = (2 : Nat) ∧ True) ∧ x.snd.snd = x.snd.snd ∧
  [[AV.int IntKind.i64 (10000 : Int), AV.rw (1600 : Nat) (1 : Nat) x_1.snd.snd.length], [AV.int IntKind.i64 (10001 : Int), AV.rw (1601 : Nat) (1 : Nat) x_2.snd.snd.length]] =
  [[AV.int IntKind.i64 (10000 : Int), AV.rw (1600 : Nat) (1 : Nat) x_1.snd.snd.length], [AV.int IntKind.i64 (10001 : Int), AV.rw (1601 : Nat) (1 : Nat) x_2.snd.snd.length]] ∧ setEl
  x_3.snd x_3.fst.toNat (0 : Nat) [AV.int IntKind.i64 (100 : Int)] = y.snd ∧ x_2.snd.snd = x_2.snd.snd ∧ True else False else False else False else bif decide ((30000 : Int) ≤ n)
  then bif decide ((0 : Int) ≤ x_3.fst ∧ x_3.fst < (↑x_1.snd.snd.length : Int)) then bif decide (x_1.snd.snd.length = x_3.snd.length ∧ x_3.fst.toNat < x_3.snd.length) then bif decide
  (rng IntKind.i64 (x_3.fst + (1 : Int))) then ∃ y, TaP4 x_1.snd.snd.length y ∧ (ta4I xs ver (0 : Int) x_2.snd.fst (2 : Int) x.snd.snd.length (2 : Nat) (1600 : Nat)
  x_1.snd.snd.length [((1500 : Nat), Blk.row (23 : Nat) (5 : Nat) x.snd.snd), ((1501 : Nat), Blk.row (2000049 : Nat) (2 : Nat) [[AV.int IntKind.i64 (10000 : Int), AV.rw (1600 : Nat)
  (1 : Nat) x_1.snd.snd.length], [AV.int IntKind.i64 (10001 : Int), AV.rw (1601 : Nat) (1 : Nat) x_2.snd.snd.length]]), ((1600 : Nat), Blk.row (3 : Nat) (1 : Nat) x_1.snd.snd),
  ((1601 : Nat), Blk.row (3 : Nat) (1 : Nat) x_2.snd.snd)]).m y < (ta4I xs ver (0 : Int) x_2.snd.fst (2 : Int) x.snd.snd.length (2 : Nat) (1600 : Nat) x_1.snd.snd.length [((1500 :
  Nat), Blk.row (23 : Nat) (5 : Nat) x.snd.snd), ((1501 : Nat), Blk.row (2000049 : Nat) (2 : Nat) [[AV.int IntKind.i64 (10000 : Int), AV.rw (1600 : Nat) (1 : Nat)
  x_1.snd.snd.length], [AV.int IntKind.i64 (10001 : Int), AV.rw (1601 : Nat) (1 : Nat) x_2.snd.snd.length]]), ((1600 : Nat), Blk.row (3 : Nat) (1 : Nat) x_1.snd.snd), ((1601 : Nat),
  Blk.row (3 : Nat) (1 : Nat) x_2.snd.snd)]).m x_3 ∧ ((0 : Nat) = (0 : Nat) ∧ (0 : Nat) = (0 : Nat) ∧ (0 : Nat) = (0 : Nat) ∧ (0 : Int) = (0 : Int) ∧ (2 : Int) = (2 : Int) ∧ (0 :
  Int) = (0 : Int) ∧ x_1.snd.snd.length = x_1.snd.snd.length ∧ (↑x_1.snd.snd.length : Int) = (↑x_1.snd.snd.length : Int) ∧ x_3.fst + (1 : Int) = y.fst ∧ True) ∧ ((True ∧ xs = xs) ∧
  x_2.snd.fst = x_2.snd.fst ∧ True) ∧ ((0 : Int) = (0 : Int) ∧ True ∧ True ∧ True) ∧ (ver = ver ∧ x.snd.snd.length = x.snd.snd.length ∧ (2 : Nat) = (2 : Nat) ∧ True) ∧ x.snd.snd =
  x.snd.snd ∧ [[AV.int IntKind.i64 (10000 : Int), AV.rw (1600 : Nat) (1 : Nat) x_1.snd.snd.length], [AV.int IntKind.i64 (10001 : Int), AV.rw (1601 : Nat) (1 : Nat)
  x_2.snd.snd.length]] = [[AV.int IntKind.i64 (10000 : Int), AV.rw (1600 : Nat) (1 : Nat) x_1.snd.snd.length], [AV.int IntKind.i64 (10001 : Int), AV.rw (1601 : Nat) (1 : Nat)
  x_2.snd.snd.length]] ∧ setEl x_3.snd x_3.fst.toNat (0 : Nat) [AV.int IntKind.i64 (100 : Int)] = y.snd ∧ x_2.snd.snd = x_2.snd.snd ∧ True else False else False else False else bif
  decide (n = (20000 : Int)) then bif decide ((0 : Int) ≤ x_3.fst ∧ x_3.fst < (↑x_1.snd.snd.length : Int)) then bif decide (x_1.snd.snd.length = x_3.snd.length ∧ x_3.fst.toNat <
  x_3.snd.length) then bif decide (rng IntKind.i64 (x_3.fst + (1 : Int))) then ∃ y, TaP4 x_1.snd.snd.length y ∧ (ta4I xs ver (0 : Int) x_2.snd.fst (2 : Int) x.snd.snd.length (2 :
  Nat) (1600 : Nat) x_1.snd.snd.length [((1500 : Nat), Blk.row (23 : Nat) (5 : Nat) x.snd.snd), ((1501 : Nat), Blk.row (2000049 : Nat) (2 : Nat) [[AV.int IntKind.i64 (10000 : Int),
  AV.rw (1600 : Nat) (1 : Nat) x_1.snd.snd.length], [AV.int IntKind.i64 (10001 : Int), AV.rw (1601 : Nat) (1 : Nat) x_2.snd.snd.length]]), ((1600 : Nat), Blk.row (3 : Nat) (1 : Nat)
  x_1.snd.snd), ((1601 : Nat), Blk.row (3 : Nat) (1 : Nat) x_2.snd.snd)]).m y < (ta4I xs ver (0 : Int) x_2.snd.fst (2 : Int) x.snd.snd.length (2 : Nat) (1600 : Nat)
  x_1.snd.snd.length [((1500 : Nat), Blk.row (23 : Nat) (5 : Nat) x.snd.snd), ((1501 : Nat), Blk.row (2000049 : Nat) (2 : Nat) [[AV.int IntKind.i64 (10000 : Int), AV.rw (1600 : Nat)
  (1 : Nat) x_1.snd.snd.length], [AV.int IntKind.i64 (10001 : Int), AV.rw (1601 : Nat) (1 : Nat) x_2.snd.snd.length]]), ((1600 : Nat), Blk.row (3 : Nat) (1 : Nat) x_1.snd.snd),
  ((1601 : Nat), Blk.row (3 : Nat) (1 : Nat) x_2.snd.snd)]).m x_3 ∧ ((0 : Nat) = (0 : Nat) ∧ (0 : Nat) = (0 : Nat) ∧ (0 : Nat) = (0 : Nat) ∧ (0 : Int) = (0 : Int) ∧ (2 : Int) = (2 :
  Int) ∧ (0 : Int) = (0 : Int) ∧ x_1.snd.snd.length = x_1.snd.snd.length ∧ (↑x_1.snd.snd.length : Int) = (↑x_1.snd.snd.length : Int) ∧ x_3.fst + (1 : Int) = y.fst ∧ True) ∧ ((True ∧
  xs = xs) ∧ x_2.snd.fst = x_2.snd.fst ∧ True) ∧ ((0 : Int) = (0 : Int) ∧ True ∧ True ∧ True) ∧ (ver = ver ∧ x.snd.snd.length = x.snd.snd.length ∧ (2 : Nat) = (2 : Nat) ∧ True) ∧
  x.snd.snd = x.snd.snd ∧ [[AV.int IntKind.i64 (10000 : Int), AV.rw (1600 : Nat) (1 : Nat) x_1.snd.snd.length], [AV.int IntKind.i64 (10001 : Int), AV.rw (1601 : Nat) (1 : Nat)
  x_2.snd.snd.length]] = [[AV.int IntKind.i64 (10000 : Int), AV.rw (1600 : Nat) (1 : Nat) x_1.snd.snd.length], [AV.int IntKind.i64 (10001 : Int), AV.rw (1601 : Nat) (1 : Nat)
  x_2.snd.snd.length]] ∧ setEl x_3.snd x_3.fst.toNat (0 : Nat) [AV.int IntKind.i64 (100 : Int)] = y.snd ∧ x_2.snd.snd = x_2.snd.snd ∧ True else False else False else False else bif
  decide (n = (20100 : Int)) then bif decide ((0 : Int) ≤ x_3.fst ∧ x_3.fst < (↑x_1.snd.snd.length : Int)) then bif decide (x_1.snd.snd.length = x_3.snd.length ∧ x_3.fst.toNat <
  x_3.snd.length) then bif decide (rng IntKind.i64 (x_3.fst + (1 : Int))) then ∃ y, TaP4 x_1.snd.snd.length y ∧ (ta4I xs ver (0 : Int) x_2.snd.fst (2 : Int) x.snd.snd.length (2 :
  Nat) (1600 : Nat) x_1.snd.snd.length [((1500 : Nat), Blk.row (23 : Nat) (5 : Nat) x.snd.snd), ((1501 : Nat), Blk.row (2000049 : Nat) (2 : Nat) [[AV.int IntKind.i64 (10000 : Int),
  AV.rw (1600 : Nat) (1 : Nat) x_1.snd.snd.length], [AV.int IntKind.i64 (10001 : Int), AV.rw (1601 : Nat) (1 : Nat) x_2.snd.snd.length]]), ((1600 : Nat), Blk.row (3 : Nat) (1 : Nat)
  x_1.snd.snd), ((1601 : Nat), Blk.row (3 : Nat) (1 : Nat) x_2.snd.snd)]).m y < (ta4I xs ver (0 : Int) x_2.snd.fst (2 : Int) x.snd.snd.length (2 : Nat) (1600 : Nat)
  x_1.snd.snd.length [((1500 : Nat), Blk.row (23 : Nat) (5 : Nat) x.snd.snd), ((1501 : Nat), Blk.row (2000049 : Nat) (2 : Nat) [[AV.int IntKind.i64 (10000 : Int), AV.rw (1600 : Nat)
  (1 : Nat) x_1.snd.snd.length], [AV.int IntKind.i64 (10001 : Int), AV.rw (1601 : Nat) (1 : Nat) x_2.snd.snd.length]]), ((1600 : Nat), Blk.row (3 : Nat) (1 : Nat) x_1.snd.snd),
  ((1601 : Nat), Blk.row (3 : Nat) (1 : Nat) x_2.snd.snd)]).m x_3 ∧ ((0 : Nat) = (0 : Nat) ∧ (0 : Nat) = (0 : Nat) ∧ (0 : Nat) = (0 : Nat) ∧ (0 : Int) = (0 : Int) ∧ (2 : Int) = (2 :
  Int) ∧ (0 : Int) = (0 : Int) ∧ x_1.snd.snd.length = x_1.snd.snd.length ∧ (↑x_1.snd.snd.length : Int) = (↑x_1.snd.snd.length : Int) ∧ x_3.fst + (1 : Int) = y.fst ∧ True) ∧ ((True ∧
  xs = xs) ∧ x_2.snd.fst = x_2.snd.fst ∧ True) ∧ ((0 : Int) = (0 : Int) ∧ True ∧ True ∧ True) ∧ (ver = ver ∧ x.snd.snd.length = x.snd.snd.length ∧ (2 : Nat) = (2 : Nat) ∧ True) ∧
  x.snd.snd = x.snd.snd ∧ [[AV.int IntKind.i64 (10000 : Int), AV.rw (1600 : Nat) (1 : Nat) x_1.snd.snd.length], [AV.int IntKind.i64 (10001 : Int), AV.rw (1601 : Nat) (1 : Nat)
  x_2.snd.snd.length]] = [[AV.int IntKind.i64 (10000 : Int), AV.rw (1600 : Nat) (1 : Nat) x_1.snd.snd.length], [AV.int IntKind.i64 (10001 : Int), AV.rw (1601 : Nat) (1 : Nat)
  x_2.snd.snd.length]] ∧ setEl x_3.snd x_3.fst.toNat (0 : Nat) [AV.int IntKind.i64 (100 : Int)] = y.snd ∧ x_2.snd.snd = x_2.snd.snd ∧ True else False else False else False else bif
  decide (n = (20021 : Int)) then bif decide ((0 : Int) ≤ x_3.fst ∧ x_3.fst < (↑x_1.snd.snd.length : Int)) then bif decide (x_1.snd.snd.length = x_3.snd.length ∧ x_3.fst.toNat <
  x_3.snd.length) then bif decide (rng IntKind.i64 (x_3.fst + (1 : Int))) then ∃ y, TaP4 x_1.snd.snd.length y ∧ (ta4I xs ver (0 : Int) x_2.snd.fst (2 : Int) x.snd.snd.length (2 :
  Nat) (1600 : Nat) x_1.snd.snd.length [((1500 : Nat), Blk.row (23 : Nat) (5 : Nat) x.snd.snd), ((1501 : Nat), Blk.row (2000049 : Nat) (2 : Nat) [[AV.int IntKind.i64 (10000 : Int),
  AV.rw (1600 : Nat) (1 : Nat) x_1.snd.snd.length], [AV.int IntKind.i64 (10001 : Int), AV.rw (1601 : Nat) (1 : Nat) x_2.snd.snd.length]]), ((1600 : Nat), Blk.row (3 : Nat) (1 : Nat)
  x_1.snd.snd), ((1601 : Nat), Blk.row (3 : Nat) (1 : Nat) x_2.snd.snd)]).m y < (ta4I xs ver (0 : Int) x_2.snd.fst (2 : Int) x.snd.snd.length (2 : Nat) (1600 : Nat)
  x_1.snd.snd.length [((1500 : Nat), Blk.row (23 : Nat) (5 : Nat) x.snd.snd), ((1501 : Nat), Blk.row (2000049 : Nat) (2 : Nat) [[AV.int IntKind.i64 (10000 : Int), AV.rw (1600 : Nat)
  (1 : Nat) x_1.snd.snd.length], [AV.int IntKind.i64 (10001 : Int), AV.rw (1601 : Nat) (1 : Nat) x_2.snd.snd.length]]), ((1600 : Nat), Blk.row (3 : Nat) (1 : Nat) x_1.snd.snd),
  ((1601 : Nat), Blk.row (3 : Nat) (1 : Nat) x_2.snd.snd)]).m x_3 ∧ ((0 : Nat) = (0 : Nat) ∧ (0 : Nat) = (0 : Nat) ∧ (0 : Nat) = (0 : Nat) ∧ (0 : Int) = (0 : Int) ∧ (2 : Int) = (2 :
  Int) ∧ (0 : Int) = (0 : Int) ∧ x_1.snd.snd.length = x_1.snd.snd.length ∧ (↑x_1.snd.snd.length : Int) = (↑x_1.snd.snd.length : Int) ∧ x_3.fst + (1 : Int) = y.fst ∧ True) ∧ ((True ∧
  xs = xs) ∧ x_2.snd.fst = x_2.snd.fst ∧ True) ∧ ((0 : Int) = (0 : Int) ∧ True ∧ True ∧ True) ∧ (ver = ver ∧ x.snd.snd.length = x.snd.snd.length ∧ (2 : Nat) = (2 : Nat) ∧ True) ∧
  x.snd.snd = x.snd.snd ∧ [[AV.int IntKind.i64 (10000 : Int), AV.rw (1600 : Nat) (1 : Nat) x_1.snd.snd.length], [AV.int IntKind.i64 (10001 : Int), AV.rw (1601 : Nat) (1 : Nat)
  x_2.snd.snd.length]] = [[AV.int IntKind.i64 (10000 : Int), AV.rw (1600 : Nat) (1 : Nat) x_1.snd.snd.length], [AV.int IntKind.i64 (10001 : Int), AV.rw (1601 : Nat) (1 : Nat)
  x_2.snd.snd.length]] ∧ setEl x_3.snd x_3.fst.toNat (0 : Nat) [AV.int IntKind.i64 (100 : Int)] = y.snd ∧ x_2.snd.snd = x_2.snd.snd ∧ True else False else False else False else bif
  decide (n = (22121 : Int)) then bif decide ((0 : Int) ≤ x_3.fst ∧ x_3.fst < (↑x_1.snd.snd.length : Int)) then bif decide (x_1.snd.snd.length = x_3.snd.length ∧ x_3.fst.toNat <
  x_3.snd.length) then bif decide (rng IntKind.i64 (x_3.fst + (1 : Int))) then ∃ y, TaP4 x_1.snd.snd.length y ∧ (ta4I xs ver (0 : Int) x_2.snd.fst (2 : Int) x.snd.snd.length (2 :
  Nat) (1600 : Nat) x_1.snd.snd.length [((1500 : Nat), Blk.row (23 : Nat) (5 : Nat) x.snd.snd), ((1501 : Nat), Blk.row (2000049 : Nat) (2 : Nat) [[AV.int IntKind.i64 (10000 : Int),
  AV.rw (1600 : Nat) (1 : Nat) x_1.snd.snd.length], [AV.int IntKind.i64 (10001 : Int), AV.rw (1601 : Nat) (1 : Nat) x_2.snd.snd.length]]), ((1600 : Nat), Blk.row (3 : Nat) (1 : Nat)
  x_1.snd.snd), ((1601 : Nat), Blk.row (3 : Nat) (1 : Nat) x_2.snd.snd)]).m y < (ta4I xs ver (0 : Int) x_2.snd.fst (2 : Int) x.snd.snd.length (2 : Nat) (1600 : Nat)
  x_1.snd.snd.length [((1500 : Nat), Blk.row (23 : Nat) (5 : Nat) x.snd.snd), ((1501 : Nat), Blk.row (2000049 : Nat) (2 : Nat) [[AV.int IntKind.i64 (10000 : Int), AV.rw (1600 : Nat)
  (1 : Nat) x_1.snd.snd.length], [AV.int IntKind.i64 (10001 : Int), AV.rw (1601 : Nat) (1 : Nat) x_2.snd.snd.length]]), ((1600 : Nat), Blk.row (3 : Nat) (1 : Nat) x_1.snd.snd),
  ((1601 : Nat), Blk.row (3 : Nat) (1 : Nat) x_2.snd.snd)]).m x_3 ∧ ((0 : Nat) = (0 : Nat) ∧ (0 : Nat) = (0 : Nat) ∧ (0 : Nat) = (0 : Nat) ∧ (0 : Int) = (0 : Int) ∧ (2 : Int) = (2 :
  Int) ∧ (0 : Int) = (0 : Int) ∧ x_1.snd.snd.length = x_1.snd.snd.length ∧ (↑x_1.snd.snd.length : Int) = (↑x_1.snd.snd.length : Int) ∧ x_3.fst + (1 : Int) = y.fst ∧ True) ∧ ((True ∧
  xs = xs) ∧ x_2.snd.fst = x_2.snd.fst ∧ True) ∧ ((0 : Int) = (0 : Int) ∧ True ∧ True ∧ True) ∧ (ver = ver ∧ x.snd.snd.length = x.snd.snd.length ∧ (2 : Nat) = (2 : Nat) ∧ True) ∧
  x.snd.snd = x.snd.snd ∧ [[AV.int IntKind.i64 (10000 : Int), AV.rw (1600 : Nat) (1 : Nat) x_1.snd.snd.length], [AV.int IntKind.i64 (10001 : Int), AV.rw (1601 : Nat) (1 : Nat)
  x_2.snd.snd.length]] = [[AV.int IntKind.i64 (10000 : Int), AV.rw (1600 : Nat) (1 : Nat) x_1.snd.snd.length], [AV.int IntKind.i64 (10001 : Int), AV.rw (1601 : Nat) (1 : Nat)
  x_2.snd.snd.length]] ∧ setEl x_3.snd x_3.fst.toNat (0 : Nat) [AV.int IntKind.i64 (100 : Int)] = y.snd ∧ x_2.snd.snd = x_2.snd.snd ∧ True else False else False else False else bif
  decide (rng IntKind.i64 (x_3.fst + (1 : Int))) then ∃ y, TaP4 x_1.snd.snd.length y ∧ (ta4I xs ver (0 : Int) x_2.snd.fst (2 : Int) x.snd.snd.length (2 : Nat) (1600 : Nat)
  x_1.snd.snd.length [((1500 : Nat), Blk.row (23 : Nat) (5 : Nat) x.snd.snd), ((1501 : Nat), Blk.row (2000049 : Nat) (2 : Nat) [[AV.int IntKind.i64 (10000 : Int), AV.rw (1600 : Nat)
  (1 : Nat) x_1.snd.snd.length], [AV.int IntKind.i64 (10001 : Int), AV.rw (1601 : Nat) (1 : Nat) x_2.snd.snd.length]]), ((1600 : Nat), Blk.row (3 : Nat) (1 : Nat) x_1.snd.snd),
  ((1601 : Nat), Blk.row (3 : Nat) (1 : Nat) x_2.snd.snd)]).m y < (ta4I xs ver (0 : Int) x_2.snd.fst (2 : Int) x.snd.snd.length (2 : Nat) (1600 : Nat) x_1.snd.snd.length [((1500 :
  Nat), Blk.row (23 : Nat) (5 : Nat) x.snd.snd), ((1501 : Nat), Blk.row (2000049 : Nat) (2 : Nat) [[AV.int IntKind.i64 (10000 : Int), AV.rw (1600 : Nat) (1 : Nat)
  x_1.snd.snd.length], [AV.int IntKind.i64 (10001 : Int), AV.rw (1601 : Nat) (1 : Nat) x_2.snd.snd.length]]), ((1600 : Nat), Blk.row (3 : Nat) (1 : Nat) x_1.snd.snd), ((1601 : Nat),
  Blk.row (3 : Nat) (1 : Nat) x_2.snd.snd)]).m x_3 ∧ ((0 : Nat) = (0 : Nat) ∧ (0 : Nat) = (0 : Nat) ∧ (0 : Nat) = (0 : Nat) ∧ (0 : Int) = (0 : Int) ∧ (2 : Int) = (2 : Int) ∧ (0 :
  Int) = (0 : Int) ∧ x_1.snd.snd.length = x_1.snd.snd.length ∧ (↑x_1.snd.snd.length : Int) = (↑x_1.snd.snd.length : Int) ∧ x_3.fst + (1 : Int) = y.fst ∧ True) ∧ ((True ∧ xs = xs) ∧
  x_2.snd.fst = x_2.snd.fst ∧ True) ∧ ((0 : Int) = (0 : Int) ∧ True ∧ True ∧ True) ∧ (ver = ver ∧ x.snd.snd.length = x.snd.snd.length ∧ (2 : Nat) = (2 : Nat) ∧ True) ∧ x.snd.snd =
  x.snd.snd ∧ [[AV.int IntKind.i64 (10000 : Int), AV.rw (1600 : Nat) (1 : Nat) x_1.snd.snd.length], [AV.int IntKind.i64 (10001 : Int), AV.rw (1601 : Nat) (1 : Nat)
  x_2.snd.snd.length]] = [[AV.int IntKind.i64 (10000 : Int), AV.rw (1600 : Nat) (1 : Nat) x_1.snd.snd.length], [AV.int IntKind.i64 (10001 : Int), AV.rw (1601 : Nat) (1 : Nat)
  x_2.snd.snd.length]] ∧ x_3.snd = y.snd ∧ x_2.snd.snd = x_2.snd.snd ∧ True else False else False else False else (∃ x_4, TaP4 x_2.snd.snd.length x_4 ∧ ((0 : Nat) = (0 : Nat) ∧ (0 :
  Nat) = (0 : Nat) ∧ (0 : Nat) = (0 : Nat) ∧ (1 : Int) = (1 : Int) ∧ (2 : Int) = (2 : Int) ∧ (1 : Int) = (1 : Int) ∧ x_2.snd.snd.length = x_2.snd.snd.length ∧ (↑x_2.snd.snd.length :
  Int) = (↑x_2.snd.snd.length : Int) ∧ (0 : Int) = x_4.fst ∧ True) ∧ ((True ∧ xs = xs) ∧ x_2.snd.fst = x_2.snd.fst ∧ True) ∧ ((0 : Int) = (0 : Int) ∧ True ∧ True ∧ True) ∧ (ver = ver
  ∧ x.snd.snd.length = x.snd.snd.length ∧ (2 : Nat) = (2 : Nat) ∧ True) ∧ x.snd.snd = x.snd.snd ∧ [[AV.int IntKind.i64 (10000 : Int), AV.rw (1600 : Nat) (1 : Nat)
  x_1.snd.snd.length], [AV.int IntKind.i64 (10001 : Int), AV.rw (1601 : Nat) (1 : Nat) x_2.snd.snd.length]] = [[AV.int IntKind.i64 (10000 : Int), AV.rw (1600 : Nat) (1 : Nat)
  x_1.snd.snd.length], [AV.int IntKind.i64 (10001 : Int), AV.rw (1601 : Nat) (1 : Nat) x_2.snd.snd.length]] ∧ x_3.snd = x_3.snd ∧ x_2.snd.snd = x_4.snd ∧ True) ∧ ∀ (x_4 : Int × List
  (List AV)), TaP4 x_2.snd.snd.length x_4 → bif decide (x_4.fst < (↑x_2.snd.snd.length : Int)) then bif decide ((0 : Int) ≤ x_4.fst ∧ x_4.fst < (↑x_2.snd.snd.length : Int)) then bif
  decide (x_2.snd.snd.length = x_4.snd.length ∧ x_4.fst.toNat < x_4.snd.length) then ∃ n, List.take [AV.int IntKind.i64 n].length (List.drop (0 : Nat) (x_4.snd.getD x_4.fst.toNat
  [])) = [AV.int IntKind.i64 n] ∧ bif decide (n < (1 : Int)) then bif decide ((0 : Int) ≤ x_4.fst ∧ x_4.fst < (↑x_2.snd.snd.length : Int)) then bif decide (x_2.snd.snd.length =
  x_4.snd.length ∧ x_4.fst.toNat < x_4.snd.length) then bif decide (rng IntKind.i64 (x_4.fst + (1 : Int))) then ∃ y, TaP4 x_2.snd.snd.length y ∧ (ta4I xs ver (1 : Int) x_2.snd.fst (2
  : Int) x.snd.snd.length (2 : Nat) (1601 : Nat) x_2.snd.snd.length [((1500 : Nat), Blk.row (23 : Nat) (5 : Nat) x.snd.snd), ((1501 : Nat), Blk.row (2000049 : Nat) (2 : Nat) [[AV.int
  IntKind.i64 (10000 : Int), AV.rw (1600 : Nat) (1 : Nat) x_1.snd.snd.length], [AV.int IntKind.i64 (10001 : Int), AV.rw (1601 : Nat) (1 : Nat) x_2.snd.snd.length]]), ((1600 : Nat),
  Blk.row (3 : Nat) (1 : Nat) x_3.snd), ((1601 : Nat), Blk.row (3 : Nat) (1 : Nat) x_2.snd.snd)]).m y < (ta4I xs ver (1 : Int) x_2.snd.fst (2 : Int) x.snd.snd.length (2 : Nat) (1601
  : Nat) x_2.snd.snd.length [((1500 : Nat), Blk.row (23 : Nat) (5 : Nat) x.snd.snd), ((1501 : Nat), Blk.row (2000049 : Nat) (2 : Nat) [[AV.int IntKind.i64 (10000 : Int), AV.rw (1600
  : Nat) (1 : Nat) x_1.snd.snd.length], [AV.int IntKind.i64 (10001 : Int), AV.rw (1601 : Nat) (1 : Nat) x_2.snd.snd.length]]), ((1600 : Nat), Blk.row (3 : Nat) (1 : Nat) x_3.snd),
  ((1601 : Nat), Blk.row (3 : Nat) (1 : Nat) x_2.snd.snd)]).m x_4 ∧ ((0 : Nat) = (0 : Nat) ∧ (0 : Nat) = (0 : Nat) ∧ (0 : Nat) = (0 : Nat) ∧ (1 : Int) = (1 : Int) ∧ (2 : Int) = (2 :
  Int) ∧ (1 : Int) = (1 : Int) ∧ x_2.snd.snd.length = x_2.snd.snd.length ∧ (↑x_2.snd.snd.length : Int) = (↑x_2.snd.snd.length : Int) ∧ x_4.fst + (1 : Int) = y.fst ∧ True) ∧ ((True ∧
  xs = xs) ∧ x_2.snd.fst = x_2.snd.fst ∧ True) ∧ ((0 : Int) = (0 : Int) ∧ True ∧ True ∧ True) ∧ (ver = ver ∧ x.snd.snd.length = x.snd.snd.length ∧ (2 : Nat) = (2 : Nat) ∧ True) ∧
  x.snd.snd = x.snd.snd ∧ [[AV.int IntKind.i64 (10000 : Int), AV.rw (1600 : Nat) (1 : Nat) x_1.snd.snd.length], [AV.int IntKind.i64 (10001 : Int), AV.rw (1601 : Nat) (1 : Nat)
  x_2.snd.snd.length]] = [[AV.int IntKind.i64 (10000 : Int), AV.rw (1600 : Nat) (1 : Nat) x_1.snd.snd.length], [AV.int IntKind.i64 (10001 : Int), AV.rw (1601 : Nat) (1 : Nat)
  x_2.snd.snd.length]] ∧ x_3.snd = x_3.snd ∧ setEl x_4.snd x_4.fst.toNat (0 : Nat) [AV.int IntKind.i64 (100 : Int)] = y.snd ∧ True else False else False else False else bif decide
  ((30000 : Int) ≤ n) then bif decide ((0 : Int) ≤ x_4.fst ∧ x_4.fst < (↑x_2.snd.snd.length : Int)) then bif decide (x_2.snd.snd.length = x_4.snd.length ∧ x_4.fst.toNat <
  x_4.snd.length) then bif decide (rng IntKind.i64 (x_4.fst + (1 : Int))) then ∃ y, TaP4 x_2.snd.snd.length y ∧ (ta4I xs ver (1 : Int) x_2.snd.fst (2 : Int) x.snd.snd.length (2 :
  Nat) (1601 : Nat) x_2.snd.snd.length [((1500 : Nat), Blk.row (23 : Nat) (5 : Nat) x.snd.snd), ((1501 : Nat), Blk.row (2000049 : Nat) (2 : Nat) [[AV.int IntKind.i64 (10000 : Int),
  AV.rw (1600 : Nat) (1 : Nat) x_1.snd.snd.length], [AV.int IntKind.i64 (10001 : Int), AV.rw (1601 : Nat) (1 : Nat) x_2.snd.snd.length]]), ((1600 : Nat), Blk.row (3 : Nat) (1 : Nat)
  x_3.snd), ((1601 : Nat), Blk.row (3 : Nat) (1 : Nat) x_2.snd.snd)]).m y < (ta4I xs ver (1 : Int) x_2.snd.fst (2 : Int) x.snd.snd.length (2 : Nat) (1601 : Nat) x_2.snd.snd.length
  [((1500 : Nat), Blk.row (23 : Nat) (5 : Nat) x.snd.snd), ((1501 : Nat), Blk.row (2000049 : Nat) (2 : Nat) [[AV.int IntKind.i64 (10000 : Int), AV.rw (1600 : Nat) (1 : Nat)
  x_1.snd.snd.length], [AV.int IntKind.i64 (10001 : Int), AV.rw (1601 : Nat) (1 : Nat) x_2.snd.snd.length]]), ((1600 : Nat), Blk.row (3 : Nat) (1 : Nat) x_3.snd), ((1601 : Nat),
  Blk.row (3 : Nat) (1 : Nat) x_2.snd.snd)]).m x_4 ∧ ((0 : Nat) = (0 : Nat) ∧ (0 : Nat) = (0 : Nat) ∧ (0 : Nat) = (0 : Nat) ∧ (1 : Int) = (1 : Int) ∧ (2 : Int) = (2 : Int) ∧ (1 :
  Int) = (1 : Int) ∧ x_2.snd.snd.length = x_2.snd.snd.length ∧ (↑x_2.snd.snd.length : Int) = (↑x_2.snd.snd.length : Int) ∧ x_4.fst + (1 : Int) = y.fst ∧ True) ∧ ((True ∧ xs = xs) ∧
  x_2.snd.fst = x_2.snd.fst ∧ True) ∧ ((0 : Int) = (0 : Int) ∧ True ∧ True ∧ True) ∧ (ver = ver ∧ x.snd.snd.length = x.snd.snd.length ∧ (2 : Nat) = (2 : Nat) ∧ True) ∧ x.snd.snd =
  x.snd.snd ∧ [[AV.int IntKind.i64 (10000 : Int), AV.rw (1600 : Nat) (1 : Nat) x_1.snd.snd.length], [AV.int IntKind.i64 (10001 : Int), AV.rw (1601 : Nat) (1 : Nat)
  x_2.snd.snd.length]] = [[AV.int IntKind.i64 (10000 : Int), AV.rw (1600 : Nat) (1 : Nat) x_1.snd.snd.length], [AV.int IntKind.i64 (10001 : Int), AV.rw (1601 : Nat) (1 : Nat)
  x_2.snd.snd.length]] ∧ x_3.snd = x_3.snd ∧ setEl x_4.snd x_4.fst.toNat (0 : Nat) [AV.int IntKind.i64 (100 : Int)] = y.snd ∧ True else False else False else False else bif decide (n
  = (20000 : Int)) then bif decide ((0 : Int) ≤ x_4.fst ∧ x_4.fst < (↑x_2.snd.snd.length : Int)) then bif decide (x_2.snd.snd.length = x_4.snd.length ∧ x_4.fst.toNat <
  x_4.snd.length) then bif decide (rng IntKind.i64 (x_4.fst + (1 : Int))) then ∃ y, TaP4 x_2.snd.snd.length y ∧ (ta4I xs ver (1 : Int) x_2.snd.fst (2 : Int) x.snd.snd.length (2 :
  Nat) (1601 : Nat) x_2.snd.snd.length [((1500 : Nat), Blk.row (23 : Nat) (5 : Nat) x.snd.snd), ((1501 : Nat), Blk.row (2000049 : Nat) (2 : Nat) [[AV.int IntKind.i64 (10000 : Int),
  AV.rw (1600 : Nat) (1 : Nat) x_1.snd.snd.length], [AV.int IntKind.i64 (10001 : Int), AV.rw (1601 : Nat) (1 : Nat) x_2.snd.snd.length]]), ((1600 : Nat), Blk.row (3 : Nat) (1 : Nat)
  x_3.snd), ((1601 : Nat), Blk.row (3 : Nat) (1 : Nat) x_2.snd.snd)]).m y < (ta4I xs ver (1 : Int) x_2.snd.fst (2 : Int) x.snd.snd.length (2 : Nat) (1601 : Nat) x_2.snd.snd.length
  [((1500 : Nat), Blk.row (23 : Nat) (5 : Nat) x.snd.snd), ((1501 : Nat), Blk.row (2000049 : Nat) (2 : Nat) [[AV.int IntKind.i64 (10000 : Int), AV.rw (1600 : Nat) (1 : Nat)
  x_1.snd.snd.length], [AV.int IntKind.i64 (10001 : Int), AV.rw (1601 : Nat) (1 : Nat) x_2.snd.snd.length]]), ((1600 : Nat), Blk.row (3 : Nat) (1 : Nat) x_3.snd), ((1601 : Nat),
  Blk.row (3 : Nat) (1 : Nat) x_2.snd.snd)]).m x_4 ∧ ((0 : Nat) = (0 : Nat) ∧ (0 : Nat) = (0 : Nat) ∧ (0 : Nat) = (0 : Nat) ∧ (1 : Int) = (1 : Int) ∧ (2 : Int) = (2 : Int) ∧ (1 :
  Int) = (1 : Int) ∧ x_2.snd.snd.length = x_2.snd.snd.length ∧ (↑x_2.snd.snd.length : Int) = (↑x_2.snd.snd.length : Int) ∧ x_4.fst + (1 : Int) = y.fst ∧ True) ∧ ((True ∧ xs = xs) ∧
  x_2.snd.fst = x_2.snd.fst ∧ True) ∧ ((0 : Int) = (0 : Int) ∧ True ∧ True ∧ True) ∧ (ver = ver ∧ x.snd.snd.length = x.snd.snd.length ∧ (2 : Nat) = (2 : Nat) ∧ True) ∧ x.snd.snd =
  x.snd.snd ∧ [[AV.int IntKind.i64 (10000 : Int), AV.rw (1600 : Nat) (1 : Nat) x_1.snd.snd.length], [AV.int IntKind.i64 (10001 : Int), AV.rw (1601 : Nat) (1 : Nat)
  x_2.snd.snd.length]] = [[AV.int IntKind.i64 (10000 : Int), AV.rw (1600 : Nat) (1 : Nat) x_1.snd.snd.length], [AV.int IntKind.i64 (10001 : Int), AV.rw (1601 : Nat) (1 : Nat)
  x_2.snd.snd.length]] ∧ x_3.snd = x_3.snd ∧ setEl x_4.snd x_4.fst.toNat (0 : Nat) [AV.int IntKind.i64 (100 : Int)] = y.snd ∧ True else False else False else False else bif decide (n
  = (20100 : Int)) then bif decide ((0 : Int) ≤ x_4.fst ∧ x_4.fst < (↑x_2.snd.snd.length : Int)) then bif decide (x_2.snd.snd.length = x_4.snd.length ∧ x_4.fst.toNat <
  x_4.snd.length) then bif decide (rng IntKind.i64 (x_4.fst + (1 : Int))) then ∃ y, TaP4 x_2.snd.snd.length y ∧ (ta4I xs ver (1 : Int) x_2.snd.fst (2 : Int) x.snd.snd.length (2 :
  Nat) (1601 : Nat) x_2.snd.snd.length [((1500 : Nat), Blk.row (23 : Nat) (5 : Nat) x.snd.snd), ((1501 : Nat), Blk.row (2000049 : Nat) (2 : Nat) [[AV.int IntKind.i64 (10000 : Int),
  AV.rw (1600 : Nat) (1 : Nat) x_1.snd.snd.length], [AV.int IntKind.i64 (10001 : Int), AV.rw (1601 : Nat) (1 : Nat) x_2.snd.snd.length]]), ((1600 : Nat), Blk.row (3 : Nat) (1 : Nat)
  x_3.snd), ((1601 : Nat), Blk.row (3 : Nat) (1 : Nat) x_2.snd.snd)]).m y < (ta4I xs ver (1 : Int) x_2.snd.fst (2 : Int) x.snd.snd.length (2 : Nat) (1601 : Nat) x_2.snd.snd.length
  [((1500 : Nat), Blk.row (23 : Nat) (5 : Nat) x.snd.snd), ((1501 : Nat), Blk.row (2000049 : Nat) (2 : Nat) [[AV.int IntKind.i64 (10000 : Int), AV.rw (1600 : Nat) (1 : Nat)
  x_1.snd.snd.length], [AV.int IntKind.i64 (10001 : Int), AV.rw (1601 : Nat) (1 : Nat) x_2.snd.snd.length]]), ((1600 : Nat), Blk.row (3 : Nat) (1 : Nat) x_3.snd), ((1601 : Nat),
  Blk.row (3 : Nat) (1 : Nat) x_2.snd.snd)]).m x_4 ∧ ((0 : Nat) = (0 : Nat) ∧ (0 : Nat) = (0 : Nat) ∧ (0 : Nat) = (0 : Nat) ∧ (1 : Int) = (1 : Int) ∧ (2 : Int) = (2 : Int) ∧ (1 :
  Int) = (1 : Int) ∧ x_2.snd.snd.length = x_2.snd.snd.length ∧ (↑x_2.snd.snd.length : Int) = (↑x_2.snd.snd.length : Int) ∧ x_4.fst + (1 : Int) = y.fst ∧ True) ∧ ((True ∧ xs = xs) ∧
  x_2.snd.fst = x_2.snd.fst ∧ True) ∧ ((0 : Int) = (0 : Int) ∧ True ∧ True ∧ True) ∧ (ver = ver ∧ x.snd.snd.length = x.snd.snd.length ∧ (2 : Nat) = (2 : Nat) ∧ True) ∧ x.snd.snd =
  x.snd.snd ∧ [[AV.int IntKind.i64 (10000 : Int), AV.rw (1600 : Nat) (1 : Nat) x_1.snd.snd.length], [AV.int IntKind.i64 (10001 : Int), AV.rw (1601 : Nat) (1 : Nat)
  x_2.snd.snd.length]] = [[AV.int IntKind.i64 (10000 : Int), AV.rw (1600 : Nat) (1 : Nat) x_1.snd.snd.length], [AV.int IntKind.i64 (10001 : Int), AV.rw (1601 : Nat) (1 : Nat)
  x_2.snd.snd.length]] ∧ x_3.snd = x_3.snd ∧ setEl x_4.snd x_4.fst.toNat (0 : Nat) [AV.int IntKind.i64 (100 : Int)] = y.snd ∧ True else False else False else False else bif decide (n
  = (20021 : Int)) then bif decide ((0 : Int) ≤ x_4.fst ∧ x_4.fst < (↑x_2.snd.snd.length : Int)) then bif decide (x_2.snd.snd.length = x_4.snd.length ∧ x_4.fst.toNat <
  x_4.snd.length) then bif decide (rng IntKind.i64 (x_4.fst + (1 : Int))) then ∃ y, TaP4 x_2.snd.snd.length y ∧ (ta4I xs ver (1 : Int) x_2.snd.fst (2 : Int) x.snd.snd.length (2 :
  Nat) (1601 : Nat) x_2.snd.snd.length [((1500 : Nat), Blk.row (23 : Nat) (5 : Nat) x.snd.snd), ((1501 : Nat), Blk.row (2000049 : Nat) (2 : Nat) [[AV.int IntKind.i64 (10000 : Int),
  AV.rw (1600 : Nat) (1 : Nat) x_1.snd.snd.length], [AV.int IntKind.i64 (10001 : Int), AV.rw (1601 : Nat) (1 : Nat) x_2.snd.snd.length]]), ((1600 : Nat), Blk.row (3 : Nat) (1 : Nat)
  x_3.snd), ((1601 : Nat), Blk.row (3 : Nat) (1 : Nat) x_2.snd.snd)]).m y < (ta4I xs ver (1 : Int) x_2.snd.fst (2 : Int) x.snd.snd.length (2 : Nat) (1601 : Nat) x_2.snd.snd.length
  [((1500 : Nat), Blk.row (23 : Nat) (5 : Nat) x.snd.snd), ((1501 : Nat), Blk.row (2000049 : Nat) (2 : Nat) [[AV.int IntKind.i64 (10000 : Int), AV.rw (1600 : Nat) (1 : Nat)
  x_1.snd.snd.length], [AV.int IntKind.i64 (10001 : Int), AV.rw (1601 : Nat) (1 : Nat) x_2.snd.snd.length]]), ((1600 : Nat), Blk.row (3 : Nat) (1 : Nat) x_3.snd), ((1601 : Nat),
  Blk.row (3 : Nat) (1 : Nat) x_2.snd.snd)]).m x_4 ∧ ((0 : Nat) = (0 : Nat) ∧ (0 : Nat) = (0 : Nat) ∧ (0 : Nat) = (0 : Nat) ∧ (1 : Int) = (1 : Int) ∧ (2 : Int) = (2 : Int) ∧ (1 :
  Int) = (1 : Int) ∧ x_2.snd.snd.length = x_2.snd.snd.length ∧ (↑x_2.snd.snd.length : Int) = (↑x_2.snd.snd.length : Int) ∧ x_4.fst + (1 : Int) = y.fst ∧ True) ∧ ((True ∧ xs = xs) ∧
  x_2.snd.fst = x_2.snd.fst ∧ True) ∧ ((0 : Int) = (0 : Int) ∧ True ∧ True ∧ True) ∧ (ver = ver ∧ x.snd.snd.length = x.snd.snd.length ∧ (2 : Nat) = (2 : Nat) ∧ True) ∧ x.snd.snd =
  x.snd.snd ∧ [[AV.int IntKind.i64 (10000 : Int), AV.rw (1600 : Nat) (1 : Nat) x_1.snd.snd.length], [AV.int IntKind.i64 (10001 : Int), AV.rw (1601 : Nat) (1 : Nat)
  x_2.snd.snd.length]] = [[AV.int IntKind.i64 (10000 : Int), AV.rw (1600 : Nat) (1 : Nat) x_1.snd.snd.length], [AV.int IntKind.i64 (10001 : Int), AV.rw (1601 : Nat) (1 : Nat)
  x_2.snd.snd.length]] ∧ x_3.snd = x_3.snd ∧ setEl x_4.snd x_4.fst.toNat (0 : Nat) [AV.int IntKind.i64 (100 : Int)] = y.snd ∧ True else False else False else False else bif decide (n
  = (22121 : Int)) then bif decide ((0 : Int) ≤ x_4.fst ∧ x_4.fst < (↑x_2.snd.snd.length : Int)) then bif decide (x_2.snd.snd.length = x_4.snd.length ∧ x_4.fst.toNat <
  x_4.snd.length) then bif decide (rng IntKind.i64 (x_4.fst + (1 : Int))) then ∃ y, TaP4 x_2.snd.snd.length y ∧ (ta4I xs ver (1 : Int) x_2.snd.fst (2 : Int) x.snd.snd.length (2 :
  Nat) (1601 : Nat) x_2.snd.snd.length [((1500 : Nat), Blk.row (23 : Nat) (5 : Nat) x.snd.snd), ((1501 : Nat), Blk.row (2000049 : Nat) (2 : Nat) [[AV.int IntKind.i64 (10000 : Int),
  AV.rw (1600 : Nat) (1 : Nat) x_1.snd.snd.length], [AV.int IntKind.i64 (10001 : Int), AV.rw (1601 : Nat) (1 : Nat) x_2.snd.snd.length]]), ((1600 : Nat), Blk.row (3 : Nat) (1 : Nat)
  x_3.snd), ((1601 : Nat), Blk.row (3 : Nat) (1 : Nat) x_2.snd.snd)]).m y < (ta4I xs ver (1 : Int) x_2.snd.fst (2 : Int) x.snd.snd.length (2 : Nat) (1601 : Nat) x_2.snd.snd.length
  [((1500 : Nat), Blk.row (23 : Nat) (5 : Nat) x.snd.snd), ((1501 : Nat), Blk.row (2000049 : Nat) (2 : Nat) [[AV.int IntKind.i64 (10000 : Int), AV.rw (1600 : Nat) (1 : Nat)
  x_1.snd.snd.length], [AV.int IntKind.i64 (10001 : Int), AV.rw (1601 : Nat) (1 : Nat) x_2.snd.snd.length]]), ((1600 : Nat), Blk.row (3 : Nat) (1 : Nat) x_3.snd), ((1601 : Nat),
  Blk.row (3 : Nat) (1 : Nat) x_2.snd.snd)]).m x_4 ∧ ((0 : Nat) = (0 : Nat) ∧ (0 : Nat) = (0 : Nat) ∧ (0 : Nat) = (0 : Nat) ∧ (1 : Int) = (1 : Int) ∧ (2 : Int) = (2 : Int) ∧ (1 :
  Int) = (1 : Int) ∧ x_2.snd.snd.length = x_2.snd.snd.length ∧ (↑x_2.snd.snd.length : Int) = (↑x_2.snd.snd.length : Int) ∧ x_4.fst + (1 : Int) = y.fst ∧ True) ∧ ((True ∧ xs = xs) ∧
  x_2.snd.fst = x_2.snd.fst ∧ True) ∧ ((0 : Int) = (0 : Int) ∧ True ∧ True ∧ True) ∧ (ver = ver ∧ x.snd.snd.length = x.snd.snd.length ∧ (2 : Nat) = (2 : Nat) ∧ True) ∧ x.snd.snd =
  x.snd.snd ∧ [[AV.int IntKind.i64 (10000 : Int), AV.rw (1600 : Nat) (1 : Nat) x_1.snd.snd.length], [AV.int IntKind.i64 (10001 : Int), AV.rw (1601 : Nat) (1 : Nat)
  x_2.snd.snd.length]] = [[AV.int IntKind.i64 (10000 : Int), AV.rw (1600 : Nat) (1 : Nat) x_1.snd.snd.length], [AV.int IntKind.i64 (10001 : Int), AV.rw (1601 : Nat) (1 : Nat)
  x_2.snd.snd.length]] ∧ x_3.snd = x_3.snd ∧ setEl x_4.snd x_4.fst.toNat (0 : Nat) [AV.int IntKind.i64 (100 : Int)] = y.snd ∧ True else False else False else False else bif decide
  (rng IntKind.i64 (x_4.fst + (1 : Int))) then ∃ y, TaP4 x_2.snd.snd.length y ∧ (ta4I xs ver (1 : Int) x_2.snd.fst (2 : Int) x.snd.snd.length (2 : Nat) (1601 : Nat)
  x_2.snd.snd.length [((1500 : Nat), Blk.row (23 : Nat) (5 : Nat) x.snd.snd), ((1501 : Nat), Blk.row (2000049 : Nat) (2 : Nat) [[AV.int IntKind.i64 (10000 : Int), AV.rw (1600 : Nat)
  (1 : Nat) x_1.snd.snd.length], [AV.int IntKind.i64 (10001 : Int), AV.rw (1601 : Nat) (1 : Nat) x_2.snd.snd.length]]), ((1600 : Nat), Blk.row (3 : Nat) (1 : Nat) x_3.snd), ((1601 :
  Nat), Blk.row (3 : Nat) (1 : Nat) x_2.snd.snd)]).m y < (ta4I xs ver (1 : Int) x_2.snd.fst (2 : Int) x.snd.snd.length (2 : Nat) (1601 : Nat) x_2.snd.snd.length [((1500 : Nat),
  Blk.row (23 : Nat) (5 : Nat) x.snd.snd), ((1501 : Nat), Blk.row (2000049 : Nat) (2 : Nat) [[AV.int IntKind.i64 (10000 : Int), AV.rw (1600 : Nat) (1 : Nat) x_1.snd.snd.length],
  [AV.int IntKind.i64 (10001 : Int), AV.rw (1601 : Nat) (1 : Nat) x_2.snd.snd.length]]), ((1600 : Nat), Blk.row (3 : Nat) (1 : Nat) x_3.snd), ((1601 : Nat), Blk.row (3 : Nat) (1 :
  Nat) x_2.snd.snd)]).m x_4 ∧ ((0 : Nat) = (0 : Nat) ∧ (0 : Nat) = (0 : Nat) ∧ (0 : Nat) = (0 : Nat) ∧ (1 : Int) = (1 : Int) ∧ (2 : Int) = (2 : Int) ∧ (1 : Int) = (1 : Int) ∧
  x_2.snd.snd.length = x_2.snd.snd.length ∧ (↑x_2.snd.snd.length : Int) = (↑x_2.snd.snd.length : Int) ∧ x_4.fst + (1 : Int) = y.fst ∧ True) ∧ ((True ∧ xs = xs) ∧ x_2.snd.fst =
  x_2.snd.fst ∧ True) ∧ ((0 : Int) = (0 : Int) ∧ True ∧ True ∧ True) ∧ (ver = ver ∧ x.snd.snd.length = x.snd.snd.length ∧ (2 : Nat) = (2 : Nat) ∧ True) ∧ x.snd.snd = x.snd.snd ∧
  [[AV.int IntKind.i64 (10000 : Int), AV.rw (1600 : Nat) (1 : Nat) x_1.snd.snd.length], [AV.int IntKind.i64 (10001 : Int), AV.rw (1601 : Nat) (1 : Nat) x_2.snd.snd.length]] =
  [[AV.int IntKind.i64 (10000 : Int), AV.rw (1600 : Nat) (1 : Nat) x_1.snd.snd.length], [AV.int IntKind.i64 (10001 : Int), AV.rw (1601 : Nat) (1 : Nat) x_2.snd.snd.length]] ∧ x_3.snd
  = x_3.snd ∧ x_4.snd = y.snd ∧ True else False else False else False else bif decide (x_1.snd.snd.length = x_3.snd.length) then bif decide (x_2.snd.snd.length = x_4.snd.length) then
  ∃ es ss j, TabQ es ss j ∧ (ver = ver ∧ x.snd.snd.length = es.length ∧ (2 : Nat) = ss.length ∧ True) ∧ ((True ∧ xs = xs) ∧ x_2.snd.fst = j ∧ True) ∧ x.snd.snd = es ∧ [[AV.int
  IntKind.i64 (10000 : Int), AV.sl (1 : Nat) false x_3.snd], [AV.int IntKind.i64 (10001 : Int), AV.sl (1 : Nat) false x_4.snd]] = ss ∧ True else False else False) ∧ (v = (3 : Int) →
  SrcQ xs j ∧ ∀ (v j : Int), NumQ (4 : Int) v j → (∃ x_1, TaP3 x_1 ∧ ((0 : Nat) = (0 : Nat) ∧ (0 : Nat) = (0 : Nat) ∧ (0 : Nat) = (0 : Nat) ∧ (3 : Int) = (3 : Int) ∧ (0 : Nat) = (0 :
  Nat) ∧ v = x_1.fst ∧ True) ∧ ((True ∧ xs = xs) ∧ j = x_1.snd.fst ∧ True) ∧ ((0 : Int) = (0 : Int) ∧ True ∧ True ∧ True) ∧ (ver = ver ∧ x.snd.snd.length = x.snd.snd.length ∧ (0 :
  Nat) = (0 : Nat) ∧ True) ∧ ((10000 : Int) = (10000 : Int) ∧ (0 : Nat) = x_1.snd.snd.length ∧ True) ∧ x.snd.snd = x.snd.snd ∧ ([] : List (List AV)) = [] ∧ [] = x_1.snd.snd ∧ True) ∧
  ∀ (x_1 : Int × Int × List (List AV)), TaP3 x_1 → bif decide ((0 : Int) < x_1.fst) then SrcQ xs x_1.snd.fst ∧ ∀ (v j : Int), CodQ v j → bif decide (x_1.snd.snd.length =
  x_1.snd.snd.length ∧ x_1.snd.snd.length + [[AV.int IntKind.i64 v]].length ≤ (9223372036854775807 : Nat) ∧ (x_1.snd.snd.length + [[AV.int IntKind.i64 v]].length) * (8 : Nat) ≤
  (140737488355328 : Nat)) then bif decide (rng IntKind.i64 (x_1.fst - (1 : Int))) then ∃ y, TaP3 y ∧ (ta3I xs ver (3 : Int) (10000 : Int) x.snd.snd.length (0 : Nat) (1600 : Nat)
  [((1500 : Nat), Blk.row (23 : Nat) (5 : Nat) x.snd.snd), ((1501 : Nat), Blk.row (49 : Nat) (2 : Nat) []), ((1600 : Nat), Blk.row (3 : Nat) (1 : Nat) [])]).m y < (ta3I xs ver (3 :
  Int) (10000 : Int) x.snd.snd.length (0 : Nat) (1600 : Nat) [((1500 : Nat), Blk.row (23 : Nat) (5 : Nat) x.snd.snd), ((1501 : Nat), Blk.row (49 : Nat) (2 : Nat) []), ((1600 : Nat),
  Blk.row (3 : Nat) (1 : Nat) [])]).m x_1 ∧ ((0 : Nat) = (0 : Nat) ∧ (0 : Nat) = (0 : Nat) ∧ (0 : Nat) = (0 : Nat) ∧ (3 : Int) = (3 : Int) ∧ (0 : Nat) = (0 : Nat) ∧ x_1.fst - (1 :
  Int) = y.fst ∧ True) ∧ ((True ∧ xs = xs) ∧ j = y.snd.fst ∧ True) ∧ ((0 : Int) = (0 : Int) ∧ True ∧ True ∧ True) ∧ (ver = ver ∧ x.snd.snd.length = x.snd.snd.length ∧ (0 : Nat) = (0
  : Nat) ∧ True) ∧ ((10000 : Int) = (10000 : Int) ∧ (x_1.snd.snd ++ [[AV.int IntKind.i64 v]]).length = y.snd.snd.length ∧ True) ∧ x.snd.snd = x.snd.snd ∧ ([] : List (List AV)) = [] ∧
  x_1.snd.snd ++ [[AV.int IntKind.i64 v]] = y.snd.snd ∧ True else False else False else SrcQ xs x_1.snd.fst ∧ ∀ (v j : Int), NumQ (4 : Int) v j → (∃ x_2, TaP3 x_2 ∧ ((0 : Nat) = (0 :
  Nat) ∧ (0 : Nat) = (0 : Nat) ∧ (0 : Nat) = (0 : Nat) ∧ (2 : Int) = (2 : Int) ∧ (0 : Nat) = (0 : Nat) ∧ v = x_2.fst ∧ True) ∧ ((True ∧ xs = xs) ∧ j = x_2.snd.fst ∧ True) ∧ ((0 :
  Int) = (0 : Int) ∧ True ∧ True ∧ True) ∧ (ver = ver ∧ x.snd.snd.length = x.snd.snd.length ∧ (1 : Nat) = (1 : Nat) ∧ True) ∧ ((10001 : Int) = (10001 : Int) ∧ (0 : Nat) =
  x_2.snd.snd.length ∧ True) ∧ x.snd.snd = x.snd.snd ∧ [[AV.int IntKind.i64 (10000 : Int), AV.rw (1600 : Nat) (1 : Nat) x_1.snd.snd.length]] = [[AV.int IntKind.i64 (10000 : Int),
  AV.rw (1600 : Nat) (1 : Nat) x_1.snd.snd.length]] ∧ x_1.snd.snd = x_1.snd.snd ∧ [] = x_2.snd.snd ∧ True) ∧ ∀ (x_2 : Int × Int × List (List AV)), TaP3 x_2 → bif decide ((0 : Int) <
  x_2.fst) then SrcQ xs x_2.snd.fst ∧ ∀ (v j : Int), CodQ v j → bif decide (x_2.snd.snd.length = x_2.snd.snd.length ∧ x_2.snd.snd.length + [[AV.int IntKind.i64 v]].length ≤
  (9223372036854775807 : Nat) ∧ (x_2.snd.snd.length + [[AV.int IntKind.i64 v]].length) * (8 : Nat) ≤ (140737488355328 : Nat)) then bif decide (rng IntKind.i64 (x_2.fst - (1 : Int)))
  then ∃ y, TaP3 y ∧ (ta3I xs ver (2 : Int) (10001 : Int) x.snd.snd.length (1 : Nat) (1601 : Nat) [((1500 : Nat), Blk.row (23 : Nat) (5 : Nat) x.snd.snd), ((1501 : Nat), Blk.row
  (2000049 : Nat) (2 : Nat) [[AV.int IntKind.i64 (10000 : Int), AV.rw (1600 : Nat) (1 : Nat) x_1.snd.snd.length]]), ((1600 : Nat), Blk.row (3 : Nat) (1 : Nat) x_1.snd.snd), ((1601 :
  Nat), Blk.row (3 : Nat) (1 : Nat) [])]).m y < (ta3I xs ver (2 : Int) (10001 : Int) x.snd.snd.length (1 : Nat) (1601 : Nat) [((1500 : Nat), Blk.row (23 : Nat) (5 : Nat) x.snd.snd),
  ((1501 : Nat), Blk.row (2000049 : Nat) (2 : Nat) [[AV.int IntKind.i64 (10000 : Int), AV.rw (1600 : Nat) (1 : Nat) x_1.snd.snd.length]]), ((1600 : Nat), Blk.row (3 : Nat) (1 : Nat)
  x_1.snd.snd), ((1601 : Nat), Blk.row (3 : Nat) (1 : Nat) [])]).m x_2 ∧ ((0 : Nat) = (0 : Nat) ∧ (0 : Nat) = (0 : Nat) ∧ (0 : Nat) = (0 : Nat) ∧ (2 : Int) = (2 : Int) ∧ (0 : Nat) =
  (0 : Nat) ∧ x_2.fst - (1 : Int) = y.fst ∧ True) ∧ ((True ∧ xs = xs) ∧ j = y.snd.fst ∧ True) ∧ ((0 : Int) = (0 : Int) ∧ True ∧ True ∧ True) ∧ (ver = ver ∧ x.snd.snd.length =
  x.snd.snd.length ∧ (1 : Nat) = (1 : Nat) ∧ True) ∧ ((10001 : Int) = (10001 : Int) ∧ (x_2.snd.snd ++ [[AV.int IntKind.i64 v]]).length = y.snd.snd.length ∧ True) ∧ x.snd.snd =
  x.snd.snd ∧ [[AV.int IntKind.i64 (10000 : Int), AV.rw (1600 : Nat) (1 : Nat) x_1.snd.snd.length]] = [[AV.int IntKind.i64 (10000 : Int), AV.rw (1600 : Nat) (1 : Nat)
  x_1.snd.snd.length]] ∧ x_1.snd.snd = x_1.snd.snd ∧ x_2.snd.snd ++ [[AV.int IntKind.i64 v]] = y.snd.snd ∧ True else False else False else SrcQ xs x_2.snd.fst ∧ ∀ (v j : Int), NumQ
  (4 : Int) v j → (∃ x_3, TaP3 x_3 ∧ ((0 : Nat) = (0 : Nat) ∧ (0 : Nat) = (0 : Nat) ∧ (0 : Nat) = (0 : Nat) ∧ (1 : Int) = (1 : Int) ∧ (0 : Nat) = (0 : Nat) ∧ v = x_3.fst ∧ True) ∧
  ((True ∧ xs = xs) ∧ j = x_3.snd.fst ∧ True) ∧ ((0 : Int) = (0 : Int) ∧ True ∧ True ∧ True) ∧ (ver = ver ∧ x.snd.snd.length = x.snd.snd.length ∧ (2 : Nat) = (2 : Nat) ∧ True) ∧
  ((10002 : Int) = (10002 : Int) ∧ (0 : Nat) = x_3.snd.snd.length ∧ True) ∧ x.snd.snd = x.snd.snd ∧ [[AV.int IntKind.i64 (10000 : Int), AV.rw (1600 : Nat) (1 : Nat)
  x_1.snd.snd.length], [AV.int IntKind.i64 (10001 : Int), AV.rw (1601 : Nat) (1 : Nat) x_2.snd.snd.length]] = [[AV.int IntKind.i64 (10000 : Int), AV.rw (1600 : Nat) (1 : Nat)
  x_1.snd.snd.length], [AV.int IntKind.i64 (10001 : Int), AV.rw (1601 : Nat) (1 : Nat) x_2.snd.snd.length]] ∧ x_1.snd.snd = x_1.snd.snd ∧ x_2.snd.snd = x_2.snd.snd ∧ [] = x_3.snd.snd
  ∧ True) ∧ ∀ (x_3 : Int × Int × List (List AV)), TaP3 x_3 → bif decide ((0 : Int) < x_3.fst) then SrcQ xs x_3.snd.fst ∧ ∀ (v j : Int), CodQ v j → bif decide (x_3.snd.snd.length =
  x_3.snd.snd.length ∧ x_3.snd.snd.length + [[AV.int IntKind.i64 v]].length ≤ (9223372036854775807 : Nat) ∧ (x_3.snd.snd.length + [[AV.int IntKind.i64 v]].length) * (8 : Nat) ≤
  (140737488355328 : Nat)) then bif decide (rng IntKind.i64 (x_3.fst - (1 : Int))) then ∃ y, TaP3 y ∧ (ta3I xs ver (1 : Int) (10002 : Int) x.snd.snd.length (2 : Nat) (1602 : Nat)
  [((1500 : Nat), Blk.row (23 : Nat) (5 : Nat) x.snd.snd), ((1501 : Nat), Blk.row (2000049 : Nat) (2 : Nat) [[AV.int IntKind.i64 (10000 : Int), AV.rw (1600 : Nat) (1 : Nat)
  x_1.snd.snd.length], [AV.int IntKind.i64 (10001 : Int), AV.rw (1601 : Nat) (1 : Nat) x_2.snd.snd.length]]), ((1600 : Nat), Blk.row (3 : Nat) (1 : Nat) x_1.snd.snd), ((1601 : Nat),
  Blk.row (3 : Nat) (1 : Nat) x_2.snd.snd), ((1602 : Nat), Blk.row (3 : Nat) (1 : Nat) [])]).m y < (ta3I xs ver (1 : Int) (10002 : Int) x.snd.snd.length (2 : Nat) (1602 : Nat)
  [((1500 : Nat), Blk.row (23 : Nat) (5 : Nat) x.snd.snd), ((1501 : Nat), Blk.row (2000049 : Nat) (2 : Nat) [[AV.int IntKind.i64 (10000 : Int), AV.rw (1600 : Nat) (1 : Nat)
  x_1.snd.snd.length], [AV.int IntKind.i64 (10001 : Int), AV.rw (1601 : Nat) (1 : Nat) x_2.snd.snd.length]]), ((1600 : Nat), Blk.row (3 : Nat) (1 : Nat) x_1.snd.snd), ((1601 : Nat),
  Blk.row (3 : Nat) (1 : Nat) x_2.snd.snd), ((1602 : Nat), Blk.row (3 : Nat) (1 : Nat) [])]).m x_3 ∧ ((0 : Nat) = (0 : Nat) ∧ (0 : Nat) = (0 : Nat) ∧ (0 : Nat) = (0 : Nat) ∧ (1 :
  Int) = (1 : Int) ∧ (0 : Nat) = (0 : Nat) ∧ x_3.fst - (1 : Int) = y.fst ∧ True) ∧ ((True ∧ xs = xs) ∧ j = y.snd.fst ∧ True) ∧ ((0 : Int) = (0 : Int) ∧ True ∧ True ∧ True) ∧ (ver =
  ver ∧ x.snd.snd.length = x.snd.snd.length ∧ (2 : Nat) = (2 : Nat) ∧ True) ∧ ((10002 : Int) = (10002 : Int) ∧ (x_3.snd.snd ++ [[AV.int IntKind.i64 v]]).length = y.snd.snd.length ∧
  True) ∧ x.snd.snd = x.snd.snd ∧ [[AV.int IntKind.i64 (10000 : Int), AV.rw (1600 : Nat) (1 : Nat) x_1.snd.snd.length], [AV.int IntKind.i64 (10001 : Int), AV.rw (1601 : Nat) (1 :
  Nat) x_2.snd.snd.length]] = [[AV.int IntKind.i64 (10000 : Int), AV.rw (1600 : Nat) (1 : Nat) x_1.snd.snd.length], [AV.int IntKind.i64 (10001 : Int), AV.rw (1601 : Nat) (1 : Nat)
  x_2.snd.snd.length]] ∧ x_1.snd.snd = x_1.snd.snd ∧ x_2.snd.snd = x_2.snd.snd ∧ x_3.snd.snd ++ [[AV.int IntKind.i64 v]] = y.snd.snd ∧ True else False else False else (∃ x_4, TaP4
  x_1.snd.snd.length x_4 ∧ ((0 : Nat) = (0 : Nat) ∧ (0 : Nat) = (0 : Nat) ∧ (0 : Nat) = (0 : Nat) ∧ (0 : Int) = (0 : Int) ∧ (3 : Int) = (3 : Int) ∧ (0 : Int) = (0 : Int) ∧
  x_1.snd.snd.length = x_1.snd.snd.length ∧ (↑x_1.snd.snd.length : Int) = (↑x_1.snd.snd.length : Int) ∧ (0 : Int) = x_4.fst ∧ True) ∧ ((True ∧ xs = xs) ∧ x_3.snd.fst = x_3.snd.fst ∧
  True) ∧ ((0 : Int) = (0 : Int) ∧ True ∧ True ∧ True) ∧ (ver = ver ∧ x.snd.snd.length = x.snd.snd.length ∧ (3 : Nat) = (3 : Nat) ∧ True) ∧ x.snd.snd = x.snd.snd ∧ [[AV.int
  IntKind.i64 (10000 : Int), AV.rw (1600 : Nat) (1 : Nat) x_1.snd.snd.length], [AV.int IntKind.i64 (10001 : Int), AV.rw (1601 : Nat) (1 : Nat) x_2.snd.snd.length], [AV.int
  IntKind.i64 (10002 : Int), AV.rw (1602 : Nat) (1 : Nat) x_3.snd.snd.length]] = [[AV.int IntKind.i64 (10000 : Int), AV.rw (1600 : Nat) (1 : Nat) x_1.snd.snd.length], [AV.int
  IntKind.i64 (10001 : Int), AV.rw (1601 : Nat) (1 : Nat) x_2.snd.snd.length], [AV.int IntKind.i64 (10002 : Int), AV.rw (1602 : Nat) (1 : Nat) x_3.snd.snd.length]] ∧ x_1.snd.snd =
  x_4.snd ∧ x_2.snd.snd = x_2.snd.snd ∧ x_3.snd.snd = x_3.snd.snd ∧ True) ∧ ∀ (x_4 : Int × List (List AV)), TaP4 x_1.snd.snd.length x_4 → bif decide (x_4.fst < (↑x_1.snd.snd.length :
  Int)) then bif decide ((0 : Int) ≤ x_4.fst ∧ x_4.fst < (↑x_1.snd.snd.length : Int)) then bif decide (x_1.snd.snd.length = x_4.snd.length ∧ x_4.fst.toNat < x_4.snd.length) then ∃ n,
  List.take [AV.int IntKind.i64 n].length (List.drop (0 : Nat) (x_4.snd.getD x_4.fst.toNat [])) = [AV.int IntKind.i64 n] ∧ bif decide (n < (1 : Int)) then bif decide ((0 : Int) ≤
  x_4.fst ∧ x_4.fst < (↑x_1.snd.snd.length : Int)) then bif decide (x_1.snd.snd.length = x_4.snd.length ∧ x_4.fst.toNat < x_4.snd.length) then bif decide (rng IntKind.i64 (x_4.fst +
  (1 : Int))) then ∃ y, TaP4 x_1.snd.snd.length y ∧ (ta4I xs ver (0 : Int) x_3.snd.fst (3 : Int) x.snd.snd.length (3 : Nat) (1600 : Nat) x_1.snd.snd.length [((1500 : Nat), Blk.row
  (23 : Nat) (5 : Nat) x.snd.snd), ((1501 : Nat), Blk.row (2000049 : Nat) (2 : Nat) [[AV.int IntKind.i64 (10000 : Int), AV.rw (1600 : Nat) (1 : Nat) x_1.snd.snd.length], [AV.int
  IntKind.i64 (10001 : Int), AV.rw (1601 : Nat) (1 : Nat) x_2.snd.snd.length], [AV.int IntKind.i64 (10002 : Int), AV.rw (1602 : Nat) (1 : Nat) x_3.snd.snd.length]]), ((1600 : Nat),
  Blk.row (3 : Nat) (1 : Nat) x_1.snd.snd), ((1601 : Nat), Blk.row (3 : Nat) (1 : Nat) x_2.snd.snd), ((1602 : Nat), Blk.row (3 : Nat) (1 : Nat) x_3.snd.snd)]).m y < (ta4I xs ver (0 :
  Int) x_3.snd.fst (3 : Int) x.snd.snd.length (3 : Nat) (1600 : Nat) x_1.snd.snd.length [((1500 : Nat), Blk.row (23 : Nat) (5 : Nat) x.snd.snd), ((1501 : Nat), Blk.row (2000049 :
  Nat) (2 : Nat) [[AV.int IntKind.i64 (10000 : Int), AV.rw (1600 : Nat) (1 : Nat) x_1.snd.snd.length], [AV.int IntKind.i64 (10001 : Int), AV.rw (1601 : Nat) (1 : Nat)
  x_2.snd.snd.length], [AV.int IntKind.i64 (10002 : Int), AV.rw (1602 : Nat) (1 : Nat) x_3.snd.snd.length]]), ((1600 : Nat), Blk.row (3 : Nat) (1 : Nat) x_1.snd.snd), ((1601 : Nat),
  Blk.row (3 : Nat) (1 : Nat) x_2.snd.snd), ((1602 : Nat), Blk.row (3 : Nat) (1 : Nat) x_3.snd.snd)]).m x_4 ∧ ((0 : Nat) = (0 : Nat) ∧ (0 : Nat) = (0 : Nat) ∧ (0 : Nat) = (0 : Nat) ∧
  (0 : Int) = (0 : Int) ∧ (3 : Int) = (3 : Int) ∧ (0 : Int) = (0 : Int) ∧ x_1.snd.snd.length = x_1.snd.snd.length ∧ (↑x_1.snd.snd.length : Int) = (↑x_1.snd.snd.length : Int) ∧
  x_4.fst + (1 : Int) = y.fst ∧ True) ∧ ((True ∧ xs = xs) ∧ x_3.snd.fst = x_3.snd.fst ∧ True) ∧ ((0 : Int) = (0 : Int) ∧ True ∧ True ∧ True) ∧ (ver = ver ∧ x.snd.snd.length =
  x.snd.snd.length ∧ (3 : Nat) = (3 : Nat) ∧ True) ∧ x.snd.snd = x.snd.snd ∧ [[AV.int IntKind.i64 (10000 : Int), AV.rw (1600 : Nat) (1 : Nat) x_1.snd.snd.length], [AV.int IntKind.i64
  (10001 : Int), AV.rw (1601 : Nat) (1 : Nat) x_2.snd.snd.length], [AV.int IntKind.i64 (10002 : Int), AV.rw (1602 : Nat) (1 : Nat) x_3.snd.snd.length]] = [[AV.int IntKind.i64 (10000
  : Int), AV.rw (1600 : Nat) (1 : Nat) x_1.snd.snd.length], [AV.int IntKind.i64 (10001 : Int), AV.rw (1601 : Nat) (1 : Nat) x_2.snd.snd.length], [AV.int IntKind.i64 (10002 : Int),
  AV.rw (1602 : Nat) (1 : Nat) x_3.snd.snd.length]] ∧ setEl x_4.snd x_4.fst.toNat (0 : Nat) [AV.int IntKind.i64 (100 : Int)] = y.snd ∧ x_2.snd.snd = x_2.snd.snd ∧ x_3.snd.snd =
  x_3.snd.snd ∧ True else False else False else False else bif decide ((30000 : Int) ≤ n) then bif decide ((0 : Int) ≤ x_4.fst ∧ x_4.fst < (↑x_1.snd.snd.length : Int)) then bif
  decide (x_1.snd.snd.length = x_4.snd.length ∧ x_4.fst.toNat < x_4.snd.length) then bif decide (rng IntKind.i64 (x_4.fst + (1 : Int))) then ∃ y, TaP4 x_1.snd.snd.length y ∧ (ta4I xs
  ver (0 : Int) x_3.snd.fst (3 : Int) x.snd.snd.length (3 : Nat) (1600 : Nat) x_1.snd.snd.length [((1500 : Nat), Blk.row (23 : Nat) (5 : Nat) x.snd.snd), ((1501 : Nat), Blk.row
  (2000049 : Nat) (2 : Nat) [[AV.int IntKind.i64 (10000 : Int), AV.rw (1600 : Nat) (1 : Nat) x_1.snd.snd.length], [AV.int IntKind.i64 (10001 : Int), AV.rw (1601 : Nat) (1 : Nat)
  x_2.snd.snd.length], [AV.int IntKind.i64 (10002 : Int), AV.rw (1602 : Nat) (1 : Nat) x_3.snd.snd.length]]), ((1600 : Nat), Blk.row (3 : Nat) (1 : Nat) x_1.snd.snd), ((1601 : Nat),
  Blk.row (3 : Nat) (1 : Nat) x_2.snd.snd), ((1602 : Nat), Blk.row (3 : Nat) (1 : Nat) x_3.snd.snd)]).m y < (ta4I xs ver (0 : Int) x_3.snd.fst (3 : Int) x.snd.snd.length (3 : Nat)
  (1600 : Nat) x_1.snd.snd.length [((1500 : Nat), Blk.row (23 : Nat) (5 : Nat) x.snd.snd), ((1501 : Nat), Blk.row (2000049 : Nat) (2 : Nat) [[AV.int IntKind.i64 (10000 : Int), AV.rw
  (1600 : Nat) (1 : Nat) x_1.snd.snd.length], [AV.int IntKind.i64 (10001 : Int), AV.rw (1601 : Nat) (1 : Nat) x_2.snd.snd.length], [AV.int IntKind.i64 (10002 : Int), AV.rw (1602 :
  Nat) (1 : Nat) x_3.snd.snd.length]]), ((1600 : Nat), Blk.row (3 : Nat) (1 : Nat) x_1.snd.snd), ((1601 : Nat), Blk.row (3 : Nat) (1 : Nat) x_2.snd.snd), ((1602 : Nat), Blk.row (3 :
  Nat) (1 : Nat) x_3.snd.snd)]).m x_4 ∧ ((0 : Nat) = (0 : Nat) ∧ (0 : Nat) = (0 : Nat) ∧ (0 : Nat) = (0 : Nat) ∧ (0 : Int) = (0 : Int) ∧ (3 : Int) = (3 : Int) ∧ (0 : Int) = (0 : Int)
  ∧ x_1.snd.snd.length = x_1.snd.snd.length ∧ (↑x_1.snd.snd.length : Int) = (↑x_1.snd.snd.length : Int) ∧ x_4.fst + (1 : Int) = y.fst ∧ True) ∧ ((True ∧ xs = xs) ∧ x_3.snd.fst =
  x_3.snd.fst ∧ True) ∧ ((0 : Int) = (0 : Int) ∧ True ∧ True ∧ True) ∧ (ver = ver ∧ x.snd.snd.length = x.snd.snd.length ∧ (3 : Nat) = (3 : Nat) ∧ True) ∧ x.snd.snd = x.snd.snd ∧
  [[AV.int IntKind.i64 (10000 : Int), AV.rw (1600 : Nat) (1 : Nat) x_1.snd.snd.length], [AV.int IntKind.i64 (10001 : Int), AV.rw (1601 : Nat) (1 : Nat) x_2.snd.snd.length], [AV.int
  IntKind.i64 (10002 : Int), AV.rw (1602 : Nat) (1 : Nat) x_3.snd.snd.length]] = [[AV.int IntKind.i64 (10000 : Int), AV.rw (1600 : Nat) (1 : Nat) x_1.snd.snd.length], [AV.int
  IntKind.i64 (10001 : Int), AV.rw (1601 : Nat) (1 : Nat) x_2.snd.snd.length], [AV.int IntKind.i64 (10002 : Int), AV.rw (1602 : Nat) (1 : Nat) x_3.snd.snd.length]] ∧ setEl x_4.snd
  x_4.fst.toNat (0 : Nat) [AV.int IntKind.i64 (100 : Int)] = y.snd ∧ x_2.snd.snd = x_2.snd.snd ∧ x_3.snd.snd = x_3.snd.snd ∧ True else False else False else False else bif decide (n
  = (20000 : Int)) then bif decide ((0 : Int) ≤ x_4.fst ∧ x_4.fst < (↑x_1.snd.snd.length : Int)) then bif decide (x_1.snd.snd.length = x_4.snd.length ∧ x_4.fst.toNat <
  x_4.snd.length) then bif decide (rng IntKind.i64 (x_4.fst + (1 : Int))) then ∃ y, TaP4 x_1.snd.snd.length y ∧ (ta4I xs ver (0 : Int) x_3.snd.fst (3 : Int) x.snd.snd.length (3 :
  Nat) (1600 : Nat) x_1.snd.snd.length [((1500 : Nat), Blk.row (23 : Nat) (5 : Nat) x.snd.snd), ((1501 : Nat), Blk.row (2000049 : Nat) (2 : Nat) [[AV.int IntKind.i64 (10000 : Int),
  AV.rw (1600 : Nat) (1 : Nat) x_1.snd.snd.length], [AV.int IntKind.i64 (10001 : Int), AV.rw (1601 : Nat) (1 : Nat) x_2.snd.snd.length], [AV.int IntKind.i64 (10002 : Int), AV.rw
  (1602 : Nat) (1 : Nat) x_3.snd.snd.length]]), ((1600 : Nat), Blk.row (3 : Nat) (1 : Nat) x_1.snd.snd), ((1601 : Nat), Blk.row (3 : Nat) (1 : Nat) x_2.snd.snd), ((1602 : Nat),
  Blk.row (3 : Nat) (1 : Nat) x_3.snd.snd)]).m y < (ta4I xs ver (0 : Int) x_3.snd.fst (3 : Int) x.snd.snd.length (3 : Nat) (1600 : Nat) x_1.snd.snd.length [((1500 : Nat), Blk.row (23
  : Nat) (5 : Nat) x.snd.snd), ((1501 : Nat), Blk.row (2000049 : Nat) (2 : Nat) [[AV.int IntKind.i64 (10000 : Int), AV.rw (1600 : Nat) (1 : Nat) x_1.snd.snd.length], [AV.int
  IntKind.i64 (10001 : Int), AV.rw (1601 : Nat) (1 : Nat) x_2.snd.snd.length], [AV.int IntKind.i64 (10002 : Int), AV.rw (1602 : Nat) (1 : Nat) x_3.snd.snd.length]]), ((1600 : Nat),
  Blk.row (3 : Nat) (1 : Nat) x_1.snd.snd), ((1601 : Nat), Blk.row (3 : Nat) (1 : Nat) x_2.snd.snd), ((1602 : Nat), Blk.row (3 : Nat) (1 : Nat) x_3.snd.snd)]).m x_4 ∧ ((0 : Nat) = (0
  : Nat) ∧ (0 : Nat) = (0 : Nat) ∧ (0 : Nat) = (0 : Nat) ∧ (0 : Int) = (0 : Int) ∧ (3 : Int) = (3 : Int) ∧ (0 : Int) = (0 : Int) ∧ x_1.snd.snd.length = x_1.snd.snd.length ∧
  (↑x_1.snd.snd.length : Int) = (↑x_1.snd.snd.length : Int) ∧ x_4.fst + (1 : Int) = y.fst ∧ True) ∧ ((True ∧ xs = xs) ∧ x_3.snd.fst = x_3.snd.fst ∧ True) ∧ ((0 : Int) = (0 : Int) ∧
  True ∧ True ∧ True) ∧ (ver = ver ∧ x.snd.snd.length = x.snd.snd.length ∧ (3 : Nat) = (3 : Nat) ∧ True) ∧ x.snd.snd = x.snd.snd ∧ [[AV.int IntKind.i64 (10000 : Int), AV.rw (1600 :
  Nat) (1 : Nat) x_1.snd.snd.length], [AV.int IntKind.i64 (10001 : Int), AV.rw (1601 : Nat) (1 : Nat) x_2.snd.snd.length], [AV.int IntKind.i64 (10002 : Int), AV.rw (1602 : Nat) (1 :
  Nat) x_3.snd.snd.length]] = [[AV.int IntKind.i64 (10000 : Int), AV.rw (1600 : Nat) (1 : Nat) x_1.snd.snd.length], [AV.int IntKind.i64 (10001 : Int), AV.rw (1601 : Nat) (1 : Nat)
  x_2.snd.snd.length], [AV.int IntKind.i64 (10002 : Int), AV.rw (1602 : Nat) (1 : Nat) x_3.snd.snd.length]] ∧ setEl x_4.snd x_4.fst.toNat (0 : Nat) [AV.int IntKind.i64 (100 : Int)] =
  y.snd ∧ x_2.snd.snd = x_2.snd.snd ∧ x_3.snd.snd = x_3.snd.snd ∧ True else False else False else False else bif decide (n = (20100 : Int)) then bif decide ((0 : Int) ≤ x_4.fst ∧
  x_4.fst < (↑x_1.snd.snd.length : Int)) then bif decide (x_1.snd.snd.length = x_4.snd.length ∧ x_4.fst.toNat < x_4.snd.length) then bif decide (rng IntKind.i64 (x_4.fst + (1 :
  Int))) then ∃ y, TaP4 x_1.snd.snd.length y ∧ (ta4I xs ver (0 : Int) x_3.snd.fst (3 : Int) x.snd.snd.length (3 : Nat) (1600 : Nat) x_1.snd.snd.length [((1500 : Nat), Blk.row (23 :
  Nat) (5 : Nat) x.snd.snd), ((1501 : Nat), Blk.row (2000049 : Nat) (2 : Nat) [[AV.int IntKind.i64 (10000 : Int), AV.rw (1600 : Nat) (1 : Nat) x_1.snd.snd.length], [AV.int
  IntKind.i64 (10001 : Int), AV.rw (1601 : Nat) (1 : Nat) x_2.snd.snd.length], [AV.int IntKind.i64 (10002 : Int), AV.rw (1602 : Nat) (1 : Nat) x_3.snd.snd.length]]), ((1600 : Nat),
  Blk.row (3 : Nat) (1 : Nat) x_1.snd.snd), ((1601 : Nat), Blk.row (3 : Nat) (1 : Nat) x_2.snd.snd), ((1602 : Nat), Blk.row (3 : Nat) (1 : Nat) x_3.snd.snd)]).m y < (ta4I xs ver (0 :
  Int) x_3.snd.fst (3 : Int) x.snd.snd.length (3 : Nat) (1600 : Nat) x_1.snd.snd.length [((1500 : Nat), Blk.row (23 : Nat) (5 : Nat) x.snd.snd), ((1501 : Nat), Blk.row (2000049 :
  Nat) (2 : Nat) [[AV.int IntKind.i64 (10000 : Int), AV.rw (1600 : Nat) (1 : Nat) x_1.snd.snd.length], [AV.int IntKind.i64 (10001 : Int), AV.rw (1601 : Nat) (1 : Nat)
  x_2.snd.snd.length], [AV.int IntKind.i64 (10002 : Int), AV.rw (1602 : Nat) (1 : Nat) x_3.snd.snd.length]]), ((1600 : Nat), Blk.row (3 : Nat) (1 : Nat) x_1.snd.snd), ((1601 : Nat),
  Blk.row (3 : Nat) (1 : Nat) x_2.snd.snd), ((1602 : Nat), Blk.row (3 : Nat) (1 : Nat) x_3.snd.snd)]).m x_4 ∧ ((0 : Nat) = (0 : Nat) ∧ (0 : Nat) = (0 : Nat) ∧ (0 : Nat) = (0 : Nat) ∧
  (0 : Int) = (0 : Int) ∧ (3 : Int) = (3 : Int) ∧ (0 : Int) = (0 : Int) ∧ x_1.snd.snd.length = x_1.snd.snd.length ∧ (↑x_1.snd.snd.length : Int) = (↑x_1.snd.snd.length : Int) ∧
  x_4.fst + (1 : Int) = y.fst ∧ True) ∧ ((True ∧ xs = xs) ∧ x_3.snd.fst = x_3.snd.fst ∧ True) ∧ ((0 : Int) = (0 : Int) ∧ True ∧ True ∧ True) ∧ (ver = ver ∧ x.snd.snd.length =
  x.snd.snd.length ∧ (3 : Nat) = (3 : Nat) ∧ True) ∧ x.snd.snd = x.snd.snd ∧ [[AV.int IntKind.i64 (10000 : Int), AV.rw (1600 : Nat) (1 : Nat) x_1.snd.snd.length], [AV.int IntKind.i64
  (10001 : Int), AV.rw (1601 : Nat) (1 : Nat) x_2.snd.snd.length], [AV.int IntKind.i64 (10002 : Int), AV.rw (1602 : Nat) (1 : Nat) x_3.snd.snd.length]] = [[AV.int IntKind.i64 (10000
  : Int), AV.rw (1600 : Nat) (1 : Nat) x_1.snd.snd.length], [AV.int IntKind.i64 (10001 : Int), AV.rw (1601 : Nat) (1 : Nat) x_2.snd.snd.length], [AV.int IntKind.i64 (10002 : Int),
  AV.rw (1602 : Nat) (1 : Nat) x_3.snd.snd.length]] ∧ setEl x_4.snd x_4.fst.toNat (0 : Nat) [AV.int IntKind.i64 (100 : Int)] = y.snd ∧ x_2.snd.snd = x_2.snd.snd ∧ x_3.snd.snd =
  x_3.snd.snd ∧ True else False else False else False else bif decide (n = (20021 : Int)) then bif decide ((0 : Int) ≤ x_4.fst ∧ x_4.fst < (↑x_1.snd.snd.length : Int)) then bif
  decide (x_1.snd.snd.length = x_4.snd.length ∧ x_4.fst.toNat < x_4.snd.length) then bif decide (rng IntKind.i64 (x_4.fst + (1 : Int))) then ∃ y, TaP4 x_1.snd.snd.length y ∧ (ta4I xs
  ver (0 : Int) x_3.snd.fst (3 : Int) x.snd.snd.length (3 : Nat) (1600 : Nat) x_1.snd.snd.length [((1500 : Nat), Blk.row (23 : Nat) (5 : Nat) x.snd.snd), ((1501 : Nat), Blk.row
  (2000049 : Nat) (2 : Nat) [[AV.int IntKind.i64 (10000 : Int), AV.rw (1600 : Nat) (1 : Nat) x_1.snd.snd.length], [AV.int IntKind.i64 (10001 : Int), AV.rw (1601 : Nat) (1 : Nat)
  x_2.snd.snd.length], [AV.int IntKind.i64 (10002 : Int), AV.rw (1602 : Nat) (1 : Nat) x_3.snd.snd.length]]), ((1600 : Nat), Blk.row (3 : Nat) (1 : Nat) x_1.snd.snd), ((1601 : Nat),
  Blk.row (3 : Nat) (1 : Nat) x_2.snd.snd), ((1602 : Nat), Blk.row (3 : Nat) (1 : Nat) x_3.snd.snd)]).m y < (ta4I xs ver (0 : Int) x_3.snd.fst (3 : Int) x.snd.snd.length (3 : Nat)
  (1600 : Nat) x_1.snd.snd.length [((1500 : Nat), Blk.row (23 : Nat) (5 : Nat) x.snd.snd), ((1501 : Nat), Blk.row (2000049 : Nat) (2 : Nat) [[AV.int IntKind.i64 (10000 : Int), AV.rw
  (1600 : Nat) (1 : Nat) x_1.snd.snd.length], [AV.int IntKind.i64 (10001 : Int), AV.rw (1601 : Nat) (1 : Nat) x_2.snd.snd.length], [AV.int IntKind.i64 (10002 : Int), AV.rw (1602 :
  Nat) (1 : Nat) x_3.snd.snd.length]]), ((1600 : Nat), Blk.row (3 : Nat) (1 : Nat) x_1.snd.snd), ((1601 : Nat), Blk.row (3 : Nat) (1 : Nat) x_2.snd.snd), ((1602 : Nat), Blk.row (3 :
  Nat) (1 : Nat) x_3.snd.snd)]).m x_4 ∧ ((0 : Nat) = (0 : Nat) ∧ (0 : Nat) = (0 : Nat) ∧ (0 : Nat) = (0 : Nat) ∧ (0 : Int) = (0 : Int) ∧ (3 : Int) = (3 : Int) ∧ (0 : Int) = (0 : Int)
  ∧ x_1.snd.snd.length = x_1.snd.snd.length ∧ (↑x_1.snd.snd.length : Int) = (↑x_1.snd.snd.length : Int) ∧ x_4.fst + (1 : Int) = y.fst ∧ True) ∧ ((True ∧ xs = xs) ∧ x_3.snd.fst =
  x_3.snd.fst ∧ True) ∧ ((0 : Int) = (0 : Int) ∧ True ∧ True ∧ True) ∧ (ver = ver ∧ x.snd.snd.length = x.snd.snd.length ∧ (3 : Nat) = (3 : Nat) ∧ True) ∧ x.snd.snd = x.snd.snd ∧
  [[AV.int IntKind.i64 (10000 : Int), AV.rw (1600 : Nat) (1 : Nat) x_1.snd.snd.length], [AV.int IntKind.i64 (10001 : Int), AV.rw (1601 : Nat) (1 : Nat) x_2.snd.snd.length], [AV.int
  IntKind.i64 (10002 : Int), AV.rw (1602 : Nat) (1 : Nat) x_3.snd.snd.length]] = [[AV.int IntKind.i64 (10000 : Int), AV.rw (1600 : Nat) (1 : Nat) x_1.snd.snd.length], [AV.int
  IntKind.i64 (10001 : Int), AV.rw (1601 : Nat) (1 : Nat) x_2.snd.snd.length], [AV.int IntKind.i64 (10002 : Int), AV.rw (1602 : Nat) (1 : Nat) x_3.snd.snd.length]] ∧ setEl x_4.snd
  x_4.fst.toNat (0 : Nat) [AV.int IntKind.i64 (100 : Int)] = y.snd ∧ x_2.snd.snd = x_2.snd.snd ∧ x_3.snd.snd = x_3.snd.snd ∧ True else False else False else False else bif decide (n
  = (22121 : Int)) then bif decide ((0 : Int) ≤ x_4.fst ∧ x_4.fst < (↑x_1.snd.snd.length : Int)) then bif decide (x_1.snd.snd.length = x_4.snd.length ∧ x_4.fst.toNat <
  x_4.snd.length) then bif decide (rng IntKind.i64 (x_4.fst + (1 : Int))) then ∃ y, TaP4 x_1.snd.snd.length y ∧ (ta4I xs ver (0 : Int) x_3.snd.fst (3 : Int) x.snd.snd.length (3 :
  Nat) (1600 : Nat) x_1.snd.snd.length [((1500 : Nat), Blk.row (23 : Nat) (5 : Nat) x.snd.snd), ((1501 : Nat), Blk.row (2000049 : Nat) (2 : Nat) [[AV.int IntKind.i64 (10000 : Int),
  AV.rw (1600 : Nat) (1 : Nat) x_1.snd.snd.length], [AV.int IntKind.i64 (10001 : Int), AV.rw (1601 : Nat) (1 : Nat) x_2.snd.snd.length], [AV.int IntKind.i64 (10002 : Int), AV.rw
  (1602 : Nat) (1 : Nat) x_3.snd.snd.length]]), ((1600 : Nat), Blk.row (3 : Nat) (1 : Nat) x_1.snd.snd), ((1601 : Nat), Blk.row (3 : Nat) (1 : Nat) x_2.snd.snd), ((1602 : Nat),
  Blk.row (3 : Nat) (1 : Nat) x_3.snd.snd)]).m y < (ta4I xs ver (0 : Int) x_3.snd.fst (3 : Int) x.snd.snd.length (3 : Nat) (1600 : Nat) x_1.snd.snd.length [((1500 : Nat), Blk.row (23
  : Nat) (5 : Nat) x.snd.snd), ((1501 : Nat), Blk.row (2000049 : Nat) (2 : Nat) [[AV.int IntKind.i64 (10000 : Int), AV.rw (1600 : Nat) (1 : Nat) x_1.snd.snd.length], [AV.int
  IntKind.i64 (10001 : Int), AV.rw (1601 : Nat) (1 : Nat) x_2.snd.snd.length], [AV.int IntKind.i64 (10002 : Int), AV.rw (1602 : Nat) (1 : Nat) x_3.snd.snd.length]]), ((1600 : Nat),
  Blk.row (3 : Nat) (1 : Nat) x_1.snd.snd), ((1601 : Nat), Blk.row (3 : Nat) (1 : Nat) x_2.snd.snd), ((1602 : Nat), Blk.row (3 : Nat) (1 : Nat) x_3.snd.snd)]).m x_4 ∧ ((0 : Nat) = (0
  : Nat) ∧ (0 : Nat) = (0 : Nat) ∧ (0 : Nat) = (0 : Nat) ∧ (0 : Int) = (0 : Int) ∧ (3 : Int) = (3 : Int) ∧ (0 : Int) = (0 : Int) ∧ x_1.snd.snd.length = x_1.snd.snd.length ∧
  (↑x_1.snd.snd.length : Int) = (↑x_1.snd.snd.length : Int) ∧ x_4.fst + (1 : Int) = y.fst ∧ True) ∧ ((True ∧ xs = xs) ∧ x_3.snd.fst = x_3.snd.fst ∧ True) ∧ ((0 : Int) = (0 : Int) ∧
  True ∧ True ∧ True) ∧ (ver = ver ∧ x.snd.snd.length = x.snd.snd.length ∧ (3 : Nat) = (3 : Nat) ∧ True) ∧ x.snd.snd = x.snd.snd ∧ [[AV.int IntKind.i64 (10000 : Int), AV.rw (1600 :
  Nat) (1 : Nat) x_1.snd.snd.length], [AV.int IntKind.i64 (10001 : Int), AV.rw (1601 : Nat) (1 : Nat) x_2.snd.snd.length], [AV.int IntKind.i64 (10002 : Int), AV.rw (1602 : Nat) (1 :
  Nat) x_3.snd.snd.length]] = [[AV.int IntKind.i64 (10000 : Int), AV.rw (1600 : Nat) (1 : Nat) x_1.snd.snd.length], [AV.int IntKind.i64 (10001 : Int), AV.rw (1601 : Nat) (1 : Nat)
  x_2.snd.snd.length], [AV.int IntKind.i64 (10002 : Int), AV.rw (1602 : Nat) (1 : Nat) x_3.snd.snd.length]] ∧ setEl x_4.snd x_4.fst.toNat (0 : Nat) [AV.int IntKind.i64 (100 : Int)] =
  y.snd ∧ x_2.snd.snd = x_2.snd.snd ∧ x_3.snd.snd = x_3.snd.snd ∧ True else False else False else False else bif decide (rng IntKind.i64 (x_4.fst + (1 : Int))) then ∃ y, TaP4
  x_1.snd.snd.length y ∧ (ta4I xs ver (0 : Int) x_3.snd.fst (3 : Int) x.snd.snd.length (3 : Nat) (1600 : Nat) x_1.snd.snd.length [((1500 : Nat), Blk.row (23 : Nat) (5 : Nat)
  x.snd.snd), ((1501 : Nat), Blk.row (2000049 : Nat) (2 : Nat) [[AV.int IntKind.i64 (10000 : Int), AV.rw (1600 : Nat) (1 : Nat) x_1.snd.snd.length], [AV.int IntKind.i64 (10001 :
  Int), AV.rw (1601 : Nat) (1 : Nat) x_2.snd.snd.length], [AV.int IntKind.i64 (10002 : Int), AV.rw (1602 : Nat) (1 : Nat) x_3.snd.snd.length]]), ((1600 : Nat), Blk.row (3 : Nat) (1 :
  Nat) x_1.snd.snd), ((1601 : Nat), Blk.row (3 : Nat) (1 : Nat) x_2.snd.snd), ((1602 : Nat), Blk.row (3 : Nat) (1 : Nat) x_3.snd.snd)]).m y < (ta4I xs ver (0 : Int) x_3.snd.fst (3 :
  Int) x.snd.snd.length (3 : Nat) (1600 : Nat) x_1.snd.snd.length [((1500 : Nat), Blk.row (23 : Nat) (5 : Nat) x.snd.snd), ((1501 : Nat), Blk.row (2000049 : Nat) (2 : Nat) [[AV.int
  IntKind.i64 (10000 : Int), AV.rw (1600 : Nat) (1 : Nat) x_1.snd.snd.length], [AV.int IntKind.i64 (10001 : Int), AV.rw (1601 : Nat) (1 : Nat) x_2.snd.snd.length], [AV.int
  IntKind.i64 (10002 : Int), AV.rw (1602 : Nat) (1 : Nat) x_3.snd.snd.length]]), ((1600 : Nat), Blk.row (3 : Nat) (1 : Nat) x_1.snd.snd), ((1601 : Nat), Blk.row (3 : Nat) (1 : Nat)
  x_2.snd.snd), ((1602 : Nat), Blk.row (3 : Nat) (1 : Nat) x_3.snd.snd)]).m x_4 ∧ ((0 : Nat) = (0 : Nat) ∧ (0 : Nat) = (0 : Nat) ∧ (0 : Nat) = (0 : Nat) ∧ (0 : Int) = (0 : Int) ∧ (3
  : Int) = (3 : Int) ∧ (0 : Int) = (0 : Int) ∧ x_1.snd.snd.length = x_1.snd.snd.length ∧ (↑x_1.snd.snd.length : Int) = (↑x_1.snd.snd.length : Int) ∧ x_4.fst + (1 : Int) = y.fst ∧
  True) ∧ ((True ∧ xs = xs) ∧ x_3.snd.fst = x_3.snd.fst ∧ True) ∧ ((0 : Int) = (0 : Int) ∧ True ∧ True ∧ True) ∧ (ver = ver ∧ x.snd.snd.length = x.snd.snd.length ∧ (3 : Nat) = (3 :
  Nat) ∧ True) ∧ x.snd.snd = x.snd.snd ∧ [[AV.int IntKind.i64 (10000 : Int), AV.rw (1600 : Nat) (1 : Nat) x_1.snd.snd.length], [AV.int IntKind.i64 (10001 : Int), AV.rw (1601 : Nat)
  (1 : Nat) x_2.snd.snd.length], [AV.int IntKind.i64 (10002 : Int), AV.rw (1602 : Nat) (1 : Nat) x_3.snd.snd.length]] = [[AV.int IntKind.i64 (10000 : Int), AV.rw (1600 : Nat) (1 :
  Nat) x_1.snd.snd.length], [AV.int IntKind.i64 (10001 : Int), AV.rw (1601 : Nat) (1 : Nat) x_2.snd.snd.length], [AV.int IntKind.i64 (10002 : Int), AV.rw (1602 : Nat) (1 : Nat)
  x_3.snd.snd.length]] ∧ x_4.snd = y.snd ∧ x_2.snd.snd = x_2.snd.snd ∧ x_3.snd.snd = x_3.snd.snd ∧ True else False else False else False else (∃ x_5, TaP4 x_2.snd.snd.length x_5 ∧
  ((0 : Nat) = (0 : Nat) ∧ (0 : Nat) = (0 : Nat) ∧ (0 : Nat) = (0 : Nat) ∧ (1 : Int) = (1 : Int) ∧ (3 : Int) = (3 : Int) ∧ (1 : Int) = (1 : Int) ∧ x_2.snd.snd.length =
  x_2.snd.snd.length ∧ (↑x_2.snd.snd.length : Int) = (↑x_2.snd.snd.length : Int) ∧ (0 : Int) = x_5.fst ∧ True) ∧ ((True ∧ xs = xs) ∧ x_3.snd.fst = x_3.snd.fst ∧ True) ∧ ((0 : Int) =
  (0 : Int) ∧ True ∧ True ∧ True) ∧ (ver = ver ∧ x.snd.snd.length = x.snd.snd.length ∧ (3 : Nat) = (3 : Nat) ∧ True) ∧ x.snd.snd = x.snd.snd ∧ [[AV.int IntKind.i64 (10000 : Int),
  AV.rw (1600 : Nat) (1 : Nat) x_1.snd.snd.length], [AV.int IntKind.i64 (10001 : Int), AV.rw (1601 : Nat) (1 : Nat) x_2.snd.snd.length], [AV.int IntKind.i64 (10002 : Int), AV.rw
  (1602 : Nat) (1 : Nat) x_3.snd.snd.length]] = [[AV.int IntKind.i64 (10000 : Int), AV.rw (1600 : Nat) (1 : Nat) x_1.snd.snd.length], [AV.int IntKind.i64 (10001 : Int), AV.rw (1601 :
  Nat) (1 : Nat) x_2.snd.snd.length], [AV.int IntKind.i64 (10002 : Int), AV.rw (1602 : Nat) (1 : Nat) x_3.snd.snd.length]] ∧ x_4.snd = x_4.snd ∧ x_2.snd.snd = x_5.snd ∧ x_3.snd.snd =
  x_3.snd.snd ∧ True) ∧ ∀ (x_5 : Int × List (List AV)), TaP4 x_2.snd.snd.length x_5 → bif decide (x_5.fst < (↑x_2.snd.snd.length : Int)) then bif decide ((0 : Int) ≤ x_5.fst ∧
  x_5.fst < (↑x_2.snd.snd.length : Int)) then bif decide (x_2.snd.snd.length = x_5.snd.length ∧ x_5.fst.toNat < x_5.snd.length) then ∃ n, List.take [AV.int IntKind.i64 n].length
  (List.drop (0 : Nat) (x_5.snd.getD x_5.fst.toNat [])) = [AV.int IntKind.i64 n] ∧ bif decide (n < (1 : Int)) then bif decide ((0 : Int) ≤ x_5.fst ∧ x_5.fst < (↑x_2.snd.snd.length :
  Int)) then bif decide (x_2.snd.snd.length = x_5.snd.length ∧ x_5.fst.toNat < x_5.snd.length) then bif decide (rng IntKind.i64 (x_5.fst + (1 : Int))) then ∃ y, TaP4
  x_2.snd.snd.length y ∧ (ta4I xs ver (1 : Int) x_3.snd.fst (3 : Int) x.snd.snd.length (3 : Nat) (1601 : Nat) x_2.snd.snd.length [((1500 : Nat), Blk.row (23 : Nat) (5 : Nat)
  x.snd.snd), ((1501 : Nat), Blk.row (2000049 : Nat) (2 : Nat) [[AV.int IntKind.i64 (10000 : Int), AV.rw (1600 : Nat) (1 : Nat) x_1.snd.snd.length], [AV.int IntKind.i64 (10001 :
  Int), AV.rw (1601 : Nat) (1 : Nat) x_2.snd.snd.length], [AV.int IntKind.i64 (10002 : Int), AV.rw (1602 : Nat) (1 : Nat) x_3.snd.snd.length]]), ((1600 : Nat), Blk.row (3 : Nat) (1 :
  Nat) x_4.snd), ((1601 : Nat), Blk.row (3 : Nat) (1 : Nat) x_2.snd.snd), ((1602 : Nat), Blk.row (3 : Nat) (1 : Nat) x_3.snd.snd)]).m y < (ta4I xs ver (1 : Int) x_3.snd.fst (3 : Int)
  x.snd.snd.length (3 : Nat) (1601 : Nat) x_2.snd.snd.length [((1500 : Nat), Blk.row (23 : Nat) (5 : Nat) x.snd.snd), ((1501 : Nat), Blk.row (2000049 : Nat) (2 : Nat) [[AV.int
  IntKind.i64 (10000 : Int), AV.rw (1600 : Nat) (1 : Nat) x_1.snd.snd.length], [AV.int IntKind.i64 (10001 : Int), AV.rw (1601 : Nat) (1 : Nat) x_2.snd.snd.length], [AV.int
  IntKind.i64 (10002 : Int), AV.rw (1602 : Nat) (1 : Nat) x_3.snd.snd.length]]), ((1600 : Nat), Blk.row (3 : Nat) (1 : Nat) x_4.snd), ((1601 : Nat), Blk.row (3 : Nat) (1 : Nat)
  x_2.snd.snd), ((1602 : Nat), Blk.row (3 : Nat) (1 : Nat) x_3.snd.snd)]).m x_5 ∧ ((0 : Nat) = (0 : Nat) ∧ (0 : Nat) = (0 : Nat) ∧ (0 : Nat) = (0 : Nat) ∧ (1 : Int) = (1 : Int) ∧ (3
  : Int) = (3 : Int) ∧ (1 : Int) = (1 : Int) ∧ x_2.snd.snd.length = x_2.snd.snd.length ∧ (↑x_2.snd.snd.length : Int) = (↑x_2.snd.snd.length : Int) ∧ x_5.fst + (1 : Int) = y.fst ∧
  True) ∧ ((True ∧ xs = xs) ∧ x_3.snd.fst = x_3.snd.fst ∧ True) ∧ ((0 : Int) = (0 : Int) ∧ True ∧ True ∧ True) ∧ (ver = ver ∧ x.snd.snd.length = x.snd.snd.length ∧ (3 : Nat) = (3 :
  Nat) ∧ True) ∧ x.snd.snd = x.snd.snd ∧ [[AV.int IntKind.i64 (10000 : Int), AV.rw (1600 : Nat) (1 : Nat) x_1.snd.snd.length], [AV.int IntKind.i64 (10001 : Int), AV.rw (1601 : Nat)
  (1 : Nat) x_2.snd.snd.length], [AV.int IntKind.i64 (10002 : Int), AV.rw (1602 : Nat) (1 : Nat) x_3.snd.snd.length]] = [[AV.int IntKind.i64 (10000 : Int), AV.rw (1600 : Nat) (1 :
  Nat) x_1.snd.snd.length], [AV.int IntKind.i64 (10001 : Int), AV.rw (1601 : Nat) (1 : Nat) x_2.snd.snd.length], [AV.int IntKind.i64 (10002 : Int), AV.rw (1602 : Nat) (1 : Nat)
  x_3.snd.snd.length]] ∧ x_4.snd = x_4.snd ∧ setEl x_5.snd x_5.fst.toNat (0 : Nat) [AV.int IntKind.i64 (100 : Int)] = y.snd ∧ x_3.snd.snd = x_3.snd.snd ∧ True else False else False
  else False else bif decide ((30000 : Int) ≤ n) then bif decide ((0 : Int) ≤ x_5.fst ∧ x_5.fst < (↑x_2.snd.snd.length : Int)) then bif decide (x_2.snd.snd.length = x_5.snd.length ∧
  x_5.fst.toNat < x_5.snd.length) then bif decide (rng IntKind.i64 (x_5.fst + (1 : Int))) then ∃ y, TaP4 x_2.snd.snd.length y ∧ (ta4I xs ver (1 : Int) x_3.snd.fst (3 : Int)
  x.snd.snd.length (3 : Nat) (1601 : Nat) x_2.snd.snd.length [((1500 : Nat), Blk.row (23 : Nat) (5 : Nat) x.snd.snd), ((1501 : Nat), Blk.row (2000049 : Nat) (2 : Nat) [[AV.int
  IntKind.i64 (10000 : Int), AV.rw (1600 : Nat) (1 : Nat) x_1.snd.snd.length], [AV.int IntKind.i64 (10001 : Int), AV.rw (1601 : Nat) (1 : Nat) x_2.snd.snd.length], [AV.int
  IntKind.i64 (10002 : Int), AV.rw (1602 : Nat) (1 : Nat) x_3.snd.snd.length]]), ((1600 : Nat), Blk.row (3 : Nat) (1 : Nat) x_4.snd), ((1601 : Nat), Blk.row (3 : Nat) (1 : Nat)
  x_2.snd.snd), ((1602 : Nat), Blk.row (3 : Nat) (1 : Nat) x_3.snd.snd)]).m y < (ta4I xs ver (1 : Int) x_3.snd.fst (3 : Int) x.snd.snd.length (3 : Nat) (1601 : Nat)
  x_2.snd.snd.length [((1500 : Nat), Blk.row (23 : Nat) (5 : Nat) x.snd.snd), ((1501 : Nat), Blk.row (2000049 : Nat) (2 : Nat) [[AV.int IntKind.i64 (10000 : Int), AV.rw (1600 : Nat)
  (1 : Nat) x_1.snd.snd.length], [AV.int IntKind.i64 (10001 : Int), AV.rw (1601 : Nat) (1 : Nat) x_2.snd.snd.length], [AV.int IntKind.i64 (10002 : Int), AV.rw (1602 : Nat) (1 : Nat)
  x_3.snd.snd.length]]), ((1600 : Nat), Blk.row (3 : Nat) (1 : Nat) x_4.snd), ((1601 : Nat), Blk.row (3 : Nat) (1 : Nat) x_2.snd.snd), ((1602 : Nat), Blk.row (3 : Nat) (1 : Nat)
  x_3.snd.snd)]).m x_5 ∧ ((0 : Nat) = (0 : Nat) ∧ (0 : Nat) = (0 : Nat) ∧ (0 : Nat) = (0 : Nat) ∧ (1 : Int) = (1 : Int) ∧ (3 : Int) = (3 : Int) ∧ (1 : Int) = (1 : Int) ∧
  x_2.snd.snd.length = x_2.snd.snd.length ∧ (↑x_2.snd.snd.length : Int) = (↑x_2.snd.snd.length : Int) ∧ x_5.fst + (1 : Int) = y.fst ∧ True) ∧ ((True ∧ xs = xs) ∧ x_3.snd.fst =
  x_3.snd.fst ∧ True) ∧ ((0 : Int) = (0 : Int) ∧ True ∧ True ∧ True) ∧ (ver = ver ∧ x.snd.snd.length = x.snd.snd.length ∧ (3 : Nat) = (3 : Nat) ∧ True) ∧ x.snd.snd = x.snd.snd ∧
  [[AV.int IntKind.i64 (10000 : Int), AV.rw (1600 : Nat) (1 : Nat) x_1.snd.snd.length], [AV.int IntKind.i64 (10001 : Int), AV.rw (1601 : Nat) (1 : Nat) x_2.snd.snd.length], [AV.int
  IntKind.i64 (10002 : Int), AV.rw (1602 : Nat) (1 : Nat) x_3.snd.snd.length]] = [[AV.int IntKind.i64 (10000 : Int), AV.rw (1600 : Nat) (1 : Nat) x_1.snd.snd.length], [AV.int
  IntKind.i64 (10001 : Int), AV.rw (1601 : Nat) (1 : Nat) x_2.snd.snd.length], [AV.int IntKind.i64 (10002 : Int), AV.rw (1602 : Nat) (1 : Nat) x_3.snd.snd.length]] ∧ x_4.snd =
  x_4.snd ∧ setEl x_5.snd x_5.fst.toNat (0 : Nat) [AV.int IntKind.i64 (100 : Int)] = y.snd ∧ x_3.snd.snd = x_3.snd.snd ∧ True else False else False else False else bif decide (n =
  (20000 : Int)) then bif decide ((0 : Int) ≤ x_5.fst ∧ x_5.fst < (↑x_2.snd.snd.length : Int)) then bif decide (x_2.snd.snd.length = x_5.snd.length ∧ x_5.fst.toNat < x_5.snd.length)
  then bif decide (rng IntKind.i64 (x_5.fst + (1 : Int))) then ∃ y, TaP4 x_2.snd.snd.length y ∧ (ta4I xs ver (1 : Int) x_3.snd.fst (3 : Int) x.snd.snd.length (3 : Nat) (1601 : Nat)
  x_2.snd.snd.length [((1500 : Nat), Blk.row (23 : Nat) (5 : Nat) x.snd.snd), ((1501 : Nat), Blk.row (2000049 : Nat) (2 : Nat) [[AV.int IntKind.i64 (10000 : Int), AV.rw (1600 : Nat)
  (1 : Nat) x_1.snd.snd.length], [AV.int IntKind.i64 (10001 : Int), AV.rw (1601 : Nat) (1 : Nat) x_2.snd.snd.length], [AV.int IntKind.i64 (10002 : Int), AV.rw (1602 : Nat) (1 : Nat)
  x_3.snd.snd.length]]), ((1600 : Nat), Blk.row (3 : Nat) (1 : Nat) x_4.snd), ((1601 : Nat), Blk.row (3 : Nat) (1 : Nat) x_2.snd.snd), ((1602 : Nat), Blk.row (3 : Nat) (1 : Nat)
  x_3.snd.snd)]).m y < (ta4I xs ver (1 : Int) x_3.snd.fst (3 : Int) x.snd.snd.length (3 : Nat) (1601 : Nat) x_2.snd.snd.length [((1500 : Nat), Blk.row (23 : Nat) (5 : Nat)
  x.snd.snd), ((1501 : Nat), Blk.row (2000049 : Nat) (2 : Nat) [[AV.int IntKind.i64 (10000 : Int), AV.rw (1600 : Nat) (1 : Nat) x_1.snd.snd.length], [AV.int IntKind.i64 (10001 :
  Int), AV.rw (1601 : Nat) (1 : Nat) x_2.snd.snd.length], [AV.int IntKind.i64 (10002 : Int), AV.rw (1602 : Nat) (1 : Nat) x_3.snd.snd.length]]), ((1600 : Nat), Blk.row (3 : Nat) (1 :
  Nat) x_4.snd), ((1601 : Nat), Blk.row (3 : Nat) (1 : Nat) x_2.snd.snd), ((1602 : Nat), Blk.row (3 : Nat) (1 : Nat) x_3.snd.snd)]).m x_5 ∧ ((0 : Nat) = (0 : Nat) ∧ (0 : Nat) = (0 :
  Nat) ∧ (0 : Nat) = (0 : Nat) ∧ (1 : Int) = (1 : Int) ∧ (3 : Int) = (3 : Int) ∧ (1 : Int) = (1 : Int) ∧ x_2.snd.snd.length = x_2.snd.snd.length ∧ (↑x_2.snd.snd.length : Int) =
  (↑x_2.snd.snd.length : Int) ∧ x_5.fst + (1 : Int) = y.fst ∧ True) ∧ ((True ∧ xs = xs) ∧ x_3.snd.fst = x_3.snd.fst ∧ True) ∧ ((0 : Int) = (0 : Int) ∧ True ∧ True ∧ True) ∧ (ver =
  ver ∧ x.snd.snd.length = x.snd.snd.length ∧ (3 : Nat) = (3 : Nat) ∧ True) ∧ x.snd.snd = x.snd.snd ∧ [[AV.int IntKind.i64 (10000 : Int), AV.rw (1600 : Nat) (1 : Nat)
  x_1.snd.snd.length], [AV.int IntKind.i64 (10001 : Int), AV.rw (1601 : Nat) (1 : Nat) x_2.snd.snd.length], [AV.int IntKind.i64 (10002 : Int), AV.rw (1602 : Nat) (1 : Nat)
  x_3.snd.snd.length]] = [[AV.int IntKind.i64 (10000 : Int), AV.rw (1600 : Nat) (1 : Nat) x_1.snd.snd.length], [AV.int IntKind.i64 (10001 : Int), AV.rw (1601 : Nat) (1 : Nat)
  x_2.snd.snd.length], [AV.int IntKind.i64 (10002 : Int), AV.rw (1602 : Nat) (1 : Nat) x_3.snd.snd.length]] ∧ x_4.snd = x_4.snd ∧ setEl x_5.snd x_5.fst.toNat (0 : Nat) [AV.int
  IntKind.i64 (100 : Int)] = y.snd ∧ x_3.snd.snd = x_3.snd.snd ∧ True else False else False else False else bif decide (n = (20100 : Int)) then bif decide ((0 : Int) ≤ x_5.fst ∧
  x_5.fst < (↑x_2.snd.snd.length : Int)) then bif decide (x_2.snd.snd.length = x_5.snd.length ∧ x_5.fst.toNat < x_5.snd.length) then bif decide (rng IntKind.i64 (x_5.fst + (1 :
  Int))) then ∃ y, TaP4 x_2.snd.snd.length y ∧ (ta4I xs ver (1 : Int) x_3.snd.fst (3 : Int) x.snd.snd.length (3 : Nat) (1601 : Nat) x_2.snd.snd.length [((1500 : Nat), Blk.row (23 :
  Nat) (5 : Nat) x.snd.snd), ((1501 : Nat), Blk.row (2000049 : Nat) (2 : Nat) [[AV.int IntKind.i64 (10000 : Int), AV.rw (1600 : Nat) (1 : Nat) x_1.snd.snd.length], [AV.int
  IntKind.i64 (10001 : Int), AV.rw (1601 : Nat) (1 : Nat) x_2.snd.snd.length], [AV.int IntKind.i64 (10002 : Int), AV.rw (1602 : Nat) (1 : Nat) x_3.snd.snd.length]]), ((1600 : Nat),
  Blk.row (3 : Nat) (1 : Nat) x_4.snd), ((1601 : Nat), Blk.row (3 : Nat) (1 : Nat) x_2.snd.snd), ((1602 : Nat), Blk.row (3 : Nat) (1 : Nat) x_3.snd.snd)]).m y < (ta4I xs ver (1 :
  Int) x_3.snd.fst (3 : Int) x.snd.snd.length (3 : Nat) (1601 : Nat) x_2.snd.snd.length [((1500 : Nat), Blk.row (23 : Nat) (5 : Nat) x.snd.snd), ((1501 : Nat), Blk.row (2000049 :
  Nat) (2 : Nat) [[AV.int IntKind.i64 (10000 : Int), AV.rw (1600 : Nat) (1 : Nat) x_1.snd.snd.length], [AV.int IntKind.i64 (10001 : Int), AV.rw (1601 : Nat) (1 : Nat)
  x_2.snd.snd.length], [AV.int IntKind.i64 (10002 : Int), AV.rw (1602 : Nat) (1 : Nat) x_3.snd.snd.length]]), ((1600 : Nat), Blk.row (3 : Nat) (1 : Nat) x_4.snd), ((1601 : Nat),
  Blk.row (3 : Nat) (1 : Nat) x_2.snd.snd), ((1602 : Nat), Blk.row (3 : Nat) (1 : Nat) x_3.snd.snd)]).m x_5 ∧ ((0 : Nat) = (0 : Nat) ∧ (0 : Nat) = (0 : Nat) ∧ (0 : Nat) = (0 : Nat) ∧
  (1 : Int) = (1 : Int) ∧ (3 : Int) = (3 : Int) ∧ (1 : Int) = (1 : Int) ∧ x_2.snd.snd.length = x_2.snd.snd.length ∧ (↑x_2.snd.snd.length : Int) = (↑x_2.snd.snd.length : Int) ∧
  x_5.fst + (1 : Int) = y.fst ∧ True) ∧ ((True ∧ xs = xs) ∧ x_3.snd.fst = x_3.snd.fst ∧ True) ∧ ((0 : Int) = (0 : Int) ∧ True ∧ True ∧ True) ∧ (ver = ver ∧ x.snd.snd.length =
  x.snd.snd.length ∧ (3 : Nat) = (3 : Nat) ∧ True) ∧ x.snd.snd = x.snd.snd ∧ [[AV.int IntKind.i64 (10000 : Int), AV.rw (1600 : Nat) (1 : Nat) x_1.snd.snd.length], [AV.int IntKind.i64
  (10001 : Int), AV.rw (1601 : Nat) (1 : Nat) x_2.snd.snd.length], [AV.int IntKind.i64 (10002 : Int), AV.rw (1602 : Nat) (1 : Nat) x_3.snd.snd.length]] = [[AV.int IntKind.i64 (10000
  : Int), AV.rw (1600 : Nat) (1 : Nat) x_1.snd.snd.length], [AV.int IntKind.i64 (10001 : Int), AV.rw (1601 : Nat) (1 : Nat) x_2.snd.snd.length], [AV.int IntKind.i64 (10002 : Int),
  AV.rw (1602 : Nat) (1 : Nat) x_3.snd.snd.length]] ∧ x_4.snd = x_4.snd ∧ setEl x_5.snd x_5.fst.toNat (0 : Nat) [AV.int IntKind.i64 (100 : Int)] = y.snd ∧ x_3.snd.snd = x_3.snd.snd ∧
  True else False else False else False else bif decide (n = (20021 : Int)) then bif decide ((0 : Int) ≤ x_5.fst ∧ x_5.fst < (↑x_2.snd.snd.length : Int)) then bif decide
  (x_2.snd.snd.length = x_5.snd.length ∧ x_5.fst.toNat < x_5.snd.length) then bif decide (rng IntKind.i64 (x_5.fst + (1 : Int))) then ∃ y, TaP4 x_2.snd.snd.length y ∧ (ta4I xs ver (1
  : Int) x_3.snd.fst (3 : Int) x.snd.snd.length (3 : Nat) (1601 : Nat) x_2.snd.snd.length [((1500 : Nat), Blk.row (23 : Nat) (5 : Nat) x.snd.snd), ((1501 : Nat), Blk.row (2000049 :
  Nat) (2 : Nat) [[AV.int IntKind.i64 (10000 : Int), AV.rw (1600 : Nat) (1 : Nat) x_1.snd.snd.length], [AV.int IntKind.i64 (10001 : Int), AV.rw (1601 : Nat) (1 : Nat)
  x_2.snd.snd.length], [AV.int IntKind.i64 (10002 : Int), AV.rw (1602 : Nat) (1 : Nat) x_3.snd.snd.length]]), ((1600 : Nat), Blk.row (3 : Nat) (1 : Nat) x_4.snd), ((1601 : Nat),
  Blk.row (3 : Nat) (1 : Nat) x_2.snd.snd), ((1602 : Nat), Blk.row (3 : Nat) (1 : Nat) x_3.snd.snd)]).m y < (ta4I xs ver (1 : Int) x_3.snd.fst (3 : Int) x.snd.snd.length (3 : Nat)
  (1601 : Nat) x_2.snd.snd.length [((1500 : Nat), Blk.row (23 : Nat) (5 : Nat) x.snd.snd), ((1501 : Nat), Blk.row (2000049 : Nat) (2 : Nat) [[AV.int IntKind.i64 (10000 : Int), AV.rw
  (1600 : Nat) (1 : Nat) x_1.snd.snd.length], [AV.int IntKind.i64 (10001 : Int), AV.rw (1601 : Nat) (1 : Nat) x_2.snd.snd.length], [AV.int IntKind.i64 (10002 : Int), AV.rw (1602 :
  Nat) (1 : Nat) x_3.snd.snd.length]]), ((1600 : Nat), Blk.row (3 : Nat) (1 : Nat) x_4.snd), ((1601 : Nat), Blk.row (3 : Nat) (1 : Nat) x_2.snd.snd), ((1602 : Nat), Blk.row (3 : Nat)
  (1 : Nat) x_3.snd.snd)]).m x_5 ∧ ((0 : Nat) = (0 : Nat) ∧ (0 : Nat) = (0 : Nat) ∧ (0 : Nat) = (0 : Nat) ∧ (1 : Int) = (1 : Int) ∧ (3 : Int) = (3 : Int) ∧ (1 : Int) = (1 : Int) ∧
  x_2.snd.snd.length = x_2.snd.snd.length ∧ (↑x_2.snd.snd.length : Int) = (↑x_2.snd.snd.length : Int) ∧ x_5.fst + (1 : Int) = y.fst ∧ True) ∧ ((True ∧ xs = xs) ∧ x_3.snd.fst =
  x_3.snd.fst ∧ True) ∧ ((0 : Int) = (0 : Int) ∧ True ∧ True ∧ True) ∧ (ver = ver ∧ x.snd.snd.length = x.snd.snd.length ∧ (3 : Nat) = (3 : Nat) ∧ True) ∧ x.snd.snd = x.snd.snd ∧
  [[AV.int IntKind.i64 (10000 : Int), AV.rw (1600 : Nat) (1 : Nat) x_1.snd.snd.length], [AV.int IntKind.i64 (10001 : Int), AV.rw (1601 : Nat) (1 : Nat) x_2.snd.snd.length], [AV.int
  IntKind.i64 (10002 : Int), AV.rw (1602 : Nat) (1 : Nat) x_3.snd.snd.length]] = [[AV.int IntKind.i64 (10000 : Int), AV.rw (1600 : Nat) (1 : Nat) x_1.snd.snd.length], [AV.int
  IntKind.i64 (10001 : Int), AV.rw (1601 : Nat) (1 : Nat) x_2.snd.snd.length], [AV.int IntKind.i64 (10002 : Int), AV.rw (1602 : Nat) (1 : Nat) x_3.snd.snd.length]] ∧ x_4.snd =
  x_4.snd ∧ setEl x_5.snd x_5.fst.toNat (0 : Nat) [AV.int IntKind.i64 (100 : Int)] = y.snd ∧ x_3.snd.snd = x_3.snd.snd ∧ True else False else False else False else bif decide (n =
  (22121 : Int)) then bif decide ((0 : Int) ≤ x_5.fst ∧ x_5.fst < (↑x_2.snd.snd.length : Int)) then bif decide (x_2.snd.snd.length = x_5.snd.length ∧ x_5.fst.toNat < x_5.snd.length)
  then bif decide (rng IntKind.i64 (x_5.fst + (1 : Int))) then ∃ y, TaP4 x_2.snd.snd.length y ∧ (ta4I xs ver (1 : Int) x_3.snd.fst (3 : Int) x.snd.snd.length (3 : Nat) (1601 : Nat)
  x_2.snd.snd.length [((1500 : Nat), Blk.row (23 : Nat) (5 : Nat) x.snd.snd), ((1501 : Nat), Blk.row (2000049 : Nat) (2 : Nat) [[AV.int IntKind.i64 (10000 : Int), AV.rw (1600 : Nat)
  (1 : Nat) x_1.snd.snd.length], [AV.int IntKind.i64 (10001 : Int), AV.rw (1601 : Nat) (1 : Nat) x_2.snd.snd.length], [AV.int IntKind.i64 (10002 : Int), AV.rw (1602 : Nat) (1 : Nat)
  x_3.snd.snd.length]]), ((1600 : Nat), Blk.row (3 : Nat) (1 : Nat) x_4.snd), ((1601 : Nat), Blk.row (3 : Nat) (1 : Nat) x_2.snd.snd), ((1602 : Nat), Blk.row (3 : Nat) (1 : Nat)
  x_3.snd.snd)]).m y < (ta4I xs ver (1 : Int) x_3.snd.fst (3 : Int) x.snd.snd.length (3 : Nat) (1601 : Nat) x_2.snd.snd.length [((1500 : Nat), Blk.row (23 : Nat) (5 : Nat)
  x.snd.snd), ((1501 : Nat), Blk.row (2000049 : Nat) (2 : Nat) [[AV.int IntKind.i64 (10000 : Int), AV.rw (1600 : Nat) (1 : Nat) x_1.snd.snd.length], [AV.int IntKind.i64 (10001 :
  Int), AV.rw (1601 : Nat) (1 : Nat) x_2.snd.snd.length], [AV.int IntKind.i64 (10002 : Int), AV.rw (1602 : Nat) (1 : Nat) x_3.snd.snd.length]]), ((1600 : Nat), Blk.row (3 : Nat) (1 :
  Nat) x_4.snd), ((1601 : Nat), Blk.row (3 : Nat) (1 : Nat) x_2.snd.snd), ((1602 : Nat), Blk.row (3 : Nat) (1 : Nat) x_3.snd.snd)]).m x_5 ∧ ((0 : Nat) = (0 : Nat) ∧ (0 : Nat) = (0 :
  Nat) ∧ (0 : Nat) = (0 : Nat) ∧ (1 : Int) = (1 : Int) ∧ (3 : Int) = (3 : Int) ∧ (1 : Int) = (1 : Int) ∧ x_2.snd.snd.length = x_2.snd.snd.length ∧ (↑x_2.snd.snd.length : Int) =
  (↑x_2.snd.snd.length : Int) ∧ x_5.fst + (1 : Int) = y.fst ∧ True) ∧ ((True ∧ xs = xs) ∧ x_3.snd.fst = x_3.snd.fst ∧ True) ∧ ((0 : Int) = (0 : Int) ∧ True ∧ True ∧ True) ∧ (ver =
  ver ∧ x.snd.snd.length = x.snd.snd.length ∧ (3 : Nat) = (3 : Nat) ∧ True) ∧ x.snd.snd = x.snd.snd ∧ [[AV.int IntKind.i64 (10000 : Int), AV.rw (1600 : Nat) (1 : Nat)
  x_1.snd.snd.length], [AV.int IntKind.i64 (10001 : Int), AV.rw (1601 : Nat) (1 : Nat) x_2.snd.snd.length], [AV.int IntKind.i64 (10002 : Int), AV.rw (1602 : Nat) (1 : Nat)
  x_3.snd.snd.length]] = [[AV.int IntKind.i64 (10000 : Int), AV.rw (1600 : Nat) (1 : Nat) x_1.snd.snd.length], [AV.int IntKind.i64 (10001 : Int), AV.rw (1601 : Nat) (1 : Nat)
  x_2.snd.snd.length], [AV.int IntKind.i64 (10002 : Int), AV.rw (1602 : Nat) (1 : Nat) x_3.snd.snd.length]] ∧ x_4.snd = x_4.snd ∧ setEl x_5.snd x_5.fst.toNat (0 : Nat) [AV.int
  IntKind.i64 (100 : Int)] = y.snd ∧ x_3.snd.snd = x_3.snd.snd ∧ True else False else False else False else bif decide (rng IntKind.i64 (x_5.fst + (1 : Int))) then ∃ y, TaP4
  x_2.snd.snd.length y ∧ (ta4I xs ver (1 : Int) x_3.snd.fst (3 : Int) x.snd.snd.length (3 : Nat) (1601 : Nat) x_2.snd.snd.length [((1500 : Nat), Blk.row (23 : Nat) (5 : Nat)
  x.snd.snd), ((1501 : Nat), Blk.row (2000049 : Nat) (2 : Nat) [[AV.int IntKind.i64 (10000 : Int), AV.rw (1600 : Nat) (1 : Nat) x_1.snd.snd.length], [AV.int IntKind.i64 (10001 :
  Int), AV.rw (1601 : Nat) (1 : Nat) x_2.snd.snd.length], [AV.int IntKind.i64 (10002 : Int), AV.rw (1602 : Nat) (1 : Nat) x_3.snd.snd.length]]), ((1600 : Nat), Blk.row (3 : Nat) (1 :
  Nat) x_4.snd), ((1601 : Nat), Blk.row (3 : Nat) (1 : Nat) x_2.snd.snd), ((1602 : Nat), Blk.row (3 : Nat) (1 : Nat) x_3.snd.snd)]).m y < (ta4I xs ver (1 : Int) x_3.snd.fst (3 : Int)
  x.snd.snd.length (3 : Nat) (1601 : Nat) x_2.snd.snd.length [((1500 : Nat), Blk.row (23 : Nat) (5 : Nat) x.snd.snd), ((1501 : Nat), Blk.row (2000049 : Nat) (2 : Nat) [[AV.int
  IntKind.i64 (10000 : Int), AV.rw (1600 : Nat) (1 : Nat) x_1.snd.snd.length], [AV.int IntKind.i64 (10001 : Int), AV.rw (1601 : Nat) (1 : Nat) x_2.snd.snd.length], [AV.int
  IntKind.i64 (10002 : Int), AV.rw (1602 : Nat) (1 : Nat) x_3.snd.snd.length]]), ((1600 : Nat), Blk.row (3 : Nat) (1 : Nat) x_4.snd), ((1601 : Nat), Blk.row (3 : Nat) (1 : Nat)
  x_2.snd.snd), ((1602 : Nat), Blk.row (3 : Nat) (1 : Nat) x_3.snd.snd)]).m x_5 ∧ ((0 : Nat) = (0 : Nat) ∧ (0 : Nat) = (0 : Nat) ∧ (0 : Nat) = (0 : Nat) ∧ (1 : Int) = (1 : Int) ∧ (3
  : Int) = (3 : Int) ∧ (1 : Int) = (1 : Int) ∧ x_2.snd.snd.length = x_2.snd.snd.length ∧ (↑x_2.snd.snd.length : Int) = (↑x_2.snd.snd.length : Int) ∧ x_5.fst + (1 : Int) = y.fst ∧
  True) ∧ ((True ∧ xs = xs) ∧ x_3.snd.fst = x_3.snd.fst ∧ True) ∧ ((0 : Int) = (0 : Int) ∧ True ∧ True ∧ True) ∧ (ver = ver ∧ x.snd.snd.length = x.snd.snd.length ∧ (3 : Nat) = (3 :
  Nat) ∧ True) ∧ x.snd.snd = x.snd.snd ∧ [[AV.int IntKind.i64 (10000 : Int), AV.rw (1600 : Nat) (1 : Nat) x_1.snd.snd.length], [AV.int IntKind.i64 (10001 : Int), AV.rw (1601 : Nat)
  (1 : Nat) x_2.snd.snd.length], [AV.int IntKind.i64 (10002 : Int), AV.rw (1602 : Nat) (1 : Nat) x_3.snd.snd.length]] = [[AV.int IntKind.i64 (10000 : Int), AV.rw (1600 : Nat) (1 :
  Nat) x_1.snd.snd.length], [AV.int IntKind.i64 (10001 : Int), AV.rw (1601 : Nat) (1 : Nat) x_2.snd.snd.length], [AV.int IntKind.i64 (10002 : Int), AV.rw (1602 : Nat) (1 : Nat)
  x_3.snd.snd.length]] ∧ x_4.snd = x_4.snd ∧ x_5.snd = y.snd ∧ x_3.snd.snd = x_3.snd.snd ∧ True else False else False else False else (∃ x_6, TaP4 x_3.snd.snd.length x_6 ∧ ((0 : Nat)
  = (0 : Nat) ∧ (0 : Nat) = (0 : Nat) ∧ (0 : Nat) = (0 : Nat) ∧ (2 : Int) = (2 : Int) ∧ (3 : Int) = (3 : Int) ∧ (2 : Int) = (2 : Int) ∧ x_3.snd.snd.length = x_3.snd.snd.length ∧
  (↑x_3.snd.snd.length : Int) = (↑x_3.snd.snd.length : Int) ∧ (0 : Int) = x_6.fst ∧ True) ∧ ((True ∧ xs = xs) ∧ x_3.snd.fst = x_3.snd.fst ∧ True) ∧ ((0 : Int) = (0 : Int) ∧ True ∧
  True ∧ True) ∧ (ver = ver ∧ x.snd.snd.length = x.snd.snd.length ∧ (3 : Nat) = (3 : Nat) ∧ True) ∧ x.snd.snd = x.snd.snd ∧ [[AV.int IntKind.i64 (10000 : Int), AV.rw (1600 : Nat) (1
  : Nat) x_1.snd.snd.length], [AV.int IntKind.i64 (10001 : Int), AV.rw (1601 : Nat) (1 : Nat) x_2.snd.snd.length], [AV.int IntKind.i64 (10002 : Int), AV.rw (1602 : Nat) (1 : Nat)
  x_3.snd.snd.length]] = [[AV.int IntKind.i64 (10000 : Int), AV.rw (1600 : Nat) (1 : Nat) x_1.snd.snd.length], [AV.int IntKind.i64 (10001 : Int), AV.rw (1601 : Nat) (1 : Nat)
  x_2.snd.snd.length], [AV.int IntKind.i64 (10002 : Int), AV.rw (1602 : Nat) (1 : Nat) x_3.snd.snd.length]] ∧ x_4.snd = x_4.snd ∧ x_5.snd = x_5.snd ∧ x_3.snd.snd = x_6.snd ∧ True) ∧
  ∀ (x_6 : Int × List (List AV)), TaP4 x_3.snd.snd.length x_6 → bif decide (x_6.fst < (↑x_3.snd.snd.length : Int)) then bif decide ((0 : Int) ≤ x_6.fst ∧ x_6.fst <
  (↑x_3.snd.snd.length : Int)) then bif decide (x_3.snd.snd.length = x_6.snd.length ∧ x_6.fst.toNat < x_6.snd.length) then ∃ n, List.take [AV.int IntKind.i64 n].length (List.drop (0
  : Nat) (x_6.snd.getD x_6.fst.toNat [])) = [AV.int IntKind.i64 n] ∧ bif decide (n < (1 : Int)) then bif decide ((0 : Int) ≤ x_6.fst ∧ x_6.fst < (↑x_3.snd.snd.length : Int)) then bif
  decide (x_3.snd.snd.length = x_6.snd.length ∧ x_6.fst.toNat < x_6.snd.length) then bif decide (rng IntKind.i64 (x_6.fst + (1 : Int))) then ∃ y, TaP4 x_3.snd.snd.length y ∧ (ta4I xs
  ver (2 : Int) x_3.snd.fst (3 : Int) x.snd.snd.length (3 : Nat) (1602 : Nat) x_3.snd.snd.length [((1500 : Nat), Blk.row (23 : Nat) (5 : Nat) x.snd.snd), ((1501 : Nat), Blk.row
  (2000049 : Nat) (2 : Nat) [[AV.int IntKind.i64 (10000 : Int), AV.rw (1600 : Nat) (1 : Nat) x_1.snd.snd.length], [AV.int IntKind.i64 (10001 : Int), AV.rw (1601 : Nat) (1 : Nat)
  x_2.snd.snd.length], [AV.int IntKind.i64 (10002 : Int), AV.rw (1602 : Nat) (1 : Nat) x_3.snd.snd.length]]), ((1600 : Nat), Blk.row (3 : Nat) (1 : Nat) x_4.snd), ((1601 : Nat),
  Blk.row (3 : Nat) (1 : Nat) x_5.snd), ((1602 : Nat), Blk.row (3 : Nat) (1 : Nat) x_3.snd.snd)]).m y < (ta4I xs ver (2 : Int) x_3.snd.fst (3 : Int) x.snd.snd.length (3 : Nat) (1602
  : Nat) x_3.snd.snd.length [((1500 : Nat), Blk.row (23 : Nat) (5 : Nat) x.snd.snd), ((1501 : Nat), Blk.row (2000049 : Nat) (2 : Nat) [[AV.int IntKind.i64 (10000 : Int), AV.rw (1600
  : Nat) (1 : Nat) x_1.snd.snd.length], [AV.int IntKind.i64 (10001 : Int), AV.rw (1601 : Nat) (1 : Nat) x_2.snd.snd.length], [AV.int IntKind.i64 (10002 : Int), AV.rw (1602 : Nat) (1
  : Nat) x_3.snd.snd.length]]), ((1600 : Nat), Blk.row (3 : Nat) (1 : Nat) x_4.snd), ((1601 : Nat), Blk.row (3 : Nat) (1 : Nat) x_5.snd), ((1602 : Nat), Blk.row (3 : Nat) (1 : Nat)
  x_3.snd.snd)]).m x_6 ∧ ((0 : Nat) = (0 : Nat) ∧ (0 : Nat) = (0 : Nat) ∧ (0 : Nat) = (0 : Nat) ∧ (2 : Int) = (2 : Int) ∧ (3 : Int) = (3 : Int) ∧ (2 : Int) = (2 : Int) ∧
  x_3.snd.snd.length = x_3.snd.snd.length ∧ (↑x_3.snd.snd.length : Int) = (↑x_3.snd.snd.length : Int) ∧ x_6.fst + (1 : Int) = y.fst ∧ True) ∧ ((True ∧ xs = xs) ∧ x_3.snd.fst =
  x_3.snd.fst ∧ True) ∧ ((0 : Int) = (0 : Int) ∧ True ∧ True ∧ True) ∧ (ver = ver ∧ x.snd.snd.length = x.snd.snd.length ∧ (3 : Nat) = (3 : Nat) ∧ True) ∧ x.snd.snd = x.snd.snd ∧
  [[AV.int IntKind.i64 (10000 : Int), AV.rw (1600 : Nat) (1 : Nat) x_1.snd.snd.length], [AV.int IntKind.i64 (10001 : Int), AV.rw (1601 : Nat) (1 : Nat) x_2.snd.snd.length], [AV.int
  IntKind.i64 (10002 : Int), AV.rw (1602 : Nat) (1 : Nat) x_3.snd.snd.length]] = [[AV.int IntKind.i64 (10000 : Int), AV.rw (1600 : Nat) (1 : Nat) x_1.snd.snd.length], [AV.int
  IntKind.i64 (10001 : Int), AV.rw (1601 : Nat) (1 : Nat) x_2.snd.snd.length], [AV.int IntKind.i64 (10002 : Int), AV.rw (1602 : Nat) (1 : Nat) x_3.snd.snd.length]] ∧ x_4.snd =
  x_4.snd ∧ x_5.snd = x_5.snd ∧ setEl x_6.snd x_6.fst.toNat (0 : Nat) [AV.int IntKind.i64 (100 : Int)] = y.snd ∧ True else False else False else False else bif decide ((30000 : Int)
  ≤ n) then bif decide ((0 : Int) ≤ x_6.fst ∧ x_6.fst < (↑x_3.snd.snd.length : Int)) then bif decide (x_3.snd.snd.length = x_6.snd.length ∧ x_6.fst.toNat < x_6.snd.length) then bif
  decide (rng IntKind.i64 (x_6.fst + (1 : Int))) then ∃ y, TaP4 x_3.snd.snd.length y ∧ (ta4I xs ver (2 : Int) x_3.snd.fst (3 : Int) x.snd.snd.length (3 : Nat) (1602 : Nat)
  x_3.snd.snd.length [((1500 : Nat), Blk.row (23 : Nat) (5 : Nat) x.snd.snd), ((1501 : Nat), Blk.row (2000049 : Nat) (2 : Nat) [[AV.int IntKind.i64 (10000 : Int), AV.rw (1600 : Nat)
  (1 : Nat) x_1.snd.snd.length], [AV.int IntKind.i64 (10001 : Int), AV.rw (1601 : Nat) (1 : Nat) x_2.snd.snd.length], [AV.int IntKind.i64 (10002 : Int), AV.rw (1602 : Nat) (1 : Nat)
  x_3.snd.snd.length]]), ((1600 : Nat), Blk.row (3 : Nat) (1 : Nat) x_4.snd), ((1601 : Nat), Blk.row (3 : Nat) (1 : Nat) x_5.snd), ((1602 : Nat), Blk.row (3 : Nat) (1 : Nat)
  x_3.snd.snd)]).m y < (ta4I xs ver (2 : Int) x_3.snd.fst (3 : Int) x.snd.snd.length (3 : Nat) (1602 : Nat) x_3.snd.snd.length [((1500 : Nat), Blk.row (23 : Nat) (5 : Nat)
  x.snd.snd), ((1501 : Nat), Blk.row (2000049 : Nat) (2 : Nat) [[AV.int IntKind.i64 (10000 : Int), AV.rw (1600 : Nat) (1 : Nat) x_1.snd.snd.length], [AV.int IntKind.i64 (10001 :
  Int), AV.rw (1601 : Nat) (1 : Nat) x_2.snd.snd.length], [AV.int IntKind.i64 (10002 : Int), AV.rw (1602 : Nat) (1 : Nat) x_3.snd.snd.length]]), ((1600 : Nat), Blk.row (3 : Nat) (1 :
  Nat) x_4.snd), ((1601 : Nat), Blk.row (3 : Nat) (1 : Nat) x_5.snd), ((1602 : Nat), Blk.row (3 : Nat) (1 : Nat) x_3.snd.snd)]).m x_6 ∧ ((0 : Nat) = (0 : Nat) ∧ (0 : Nat) = (0 : Nat)
  ∧ (0 : Nat) = (0 : Nat) ∧ (2 : Int) = (2 : Int) ∧ (3 : Int) = (3 : Int) ∧ (2 : Int) = (2 : Int) ∧ x_3.snd.snd.length = x_3.snd.snd.length ∧ (↑x_3.snd.snd.length : Int) =
  (↑x_3.snd.snd.length : Int) ∧ x_6.fst + (1 : Int) = y.fst ∧ True) ∧ ((True ∧ xs = xs) ∧ x_3.snd.fst = x_3.snd.fst ∧ True) ∧ ((0 : Int) = (0 : Int) ∧ True ∧ True ∧ True) ∧ (ver =
  ver ∧ x.snd.snd.length = x.snd.snd.length ∧ (3 : Nat) = (3 : Nat) ∧ True) ∧ x.snd.snd = x.snd.snd ∧ [[AV.int IntKind.i64 (10000 : Int), AV.rw (1600 : Nat) (1 : Nat)
  x_1.snd.snd.length], [AV.int IntKind.i64 (10001 : Int), AV.rw (1601 : Nat) (1 : Nat) x_2.snd.snd.length], [AV.int IntKind.i64 (10002 : Int), AV.rw (1602 : Nat) (1 : Nat)
  x_3.snd.snd.length]] = [[AV.int IntKind.i64 (10000 : Int), AV.rw (1600 : Nat) (1 : Nat) x_1.snd.snd.length], [AV.int IntKind.i64 (10001 : Int), AV.rw (1601 : Nat) (1 : Nat)
  x_2.snd.snd.length], [AV.int IntKind.i64 (10002 : Int), AV.rw (1602 : Nat) (1 : Nat) x_3.snd.snd.length]] ∧ x_4.snd = x_4.snd ∧ x_5.snd = x_5.snd ∧ setEl x_6.snd x_6.fst.toNat (0 :
  Nat) [AV.int IntKind.i64 (100 : Int)] = y.snd ∧ True else False else False else False else bif decide (n = (20000 : Int)) then bif decide ((0 : Int) ≤ x_6.fst ∧ x_6.fst <
  (↑x_3.snd.snd.length : Int)) then bif decide (x_3.snd.snd.length = x_6.snd.length ∧ x_6.fst.toNat < x_6.snd.length) then bif decide (rng IntKind.i64 (x_6.fst + (1 : Int))) then ∃
  y, TaP4 x_3.snd.snd.length y ∧ (ta4I xs ver (2 : Int) x_3.snd.fst (3 : Int) x.snd.snd.length (3 : Nat) (1602 : Nat) x_3.snd.snd.length [((1500 : Nat), Blk.row (23 : Nat) (5 : Nat)
  x.snd.snd), ((1501 : Nat), Blk.row (2000049 : Nat) (2 : Nat) [[AV.int IntKind.i64 (10000 : Int), AV.rw (1600 : Nat) (1 : Nat) x_1.snd.snd.length], [AV.int IntKind.i64 (10001 :
  Int), AV.rw (1601 : Nat) (1 : Nat) x_2.snd.snd.length], [AV.int IntKind.i64 (10002 : Int), AV.rw (1602 : Nat) (1 : Nat) x_3.snd.snd.length]]), ((1600 : Nat), Blk.row (3 : Nat) (1 :
  Nat) x_4.snd), ((1601 : Nat), Blk.row (3 : Nat) (1 : Nat) x_5.snd), ((1602 : Nat), Blk.row (3 : Nat) (1 : Nat) x_3.snd.snd)]).m y < (ta4I xs ver (2 : Int) x_3.snd.fst (3 : Int)
  x.snd.snd.length (3 : Nat) (1602 : Nat) x_3.snd.snd.length [((1500 : Nat), Blk.row (23 : Nat) (5 : Nat) x.snd.snd), ((1501 : Nat), Blk.row (2000049 : Nat) (2 : Nat) [[AV.int
  IntKind.i64 (10000 : Int), AV.rw (1600 : Nat) (1 : Nat) x_1.snd.snd.length], [AV.int IntKind.i64 (10001 : Int), AV.rw (1601 : Nat) (1 : Nat) x_2.snd.snd.length], [AV.int
  IntKind.i64 (10002 : Int), AV.rw (1602 : Nat) (1 : Nat) x_3.snd.snd.length]]), ((1600 : Nat), Blk.row (3 : Nat) (1 : Nat) x_4.snd), ((1601 : Nat), Blk.row (3 : Nat) (1 : Nat)
  x_5.snd), ((1602 : Nat), Blk.row (3 : Nat) (1 : Nat) x_3.snd.snd)]).m x_6 ∧ ((0 : Nat) = (0 : Nat) ∧ (0 : Nat) = (0 : Nat) ∧ (0 : Nat) = (0 : Nat) ∧ (2 : Int) = (2 : Int) ∧ (3 :
  Int) = (3 : Int) ∧ (2 : Int) = (2 : Int) ∧ x_3.snd.snd.length = x_3.snd.snd.length ∧ (↑x_3.snd.snd.length : Int) = (↑x_3.snd.snd.length : Int) ∧ x_6.fst + (1 : Int) = y.fst ∧ True)
  ∧ ((True ∧ xs = xs) ∧ x_3.snd.fst = x_3.snd.fst ∧ True) ∧ ((0 : Int) = (0 : Int) ∧ True ∧ True ∧ True) ∧ (ver = ver ∧ x.snd.snd.length = x.snd.snd.length ∧ (3 : Nat) = (3 : Nat) ∧
  True) ∧ x.snd.snd = x.snd.snd ∧ [[AV.int IntKind.i64 (10000 : Int), AV.rw (1600 : Nat) (1 : Nat) x_1.snd.snd.length], [AV.int IntKind.i64 (10001 : Int), AV.rw (1601 : Nat) (1 :
  Nat) x_2.snd.snd.length], [AV.int IntKind.i64 (10002 : Int), AV.rw (1602 : Nat) (1 : Nat) x_3.snd.snd.length]] = [[AV.int IntKind.i64 (10000 : Int), AV.rw (1600 : Nat) (1 : Nat)
  x_1.snd.snd.length], [AV.int IntKind.i64 (10001 : Int), AV.rw (1601 : Nat) (1 : Nat) x_2.snd.snd.length], [AV.int IntKind.i64 (10002 : Int), AV.rw (1602 : Nat) (1 : Nat)
  x_3.snd.snd.length]] ∧ x_4.snd = x_4.snd ∧ x_5.snd = x_5.snd ∧ setEl x_6.snd x_6.fst.toNat (0 : Nat) [AV.int IntKind.i64 (100 : Int)] = y.snd ∧ True else False else False else
  False else bif decide (n = (20100 : Int)) then bif decide ((0 : Int) ≤ x_6.fst ∧ x_6.fst < (↑x_3.snd.snd.length : Int)) then bif decide (x_3.snd.snd.length = x_6.snd.length ∧
  x_6.fst.toNat < x_6.snd.length) then bif decide (rng IntKind.i64 (x_6.fst + (1 : Int))) then ∃ y, TaP4 x_3.snd.snd.length y ∧ (ta4I xs ver (2 : Int) x_3.snd.fst (3 : Int)
  x.snd.snd.length (3 : Nat) (1602 : Nat) x_3.snd.snd.length [((1500 : Nat), Blk.row (23 : Nat) (5 : Nat) x.snd.snd), ((1501 : Nat), Blk.row (2000049 : Nat) (2 : Nat) [[AV.int
  IntKind.i64 (10000 : Int), AV.rw (1600 : Nat) (1 : Nat) x_1.snd.snd.length], [AV.int IntKind.i64 (10001 : Int), AV.rw (1601 : Nat) (1 : Nat) x_2.snd.snd.length], [AV.int
  IntKind.i64 (10002 : Int), AV.rw (1602 : Nat) (1 : Nat) x_3.snd.snd.length]]), ((1600 : Nat), Blk.row (3 : Nat) (1 : Nat) x_4.snd), ((1601 : Nat), Blk.row (3 : Nat) (1 : Nat)
  x_5.snd), ((1602 : Nat), Blk.row (3 : Nat) (1 : Nat) x_3.snd.snd)]).m y < (ta4I xs ver (2 : Int) x_3.snd.fst (3 : Int) x.snd.snd.length (3 : Nat) (1602 : Nat) x_3.snd.snd.length
  [((1500 : Nat), Blk.row (23 : Nat) (5 : Nat) x.snd.snd), ((1501 : Nat), Blk.row (2000049 : Nat) (2 : Nat) [[AV.int IntKind.i64 (10000 : Int), AV.rw (1600 : Nat) (1 : Nat)
  x_1.snd.snd.length], [AV.int IntKind.i64 (10001 : Int), AV.rw (1601 : Nat) (1 : Nat) x_2.snd.snd.length], [AV.int IntKind.i64 (10002 : Int), AV.rw (1602 : Nat) (1 : Nat)
  x_3.snd.snd.length]]), ((1600 : Nat), Blk.row (3 : Nat) (1 : Nat) x_4.snd), ((1601 : Nat), Blk.row (3 : Nat) (1 : Nat) x_5.snd), ((1602 : Nat), Blk.row (3 : Nat) (1 : Nat)
  x_3.snd.snd)]).m x_6 ∧ ((0 : Nat) = (0 : Nat) ∧ (0 : Nat) = (0 : Nat) ∧ (0 : Nat) = (0 : Nat) ∧ (2 : Int) = (2 : Int) ∧ (3 : Int) = (3 : Int) ∧ (2 : Int) = (2 : Int) ∧
  x_3.snd.snd.length = x_3.snd.snd.length ∧ (↑x_3.snd.snd.length : Int) = (↑x_3.snd.snd.length : Int) ∧ x_6.fst + (1 : Int) = y.fst ∧ True) ∧ ((True ∧ xs = xs) ∧ x_3.snd.fst =
  x_3.snd.fst ∧ True) ∧ ((0 : Int) = (0 : Int) ∧ True ∧ True ∧ True) ∧ (ver = ver ∧ x.snd.snd.length = x.snd.snd.length ∧ (3 : Nat) = (3 : Nat) ∧ True) ∧ x.snd.snd = x.snd.snd ∧
  [[AV.int IntKind.i64 (10000 : Int), AV.rw (1600 : Nat) (1 : Nat) x_1.snd.snd.length], [AV.int IntKind.i64 (10001 : Int), AV.rw (1601 : Nat) (1 : Nat) x_2.snd.snd.length], [AV.int
  IntKind.i64 (10002 : Int), AV.rw (1602 : Nat) (1 : Nat) x_3.snd.snd.length]] = [[AV.int IntKind.i64 (10000 : Int), AV.rw (1600 : Nat) (1 : Nat) x_1.snd.snd.length], [AV.int
  IntKind.i64 (10001 : Int), AV.rw (1601 : Nat) (1 : Nat) x_2.snd.snd.length], [AV.int IntKind.i64 (10002 : Int), AV.rw (1602 : Nat) (1 : Nat) x_3.snd.snd.length]] ∧ x_4.snd =
  x_4.snd ∧ x_5.snd = x_5.snd ∧ setEl x_6.snd x_6.fst.toNat (0 : Nat) [AV.int IntKind.i64 (100 : Int)] = y.snd ∧ True else False else False else False else bif decide (n = (20021 :
  Int)) then bif decide ((0 : Int) ≤ x_6.fst ∧ x_6.fst < (↑x_3.snd.snd.length : Int)) then bif decide (x_3.snd.snd.length = x_6.snd.length ∧ x_6.fst.toNat < x_6.snd.length) then bif
  decide (rng IntKind.i64 (x_6.fst + (1 : Int))) then ∃ y, TaP4 x_3.snd.snd.length y ∧ (ta4I xs ver (2 : Int) x_3.snd.fst (3 : Int) x.snd.snd.length (3 : Nat) (1602 : Nat)
  x_3.snd.snd.length [((1500 : Nat), Blk.row (23 : Nat) (5 : Nat) x.snd.snd), ((1501 : Nat), Blk.row (2000049 : Nat) (2 : Nat) [[AV.int IntKind.i64 (10000 : Int), AV.rw (1600 : Nat)
  (1 : Nat) x_1.snd.snd.length], [AV.int IntKind.i64 (10001 : Int), AV.rw (1601 : Nat) (1 : Nat) x_2.snd.snd.length], [AV.int IntKind.i64 (10002 : Int), AV.rw (1602 : Nat) (1 : Nat)
  x_3.snd.snd.length]]), ((1600 : Nat), Blk.row (3 : Nat) (1 : Nat) x_4.snd), ((1601 : Nat), Blk.row (3 : Nat) (1 : Nat) x_5.snd), ((1602 : Nat), Blk.row (3 : Nat) (1 : Nat)
  x_3.snd.snd)]).m y < (ta4I xs ver (2 : Int) x_3.snd.fst (3 : Int) x.snd.snd.length (3 : Nat) (1602 : Nat) x_3.snd.snd.length [((1500 : Nat), Blk.row (23 : Nat) (5 : Nat)
  x.snd.snd), ((1501 : Nat), Blk.row (2000049 : Nat) (2 : Nat) [[AV.int IntKind.i64 (10000 : Int), AV.rw (1600 : Nat) (1 : Nat) x_1.snd.snd.length], [AV.int IntKind.i64 (10001 :
  Int), AV.rw (1601 : Nat) (1 : Nat) x_2.snd.snd.length], [AV.int IntKind.i64 (10002 : Int), AV.rw (1602 : Nat) (1 : Nat) x_3.snd.snd.length]]), ((1600 : Nat), Blk.row (3 : Nat) (1 :
  Nat) x_4.snd), ((1601 : Nat), Blk.row (3 : Nat) (1 : Nat) x_5.snd), ((1602 : Nat), Blk.row (3 : Nat) (1 : Nat) x_3.snd.snd)]).m x_6 ∧ ((0 : Nat) = (0 : Nat) ∧ (0 : Nat) = (0 : Nat)
  ∧ (0 : Nat) = (0 : Nat) ∧ (2 : Int) = (2 : Int) ∧ (3 : Int) = (3 : Int) ∧ (2 : Int) = (2 : Int) ∧ x_3.snd.snd.length = x_3.snd.snd.length ∧ (↑x_3.snd.snd.length : Int) =
  (↑x_3.snd.snd.length : Int) ∧ x_6.fst + (1 : Int) = y.fst ∧ True) ∧ ((True ∧ xs = xs) ∧ x_3.snd.fst = x_3.snd.fst ∧ True) ∧ ((0 : Int) = (0 : Int) ∧ True ∧ True ∧ True) ∧ (ver =
  ver ∧ x.snd.snd.length = x.snd.snd.length ∧ (3 : Nat) = (3 : Nat) ∧ True) ∧ x.snd.snd = x.snd.snd ∧ [[AV.int IntKind.i64 (10000 : Int), AV.rw (1600 : Nat) (1 : Nat)
  x_1.snd.snd.length], [AV.int IntKind.i64 (10001 : Int), AV.rw (1601 : Nat) (1 : Nat) x_2.snd.snd.length], [AV.int IntKind.i64 (10002 : Int), AV.rw (1602 : Nat) (1 : Nat)
  x_3.snd.snd.length]] = [[AV.int IntKind.i64 (10000 : Int), AV.rw (1600 : Nat) (1 : Nat) x_1.snd.snd.length], [AV.int IntKind.i64 (10001 : Int), AV.rw (1601 : Nat) (1 : Nat)
  x_2.snd.snd.length], [AV.int IntKind.i64 (10002 : Int), AV.rw (1602 : Nat) (1 : Nat) x_3.snd.snd.length]] ∧ x_4.snd = x_4.snd ∧ x_5.snd = x_5.snd ∧ setEl x_6.snd x_6.fst.toNat (0 :
  Nat) [AV.int IntKind.i64 (100 : Int)] = y.snd ∧ True else False else False else False else bif decide (n = (22121 : Int)) then bif decide ((0 : Int) ≤ x_6.fst ∧ x_6.fst <
  (↑x_3.snd.snd.length : Int)) then bif decide (x_3.snd.snd.length = x_6.snd.length ∧ x_6.fst.toNat < x_6.snd.length) then bif decide (rng IntKind.i64 (x_6.fst + (1 : Int))) then ∃
  y, TaP4 x_3.snd.snd.length y ∧ (ta4I xs ver (2 : Int) x_3.snd.fst (3 : Int) x.snd.snd.length (3 : Nat) (1602 : Nat) x_3.snd.snd.length [((1500 : Nat), Blk.row (23 : Nat) (5 : Nat)
  x.snd.snd), ((1501 : Nat), Blk.row (2000049 : Nat) (2 : Nat) [[AV.int IntKind.i64 (10000 : Int), AV.rw (1600 : Nat) (1 : Nat) x_1.snd.snd.length], [AV.int IntKind.i64 (10001 :
  Int), AV.rw (1601 : Nat) (1 : Nat) x_2.snd.snd.length], [AV.int IntKind.i64 (10002 : Int), AV.rw (1602 : Nat) (1 : Nat) x_3.snd.snd.length]]), ((1600 : Nat), Blk.row (3 : Nat) (1 :
  Nat) x_4.snd), ((1601 : Nat), Blk.row (3 : Nat) (1 : Nat) x_5.snd), ((1602 : Nat), Blk.row (3 : Nat) (1 : Nat) x_3.snd.snd)]).m y < (ta4I xs ver (2 : Int) x_3.snd.fst (3 : Int)
  x.snd.snd.length (3 : Nat) (1602 : Nat) x_3.snd.snd.length [((1500 : Nat), Blk.row (23 : Nat) (5 : Nat) x.snd.snd), ((1501 : Nat), Blk.row (2000049 : Nat) (2 : Nat) [[AV.int
  IntKind.i64 (10000 : Int), AV.rw (1600 : Nat) (1 : Nat) x_1.snd.snd.length], [AV.int IntKind.i64 (10001 : Int), AV.rw (1601 : Nat) (1 : Nat) x_2.snd.snd.length], [AV.int
  IntKind.i64 (10002 : Int), AV.rw (1602 : Nat) (1 : Nat) x_3.snd.snd.length]]), ((1600 : Nat), Blk.row (3 : Nat) (1 : Nat) x_4.snd), ((1601 : Nat), Blk.row (3 : Nat) (1 : Nat)
  x_5.snd), ((1602 : Nat), Blk.row (3 : Nat) (1 : Nat) x_3.snd.snd)]).m x_6 ∧ ((0 : Nat) = (0 : Nat) ∧ (0 : Nat) = (0 : Nat) ∧ (0 : Nat) = (0 : Nat) ∧ (2 : Int) = (2 : Int) ∧ (3 :
  Int) = (3 : Int) ∧ (2 : Int) = (2 : Int) ∧ x_3.snd.snd.length = x_3.snd.snd.length ∧ (↑x_3.snd.snd.length : Int) = (↑x_3.snd.snd.length : Int) ∧ x_6.fst + (1 : Int) = y.fst ∧ True)
  ∧ ((True ∧ xs = xs) ∧ x_3.snd.fst = x_3.snd.fst ∧ True) ∧ ((0 : Int) = (0 : Int) ∧ True ∧ True ∧ True) ∧ (ver = ver ∧ x.snd.snd.length = x.snd.snd.length ∧ (3 : Nat) = (3 : Nat) ∧
  True) ∧ x.snd.snd = x.snd.snd ∧ [[AV.int IntKind.i64 (10000 : Int), AV.rw (1600 : Nat) (1 : Nat) x_1.snd.snd.length], [AV.int IntKind.i64 (10001 : Int), AV.rw (1601 : Nat) (1 :
  Nat) x_2.snd.snd.length], [AV.int IntKind.i64 (10002 : Int), AV.rw (1602 : Nat) (1 : Nat) x_3.snd.snd.length]] = [[AV.int IntKind.i64 (10000 : Int), AV.rw (1600 : Nat) (1 : Nat)
  x_1.snd.snd.length], [AV.int IntKind.i64 (10001 : Int), AV.rw (1601 : Nat) (1 : Nat) x_2.snd.snd.length], [AV.int IntKind.i64 (10002 : Int), AV.rw (1602 : Nat) (1 : Nat)
  x_3.snd.snd.length]] ∧ x_4.snd = x_4.snd ∧ x_5.snd = x_5.snd ∧ setEl x_6.snd x_6.fst.toNat (0 : Nat) [AV.int IntKind.i64 (100 : Int)] = y.snd ∧ True else False else False else
  False else bif decide (rng IntKind.i64 (x_6.fst + (1 : Int))) then ∃ y, TaP4 x_3.snd.snd.length y ∧ (ta4I xs ver (2 : Int) x_3.snd.fst (3 : Int) x.snd.snd.length (3 : Nat) (1602 :
  Nat) x_3.snd.snd.length [((1500 : Nat), Blk.row (23 : Nat) (5 : Nat) x.snd.snd), ((1501 : Nat), Blk.row (2000049 : Nat) (2 : Nat) [[AV.int IntKind.i64 (10000 : Int), AV.rw (1600 :
  Nat) (1 : Nat) x_1.snd.snd.length], [AV.int IntKind.i64 (10001 : Int), AV.rw (1601 : Nat) (1 : Nat) x_2.snd.snd.length], [AV.int IntKind.i64 (10002 : Int), AV.rw (1602 : Nat) (1 :
  Nat) x_3.snd.snd.length]]), ((1600 : Nat), Blk.row (3 : Nat) (1 : Nat) x_4.snd), ((1601 : Nat), Blk.row (3 : Nat) (1 : Nat) x_5.snd), ((1602 : Nat), Blk.row (3 : Nat) (1 : Nat)
  x_3.snd.snd)]).m y < (ta4I xs ver (2 : Int) x_3.snd.fst (3 : Int) x.snd.snd.length (3 : Nat) (1602 : Nat) x_3.snd.snd.length [((1500 : Nat), Blk.row (23 : Nat) (5 : Nat)
  x.snd.snd), ((1501 : Nat), Blk.row (2000049 : Nat) (2 : Nat) [[AV.int IntKind.i64 (10000 : Int), AV.rw (1600 : Nat) (1 : Nat) x_1.snd.snd.length], [AV.int IntKind.i64 (10001 :
  Int), AV.rw (1601 : Nat) (1 : Nat) x_2.snd.snd.length], [AV.int IntKind.i64 (10002 : Int), AV.rw (1602 : Nat) (1 : Nat) x_3.snd.snd.length]]), ((1600 : Nat), Blk.row (3 : Nat) (1 :
  Nat) x_4.snd), ((1601 : Nat), Blk.row (3 : Nat) (1 : Nat) x_5.snd), ((1602 : Nat), Blk.row (3 : Nat) (1 : Nat) x_3.snd.snd)]).m x_6 ∧ ((0 : Nat) = (0 : Nat) ∧ (0 : Nat) = (0 : Nat)
  ∧ (0 : Nat) = (0 : Nat) ∧ (2 : Int) = (2 : Int) ∧ (3 : Int) = (3 : Int) ∧ (2 : Int) = (2 : Int) ∧ x_3.snd.snd.length = x_3.snd.snd.length ∧ (↑x_3.snd.snd.length : Int) =
  (↑x_3.snd.snd.length : Int) ∧ x_6.fst + (1 : Int) = y.fst ∧ True) ∧ ((True ∧ xs = xs) ∧ x_3.snd.fst = x_3.snd.fst ∧ True) ∧ ((0 : Int) = (0 : Int) ∧ True ∧ True ∧ True) ∧ (ver =
  ver ∧ x.snd.snd.length = x.snd.snd.length ∧ (3 : Nat) = (3 : Nat) ∧ True) ∧ x.snd.snd = x.snd.snd ∧ [[AV.int IntKind.i64 (10000 : Int), AV.rw (1600 : Nat) (1 : Nat)
  x_1.snd.snd.length], [AV.int IntKind.i64 (10001 : Int), AV.rw (1601 : Nat) (1 : Nat) x_2.snd.snd.length], [AV.int IntKind.i64 (10002 : Int), AV.rw (1602 : Nat) (1 : Nat)
  x_3.snd.snd.length]] = [[AV.int IntKind.i64 (10000 : Int), AV.rw (1600 : Nat) (1 : Nat) x_1.snd.snd.length], [AV.int IntKind.i64 (10001 : Int), AV.rw (1601 : Nat) (1 : Nat)
  x_2.snd.snd.length], [AV.int IntKind.i64 (10002 : Int), AV.rw (1602 : Nat) (1 : Nat) x_3.snd.snd.length]] ∧ x_4.snd = x_4.snd ∧ x_5.snd = x_5.snd ∧ x_6.snd = y.snd ∧ True else
  False else False else False else bif decide (x_1.snd.snd.length = x_4.snd.length) then bif decide (x_2.snd.snd.length = x_5.snd.length) then bif decide (x_3.snd.snd.length =
  x_6.snd.length) then ∃ es ss j, TabQ es ss j ∧ (ver = ver ∧ x.snd.snd.length = es.length ∧ (3 : Nat) = ss.length ∧ True) ∧ ((True ∧ xs = xs) ∧ x_3.snd.fst = j ∧ True) ∧ x.snd.snd =
  es ∧ [[AV.int IntKind.i64 (10000 : Int), AV.sl (1 : Nat) false x_4.snd], [AV.int IntKind.i64 (10001 : Int), AV.sl (1 : Nat) false x_5.snd], [AV.int IntKind.i64 (10002 : Int), AV.sl
  (1 : Nat) false x_6.snd]] = ss ∧ True else False else False else False) ∧ True
set_option maxRecDepth 100000 in
theorem qtableO_P : qtableO_T := by
  unfold qtableO_T
  intro xs i ver hs
  have s := hs.s
  refine ⟨⟨(1, i, []), ⟨by simp, by simp, hs.lo, ⟨fun i hi => absurd hi (by simp)⟩, by simp⟩, by (repeat' (first | exact trivial | exact rfl | apply And.intro))⟩, ?_⟩
  rintro ⟨c, j, es⟩ p0
  have c0 : 1 ≤ c := p0.flo
  have c1 : c ≤ 12 := p0.fhi
  have hl : (es.length : Int) = c - 1 := p0.fl
  refine cs (fun hc => ⟨trivial, cdI (by simp only; omega) ⟨⟨s, p0.fj⟩, fun v j q => ?_⟩⟩) (fun hc => ⟨⟨s, p0.fj⟩, fun v j q => ?_⟩)
  · refine cs (fun h => ⟨⟨⟨s, q.fj⟩, ⟨rfl, by decide, by decide⟩, ints_of [2, 5, 10] (by decide)⟩, fun v j q2 => cd1 ⟨rfl, by simp; omega, by simp; omega⟩ (cdI (by simp only; omega) ⟨(c + 1, j, _), en_add (w := 12) (sc := v) p0 hc (by decide) (by decide) ?_ ?_ q2.fj, by simp only [ta1I]; omega, by (repeat' (first | exact trivial | exact rfl | apply And.intro))⟩)⟩) (fun h => cs (fun h1 => ⟨⟨⟨s, q.fj⟩, by decide, by decide, by decide⟩, fun v j q2 => cd1 ⟨rfl, by simp; omega, by simp; omega⟩ (cdI (by simp only; omega) ⟨(c + 1, j, _), en_add (w := v) (sc := 1) p0 hc q2.1.1 q2.1.2 (by decide) (by decide) q2.2, by simp only [ta1I]; omega, by (repeat' (first | exact trivial | exact rfl | apply And.intro))⟩)⟩) (fun h1 => cd1 ⟨rfl, by simp; omega, by simp; omega⟩ (cdI (by simp only; omega) ⟨(c + 1, j, _), en_add (w := 13) (sc := 1) p0 hc (by decide) (by decide) (by decide) (by decide) q.fj, by simp only [ta1I]; omega, by (repeat' (first | exact trivial | exact rfl | apply And.intro))⟩)))
    all_goals
      have := pick_of [2, 5, 10] q2
      simp only [List.mem_cons, List.not_mem_nil, or_false] at this
      omega
  have hj := q.fj
  have he : EnP es := p0.fe
  have hle : es.length = 11 := by simp only at hc; omega
  refine ⟨by have := q.fv (by omega); omega, fun _ => ⟨es, _, j, ⟨he, hle, sq0, hj⟩, by (repeat' (first | exact trivial | exact rfl | apply And.intro))⟩, fun _ => ?_, fun _ => ?_, fun _ => ?_, trivial⟩
  · skip
    refine ⟨⟨s, hj⟩, fun u j q => ⟨⟨(u, j, []), co_nil (q.fv (by omega)).1 (by have := (q.fv (by omega)).2; omega) q.fj, by (repeat' (first | exact trivial | exact rfl | apply And.intro))⟩, ?_⟩⟩
    rintro ⟨k1, j1, z1⟩ p1
    have l1 : (z1.length : Int) ≤ 3 - k1 := p1.fl
    have m1 : 0 ≤ k1 := p1.flo
    refine cs (fun hk => ⟨⟨s, p1.fj⟩, fun v j q => cd1 ⟨rfl, by simp; omega, by simp; omega⟩ (cdI (by simp only; omega) ⟨(k1 - 1, j, z1 ++ [[.int .i64 v]]), co_add p1 hk q, by simp only [ta3I]; omega, by (repeat' (first | exact trivial | exact rfl | apply And.intro))⟩)⟩) (fun hk1 => ?_)
    refine ⟨⟨(0, z1), co_zero p1.fc, by (repeat' (first | exact trivial | exact rfl | apply And.intro))⟩, ?_⟩
    rintro ⟨i1, y1⟩ t1
    have g1 : 0 ≤ i1 := t1.flo
    have f1 : y1.length = z1.length := t1.fl
    refine cs (fun hi => cd1 (by simp only; simp only at hi; omega) (cd1 (by simp only; simp only at hi; omega) ?_)) (fun hi1 => ?_)
    · simp only at hi
      obtain ⟨c, hc, _, _⟩ := t1.fc.fr i1.toNat (by simp only; omega)
      simp only at hc
      refine ⟨c, by rw [hc]; rfl, cs (fun _ => cd1 (by simp only; omega) (cd1 (by simp only; omega) (cdI (by simp only; omega) ⟨(i1 + 1, setEl y1 i1.toNat 0 [.int .i64 100]), co_fix t1 hi, by simp only [ta4I]; omega, by (repeat' (first | exact trivial | exact rfl | apply And.intro))⟩))) (fun h1 => cs (fun _ => cd1 (by simp only; omega) (cd1 (by simp only; omega) (cdI (by simp only; omega) ⟨(i1 + 1, setEl y1 i1.toNat 0 [.int .i64 100]), co_fix t1 hi, by simp only [ta4I]; omega, by (repeat' (first | exact trivial | exact rfl | apply And.intro))⟩))) (fun h2 => cs (fun _ => cd1 (by simp only; omega) (cd1 (by simp only; omega) (cdI (by simp only; omega) ⟨(i1 + 1, setEl y1 i1.toNat 0 [.int .i64 100]), co_fix t1 hi, by simp only [ta4I]; omega, by (repeat' (first | exact trivial | exact rfl | apply And.intro))⟩))) (fun h3 => cs (fun _ => cd1 (by simp only; omega) (cd1 (by simp only; omega) (cdI (by simp only; omega) ⟨(i1 + 1, setEl y1 i1.toNat 0 [.int .i64 100]), co_fix t1 hi, by simp only [ta4I]; omega, by (repeat' (first | exact trivial | exact rfl | apply And.intro))⟩))) (fun h4 => cs (fun _ => cd1 (by simp only; omega) (cd1 (by simp only; omega) (cdI (by simp only; omega) ⟨(i1 + 1, setEl y1 i1.toNat 0 [.int .i64 100]), co_fix t1 hi, by simp only [ta4I]; omega, by (repeat' (first | exact trivial | exact rfl | apply And.intro))⟩))) (fun h5 => cs (fun _ => cd1 (by simp only; omega) (cd1 (by simp only; omega) (cdI (by simp only; omega) ⟨(i1 + 1, setEl y1 i1.toNat 0 [.int .i64 100]), co_fix t1 hi, by simp only [ta4I]; omega, by (repeat' (first | exact trivial | exact rfl | apply And.intro))⟩))) (fun h6 => cdI (by simp only; omega) ⟨(i1 + 1, y1), co_keep t1 hi hc (by omega), by simp only [ta4I]; omega, by (repeat' (first | exact trivial | exact rfl | apply And.intro))⟩))))))⟩
    exact cd1 f1.symm (⟨es, _, _, ⟨he, hle, sq1 (co_done t1 hi1), p1.fj⟩, by (repeat' (first | exact trivial | exact rfl | apply And.intro))⟩)
  · skip
    refine ⟨⟨s, hj⟩, fun u j q => ⟨⟨(u, j, []), co_nil (q.fv (by omega)).1 (by have := (q.fv (by omega)).2; omega) q.fj, by (repeat' (first | exact trivial | exact rfl | apply And.intro))⟩, ?_⟩⟩
    rintro ⟨k1, j1, z1⟩ p1
    have l1 : (z1.length : Int) ≤ 3 - k1 := p1.fl
    have m1 : 0 ≤ k1 := p1.flo
    refine cs (fun hk => ⟨⟨s, p1.fj⟩, fun v j q => cd1 ⟨rfl, by simp; omega, by simp; omega⟩ (cdI (by simp only; omega) ⟨(k1 - 1, j, z1 ++ [[.int .i64 v]]), co_add p1 hk q, by simp only [ta3I]; omega, by (repeat' (first | exact trivial | exact rfl | apply And.intro))⟩)⟩) (fun hk1 => ?_)
    refine ⟨⟨s, p1.fj⟩, fun u j q => ⟨⟨(u, j, []), co_nil (q.fv (by omega)).1 (by have := (q.fv (by omega)).2; omega) q.fj, by (repeat' (first | exact trivial | exact rfl | apply And.intro))⟩, ?_⟩⟩
    rintro ⟨k2, j2, z2⟩ p2
    have l2 : (z2.length : Int) ≤ 3 - k2 := p2.fl
    have m2 : 0 ≤ k2 := p2.flo
    refine cs (fun hk => ⟨⟨s, p2.fj⟩, fun v j q => cd1 ⟨rfl, by simp; omega, by simp; omega⟩ (cdI (by simp only; omega) ⟨(k2 - 1, j, z2 ++ [[.int .i64 v]]), co_add p2 hk q, by simp only [ta3I]; omega, by (repeat' (first | exact trivial | exact rfl | apply And.intro))⟩)⟩) (fun hk2 => ?_)
    refine ⟨⟨(0, z1), co_zero p1.fc, by (repeat' (first | exact trivial | exact rfl | apply And.intro))⟩, ?_⟩
    rintro ⟨i1, y1⟩ t1
    have g1 : 0 ≤ i1 := t1.flo
    have f1 : y1.length = z1.length := t1.fl
    refine cs (fun hi => cd1 (by simp only; simp only at hi; omega) (cd1 (by simp only; simp only at hi; omega) ?_)) (fun hi1 => ?_)
    · simp only at hi
      obtain ⟨c, hc, _, _⟩ := t1.fc.fr i1.toNat (by simp only; omega)
      simp only at hc
      refine ⟨c, by rw [hc]; rfl, cs (fun _ => cd1 (by simp only; omega) (cd1 (by simp only; omega) (cdI (by simp only; omega) ⟨(i1 + 1, setEl y1 i1.toNat 0 [.int .i64 100]), co_fix t1 hi, by simp only [ta4I]; omega, by (repeat' (first | exact trivial | exact rfl | apply And.intro))⟩))) (fun h1 => cs (fun _ => cd1 (by simp only; omega) (cd1 (by simp only; omega) (cdI (by simp only; omega) ⟨(i1 + 1, setEl y1 i1.toNat 0 [.int .i64 100]), co_fix t1 hi, by simp only [ta4I]; omega, by (repeat' (first | exact trivial | exact rfl | apply And.intro))⟩))) (fun h2 => cs (fun _ => cd1 (by simp only; omega) (cd1 (by simp only; omega) (cdI (by simp only; omega) ⟨(i1 + 1, setEl y1 i1.toNat 0 [.int .i64 100]), co_fix t1 hi, by simp only [ta4I]; omega, by (repeat' (first | exact trivial | exact rfl | apply And.intro))⟩))) (fun h3 => cs (fun _ => cd1 (by simp only; omega) (cd1 (by simp only; omega) (cdI (by simp only; omega) ⟨(i1 + 1, setEl y1 i1.toNat 0 [.int .i64 100]), co_fix t1 hi, by simp only [ta4I]; omega, by (repeat' (first | exact trivial | exact rfl | apply And.intro))⟩))) (fun h4 => cs (fun _ => cd1 (by simp only; omega) (cd1 (by simp only; omega) (cdI (by simp only; omega) ⟨(i1 + 1, setEl y1 i1.toNat 0 [.int .i64 100]), co_fix t1 hi, by simp only [ta4I]; omega, by (repeat' (first | exact trivial | exact rfl | apply And.intro))⟩))) (fun h5 => cs (fun _ => cd1 (by simp only; omega) (cd1 (by simp only; omega) (cdI (by simp only; omega) ⟨(i1 + 1, setEl y1 i1.toNat 0 [.int .i64 100]), co_fix t1 hi, by simp only [ta4I]; omega, by (repeat' (first | exact trivial | exact rfl | apply And.intro))⟩))) (fun h6 => cdI (by simp only; omega) ⟨(i1 + 1, y1), co_keep t1 hi hc (by omega), by simp only [ta4I]; omega, by (repeat' (first | exact trivial | exact rfl | apply And.intro))⟩))))))⟩
    refine ⟨⟨(0, z2), co_zero p2.fc, by (repeat' (first | exact trivial | exact rfl | apply And.intro))⟩, ?_⟩
    rintro ⟨i2, y2⟩ t2
    have g2 : 0 ≤ i2 := t2.flo
    have f2 : y2.length = z2.length := t2.fl
    refine cs (fun hi => cd1 (by simp only; simp only at hi; omega) (cd1 (by simp only; simp only at hi; omega) ?_)) (fun hi2 => ?_)
    · simp only at hi
      obtain ⟨c, hc, _, _⟩ := t2.fc.fr i2.toNat (by simp only; omega)
      simp only at hc
      refine ⟨c, by rw [hc]; rfl, cs (fun _ => cd1 (by simp only; omega) (cd1 (by simp only; omega) (cdI (by simp only; omega) ⟨(i2 + 1, setEl y2 i2.toNat 0 [.int .i64 100]), co_fix t2 hi, by simp only [ta4I]; omega, by (repeat' (first | exact trivial | exact rfl | apply And.intro))⟩))) (fun h1 => cs (fun _ => cd1 (by simp only; omega) (cd1 (by simp only; omega) (cdI (by simp only; omega) ⟨(i2 + 1, setEl y2 i2.toNat 0 [.int .i64 100]), co_fix t2 hi, by simp only [ta4I]; omega, by (repeat' (first | exact trivial | exact rfl | apply And.intro))⟩))) (fun h2 => cs (fun _ => cd1 (by simp only; omega) (cd1 (by simp only; omega) (cdI (by simp only; omega) ⟨(i2 + 1, setEl y2 i2.toNat 0 [.int .i64 100]), co_fix t2 hi, by simp only [ta4I]; omega, by (repeat' (first | exact trivial | exact rfl | apply And.intro))⟩))) (fun h3 => cs (fun _ => cd1 (by simp only; omega) (cd1 (by simp only; omega) (cdI (by simp only; omega) ⟨(i2 + 1, setEl y2 i2.toNat 0 [.int .i64 100]), co_fix t2 hi, by simp only [ta4I]; omega, by (repeat' (first | exact trivial | exact rfl | apply And.intro))⟩))) (fun h4 => cs (fun _ => cd1 (by simp only; omega) (cd1 (by simp only; omega) (cdI (by simp only; omega) ⟨(i2 + 1, setEl y2 i2.toNat 0 [.int .i64 100]), co_fix t2 hi, by simp only [ta4I]; omega, by (repeat' (first | exact trivial | exact rfl | apply And.intro))⟩))) (fun h5 => cs (fun _ => cd1 (by simp only; omega) (cd1 (by simp only; omega) (cdI (by simp only; omega) ⟨(i2 + 1, setEl y2 i2.toNat 0 [.int .i64 100]), co_fix t2 hi, by simp only [ta4I]; omega, by (repeat' (first | exact trivial | exact rfl | apply And.intro))⟩))) (fun h6 => cdI (by simp only; omega) ⟨(i2 + 1, y2), co_keep t2 hi hc (by omega), by simp only [ta4I]; omega, by (repeat' (first | exact trivial | exact rfl | apply And.intro))⟩))))))⟩
    exact cd1 f1.symm (cd1 f2.symm (⟨es, _, _, ⟨he, hle, sq2 (co_done t1 hi1) (co_done t2 hi2), p2.fj⟩, by (repeat' (first | exact trivial | exact rfl | apply And.intro))⟩))
  · skip
    refine ⟨⟨s, hj⟩, fun u j q => ⟨⟨(u, j, []), co_nil (q.fv (by omega)).1 (by have := (q.fv (by omega)).2; omega) q.fj, by (repeat' (first | exact trivial | exact rfl | apply And.intro))⟩, ?_⟩⟩
    rintro ⟨k1, j1, z1⟩ p1
    have l1 : (z1.length : Int) ≤ 3 - k1 := p1.fl
    have m1 : 0 ≤ k1 := p1.flo
    refine cs (fun hk => ⟨⟨s, p1.fj⟩, fun v j q => cd1 ⟨rfl, by simp; omega, by simp; omega⟩ (cdI (by simp only; omega) ⟨(k1 - 1, j, z1 ++ [[.int .i64 v]]), co_add p1 hk q, by simp only [ta3I]; omega, by (repeat' (first | exact trivial | exact rfl | apply And.intro))⟩)⟩) (fun hk1 => ?_)
    refine ⟨⟨s, p1.fj⟩, fun u j q => ⟨⟨(u, j, []), co_nil (q.fv (by omega)).1 (by have := (q.fv (by omega)).2; omega) q.fj, by (repeat' (first | exact trivial | exact rfl | apply And.intro))⟩, ?_⟩⟩
    rintro ⟨k2, j2, z2⟩ p2
    have l2 : (z2.length : Int) ≤ 3 - k2 := p2.fl
    have m2 : 0 ≤ k2 := p2.flo
    refine cs (fun hk => ⟨⟨s, p2.fj⟩, fun v j q => cd1 ⟨rfl, by simp; omega, by simp; omega⟩ (cdI (by simp only; omega) ⟨(k2 - 1, j, z2 ++ [[.int .i64 v]]), co_add p2 hk q, by simp only [ta3I]; omega, by (repeat' (first | exact trivial | exact rfl | apply And.intro))⟩)⟩) (fun hk2 => ?_)
    refine ⟨⟨s, p2.fj⟩, fun u j q => ⟨⟨(u, j, []), co_nil (q.fv (by omega)).1 (by have := (q.fv (by omega)).2; omega) q.fj, by (repeat' (first | exact trivial | exact rfl | apply And.intro))⟩, ?_⟩⟩
    rintro ⟨k3, j3, z3⟩ p3
    have l3 : (z3.length : Int) ≤ 3 - k3 := p3.fl
    have m3 : 0 ≤ k3 := p3.flo
    refine cs (fun hk => ⟨⟨s, p3.fj⟩, fun v j q => cd1 ⟨rfl, by simp; omega, by simp; omega⟩ (cdI (by simp only; omega) ⟨(k3 - 1, j, z3 ++ [[.int .i64 v]]), co_add p3 hk q, by simp only [ta3I]; omega, by (repeat' (first | exact trivial | exact rfl | apply And.intro))⟩)⟩) (fun hk3 => ?_)
    refine ⟨⟨(0, z1), co_zero p1.fc, by (repeat' (first | exact trivial | exact rfl | apply And.intro))⟩, ?_⟩
    rintro ⟨i1, y1⟩ t1
    have g1 : 0 ≤ i1 := t1.flo
    have f1 : y1.length = z1.length := t1.fl
    refine cs (fun hi => cd1 (by simp only; simp only at hi; omega) (cd1 (by simp only; simp only at hi; omega) ?_)) (fun hi1 => ?_)
    · simp only at hi
      obtain ⟨c, hc, _, _⟩ := t1.fc.fr i1.toNat (by simp only; omega)
      simp only at hc
      refine ⟨c, by rw [hc]; rfl, cs (fun _ => cd1 (by simp only; omega) (cd1 (by simp only; omega) (cdI (by simp only; omega) ⟨(i1 + 1, setEl y1 i1.toNat 0 [.int .i64 100]), co_fix t1 hi, by simp only [ta4I]; omega, by (repeat' (first | exact trivial | exact rfl | apply And.intro))⟩))) (fun h1 => cs (fun _ => cd1 (by simp only; omega) (cd1 (by simp only; omega) (cdI (by simp only; omega) ⟨(i1 + 1, setEl y1 i1.toNat 0 [.int .i64 100]), co_fix t1 hi, by simp only [ta4I]; omega, by (repeat' (first | exact trivial | exact rfl | apply And.intro))⟩))) (fun h2 => cs (fun _ => cd1 (by simp only; omega) (cd1 (by simp only; omega) (cdI (by simp only; omega) ⟨(i1 + 1, setEl y1 i1.toNat 0 [.int .i64 100]), co_fix t1 hi, by simp only [ta4I]; omega, by (repeat' (first | exact trivial | exact rfl | apply And.intro))⟩))) (fun h3 => cs (fun _ => cd1 (by simp only; omega) (cd1 (by simp only; omega) (cdI (by simp only; omega) ⟨(i1 + 1, setEl y1 i1.toNat 0 [.int .i64 100]), co_fix t1 hi, by simp only [ta4I]; omega, by (repeat' (first | exact trivial | exact rfl | apply And.intro))⟩))) (fun h4 => cs (fun _ => cd1 (by simp only; omega) (cd1 (by simp only; omega) (cdI (by simp only; omega) ⟨(i1 + 1, setEl y1 i1.toNat 0 [.int .i64 100]), co_fix t1 hi, by simp only [ta4I]; omega, by (repeat' (first | exact trivial | exact rfl | apply And.intro))⟩))) (fun h5 => cs (fun _ => cd1 (by simp only; omega) (cd1 (by simp only; omega) (cdI (by simp only; omega) ⟨(i1 + 1, setEl y1 i1.toNat 0 [.int .i64 100]), co_fix t1 hi, by simp only [ta4I]; omega, by (repeat' (first | exact trivial | exact rfl | apply And.intro))⟩))) (fun h6 => cdI (by simp only; omega) ⟨(i1 + 1, y1), co_keep t1 hi hc (by omega), by simp only [ta4I]; omega, by (repeat' (first | exact trivial | exact rfl | apply And.intro))⟩))))))⟩
    refine ⟨⟨(0, z2), co_zero p2.fc, by (repeat' (first | exact trivial | exact rfl | apply And.intro))⟩, ?_⟩
    rintro ⟨i2, y2⟩ t2
    have g2 : 0 ≤ i2 := t2.flo
    have f2 : y2.length = z2.length := t2.fl
    refine cs (fun hi => cd1 (by simp only; simp only at hi; omega) (cd1 (by simp only; simp only at hi; omega) ?_)) (fun hi2 => ?_)
    · simp only at hi
      obtain ⟨c, hc, _, _⟩ := t2.fc.fr i2.toNat (by simp only; omega)
      simp only at hc
      refine ⟨c, by rw [hc]; rfl, cs (fun _ => cd1 (by simp only; omega) (cd1 (by simp only; omega) (cdI (by simp only; omega) ⟨(i2 + 1, setEl y2 i2.toNat 0 [.int .i64 100]), co_fix t2 hi, by simp only [ta4I]; omega, by (repeat' (first | exact trivial | exact rfl | apply And.intro))⟩))) (fun h1 => cs (fun _ => cd1 (by simp only; omega) (cd1 (by simp only; omega) (cdI (by simp only; omega) ⟨(i2 + 1, setEl y2 i2.toNat 0 [.int .i64 100]), co_fix t2 hi, by simp only [ta4I]; omega, by (repeat' (first | exact trivial | exact rfl | apply And.intro))⟩))) (fun h2 => cs (fun _ => cd1 (by simp only; omega) (cd1 (by simp only; omega) (cdI (by simp only; omega) ⟨(i2 + 1, setEl y2 i2.toNat 0 [.int .i64 100]), co_fix t2 hi, by simp only [ta4I]; omega, by (repeat' (first | exact trivial | exact rfl | apply And.intro))⟩))) (fun h3 => cs (fun _ => cd1 (by simp only; omega) (cd1 (by simp only; omega) (cdI (by simp only; omega) ⟨(i2 + 1, setEl y2 i2.toNat 0 [.int .i64 100]), co_fix t2 hi, by simp only [ta4I]; omega, by (repeat' (first | exact trivial | exact rfl | apply And.intro))⟩))) (fun h4 => cs (fun _ => cd1 (by simp only; omega) (cd1 (by simp only; omega) (cdI (by simp only; omega) ⟨(i2 + 1, setEl y2 i2.toNat 0 [.int .i64 100]), co_fix t2 hi, by simp only [ta4I]; omega, by (repeat' (first | exact trivial | exact rfl | apply And.intro))⟩))) (fun h5 => cs (fun _ => cd1 (by simp only; omega) (cd1 (by simp only; omega) (cdI (by simp only; omega) ⟨(i2 + 1, setEl y2 i2.toNat 0 [.int .i64 100]), co_fix t2 hi, by simp only [ta4I]; omega, by (repeat' (first | exact trivial | exact rfl | apply And.intro))⟩))) (fun h6 => cdI (by simp only; omega) ⟨(i2 + 1, y2), co_keep t2 hi hc (by omega), by simp only [ta4I]; omega, by (repeat' (first | exact trivial | exact rfl | apply And.intro))⟩))))))⟩
    refine ⟨⟨(0, z3), co_zero p3.fc, by (repeat' (first | exact trivial | exact rfl | apply And.intro))⟩, ?_⟩
    rintro ⟨i3, y3⟩ t3
    have g3 : 0 ≤ i3 := t3.flo
    have f3 : y3.length = z3.length := t3.fl
    refine cs (fun hi => cd1 (by simp only; simp only at hi; omega) (cd1 (by simp only; simp only at hi; omega) ?_)) (fun hi3 => ?_)
    · simp only at hi
      obtain ⟨c, hc, _, _⟩ := t3.fc.fr i3.toNat (by simp only; omega)
      simp only at hc
      refine ⟨c, by rw [hc]; rfl, cs (fun _ => cd1 (by simp only; omega) (cd1 (by simp only; omega) (cdI (by simp only; omega) ⟨(i3 + 1, setEl y3 i3.toNat 0 [.int .i64 100]), co_fix t3 hi, by simp only [ta4I]; omega, by (repeat' (first | exact trivial | exact rfl | apply And.intro))⟩))) (fun h1 => cs (fun _ => cd1 (by simp only; omega) (cd1 (by simp only; omega) (cdI (by simp only; omega) ⟨(i3 + 1, setEl y3 i3.toNat 0 [.int .i64 100]), co_fix t3 hi, by simp only [ta4I]; omega, by (repeat' (first | exact trivial | exact rfl | apply And.intro))⟩))) (fun h2 => cs (fun _ => cd1 (by simp only; omega) (cd1 (by simp only; omega) (cdI (by simp only; omega) ⟨(i3 + 1, setEl y3 i3.toNat 0 [.int .i64 100]), co_fix t3 hi, by simp only [ta4I]; omega, by (repeat' (first | exact trivial | exact rfl | apply And.intro))⟩))) (fun h3 => cs (fun _ => cd1 (by simp only; omega) (cd1 (by simp only; omega) (cdI (by simp only; omega) ⟨(i3 + 1, setEl y3 i3.toNat 0 [.int .i64 100]), co_fix t3 hi, by simp only [ta4I]; omega, by (repeat' (first | exact trivial | exact rfl | apply And.intro))⟩))) (fun h4 => cs (fun _ => cd1 (by simp only; omega) (cd1 (by simp only; omega) (cdI (by simp only; omega) ⟨(i3 + 1, setEl y3 i3.toNat 0 [.int .i64 100]), co_fix t3 hi, by simp only [ta4I]; omega, by (repeat' (first | exact trivial | exact rfl | apply And.intro))⟩))) (fun h5 => cs (fun _ => cd1 (by simp only; omega) (cd1 (by simp only; omega) (cdI (by simp only; omega) ⟨(i3 + 1, setEl y3 i3.toNat 0 [.int .i64 100]), co_fix t3 hi, by simp only [ta4I]; omega, by (repeat' (first | exact trivial | exact rfl | apply And.intro))⟩))) (fun h6 => cdI (by simp only; omega) ⟨(i3 + 1, y3), co_keep t3 hi hc (by omega), by simp only [ta4I]; omega, by (repeat' (first | exact trivial | exact rfl | apply And.intro))⟩))))))⟩
    exact cd1 f1.symm (cd1 f2.symm (cd1 f3.symm (⟨es, _, _, ⟨he, hle, sq3 (co_done t1 hi1) (co_done t2 hi2) (co_done t3 hi3), p3.fj⟩, by (repeat' (first | exact trivial | exact rfl | apply And.intro))⟩)))
def qtableO_S : Prop := ∀ (xs : List (List AV)) (i ver : Int), SrcQ xs i → fnQ Tryd.prog { glob := glb, spec := lk [(29, (rdesc_s Go.Proofs.YthdfkiopppkfcaaDoor.iL Go.Proofs.YthdfkiopppkfcaaDoor.inLo Go.Proofs.YthdfkiopppkfcaaDoor.inHi Go.Proofs.YthdfkiopppkfcaaDoor.inD Go.Proofs.YthdfkiopppkfcaaDoor.inE))], specH := lk [], specQ := lk [(10, qn_s), (20, qrange_s), (30, qpick_s), (31, qcode_s)], shape := [100], nowf := true } { nt := 134, drop := drp [(1, 196608), (3, 262144), (4, 3145728), (5, 130023424), (6, 8455716864), (7, 8589934592), (8, 68719476736), (9, 4260607557632), (10, 8796093022208), (11, 123145302310912), (12, 8866461766385664), (13, 27021597764222976), (14, 36028797018963968), (15, 432345564227567616), (16, 17870283321406128128), (17, 55340232221128654848), (18, 73786976294838206464), (19, 885443715538058477568), (20, 149935135831111235534848), (21, 9520290829465204750811136), (22, 29014219670751100192948224), (24, 309485009821345068724781056), (25, 19188070608923394260936425472), (27, 2218388550399401452619230609408), (28, 5316909447838463035156425247714967552), (29, 2711625111401228380723766402971902935040), (30, 2722258935367507707706996859454145691648), (31, 5444517870735015415413993718908291383296), (32, 10889035741470030830827987437816582766592)], fr := 1000, kp := [0], frz := fun id => cond (Nat.beq id 32) [1001600, 1001601, 1001602, 3001501] [], emp := fun id => cond (Nat.beq id 2) [(1100501, 1500, 23, 5), (1100502, 1501, 49, 2)] (cond (Nat.beq id 17) [(1101101, 1600, 3, 1), (1101101, 1601, 3, 1), (1101101, 1602, 3, 1)] []), own := true, spl := fun id => cond (Nat.beq id 13) [(10, [0, 1, 2, 3])] [] } (taJ xs ver) 6 Tryd.f9 [.ptr 0 0, .int .i64 ver] [.cells [.sl 1 false xs, .int .i64 i]] (fun r2 bs2 => ∃ (es ss : List (List AV)) (j : Int), (TabQ es ss j) ∧ le r2 (.agg [.int .i64 ver, .rw 1 5 es.length, .rw 2 2 ss.length]) ∧ leBs bs2 [.cells [.sl 1 false xs, .int .i64 j], .row 23 5 es, .row 49 2 ss])
set_option maxRecDepth 100000 in
theorem qtableO_e : qtableO_T = qtableO_S := by kernel_rfl
theorem qtableO_v : qtableO_S := @Eq.mp (qtableO_T) (qtableO_S) (qtableO_e) (qtableO_P)
theorem qtableO_ok : QOK Tryd.prog glb 9 qtableO_s := by
  refine ⟨fok Tryd.func9 (by kernel_rfl) (by kernel_rfl), ?_⟩
  intro xs bs T h K hT
  unfold qtableO_s at h
  split at h
  · simp only [Option.some.injEq] at h
    subst h
    obtain ⟨hp, hK⟩ := hT
    obtain ⟨r, bs2, ⟨o0, o1, o2, hq, hl, hb⟩, hC⟩ := fnQ_sound tyNil (by exact specOK rfl rfl ⟨(rdesc_ok glb), trivial⟩ trivial (d := qsOf rfl ⟨(qn_ok glb), (qrange_ok glb), (qpick_ok glb), (qcode_ok glb), trivial⟩)) (by kernel_rfl) Tryd.func9 (qtableO_v  _ _ _ hp)
    exact ⟨_, _, hK o0 o1 o2 hq, hC.le hl hb⟩
  · cases h
end Go.Proofs.YthdfkiopppkfcaaDoor
