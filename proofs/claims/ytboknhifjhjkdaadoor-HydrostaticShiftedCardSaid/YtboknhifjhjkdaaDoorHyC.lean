/- Hydrostatic: the law of findings. -/
import Derived.Test.YtboknhifjhjkdaaDoorHyL
namespace Go.Proofs.YtboknhifjhjkdaaDoor
open Go
set_option linter.unusedVariables false
set_option linter.unusedSimpArgs false

theorem modZ_in (x : Int) {n : Int} (hn : 1 ≤ n) : 0 ≤ modZ x n ∧ modZ x n < n := by
  unfold modZ; rw [if_neg (by omega)]; exact ⟨Int.emod_nonneg _ (by omega), Int.emod_lt_of_pos _ (by omega)⟩
def lFinds_s (vdE : List (List AV) → Int) (chL : List (List AV) → Int → List Int) (chE : List (List AV) → Int → Int) (eqR : List (List AV) → List (List AV) → Bool) (fA : List (List AV) → Int → Int) (fH1 : List (List AV) → Int → Int) (fH2 : List (List AV) → Int → Int) (fH3 : List (List AV) → Int → Int) (fT1 : List (List AV) → Int → Int) (fT2 : List (List AV) → Int → Int) (fT3 : List (List AV) → Int → Int) : Sp
  | [.sl 1 false zs, .int .i64 b, .bool w] => some (IntsA zs, .bool true)
  | _ => none
set_option maxRecDepth 100000 in
def lFinds_T (vdE : List (List AV) → Int) (chL : List (List AV) → Int → List Int) (chE : List (List AV) → Int → Int) (eqR : List (List AV) → List (List AV) → Bool) (fA : List (List AV) → Int → Int) (fH1 : List (List AV) → Int → Int) (fH2 : List (List AV) → Int → Int) (fH3 : List (List AV) → Int → Int) (fT1 : List (List AV) → Int → Int) (fT2 : List (List AV) → Int → Int) (fT3 : List (List AV) → Int → Int) (rL : List (List AV) → Int) (rU : List (List AV) → Int) (bL : List (List AV) → Bool) (bU : List (List AV) → Bool) (botL : Int → Int → Int → List Int) : Prop :=
  ∀ (zs : List (List AV)) (b : Int) (w : Bool), (∀ (x : List AV), List.Mem x zs → ∃ n, x = [AV.int IntKind.i64 n] ∧ rng IntKind.i64 n) → True → (-9223372036854775808 : Int) ≤ b ∧ b ≤
  (9223372036854775807 : Int) → True → True ∧ (SrcI (List.take (2000 : Nat) zs) ∧ (0 : Int) ≤ (0 : Int)) ∧ RdsP (row6 (fH1 (List.take (2000 : Nat) zs) (0 : Int)) (fT1 (List.take
  (2000 : Nat) zs) (0 : Int)) (fH2 (List.take (2000 : Nat) zs) (0 : Int)) (fT2 (List.take (2000 : Nat) zs) (0 : Int)) (fH3 (List.take (2000 : Nat) zs) (0 : Int)) (fT3 (List.take
  (2000 : Nat) zs) (0 : Int))) ∧ bif decide ¬chE (row6 (fH1 (List.take (2000 : Nat) zs) (0 : Int)) (fT1 (List.take (2000 : Nat) zs) (0 : Int)) (fH2 (List.take (2000 : Nat) zs) (0 :
  Int)) (fT2 (List.take (2000 : Nat) zs) (0 : Int)) (fH3 (List.take (2000 : Nat) zs) (0 : Int)) (fT3 (List.take (2000 : Nat) zs) (0 : Int))) (10 : Int) = (0 : Int) then false = true
  else bif decide ((0 : Int) < (↑(iro (chL (row6 (fH1 (List.take (2000 : Nat) zs) (0 : Int)) (fT1 (List.take (2000 : Nat) zs) (0 : Int)) (fH2 (List.take (2000 : Nat) zs) (0 : Int))
  (fT2 (List.take (2000 : Nat) zs) (0 : Int)) (fH3 (List.take (2000 : Nat) zs) (0 : Int)) (fT3 (List.take (2000 : Nat) zs) (0 : Int))) (10 : Int))).length : Int)) then false = true
  else True ∧ bif decide (rng IntKind.i64 ((40 : Int) + modZ b (150 : Int))) then bif w then True ∧ bif decide (rng IntKind.i64 ((100 : Int) + modZ b (100 : Int))) then bif decide
  (b.tmod (2 : Int) = (0 : Int)) then bif decide (rng IntKind.i64 ((0 : Int) - ((100 : Int) + modZ b (100 : Int)))) then bif decide (rng IntKind.i64 (fT2 (List.take (2000 : Nat) zs)
  (0 : Int) + ((0 : Int) - ((100 : Int) + modZ b (100 : Int))))) then RdsP (setEl ([] ++ row6 (fH1 (List.take (2000 : Nat) zs) (0 : Int)) (fT1 (List.take (2000 : Nat) zs) (0 : Int))
  (fH2 (List.take (2000 : Nat) zs) (0 : Int)) (fT2 (List.take (2000 : Nat) zs) (0 : Int)) (fH3 (List.take (2000 : Nat) zs) (0 : Int)) (fT3 (List.take (2000 : Nat) zs) (0 : Int))) (3
  : Nat) (1 : Nat) [AV.int IntKind.i64 (fT2 (List.take (2000 : Nat) zs) (0 : Int) + ((0 : Int) - ((100 : Int) + modZ b (100 : Int))))]) ∧ bif decide ¬vdE (setEl ([] ++ row6 (fH1
  (List.take (2000 : Nat) zs) (0 : Int)) (fT1 (List.take (2000 : Nat) zs) (0 : Int)) (fH2 (List.take (2000 : Nat) zs) (0 : Int)) (fT2 (List.take (2000 : Nat) zs) (0 : Int)) (fH3
  (List.take (2000 : Nat) zs) (0 : Int)) (fT3 (List.take (2000 : Nat) zs) (0 : Int))) (3 : Nat) (1 : Nat) [AV.int IntKind.i64 (fT2 (List.take (2000 : Nat) zs) (0 : Int) + ((0 : Int)
  - ((100 : Int) + modZ b (100 : Int))))]) = (0 : Int) then True ∧ true = true else RdsP (setEl ([] ++ row6 (fH1 (List.take (2000 : Nat) zs) (0 : Int)) (fT1 (List.take (2000 : Nat)
  zs) (0 : Int)) (fH2 (List.take (2000 : Nat) zs) (0 : Int)) (fT2 (List.take (2000 : Nat) zs) (0 : Int)) (fH3 (List.take (2000 : Nat) zs) (0 : Int)) (fT3 (List.take (2000 : Nat) zs)
  (0 : Int))) (3 : Nat) (1 : Nat) [AV.int IntKind.i64 (fT2 (List.take (2000 : Nat) zs) (0 : Int) + ((0 : Int) - ((100 : Int) + modZ b (100 : Int))))]) ∧ bif decide (chE (setEl ([] ++
  row6 (fH1 (List.take (2000 : Nat) zs) (0 : Int)) (fT1 (List.take (2000 : Nat) zs) (0 : Int)) (fH2 (List.take (2000 : Nat) zs) (0 : Int)) (fT2 (List.take (2000 : Nat) zs) (0 : Int))
  (fH3 (List.take (2000 : Nat) zs) (0 : Int)) (fT3 (List.take (2000 : Nat) zs) (0 : Int))) (3 : Nat) (1 : Nat) [AV.int IntKind.i64 (fT2 (List.take (2000 : Nat) zs) (0 : Int) + ((0 :
  Int) - ((100 : Int) + modZ b (100 : Int))))]) (10 : Int) = (0 : Int)) then EqP (iro (chL (setEl ([] ++ row6 (fH1 (List.take (2000 : Nat) zs) (0 : Int)) (fT1 (List.take (2000 : Nat)
  zs) (0 : Int)) (fH2 (List.take (2000 : Nat) zs) (0 : Int)) (fT2 (List.take (2000 : Nat) zs) (0 : Int)) (fH3 (List.take (2000 : Nat) zs) (0 : Int)) (fT3 (List.take (2000 : Nat) zs)
  (0 : Int))) (3 : Nat) (1 : Nat) [AV.int IntKind.i64 (fT2 (List.take (2000 : Nat) zs) (0 : Int) + ((0 : Int) - ((100 : Int) + modZ b (100 : Int))))]) (10 : Int))) [[AV.int
  IntKind.i64 (9 : Int)]] (1 : Nat) ∧ bif eqR (iro (chL (setEl ([] ++ row6 (fH1 (List.take (2000 : Nat) zs) (0 : Int)) (fT1 (List.take (2000 : Nat) zs) (0 : Int)) (fH2 (List.take
  (2000 : Nat) zs) (0 : Int)) (fT2 (List.take (2000 : Nat) zs) (0 : Int)) (fH3 (List.take (2000 : Nat) zs) (0 : Int)) (fT3 (List.take (2000 : Nat) zs) (0 : Int))) (3 : Nat) (1 : Nat)
  [AV.int IntKind.i64 (fT2 (List.take (2000 : Nat) zs) (0 : Int) + ((0 : Int) - ((100 : Int) + modZ b (100 : Int))))]) (10 : Int))) [[AV.int IntKind.i64 (9 : Int)]] then True ∧ true
  = true else false = true else false = true else False else False else bif decide (rng IntKind.i64 (fT2 (List.take (2000 : Nat) zs) (0 : Int) + ((100 : Int) + modZ b (100 : Int))))
  then RdsP (setEl ([] ++ row6 (fH1 (List.take (2000 : Nat) zs) (0 : Int)) (fT1 (List.take (2000 : Nat) zs) (0 : Int)) (fH2 (List.take (2000 : Nat) zs) (0 : Int)) (fT2 (List.take
  (2000 : Nat) zs) (0 : Int)) (fH3 (List.take (2000 : Nat) zs) (0 : Int)) (fT3 (List.take (2000 : Nat) zs) (0 : Int))) (3 : Nat) (1 : Nat) [AV.int IntKind.i64 (fT2 (List.take (2000 :
  Nat) zs) (0 : Int) + ((100 : Int) + modZ b (100 : Int)))]) ∧ bif decide ¬vdE (setEl ([] ++ row6 (fH1 (List.take (2000 : Nat) zs) (0 : Int)) (fT1 (List.take (2000 : Nat) zs) (0 :
  Int)) (fH2 (List.take (2000 : Nat) zs) (0 : Int)) (fT2 (List.take (2000 : Nat) zs) (0 : Int)) (fH3 (List.take (2000 : Nat) zs) (0 : Int)) (fT3 (List.take (2000 : Nat) zs) (0 :
  Int))) (3 : Nat) (1 : Nat) [AV.int IntKind.i64 (fT2 (List.take (2000 : Nat) zs) (0 : Int) + ((100 : Int) + modZ b (100 : Int)))]) = (0 : Int) then True ∧ true = true else RdsP
  (setEl ([] ++ row6 (fH1 (List.take (2000 : Nat) zs) (0 : Int)) (fT1 (List.take (2000 : Nat) zs) (0 : Int)) (fH2 (List.take (2000 : Nat) zs) (0 : Int)) (fT2 (List.take (2000 : Nat)
  zs) (0 : Int)) (fH3 (List.take (2000 : Nat) zs) (0 : Int)) (fT3 (List.take (2000 : Nat) zs) (0 : Int))) (3 : Nat) (1 : Nat) [AV.int IntKind.i64 (fT2 (List.take (2000 : Nat) zs) (0
  : Int) + ((100 : Int) + modZ b (100 : Int)))]) ∧ bif decide (chE (setEl ([] ++ row6 (fH1 (List.take (2000 : Nat) zs) (0 : Int)) (fT1 (List.take (2000 : Nat) zs) (0 : Int)) (fH2
  (List.take (2000 : Nat) zs) (0 : Int)) (fT2 (List.take (2000 : Nat) zs) (0 : Int)) (fH3 (List.take (2000 : Nat) zs) (0 : Int)) (fT3 (List.take (2000 : Nat) zs) (0 : Int))) (3 :
  Nat) (1 : Nat) [AV.int IntKind.i64 (fT2 (List.take (2000 : Nat) zs) (0 : Int) + ((100 : Int) + modZ b (100 : Int)))]) (10 : Int) = (0 : Int)) then EqP (iro (chL (setEl ([] ++ row6
  (fH1 (List.take (2000 : Nat) zs) (0 : Int)) (fT1 (List.take (2000 : Nat) zs) (0 : Int)) (fH2 (List.take (2000 : Nat) zs) (0 : Int)) (fT2 (List.take (2000 : Nat) zs) (0 : Int)) (fH3
  (List.take (2000 : Nat) zs) (0 : Int)) (fT3 (List.take (2000 : Nat) zs) (0 : Int))) (3 : Nat) (1 : Nat) [AV.int IntKind.i64 (fT2 (List.take (2000 : Nat) zs) (0 : Int) + ((100 :
  Int) + modZ b (100 : Int)))]) (10 : Int))) [[AV.int IntKind.i64 (9 : Int)]] (1 : Nat) ∧ bif eqR (iro (chL (setEl ([] ++ row6 (fH1 (List.take (2000 : Nat) zs) (0 : Int)) (fT1
  (List.take (2000 : Nat) zs) (0 : Int)) (fH2 (List.take (2000 : Nat) zs) (0 : Int)) (fT2 (List.take (2000 : Nat) zs) (0 : Int)) (fH3 (List.take (2000 : Nat) zs) (0 : Int)) (fT3
  (List.take (2000 : Nat) zs) (0 : Int))) (3 : Nat) (1 : Nat) [AV.int IntKind.i64 (fT2 (List.take (2000 : Nat) zs) (0 : Int) + ((100 : Int) + modZ b (100 : Int)))]) (10 : Int)))
  [[AV.int IntKind.i64 (9 : Int)]] then True ∧ true = true else false = true else false = true else False else False else bif decide (b.tmod (2 : Int) = (0 : Int)) then bif decide
  (rng IntKind.i64 ((0 : Int) - ((40 : Int) + modZ b (150 : Int)))) then bif decide (rng IntKind.i64 (fH2 (List.take (2000 : Nat) zs) (0 : Int) + ((0 : Int) - ((40 : Int) + modZ b
  (150 : Int))))) then RdsP (setEl ([] ++ row6 (fH1 (List.take (2000 : Nat) zs) (0 : Int)) (fT1 (List.take (2000 : Nat) zs) (0 : Int)) (fH2 (List.take (2000 : Nat) zs) (0 : Int))
  (fT2 (List.take (2000 : Nat) zs) (0 : Int)) (fH3 (List.take (2000 : Nat) zs) (0 : Int)) (fT3 (List.take (2000 : Nat) zs) (0 : Int))) (2 : Nat) (1 : Nat) [AV.int IntKind.i64 (fH2
  (List.take (2000 : Nat) zs) (0 : Int) + ((0 : Int) - ((40 : Int) + modZ b (150 : Int))))]) ∧ bif decide ¬vdE (setEl ([] ++ row6 (fH1 (List.take (2000 : Nat) zs) (0 : Int)) (fT1
  (List.take (2000 : Nat) zs) (0 : Int)) (fH2 (List.take (2000 : Nat) zs) (0 : Int)) (fT2 (List.take (2000 : Nat) zs) (0 : Int)) (fH3 (List.take (2000 : Nat) zs) (0 : Int)) (fT3
  (List.take (2000 : Nat) zs) (0 : Int))) (2 : Nat) (1 : Nat) [AV.int IntKind.i64 (fH2 (List.take (2000 : Nat) zs) (0 : Int) + ((0 : Int) - ((40 : Int) + modZ b (150 : Int))))]) = (0
  : Int) then True ∧ true = true else RdsP (setEl ([] ++ row6 (fH1 (List.take (2000 : Nat) zs) (0 : Int)) (fT1 (List.take (2000 : Nat) zs) (0 : Int)) (fH2 (List.take (2000 : Nat) zs)
  (0 : Int)) (fT2 (List.take (2000 : Nat) zs) (0 : Int)) (fH3 (List.take (2000 : Nat) zs) (0 : Int)) (fT3 (List.take (2000 : Nat) zs) (0 : Int))) (2 : Nat) (1 : Nat) [AV.int
  IntKind.i64 (fH2 (List.take (2000 : Nat) zs) (0 : Int) + ((0 : Int) - ((40 : Int) + modZ b (150 : Int))))]) ∧ bif decide (chE (setEl ([] ++ row6 (fH1 (List.take (2000 : Nat) zs) (0
  : Int)) (fT1 (List.take (2000 : Nat) zs) (0 : Int)) (fH2 (List.take (2000 : Nat) zs) (0 : Int)) (fT2 (List.take (2000 : Nat) zs) (0 : Int)) (fH3 (List.take (2000 : Nat) zs) (0 :
  Int)) (fT3 (List.take (2000 : Nat) zs) (0 : Int))) (2 : Nat) (1 : Nat) [AV.int IntKind.i64 (fH2 (List.take (2000 : Nat) zs) (0 : Int) + ((0 : Int) - ((40 : Int) + modZ b (150 :
  Int))))]) (10 : Int) = (0 : Int)) then EqP (iro (chL (setEl ([] ++ row6 (fH1 (List.take (2000 : Nat) zs) (0 : Int)) (fT1 (List.take (2000 : Nat) zs) (0 : Int)) (fH2 (List.take
  (2000 : Nat) zs) (0 : Int)) (fT2 (List.take (2000 : Nat) zs) (0 : Int)) (fH3 (List.take (2000 : Nat) zs) (0 : Int)) (fT3 (List.take (2000 : Nat) zs) (0 : Int))) (2 : Nat) (1 : Nat)
  [AV.int IntKind.i64 (fH2 (List.take (2000 : Nat) zs) (0 : Int) + ((0 : Int) - ((40 : Int) + modZ b (150 : Int))))]) (10 : Int))) [[AV.int IntKind.i64 (8 : Int)]] (1 : Nat) ∧ bif
  eqR (iro (chL (setEl ([] ++ row6 (fH1 (List.take (2000 : Nat) zs) (0 : Int)) (fT1 (List.take (2000 : Nat) zs) (0 : Int)) (fH2 (List.take (2000 : Nat) zs) (0 : Int)) (fT2 (List.take
  (2000 : Nat) zs) (0 : Int)) (fH3 (List.take (2000 : Nat) zs) (0 : Int)) (fT3 (List.take (2000 : Nat) zs) (0 : Int))) (2 : Nat) (1 : Nat) [AV.int IntKind.i64 (fH2 (List.take (2000 :
  Nat) zs) (0 : Int) + ((0 : Int) - ((40 : Int) + modZ b (150 : Int))))]) (10 : Int))) [[AV.int IntKind.i64 (8 : Int)]] then True ∧ true = true else false = true else false = true
  else False else False else bif decide (rng IntKind.i64 (fH2 (List.take (2000 : Nat) zs) (0 : Int) + ((40 : Int) + modZ b (150 : Int)))) then RdsP (setEl ([] ++ row6 (fH1 (List.take
  (2000 : Nat) zs) (0 : Int)) (fT1 (List.take (2000 : Nat) zs) (0 : Int)) (fH2 (List.take (2000 : Nat) zs) (0 : Int)) (fT2 (List.take (2000 : Nat) zs) (0 : Int)) (fH3 (List.take
  (2000 : Nat) zs) (0 : Int)) (fT3 (List.take (2000 : Nat) zs) (0 : Int))) (2 : Nat) (1 : Nat) [AV.int IntKind.i64 (fH2 (List.take (2000 : Nat) zs) (0 : Int) + ((40 : Int) + modZ b
  (150 : Int)))]) ∧ bif decide ¬vdE (setEl ([] ++ row6 (fH1 (List.take (2000 : Nat) zs) (0 : Int)) (fT1 (List.take (2000 : Nat) zs) (0 : Int)) (fH2 (List.take (2000 : Nat) zs) (0 :
  Int)) (fT2 (List.take (2000 : Nat) zs) (0 : Int)) (fH3 (List.take (2000 : Nat) zs) (0 : Int)) (fT3 (List.take (2000 : Nat) zs) (0 : Int))) (2 : Nat) (1 : Nat) [AV.int IntKind.i64
  (fH2 (List.take (2000 : Nat) zs) (0 : Int) + ((40 : Int) + modZ b (150 : Int)))]) = (0 : Int) then True ∧ true = true else RdsP (setEl ([] ++ row6 (fH1 (List.take (2000 : Nat) zs)
  (0 : Int)) (fT1 (List.take (2000 : Nat) zs) (0 : Int)) (fH2 (List.take (2000 : Nat) zs) (0 : Int)) (fT2 (List.take (2000 : Nat) zs) (0 : Int)) (fH3 (List.take (2000 : Nat) zs) (0 :
  Int)) (fT3 (List.take (2000 : Nat) zs) (0 : Int))) (2 : Nat) (1 : Nat) [AV.int IntKind.i64 (fH2 (List.take (2000 : Nat) zs) (0 : Int) + ((40 : Int) + modZ b (150 : Int)))]) ∧ bif
  decide (chE (setEl ([] ++ row6 (fH1 (List.take (2000 : Nat) zs) (0 : Int)) (fT1 (List.take (2000 : Nat) zs) (0 : Int)) (fH2 (List.take (2000 : Nat) zs) (0 : Int)) (fT2 (List.take
  (2000 : Nat) zs) (0 : Int)) (fH3 (List.take (2000 : Nat) zs) (0 : Int)) (fT3 (List.take (2000 : Nat) zs) (0 : Int))) (2 : Nat) (1 : Nat) [AV.int IntKind.i64 (fH2 (List.take (2000 :
  Nat) zs) (0 : Int) + ((40 : Int) + modZ b (150 : Int)))]) (10 : Int) = (0 : Int)) then EqP (iro (chL (setEl ([] ++ row6 (fH1 (List.take (2000 : Nat) zs) (0 : Int)) (fT1 (List.take
  (2000 : Nat) zs) (0 : Int)) (fH2 (List.take (2000 : Nat) zs) (0 : Int)) (fT2 (List.take (2000 : Nat) zs) (0 : Int)) (fH3 (List.take (2000 : Nat) zs) (0 : Int)) (fT3 (List.take
  (2000 : Nat) zs) (0 : Int))) (2 : Nat) (1 : Nat) [AV.int IntKind.i64 (fH2 (List.take (2000 : Nat) zs) (0 : Int) + ((40 : Int) + modZ b (150 : Int)))]) (10 : Int))) [[AV.int
  IntKind.i64 (8 : Int)]] (1 : Nat) ∧ bif eqR (iro (chL (setEl ([] ++ row6 (fH1 (List.take (2000 : Nat) zs) (0 : Int)) (fT1 (List.take (2000 : Nat) zs) (0 : Int)) (fH2 (List.take
  (2000 : Nat) zs) (0 : Int)) (fT2 (List.take (2000 : Nat) zs) (0 : Int)) (fH3 (List.take (2000 : Nat) zs) (0 : Int)) (fT3 (List.take (2000 : Nat) zs) (0 : Int))) (2 : Nat) (1 : Nat)
  [AV.int IntKind.i64 (fH2 (List.take (2000 : Nat) zs) (0 : Int) + ((40 : Int) + modZ b (150 : Int)))]) (10 : Int))) [[AV.int IntKind.i64 (8 : Int)]] then True ∧ true = true else
  false = true else false = true else False else False
set_option maxRecDepth 100000 in
theorem lFinds_P : lFinds_T vdE chL chE eqR fA fH1 fH2 fH3 fT1 fT2 fT3 rL rU bL bU botL := by
  unfold lFinds_T
  intro zs b w hz _ hb _
  have hs : SrcI (List.take 2000 zs) := SrcI.take hz
  have f := fit_ok (List.take 2000 zs) 0
  generalize List.take 2000 zs = X at *
  generalize fH1 X 0 = h1 at *
  generalize fH2 X 0 = h2 at *
  generalize fH3 X 0 = h3 at *
  generalize fT1 X 0 = t1 at *
  generalize fT2 X 0 = t2 at *
  generalize fT3 X 0 = t3 at *
  have rb := f.rds
  have hr : RdsP (row6 h1 t1 h2 t2 h3 t3) := rds6 (by unfold R64; omega) (by unfold R64; omega) (by unfold R64; omega) (by unfold R64; omega) (by unfold R64; omega) (by unfold R64; omega)
  obtain ⟨n1, n2⟩ := f.none
  have m1 := modZ_in b (n := 150) (by decide)
  have m2 := modZ_in b (n := 100) (by decide)
  generalize modZ b 150 = u at *
  generalize modZ b 100 = v at *
  rw [n1, n2]
  refine ⟨trivial, ⟨hs, by decide⟩, hr, cd0 (by decide) (cd0 (by decide) ⟨trivial, cdI (by omega) ?_⟩)⟩
  have fw : ∀ d : Int, 100 ≤ d ∧ d ≤ 200 ∨ -200 ≤ d ∧ d ≤ -100 → RdsP (row6 h1 t1 h2 (t2 + d) h3 t3) ∧ cond (decide ¬vdE (row6 h1 t1 h2 (t2 + d) h3 t3) = 0) (True ∧ true = true) (RdsP (row6 h1 t1 h2 (t2 + d) h3 t3) ∧ cond (decide (chE (row6 h1 t1 h2 (t2 + d) h3 t3) 10 = 0)) (EqP (iro (chL (row6 h1 t1 h2 (t2 + d) h3 t3) 10)) [[.int .i64 9]] 1 ∧ cond (eqR (iro (chL (row6 h1 t1 h2 (t2 + d) h3 t3) 10)) [[.int .i64 9]]) (True ∧ true = true) (false = true)) (false = true)) := by
    intro d hd
    have hr : RdsP (row6 h1 t1 h2 (t2 + d) h3 t3) := rds6 (by unfold R64; omega) (by unfold R64; omega) (by unfold R64; omega) (by unfold R64; omega) (by unfold R64; omega) (by unfold R64; omega)
    refine ⟨hr, cs (fun _ => ⟨trivial, rfl⟩) (fun q => ⟨hr, ?_⟩)⟩
    obtain ⟨e1, e2⟩ := f.warm (d := d) (by omega) (Decidable.not_not.1 q)
    rw [e1, e2]
    exact cd1 rfl ⟨⟨iro_ints (by simp [R64]), iro_ints (l := [9]) (by simp [R64]), rfl, by decide⟩, c1 (eqR_iro [9]) ⟨trivial, rfl⟩⟩
  have fh : ∀ d : Int, 40 ≤ d ∧ d ≤ 200 ∨ -200 ≤ d ∧ d ≤ -40 → RdsP (row6 h1 t1 (h2 + d) t2 h3 t3) ∧ cond (decide ¬vdE (row6 h1 t1 (h2 + d) t2 h3 t3) = 0) (True ∧ true = true) (RdsP (row6 h1 t1 (h2 + d) t2 h3 t3) ∧ cond (decide (chE (row6 h1 t1 (h2 + d) t2 h3 t3) 10 = 0)) (EqP (iro (chL (row6 h1 t1 (h2 + d) t2 h3 t3) 10)) [[.int .i64 8]] 1 ∧ cond (eqR (iro (chL (row6 h1 t1 (h2 + d) t2 h3 t3) 10)) [[.int .i64 8]]) (True ∧ true = true) (false = true)) (false = true)) := by
    intro d hd
    have hr : RdsP (row6 h1 t1 (h2 + d) t2 h3 t3) := rds6 (by unfold R64; omega) (by unfold R64; omega) (by unfold R64; omega) (by unfold R64; omega) (by unfold R64; omega) (by unfold R64; omega)
    refine ⟨hr, cs (fun _ => ⟨trivial, rfl⟩) (fun q => ⟨hr, ?_⟩)⟩
    obtain ⟨e1, e2⟩ := f.height (d := d) (by omega) (Decidable.not_not.1 q)
    rw [e1, e2]
    exact cd1 rfl ⟨⟨iro_ints (by simp [R64]), iro_ints (l := [8]) (by simp [R64]), rfl, by decide⟩, c1 (eqR_iro [8]) ⟨trivial, rfl⟩⟩
  refine csplit (fun _ => ⟨trivial, cdI (by omega) (cs (fun _ => cdI (by omega) (cdI (by omega) ?_)) (fun _ => cdI (by omega) ?_))⟩) (fun _ => cs (fun _ => cdI (by omega) (cdI (by omega) ?_)) (fun _ => cdI (by omega) ?_))
  · exact fw (0 - (100 + v)) (by omega)
  · exact fw (100 + v) (by omega)
  · exact fh (0 - (40 + u)) (by omega)
  · exact fh (40 + u) (by omega)
def lFinds_S (vdE : List (List AV) → Int) (chL : List (List AV) → Int → List Int) (chE : List (List AV) → Int → Int) (eqR : List (List AV) → List (List AV) → Bool) (fA : List (List AV) → Int → Int) (fH1 : List (List AV) → Int → Int) (fH2 : List (List AV) → Int → Int) (fH3 : List (List AV) → Int → Int) (fT1 : List (List AV) → Int → Int) (fT2 : List (List AV) → Int → Int) (fT3 : List (List AV) → Int → Int) (rL : List (List AV) → Int) (rU : List (List AV) → Int) (bL : List (List AV) → Bool) (bU : List (List AV) → Bool) (botL : Int → Int → Int → List Int) : Prop := ∀ (zs : List (List AV)) (b : Int) (w : Bool), IntsA zs → fnK Tryd.prog { glob := glb, spec := lk [(9, (hcheck_s vdE rL rU bL bU chL chE botL)), (10, mod_s), (11, (rvalid_s vdE)), (12, hawake_s)], specH := lk [(7, newsrc_s), (8, (hfit_s fA fH1 fH2 fH3 fT1 fT2 fT3)), (13, (kints_s eqR))], nowf := true } { nt := 80, drop := drp [(1, 196608), (2, 786432), (3, 32505856), (4, 2113929216), (6, 30064771072), (7, 240518168576), (9, 3848290697216), (10, 13194139533312), (11, 105553116266496), (12, 71916856549572608), (13, 216172782113783808), (14, 576460752303423488), (15, 35740566642812256256), (16, 1208888926126481755602944)], frz := fun id => cond (Nat.beq id 3) [8] (cond (Nat.beq id 13) [11] []) } (fun _ _ => none) 6 Tryd.f3 [.sl 1 false zs, .int .i64 b, .bool w] (.bool true)
set_option maxRecDepth 100000 in
theorem lFinds_e (vdE : List (List AV) → Int) (chL : List (List AV) → Int → List Int) (chE : List (List AV) → Int → Int) (eqR : List (List AV) → List (List AV) → Bool) (fA : List (List AV) → Int → Int) (fH1 : List (List AV) → Int → Int) (fH2 : List (List AV) → Int → Int) (fH3 : List (List AV) → Int → Int) (fT1 : List (List AV) → Int → Int) (fT2 : List (List AV) → Int → Int) (fT3 : List (List AV) → Int → Int) (rL : List (List AV) → Int) (rU : List (List AV) → Int) (bL : List (List AV) → Bool) (bU : List (List AV) → Bool) (botL : Int → Int → Int → List Int) : lFinds_T vdE chL chE eqR fA fH1 fH2 fH3 fT1 fT2 fT3 rL rU bL bU botL = lFinds_S vdE chL chE eqR fA fH1 fH2 fH3 fT1 fT2 fT3 rL rU bL bU botL := by kernel_rfl
theorem lFinds_v : lFinds_S vdE chL chE eqR fA fH1 fH2 fH3 fT1 fT2 fT3 rL rU bL bU botL := @Eq.mp (lFinds_T vdE chL chE eqR fA fH1 fH2 fH3 fT1 fT2 fT3 rL rU bL bU botL) (lFinds_S vdE chL chE eqR fA fH1 fH2 fH3 fT1 fT2 fT3 rL rU bL bU botL) (lFinds_e vdE chL chE eqR fA fH1 fH2 fH3 fT1 fT2 fT3 rL rU bL bU botL) lFinds_P
theorem lFinds_ok : SOK Tryd.prog glb 3 (lFinds_s vdE chL chE eqR fA fH1 fH2 fH3 fT1 fT2 fT3) := by
  refine ⟨fok Tryd.func3 (by kernel_rfl) (by kernel_rfl), ?_⟩
  intro xs pre r h hp
  unfold lFinds_s at h
  split at h
  · simp only [Option.some.injEq, Prod.mk.injEq] at h
    obtain ⟨h1, h2⟩ := h
    subst h1 h2
    exact fnK_sound tyNil (by exact specOK rfl rfl ⟨hcheck_ok, mod_ok glb, rvalid_ok glb, hawake_ok, trivial⟩ ⟨newsrc_ok glb, hfit_ok glb, kints_ok glb, trivial⟩) (by kernel_rfl) Tryd.func3 rfl (lFinds_v  _ _ _ hp)
  · cases h
end Go.Proofs.YtboknhifjhjkdaaDoor
