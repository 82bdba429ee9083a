/- Hydrostatic: the law of the ends. -/
import Derived.Test.YtboknhifjhjkdaaDoorHyC
namespace Go.Proofs.YtboknhifjhjkdaaDoor
open Go
set_option linter.unusedVariables false
set_option linter.unusedSimpArgs false

theorem Fit.top {h1 t1 h2 t2 h3 t3 e g d : Int} (f : Fit h1 t1 h2 t2 h3 t3) (hd : 200 ≤ d ∧ d ≤ 300) (he : (e = h3 + d ∧ g = t3) ∨ (e = h3 ∧ g = t3 + d)) (hv : vdE (row6 h1 t1 h2 t2 e g) = 0) :
    rL (row6 h1 t1 h2 t2 e g) = rL (row6 h1 t1 h2 t2 h3 t3) ∧ chE (row6 h1 t1 h2 t2 e g) 20 = 0 ∧ chL (row6 h1 t1 h2 t2 e g) 20 = [10, 11] := by
  obtain ⟨e1, e2⟩ := ch6e (m := 20) hv (by decide)
  have r1 := (rs6 (sm6 (vd6.1 hv))).1
  have r2 := (rs6 (sm6 f.in6)).1
  have := f.lo
  have := f.up
  exact ⟨r1.trans r2.symm, e1, by rw [e2]; exact chR_up (wrg_f (by omega)) (wrg_t (by omega))⟩
theorem Fit.bot {h1 t1 h2 t2 h3 t3 a b d : Int} (f : Fit h1 t1 h2 t2 h3 t3) (hd : 200 ≤ d ∧ d ≤ 300) (he : (a = h1 + d ∧ b = t1) ∨ (a = h1 ∧ b = t1 + d)) (hv : vdE (row6 a b h2 t2 h3 t3) = 0) :
    rU (row6 a b h2 t2 h3 t3) = rU (row6 h1 t1 h2 t2 h3 t3) ∧ chE (row6 a b h2 t2 h3 t3) 20 = 0 ∧ chL (row6 a b h2 t2 h3 t3) 20 = [6, 7] := by
  obtain ⟨e1, e2⟩ := ch6e (m := 20) hv (by decide)
  have r1 := (rs6 (sm6 (vd6.1 hv))).2.2.1
  have r2 := (rs6 (sm6 f.in6)).2.2.1
  have := f.lo
  have := f.up
  exact ⟨r1.trans r2.symm, e1, by rw [e2]; exact chR_lo (wrg_t (by omega)) (wrg_f (by omega))⟩
def lEnds_s (vdE : List (List AV) → Int) (chL : List (List AV) → Int → List Int) (chE : List (List AV) → Int → Int) (eqR : List (List AV) → List (List AV) → Bool) (fA : List (List AV) → Int → Int) (fH1 : List (List AV) → Int → Int) (fH2 : List (List AV) → Int → Int) (fH3 : List (List AV) → Int → Int) (fT1 : List (List AV) → Int → Int) (fT2 : List (List AV) → Int → Int) (fT3 : List (List AV) → Int → Int) (rL : List (List AV) → Int) (rU : List (List AV) → Int) (bL : List (List AV) → Bool) (bU : List (List AV) → Bool) : Sp
  | [.sl 1 false zs, .int .i64 b, .bool w] => some (IntsA zs, .bool true)
  | _ => none
set_option maxRecDepth 100000 in
def lEnds_T (vdE : List (List AV) → Int) (chL : List (List AV) → Int → List Int) (chE : List (List AV) → Int → Int) (eqR : List (List AV) → List (List AV) → Bool) (fA : List (List AV) → Int → Int) (fH1 : List (List AV) → Int → Int) (fH2 : List (List AV) → Int → Int) (fH3 : List (List AV) → Int → Int) (fT1 : List (List AV) → Int → Int) (fT2 : List (List AV) → Int → Int) (fT3 : List (List AV) → Int → Int) (rL : List (List AV) → Int) (rU : List (List AV) → Int) (bL : List (List AV) → Bool) (bU : List (List AV) → Bool) (botL : Int → Int → Int → List Int) : Prop :=
  ∀ (zs : List (List AV)) (b : Int) (w : Bool), (∀ (x : List AV), List.Mem x zs → ∃ n, x = [AV.int IntKind.i64 n] ∧ rng IntKind.i64 n) → True → (-9223372036854775808 : Int) ≤ b ∧ b ≤
  (9223372036854775807 : Int) → True → True ∧ (SrcI (List.take (2000 : Nat) zs) ∧ (0 : Int) ≤ (0 : Int)) ∧ (SrcI (List.take (2000 : Nat) zs) ∧ (0 : Int) ≤ fA (List.take (2000 : Nat)
  zs) (0 : Int)) ∧ bif w then (SrcI (List.take (2000 : Nat) zs) ∧ (0 : Int) ≤ rawA (List.take (2000 : Nat) zs) (fA (List.take (2000 : Nat) zs) (0 : Int))) ∧ bif decide (rng
  IntKind.i64 ((4 : Int) + srcN (List.take (2000 : Nat) zs) (rawA (List.take (2000 : Nat) zs) (fA (List.take (2000 : Nat) zs) (0 : Int))) (2 : Int))) then bif decide ((0 : Int) ≤ (4
  : Int) + srcN (List.take (2000 : Nat) zs) (rawA (List.take (2000 : Nat) zs) (fA (List.take (2000 : Nat) zs) (0 : Int))) (2 : Int) ∧ (4 : Int) + srcN (List.take (2000 : Nat) zs)
  (rawA (List.take (2000 : Nat) zs) (fA (List.take (2000 : Nat) zs) (0 : Int))) (2 : Int) < (↑([] ++ row6 (fH1 (List.take (2000 : Nat) zs) (0 : Int)) (fT1 (List.take (2000 : Nat) zs)
  (0 : Int)) (fH2 (List.take (2000 : Nat) zs) (0 : Int)) (fT2 (List.take (2000 : Nat) zs) (0 : Int)) (fH3 (List.take (2000 : Nat) zs) (0 : Int)) (fT3 (List.take (2000 : Nat) zs) (0 :
  Int))).length : Int)) then bif decide (([] ++ row6 (fH1 (List.take (2000 : Nat) zs) (0 : Int)) (fT1 (List.take (2000 : Nat) zs) (0 : Int)) (fH2 (List.take (2000 : Nat) zs) (0 :
  Int)) (fT2 (List.take (2000 : Nat) zs) (0 : Int)) (fH3 (List.take (2000 : Nat) zs) (0 : Int)) (fT3 (List.take (2000 : Nat) zs) (0 : Int))).length = ([] ++ row6 (fH1 (List.take
  (2000 : Nat) zs) (0 : Int)) (fT1 (List.take (2000 : Nat) zs) (0 : Int)) (fH2 (List.take (2000 : Nat) zs) (0 : Int)) (fT2 (List.take (2000 : Nat) zs) (0 : Int)) (fH3 (List.take
  (2000 : Nat) zs) (0 : Int)) (fT3 (List.take (2000 : Nat) zs) (0 : Int))).length ∧ ((4 : Int) + srcN (List.take (2000 : Nat) zs) (rawA (List.take (2000 : Nat) zs) (fA (List.take
  (2000 : Nat) zs) (0 : Int))) (2 : Int)).toNat < ([] ++ row6 (fH1 (List.take (2000 : Nat) zs) (0 : Int)) (fT1 (List.take (2000 : Nat) zs) (0 : Int)) (fH2 (List.take (2000 : Nat) zs)
  (0 : Int)) (fT2 (List.take (2000 : Nat) zs) (0 : Int)) (fH3 (List.take (2000 : Nat) zs) (0 : Int)) (fT3 (List.take (2000 : Nat) zs) (0 : Int))).length) then ∃ n, List.take [AV.int
  IntKind.i64 n].length (List.drop (1 : Nat) (([] ++ row6 (fH1 (List.take (2000 : Nat) zs) (0 : Int)) (fT1 (List.take (2000 : Nat) zs) (0 : Int)) (fH2 (List.take (2000 : Nat) zs) (0
  : Int)) (fT2 (List.take (2000 : Nat) zs) (0 : Int)) (fH3 (List.take (2000 : Nat) zs) (0 : Int)) (fT3 (List.take (2000 : Nat) zs) (0 : Int))).getD ((4 : Int) + srcN (List.take (2000
  : Nat) zs) (rawA (List.take (2000 : Nat) zs) (fA (List.take (2000 : Nat) zs) (0 : Int))) (2 : Int)).toNat [])) = [AV.int IntKind.i64 n] ∧ True ∧ bif decide (rng IntKind.i64 ((200 :
  Int) + modZ b (80 : Int))) then bif decide (rng IntKind.i64 (n + ((200 : Int) + modZ b (80 : Int)))) then bif decide ((0 : Int) ≤ (4 : Int) + srcN (List.take (2000 : Nat) zs) (rawA
  (List.take (2000 : Nat) zs) (fA (List.take (2000 : Nat) zs) (0 : Int))) (2 : Int) ∧ (4 : Int) + srcN (List.take (2000 : Nat) zs) (rawA (List.take (2000 : Nat) zs) (fA (List.take
  (2000 : Nat) zs) (0 : Int))) (2 : Int) < (↑([] ++ row6 (fH1 (List.take (2000 : Nat) zs) (0 : Int)) (fT1 (List.take (2000 : Nat) zs) (0 : Int)) (fH2 (List.take (2000 : Nat) zs) (0 :
  Int)) (fT2 (List.take (2000 : Nat) zs) (0 : Int)) (fH3 (List.take (2000 : Nat) zs) (0 : Int)) (fT3 (List.take (2000 : Nat) zs) (0 : Int))).length : Int)) then bif decide (([] ++
  row6 (fH1 (List.take (2000 : Nat) zs) (0 : Int)) (fT1 (List.take (2000 : Nat) zs) (0 : Int)) (fH2 (List.take (2000 : Nat) zs) (0 : Int)) (fT2 (List.take (2000 : Nat) zs) (0 : Int))
  (fH3 (List.take (2000 : Nat) zs) (0 : Int)) (fT3 (List.take (2000 : Nat) zs) (0 : Int))).length = ([] ++ row6 (fH1 (List.take (2000 : Nat) zs) (0 : Int)) (fT1 (List.take (2000 :
  Nat) zs) (0 : Int)) (fH2 (List.take (2000 : Nat) zs) (0 : Int)) (fT2 (List.take (2000 : Nat) zs) (0 : Int)) (fH3 (List.take (2000 : Nat) zs) (0 : Int)) (fT3 (List.take (2000 : Nat)
  zs) (0 : Int))).length ∧ ((4 : Int) + srcN (List.take (2000 : Nat) zs) (rawA (List.take (2000 : Nat) zs) (fA (List.take (2000 : Nat) zs) (0 : Int))) (2 : Int)).toNat < ([] ++ row6
  (fH1 (List.take (2000 : Nat) zs) (0 : Int)) (fT1 (List.take (2000 : Nat) zs) (0 : Int)) (fH2 (List.take (2000 : Nat) zs) (0 : Int)) (fT2 (List.take (2000 : Nat) zs) (0 : Int)) (fH3
  (List.take (2000 : Nat) zs) (0 : Int)) (fT3 (List.take (2000 : Nat) zs) (0 : Int))).length) then bif decide (([] ++ row6 (fH1 (List.take (2000 : Nat) zs) (0 : Int)) (fT1 (List.take
  (2000 : Nat) zs) (0 : Int)) (fH2 (List.take (2000 : Nat) zs) (0 : Int)) (fT2 (List.take (2000 : Nat) zs) (0 : Int)) (fH3 (List.take (2000 : Nat) zs) (0 : Int)) (fT3 (List.take
  (2000 : Nat) zs) (0 : Int))).length = (setEl ([] ++ row6 (fH1 (List.take (2000 : Nat) zs) (0 : Int)) (fT1 (List.take (2000 : Nat) zs) (0 : Int)) (fH2 (List.take (2000 : Nat) zs) (0
  : Int)) (fT2 (List.take (2000 : Nat) zs) (0 : Int)) (fH3 (List.take (2000 : Nat) zs) (0 : Int)) (fT3 (List.take (2000 : Nat) zs) (0 : Int))) ((4 : Int) + srcN (List.take (2000 :
  Nat) zs) (rawA (List.take (2000 : Nat) zs) (fA (List.take (2000 : Nat) zs) (0 : Int))) (2 : Int)).toNat (1 : Nat) [AV.int IntKind.i64 (n + ((200 : Int) + modZ b (80 :
  Int)))]).length) then RdsP (setEl ([] ++ row6 (fH1 (List.take (2000 : Nat) zs) (0 : Int)) (fT1 (List.take (2000 : Nat) zs) (0 : Int)) (fH2 (List.take (2000 : Nat) zs) (0 : Int))
  (fT2 (List.take (2000 : Nat) zs) (0 : Int)) (fH3 (List.take (2000 : Nat) zs) (0 : Int)) (fT3 (List.take (2000 : Nat) zs) (0 : Int))) ((4 : Int) + srcN (List.take (2000 : Nat) zs)
  (rawA (List.take (2000 : Nat) zs) (fA (List.take (2000 : Nat) zs) (0 : Int))) (2 : Int)).toNat (1 : Nat) [AV.int IntKind.i64 (n + ((200 : Int) + modZ b (80 : Int)))]) ∧ bif decide
  ¬vdE (setEl ([] ++ row6 (fH1 (List.take (2000 : Nat) zs) (0 : Int)) (fT1 (List.take (2000 : Nat) zs) (0 : Int)) (fH2 (List.take (2000 : Nat) zs) (0 : Int)) (fT2 (List.take (2000 :
  Nat) zs) (0 : Int)) (fH3 (List.take (2000 : Nat) zs) (0 : Int)) (fT3 (List.take (2000 : Nat) zs) (0 : Int))) ((4 : Int) + srcN (List.take (2000 : Nat) zs) (rawA (List.take (2000 :
  Nat) zs) (fA (List.take (2000 : Nat) zs) (0 : Int))) (2 : Int)).toNat (1 : Nat) [AV.int IntKind.i64 (n + ((200 : Int) + modZ b (80 : Int)))]) = (0 : Int) then True ∧ true = true
  else bif decide (([] ++ row6 (fH1 (List.take (2000 : Nat) zs) (0 : Int)) (fT1 (List.take (2000 : Nat) zs) (0 : Int)) (fH2 (List.take (2000 : Nat) zs) (0 : Int)) (fT2 (List.take
  (2000 : Nat) zs) (0 : Int)) (fH3 (List.take (2000 : Nat) zs) (0 : Int)) (fT3 (List.take (2000 : Nat) zs) (0 : Int))).length = (setEl ([] ++ row6 (fH1 (List.take (2000 : Nat) zs) (0
  : Int)) (fT1 (List.take (2000 : Nat) zs) (0 : Int)) (fH2 (List.take (2000 : Nat) zs) (0 : Int)) (fT2 (List.take (2000 : Nat) zs) (0 : Int)) (fH3 (List.take (2000 : Nat) zs) (0 :
  Int)) (fT3 (List.take (2000 : Nat) zs) (0 : Int))) ((4 : Int) + srcN (List.take (2000 : Nat) zs) (rawA (List.take (2000 : Nat) zs) (fA (List.take (2000 : Nat) zs) (0 : Int))) (2 :
  Int)).toNat (1 : Nat) [AV.int IntKind.i64 (n + ((200 : Int) + modZ b (80 : Int)))]).length) then RdsP (setEl ([] ++ row6 (fH1 (List.take (2000 : Nat) zs) (0 : Int)) (fT1 (List.take
  (2000 : Nat) zs) (0 : Int)) (fH2 (List.take (2000 : Nat) zs) (0 : Int)) (fT2 (List.take (2000 : Nat) zs) (0 : Int)) (fH3 (List.take (2000 : Nat) zs) (0 : Int)) (fT3 (List.take
  (2000 : Nat) zs) (0 : Int))) ((4 : Int) + srcN (List.take (2000 : Nat) zs) (rawA (List.take (2000 : Nat) zs) (fA (List.take (2000 : Nat) zs) (0 : Int))) (2 : Int)).toNat (1 : Nat)
  [AV.int IntKind.i64 (n + ((200 : Int) + modZ b (80 : Int)))]) ∧ bif decide (([] ++ row6 (fH1 (List.take (2000 : Nat) zs) (0 : Int)) (fT1 (List.take (2000 : Nat) zs) (0 : Int)) (fH2
  (List.take (2000 : Nat) zs) (0 : Int)) (fT2 (List.take (2000 : Nat) zs) (0 : Int)) (fH3 (List.take (2000 : Nat) zs) (0 : Int)) (fT3 (List.take (2000 : Nat) zs) (0 : Int))).length =
  (setEl ([] ++ row6 (fH1 (List.take (2000 : Nat) zs) (0 : Int)) (fT1 (List.take (2000 : Nat) zs) (0 : Int)) (fH2 (List.take (2000 : Nat) zs) (0 : Int)) (fT2 (List.take (2000 : Nat)
  zs) (0 : Int)) (fH3 (List.take (2000 : Nat) zs) (0 : Int)) (fT3 (List.take (2000 : Nat) zs) (0 : Int))) ((4 : Int) + srcN (List.take (2000 : Nat) zs) (rawA (List.take (2000 : Nat)
  zs) (fA (List.take (2000 : Nat) zs) (0 : Int))) (2 : Int)).toNat (1 : Nat) [AV.int IntKind.i64 (n + ((200 : Int) + modZ b (80 : Int)))]).length) then RdsP (setEl ([] ++ row6 (fH1
  (List.take (2000 : Nat) zs) (0 : Int)) (fT1 (List.take (2000 : Nat) zs) (0 : Int)) (fH2 (List.take (2000 : Nat) zs) (0 : Int)) (fT2 (List.take (2000 : Nat) zs) (0 : Int)) (fH3
  (List.take (2000 : Nat) zs) (0 : Int)) (fT3 (List.take (2000 : Nat) zs) (0 : Int))) ((4 : Int) + srcN (List.take (2000 : Nat) zs) (rawA (List.take (2000 : Nat) zs) (fA (List.take
  (2000 : Nat) zs) (0 : Int))) (2 : Int)).toNat (1 : Nat) [AV.int IntKind.i64 (n + ((200 : Int) + modZ b (80 : Int)))]) ∧ RdsP (row6 (fH1 (List.take (2000 : Nat) zs) (0 : Int)) (fT1
  (List.take (2000 : Nat) zs) (0 : Int)) (fH2 (List.take (2000 : Nat) zs) (0 : Int)) (fT2 (List.take (2000 : Nat) zs) (0 : Int)) (fH3 (List.take (2000 : Nat) zs) (0 : Int)) (fT3
  (List.take (2000 : Nat) zs) (0 : Int))) ∧ bif w then bif decide ¬rL (setEl ([] ++ row6 (fH1 (List.take (2000 : Nat) zs) (0 : Int)) (fT1 (List.take (2000 : Nat) zs) (0 : Int)) (fH2
  (List.take (2000 : Nat) zs) (0 : Int)) (fT2 (List.take (2000 : Nat) zs) (0 : Int)) (fH3 (List.take (2000 : Nat) zs) (0 : Int)) (fT3 (List.take (2000 : Nat) zs) (0 : Int))) ((4 :
  Int) + srcN (List.take (2000 : Nat) zs) (rawA (List.take (2000 : Nat) zs) (fA (List.take (2000 : Nat) zs) (0 : Int))) (2 : Int)).toNat (1 : Nat) [AV.int IntKind.i64 (n + ((200 :
  Int) + modZ b (80 : Int)))]) = rL (row6 (fH1 (List.take (2000 : Nat) zs) (0 : Int)) (fT1 (List.take (2000 : Nat) zs) (0 : Int)) (fH2 (List.take (2000 : Nat) zs) (0 : Int)) (fT2
  (List.take (2000 : Nat) zs) (0 : Int)) (fH3 (List.take (2000 : Nat) zs) (0 : Int)) (fT3 (List.take (2000 : Nat) zs) (0 : Int))) then false = true else bif !w then bif decide ¬rU
  (setEl ([] ++ row6 (fH1 (List.take (2000 : Nat) zs) (0 : Int)) (fT1 (List.take (2000 : Nat) zs) (0 : Int)) (fH2 (List.take (2000 : Nat) zs) (0 : Int)) (fT2 (List.take (2000 : Nat)
  zs) (0 : Int)) (fH3 (List.take (2000 : Nat) zs) (0 : Int)) (fT3 (List.take (2000 : Nat) zs) (0 : Int))) ((4 : Int) + srcN (List.take (2000 : Nat) zs) (rawA (List.take (2000 : Nat)
  zs) (fA (List.take (2000 : Nat) zs) (0 : Int))) (2 : Int)).toNat (1 : Nat) [AV.int IntKind.i64 (n + ((200 : Int) + modZ b (80 : Int)))]) = rU (row6 (fH1 (List.take (2000 : Nat) zs)
  (0 : Int)) (fT1 (List.take (2000 : Nat) zs) (0 : Int)) (fH2 (List.take (2000 : Nat) zs) (0 : Int)) (fT2 (List.take (2000 : Nat) zs) (0 : Int)) (fH3 (List.take (2000 : Nat) zs) (0 :
  Int)) (fT3 (List.take (2000 : Nat) zs) (0 : Int))) then false = true else bif decide (chE (setEl ([] ++ row6 (fH1 (List.take (2000 : Nat) zs) (0 : Int)) (fT1 (List.take (2000 :
  Nat) zs) (0 : Int)) (fH2 (List.take (2000 : Nat) zs) (0 : Int)) (fT2 (List.take (2000 : Nat) zs) (0 : Int)) (fH3 (List.take (2000 : Nat) zs) (0 : Int)) (fT3 (List.take (2000 : Nat)
  zs) (0 : Int))) ((4 : Int) + srcN (List.take (2000 : Nat) zs) (rawA (List.take (2000 : Nat) zs) (fA (List.take (2000 : Nat) zs) (0 : Int))) (2 : Int)).toNat (1 : Nat) [AV.int
  IntKind.i64 (n + ((200 : Int) + modZ b (80 : Int)))]) (20 : Int) = (0 : Int)) then EqP (iro (chL (setEl ([] ++ row6 (fH1 (List.take (2000 : Nat) zs) (0 : Int)) (fT1 (List.take
  (2000 : Nat) zs) (0 : Int)) (fH2 (List.take (2000 : Nat) zs) (0 : Int)) (fT2 (List.take (2000 : Nat) zs) (0 : Int)) (fH3 (List.take (2000 : Nat) zs) (0 : Int)) (fT3 (List.take
  (2000 : Nat) zs) (0 : Int))) ((4 : Int) + srcN (List.take (2000 : Nat) zs) (rawA (List.take (2000 : Nat) zs) (fA (List.take (2000 : Nat) zs) (0 : Int))) (2 : Int)).toNat (1 : Nat)
  [AV.int IntKind.i64 (n + ((200 : Int) + modZ b (80 : Int)))]) (20 : Int))) [[AV.int IntKind.i64 (10 : Int)], [AV.int IntKind.i64 (11 : Int)]] (2 : Nat) ∧ bif eqR (iro (chL (setEl
  ([] ++ row6 (fH1 (List.take (2000 : Nat) zs) (0 : Int)) (fT1 (List.take (2000 : Nat) zs) (0 : Int)) (fH2 (List.take (2000 : Nat) zs) (0 : Int)) (fT2 (List.take (2000 : Nat) zs) (0
  : Int)) (fH3 (List.take (2000 : Nat) zs) (0 : Int)) (fT3 (List.take (2000 : Nat) zs) (0 : Int))) ((4 : Int) + srcN (List.take (2000 : Nat) zs) (rawA (List.take (2000 : Nat) zs) (fA
  (List.take (2000 : Nat) zs) (0 : Int))) (2 : Int)).toNat (1 : Nat) [AV.int IntKind.i64 (n + ((200 : Int) + modZ b (80 : Int)))]) (20 : Int))) [[AV.int IntKind.i64 (10 : Int)],
  [AV.int IntKind.i64 (11 : Int)]] then True ∧ true = true else false = true else false = true else bif decide (chE (setEl ([] ++ row6 (fH1 (List.take (2000 : Nat) zs) (0 : Int))
  (fT1 (List.take (2000 : Nat) zs) (0 : Int)) (fH2 (List.take (2000 : Nat) zs) (0 : Int)) (fT2 (List.take (2000 : Nat) zs) (0 : Int)) (fH3 (List.take (2000 : Nat) zs) (0 : Int)) (fT3
  (List.take (2000 : Nat) zs) (0 : Int))) ((4 : Int) + srcN (List.take (2000 : Nat) zs) (rawA (List.take (2000 : Nat) zs) (fA (List.take (2000 : Nat) zs) (0 : Int))) (2 : Int)).toNat
  (1 : Nat) [AV.int IntKind.i64 (n + ((200 : Int) + modZ b (80 : Int)))]) (20 : Int) = (0 : Int)) then EqP (iro (chL (setEl ([] ++ row6 (fH1 (List.take (2000 : Nat) zs) (0 : Int))
  (fT1 (List.take (2000 : Nat) zs) (0 : Int)) (fH2 (List.take (2000 : Nat) zs) (0 : Int)) (fT2 (List.take (2000 : Nat) zs) (0 : Int)) (fH3 (List.take (2000 : Nat) zs) (0 : Int)) (fT3
  (List.take (2000 : Nat) zs) (0 : Int))) ((4 : Int) + srcN (List.take (2000 : Nat) zs) (rawA (List.take (2000 : Nat) zs) (fA (List.take (2000 : Nat) zs) (0 : Int))) (2 : Int)).toNat
  (1 : Nat) [AV.int IntKind.i64 (n + ((200 : Int) + modZ b (80 : Int)))]) (20 : Int))) [[AV.int IntKind.i64 (10 : Int)], [AV.int IntKind.i64 (11 : Int)]] (2 : Nat) ∧ bif eqR (iro
  (chL (setEl ([] ++ row6 (fH1 (List.take (2000 : Nat) zs) (0 : Int)) (fT1 (List.take (2000 : Nat) zs) (0 : Int)) (fH2 (List.take (2000 : Nat) zs) (0 : Int)) (fT2 (List.take (2000 :
  Nat) zs) (0 : Int)) (fH3 (List.take (2000 : Nat) zs) (0 : Int)) (fT3 (List.take (2000 : Nat) zs) (0 : Int))) ((4 : Int) + srcN (List.take (2000 : Nat) zs) (rawA (List.take (2000 :
  Nat) zs) (fA (List.take (2000 : Nat) zs) (0 : Int))) (2 : Int)).toNat (1 : Nat) [AV.int IntKind.i64 (n + ((200 : Int) + modZ b (80 : Int)))]) (20 : Int))) [[AV.int IntKind.i64 (10
  : Int)], [AV.int IntKind.i64 (11 : Int)]] then True ∧ true = true else false = true else false = true else bif !w then bif decide ¬rU (setEl ([] ++ row6 (fH1 (List.take (2000 :
  Nat) zs) (0 : Int)) (fT1 (List.take (2000 : Nat) zs) (0 : Int)) (fH2 (List.take (2000 : Nat) zs) (0 : Int)) (fT2 (List.take (2000 : Nat) zs) (0 : Int)) (fH3 (List.take (2000 : Nat)
  zs) (0 : Int)) (fT3 (List.take (2000 : Nat) zs) (0 : Int))) ((4 : Int) + srcN (List.take (2000 : Nat) zs) (rawA (List.take (2000 : Nat) zs) (fA (List.take (2000 : Nat) zs) (0 :
  Int))) (2 : Int)).toNat (1 : Nat) [AV.int IntKind.i64 (n + ((200 : Int) + modZ b (80 : Int)))]) = rU (row6 (fH1 (List.take (2000 : Nat) zs) (0 : Int)) (fT1 (List.take (2000 : Nat)
  zs) (0 : Int)) (fH2 (List.take (2000 : Nat) zs) (0 : Int)) (fT2 (List.take (2000 : Nat) zs) (0 : Int)) (fH3 (List.take (2000 : Nat) zs) (0 : Int)) (fT3 (List.take (2000 : Nat) zs)
  (0 : Int))) then false = true else bif decide (chE (setEl ([] ++ row6 (fH1 (List.take (2000 : Nat) zs) (0 : Int)) (fT1 (List.take (2000 : Nat) zs) (0 : Int)) (fH2 (List.take (2000
  : Nat) zs) (0 : Int)) (fT2 (List.take (2000 : Nat) zs) (0 : Int)) (fH3 (List.take (2000 : Nat) zs) (0 : Int)) (fT3 (List.take (2000 : Nat) zs) (0 : Int))) ((4 : Int) + srcN
  (List.take (2000 : Nat) zs) (rawA (List.take (2000 : Nat) zs) (fA (List.take (2000 : Nat) zs) (0 : Int))) (2 : Int)).toNat (1 : Nat) [AV.int IntKind.i64 (n + ((200 : Int) + modZ b
  (80 : Int)))]) (20 : Int) = (0 : Int)) then EqP (iro (chL (setEl ([] ++ row6 (fH1 (List.take (2000 : Nat) zs) (0 : Int)) (fT1 (List.take (2000 : Nat) zs) (0 : Int)) (fH2 (List.take
  (2000 : Nat) zs) (0 : Int)) (fT2 (List.take (2000 : Nat) zs) (0 : Int)) (fH3 (List.take (2000 : Nat) zs) (0 : Int)) (fT3 (List.take (2000 : Nat) zs) (0 : Int))) ((4 : Int) + srcN
  (List.take (2000 : Nat) zs) (rawA (List.take (2000 : Nat) zs) (fA (List.take (2000 : Nat) zs) (0 : Int))) (2 : Int)).toNat (1 : Nat) [AV.int IntKind.i64 (n + ((200 : Int) + modZ b
  (80 : Int)))]) (20 : Int))) [[AV.int IntKind.i64 (10 : Int)], [AV.int IntKind.i64 (11 : Int)]] (2 : Nat) ∧ bif eqR (iro (chL (setEl ([] ++ row6 (fH1 (List.take (2000 : Nat) zs) (0
  : Int)) (fT1 (List.take (2000 : Nat) zs) (0 : Int)) (fH2 (List.take (2000 : Nat) zs) (0 : Int)) (fT2 (List.take (2000 : Nat) zs) (0 : Int)) (fH3 (List.take (2000 : Nat) zs) (0 :
  Int)) (fT3 (List.take (2000 : Nat) zs) (0 : Int))) ((4 : Int) + srcN (List.take (2000 : Nat) zs) (rawA (List.take (2000 : Nat) zs) (fA (List.take (2000 : Nat) zs) (0 : Int))) (2 :
  Int)).toNat (1 : Nat) [AV.int IntKind.i64 (n + ((200 : Int) + modZ b (80 : Int)))]) (20 : Int))) [[AV.int IntKind.i64 (10 : Int)], [AV.int IntKind.i64 (11 : Int)]] then True ∧ true
  = true else false = true else false = true else bif decide (chE (setEl ([] ++ row6 (fH1 (List.take (2000 : Nat) zs) (0 : Int)) (fT1 (List.take (2000 : Nat) zs) (0 : Int)) (fH2
  (List.take (2000 : Nat) zs) (0 : Int)) (fT2 (List.take (2000 : Nat) zs) (0 : Int)) (fH3 (List.take (2000 : Nat) zs) (0 : Int)) (fT3 (List.take (2000 : Nat) zs) (0 : Int))) ((4 :
  Int) + srcN (List.take (2000 : Nat) zs) (rawA (List.take (2000 : Nat) zs) (fA (List.take (2000 : Nat) zs) (0 : Int))) (2 : Int)).toNat (1 : Nat) [AV.int IntKind.i64 (n + ((200 :
  Int) + modZ b (80 : Int)))]) (20 : Int) = (0 : Int)) then EqP (iro (chL (setEl ([] ++ row6 (fH1 (List.take (2000 : Nat) zs) (0 : Int)) (fT1 (List.take (2000 : Nat) zs) (0 : Int))
  (fH2 (List.take (2000 : Nat) zs) (0 : Int)) (fT2 (List.take (2000 : Nat) zs) (0 : Int)) (fH3 (List.take (2000 : Nat) zs) (0 : Int)) (fT3 (List.take (2000 : Nat) zs) (0 : Int))) ((4
  : Int) + srcN (List.take (2000 : Nat) zs) (rawA (List.take (2000 : Nat) zs) (fA (List.take (2000 : Nat) zs) (0 : Int))) (2 : Int)).toNat (1 : Nat) [AV.int IntKind.i64 (n + ((200 :
  Int) + modZ b (80 : Int)))]) (20 : Int))) [[AV.int IntKind.i64 (10 : Int)], [AV.int IntKind.i64 (11 : Int)]] (2 : Nat) ∧ bif eqR (iro (chL (setEl ([] ++ row6 (fH1 (List.take (2000
  : Nat) zs) (0 : Int)) (fT1 (List.take (2000 : Nat) zs) (0 : Int)) (fH2 (List.take (2000 : Nat) zs) (0 : Int)) (fT2 (List.take (2000 : Nat) zs) (0 : Int)) (fH3 (List.take (2000 :
  Nat) zs) (0 : Int)) (fT3 (List.take (2000 : Nat) zs) (0 : Int))) ((4 : Int) + srcN (List.take (2000 : Nat) zs) (rawA (List.take (2000 : Nat) zs) (fA (List.take (2000 : Nat) zs) (0
  : Int))) (2 : Int)).toNat (1 : Nat) [AV.int IntKind.i64 (n + ((200 : Int) + modZ b (80 : Int)))]) (20 : Int))) [[AV.int IntKind.i64 (10 : Int)], [AV.int IntKind.i64 (11 : Int)]]
  then True ∧ true = true else false = true else false = true else False else False else False else False else False else False else False else False else False else False else bif
  decide ((0 : Int) ≤ srcN (List.take (2000 : Nat) zs) (fA (List.take (2000 : Nat) zs) (0 : Int)) (2 : Int) ∧ srcN (List.take (2000 : Nat) zs) (fA (List.take (2000 : Nat) zs) (0 :
  Int)) (2 : Int) < (↑([] ++ row6 (fH1 (List.take (2000 : Nat) zs) (0 : Int)) (fT1 (List.take (2000 : Nat) zs) (0 : Int)) (fH2 (List.take (2000 : Nat) zs) (0 : Int)) (fT2 (List.take
  (2000 : Nat) zs) (0 : Int)) (fH3 (List.take (2000 : Nat) zs) (0 : Int)) (fT3 (List.take (2000 : Nat) zs) (0 : Int))).length : Int)) then bif decide (([] ++ row6 (fH1 (List.take
  (2000 : Nat) zs) (0 : Int)) (fT1 (List.take (2000 : Nat) zs) (0 : Int)) (fH2 (List.take (2000 : Nat) zs) (0 : Int)) (fT2 (List.take (2000 : Nat) zs) (0 : Int)) (fH3 (List.take
  (2000 : Nat) zs) (0 : Int)) (fT3 (List.take (2000 : Nat) zs) (0 : Int))).length = ([] ++ row6 (fH1 (List.take (2000 : Nat) zs) (0 : Int)) (fT1 (List.take (2000 : Nat) zs) (0 :
  Int)) (fH2 (List.take (2000 : Nat) zs) (0 : Int)) (fT2 (List.take (2000 : Nat) zs) (0 : Int)) (fH3 (List.take (2000 : Nat) zs) (0 : Int)) (fT3 (List.take (2000 : Nat) zs) (0 :
  Int))).length ∧ (srcN (List.take (2000 : Nat) zs) (fA (List.take (2000 : Nat) zs) (0 : Int)) (2 : Int)).toNat < ([] ++ row6 (fH1 (List.take (2000 : Nat) zs) (0 : Int)) (fT1
  (List.take (2000 : Nat) zs) (0 : Int)) (fH2 (List.take (2000 : Nat) zs) (0 : Int)) (fT2 (List.take (2000 : Nat) zs) (0 : Int)) (fH3 (List.take (2000 : Nat) zs) (0 : Int)) (fT3
  (List.take (2000 : Nat) zs) (0 : Int))).length) then ∃ n, List.take [AV.int IntKind.i64 n].length (List.drop (1 : Nat) (([] ++ row6 (fH1 (List.take (2000 : Nat) zs) (0 : Int)) (fT1
  (List.take (2000 : Nat) zs) (0 : Int)) (fH2 (List.take (2000 : Nat) zs) (0 : Int)) (fT2 (List.take (2000 : Nat) zs) (0 : Int)) (fH3 (List.take (2000 : Nat) zs) (0 : Int)) (fT3
  (List.take (2000 : Nat) zs) (0 : Int))).getD (srcN (List.take (2000 : Nat) zs) (fA (List.take (2000 : Nat) zs) (0 : Int)) (2 : Int)).toNat [])) = [AV.int IntKind.i64 n] ∧ True ∧
  bif decide (rng IntKind.i64 ((200 : Int) + modZ b (80 : Int))) then bif decide (rng IntKind.i64 (n + ((200 : Int) + modZ b (80 : Int)))) then bif decide ((0 : Int) ≤ srcN
  (List.take (2000 : Nat) zs) (fA (List.take (2000 : Nat) zs) (0 : Int)) (2 : Int) ∧ srcN (List.take (2000 : Nat) zs) (fA (List.take (2000 : Nat) zs) (0 : Int)) (2 : Int) < (↑([] ++
  row6 (fH1 (List.take (2000 : Nat) zs) (0 : Int)) (fT1 (List.take (2000 : Nat) zs) (0 : Int)) (fH2 (List.take (2000 : Nat) zs) (0 : Int)) (fT2 (List.take (2000 : Nat) zs) (0 : Int))
  (fH3 (List.take (2000 : Nat) zs) (0 : Int)) (fT3 (List.take (2000 : Nat) zs) (0 : Int))).length : Int)) then bif decide (([] ++ row6 (fH1 (List.take (2000 : Nat) zs) (0 : Int))
  (fT1 (List.take (2000 : Nat) zs) (0 : Int)) (fH2 (List.take (2000 : Nat) zs) (0 : Int)) (fT2 (List.take (2000 : Nat) zs) (0 : Int)) (fH3 (List.take (2000 : Nat) zs) (0 : Int)) (fT3
  (List.take (2000 : Nat) zs) (0 : Int))).length = ([] ++ row6 (fH1 (List.take (2000 : Nat) zs) (0 : Int)) (fT1 (List.take (2000 : Nat) zs) (0 : Int)) (fH2 (List.take (2000 : Nat)
  zs) (0 : Int)) (fT2 (List.take (2000 : Nat) zs) (0 : Int)) (fH3 (List.take (2000 : Nat) zs) (0 : Int)) (fT3 (List.take (2000 : Nat) zs) (0 : Int))).length ∧ (srcN (List.take (2000
  : Nat) zs) (fA (List.take (2000 : Nat) zs) (0 : Int)) (2 : Int)).toNat < ([] ++ row6 (fH1 (List.take (2000 : Nat) zs) (0 : Int)) (fT1 (List.take (2000 : Nat) zs) (0 : Int)) (fH2
  (List.take (2000 : Nat) zs) (0 : Int)) (fT2 (List.take (2000 : Nat) zs) (0 : Int)) (fH3 (List.take (2000 : Nat) zs) (0 : Int)) (fT3 (List.take (2000 : Nat) zs) (0 : Int))).length)
  then bif decide (([] ++ row6 (fH1 (List.take (2000 : Nat) zs) (0 : Int)) (fT1 (List.take (2000 : Nat) zs) (0 : Int)) (fH2 (List.take (2000 : Nat) zs) (0 : Int)) (fT2 (List.take
  (2000 : Nat) zs) (0 : Int)) (fH3 (List.take (2000 : Nat) zs) (0 : Int)) (fT3 (List.take (2000 : Nat) zs) (0 : Int))).length = (setEl ([] ++ row6 (fH1 (List.take (2000 : Nat) zs) (0
  : Int)) (fT1 (List.take (2000 : Nat) zs) (0 : Int)) (fH2 (List.take (2000 : Nat) zs) (0 : Int)) (fT2 (List.take (2000 : Nat) zs) (0 : Int)) (fH3 (List.take (2000 : Nat) zs) (0 :
  Int)) (fT3 (List.take (2000 : Nat) zs) (0 : Int))) (srcN (List.take (2000 : Nat) zs) (fA (List.take (2000 : Nat) zs) (0 : Int)) (2 : Int)).toNat (1 : Nat) [AV.int IntKind.i64 (n +
  ((200 : Int) + modZ b (80 : Int)))]).length) then RdsP (setEl ([] ++ row6 (fH1 (List.take (2000 : Nat) zs) (0 : Int)) (fT1 (List.take (2000 : Nat) zs) (0 : Int)) (fH2 (List.take
  (2000 : Nat) zs) (0 : Int)) (fT2 (List.take (2000 : Nat) zs) (0 : Int)) (fH3 (List.take (2000 : Nat) zs) (0 : Int)) (fT3 (List.take (2000 : Nat) zs) (0 : Int))) (srcN (List.take
  (2000 : Nat) zs) (fA (List.take (2000 : Nat) zs) (0 : Int)) (2 : Int)).toNat (1 : Nat) [AV.int IntKind.i64 (n + ((200 : Int) + modZ b (80 : Int)))]) ∧ bif decide ¬vdE (setEl ([] ++
  row6 (fH1 (List.take (2000 : Nat) zs) (0 : Int)) (fT1 (List.take (2000 : Nat) zs) (0 : Int)) (fH2 (List.take (2000 : Nat) zs) (0 : Int)) (fT2 (List.take (2000 : Nat) zs) (0 : Int))
  (fH3 (List.take (2000 : Nat) zs) (0 : Int)) (fT3 (List.take (2000 : Nat) zs) (0 : Int))) (srcN (List.take (2000 : Nat) zs) (fA (List.take (2000 : Nat) zs) (0 : Int)) (2 :
  Int)).toNat (1 : Nat) [AV.int IntKind.i64 (n + ((200 : Int) + modZ b (80 : Int)))]) = (0 : Int) then True ∧ true = true else bif decide (([] ++ row6 (fH1 (List.take (2000 : Nat)
  zs) (0 : Int)) (fT1 (List.take (2000 : Nat) zs) (0 : Int)) (fH2 (List.take (2000 : Nat) zs) (0 : Int)) (fT2 (List.take (2000 : Nat) zs) (0 : Int)) (fH3 (List.take (2000 : Nat) zs)
  (0 : Int)) (fT3 (List.take (2000 : Nat) zs) (0 : Int))).length = (setEl ([] ++ row6 (fH1 (List.take (2000 : Nat) zs) (0 : Int)) (fT1 (List.take (2000 : Nat) zs) (0 : Int)) (fH2
  (List.take (2000 : Nat) zs) (0 : Int)) (fT2 (List.take (2000 : Nat) zs) (0 : Int)) (fH3 (List.take (2000 : Nat) zs) (0 : Int)) (fT3 (List.take (2000 : Nat) zs) (0 : Int))) (srcN
  (List.take (2000 : Nat) zs) (fA (List.take (2000 : Nat) zs) (0 : Int)) (2 : Int)).toNat (1 : Nat) [AV.int IntKind.i64 (n + ((200 : Int) + modZ b (80 : Int)))]).length) then RdsP
  (setEl ([] ++ row6 (fH1 (List.take (2000 : Nat) zs) (0 : Int)) (fT1 (List.take (2000 : Nat) zs) (0 : Int)) (fH2 (List.take (2000 : Nat) zs) (0 : Int)) (fT2 (List.take (2000 : Nat)
  zs) (0 : Int)) (fH3 (List.take (2000 : Nat) zs) (0 : Int)) (fT3 (List.take (2000 : Nat) zs) (0 : Int))) (srcN (List.take (2000 : Nat) zs) (fA (List.take (2000 : Nat) zs) (0 : Int))
  (2 : Int)).toNat (1 : Nat) [AV.int IntKind.i64 (n + ((200 : Int) + modZ b (80 : Int)))]) ∧ bif decide (([] ++ row6 (fH1 (List.take (2000 : Nat) zs) (0 : Int)) (fT1 (List.take (2000
  : Nat) zs) (0 : Int)) (fH2 (List.take (2000 : Nat) zs) (0 : Int)) (fT2 (List.take (2000 : Nat) zs) (0 : Int)) (fH3 (List.take (2000 : Nat) zs) (0 : Int)) (fT3 (List.take (2000 :
  Nat) zs) (0 : Int))).length = (setEl ([] ++ row6 (fH1 (List.take (2000 : Nat) zs) (0 : Int)) (fT1 (List.take (2000 : Nat) zs) (0 : Int)) (fH2 (List.take (2000 : Nat) zs) (0 : Int))
  (fT2 (List.take (2000 : Nat) zs) (0 : Int)) (fH3 (List.take (2000 : Nat) zs) (0 : Int)) (fT3 (List.take (2000 : Nat) zs) (0 : Int))) (srcN (List.take (2000 : Nat) zs) (fA
  (List.take (2000 : Nat) zs) (0 : Int)) (2 : Int)).toNat (1 : Nat) [AV.int IntKind.i64 (n + ((200 : Int) + modZ b (80 : Int)))]).length) then RdsP (setEl ([] ++ row6 (fH1 (List.take
  (2000 : Nat) zs) (0 : Int)) (fT1 (List.take (2000 : Nat) zs) (0 : Int)) (fH2 (List.take (2000 : Nat) zs) (0 : Int)) (fT2 (List.take (2000 : Nat) zs) (0 : Int)) (fH3 (List.take
  (2000 : Nat) zs) (0 : Int)) (fT3 (List.take (2000 : Nat) zs) (0 : Int))) (srcN (List.take (2000 : Nat) zs) (fA (List.take (2000 : Nat) zs) (0 : Int)) (2 : Int)).toNat (1 : Nat)
  [AV.int IntKind.i64 (n + ((200 : Int) + modZ b (80 : Int)))]) ∧ RdsP (row6 (fH1 (List.take (2000 : Nat) zs) (0 : Int)) (fT1 (List.take (2000 : Nat) zs) (0 : Int)) (fH2 (List.take
  (2000 : Nat) zs) (0 : Int)) (fT2 (List.take (2000 : Nat) zs) (0 : Int)) (fH3 (List.take (2000 : Nat) zs) (0 : Int)) (fT3 (List.take (2000 : Nat) zs) (0 : Int))) ∧ bif w then bif
  decide ¬rL (setEl ([] ++ row6 (fH1 (List.take (2000 : Nat) zs) (0 : Int)) (fT1 (List.take (2000 : Nat) zs) (0 : Int)) (fH2 (List.take (2000 : Nat) zs) (0 : Int)) (fT2 (List.take
  (2000 : Nat) zs) (0 : Int)) (fH3 (List.take (2000 : Nat) zs) (0 : Int)) (fT3 (List.take (2000 : Nat) zs) (0 : Int))) (srcN (List.take (2000 : Nat) zs) (fA (List.take (2000 : Nat)
  zs) (0 : Int)) (2 : Int)).toNat (1 : Nat) [AV.int IntKind.i64 (n + ((200 : Int) + modZ b (80 : Int)))]) = rL (row6 (fH1 (List.take (2000 : Nat) zs) (0 : Int)) (fT1 (List.take (2000
  : Nat) zs) (0 : Int)) (fH2 (List.take (2000 : Nat) zs) (0 : Int)) (fT2 (List.take (2000 : Nat) zs) (0 : Int)) (fH3 (List.take (2000 : Nat) zs) (0 : Int)) (fT3 (List.take (2000 :
  Nat) zs) (0 : Int))) then false = true else bif !w then bif decide ¬rU (setEl ([] ++ row6 (fH1 (List.take (2000 : Nat) zs) (0 : Int)) (fT1 (List.take (2000 : Nat) zs) (0 : Int))
  (fH2 (List.take (2000 : Nat) zs) (0 : Int)) (fT2 (List.take (2000 : Nat) zs) (0 : Int)) (fH3 (List.take (2000 : Nat) zs) (0 : Int)) (fT3 (List.take (2000 : Nat) zs) (0 : Int)))
  (srcN (List.take (2000 : Nat) zs) (fA (List.take (2000 : Nat) zs) (0 : Int)) (2 : Int)).toNat (1 : Nat) [AV.int IntKind.i64 (n + ((200 : Int) + modZ b (80 : Int)))]) = rU (row6
  (fH1 (List.take (2000 : Nat) zs) (0 : Int)) (fT1 (List.take (2000 : Nat) zs) (0 : Int)) (fH2 (List.take (2000 : Nat) zs) (0 : Int)) (fT2 (List.take (2000 : Nat) zs) (0 : Int)) (fH3
  (List.take (2000 : Nat) zs) (0 : Int)) (fT3 (List.take (2000 : Nat) zs) (0 : Int))) then false = true else bif decide (chE (setEl ([] ++ row6 (fH1 (List.take (2000 : Nat) zs) (0 :
  Int)) (fT1 (List.take (2000 : Nat) zs) (0 : Int)) (fH2 (List.take (2000 : Nat) zs) (0 : Int)) (fT2 (List.take (2000 : Nat) zs) (0 : Int)) (fH3 (List.take (2000 : Nat) zs) (0 :
  Int)) (fT3 (List.take (2000 : Nat) zs) (0 : Int))) (srcN (List.take (2000 : Nat) zs) (fA (List.take (2000 : Nat) zs) (0 : Int)) (2 : Int)).toNat (1 : Nat) [AV.int IntKind.i64 (n +
  ((200 : Int) + modZ b (80 : Int)))]) (20 : Int) = (0 : Int)) then EqP (iro (chL (setEl ([] ++ row6 (fH1 (List.take (2000 : Nat) zs) (0 : Int)) (fT1 (List.take (2000 : Nat) zs) (0 :
  Int)) (fH2 (List.take (2000 : Nat) zs) (0 : Int)) (fT2 (List.take (2000 : Nat) zs) (0 : Int)) (fH3 (List.take (2000 : Nat) zs) (0 : Int)) (fT3 (List.take (2000 : Nat) zs) (0 :
  Int))) (srcN (List.take (2000 : Nat) zs) (fA (List.take (2000 : Nat) zs) (0 : Int)) (2 : Int)).toNat (1 : Nat) [AV.int IntKind.i64 (n + ((200 : Int) + modZ b (80 : Int)))]) (20 :
  Int))) [[AV.int IntKind.i64 (6 : Int)], [AV.int IntKind.i64 (7 : Int)]] (2 : Nat) ∧ bif eqR (iro (chL (setEl ([] ++ row6 (fH1 (List.take (2000 : Nat) zs) (0 : Int)) (fT1 (List.take
  (2000 : Nat) zs) (0 : Int)) (fH2 (List.take (2000 : Nat) zs) (0 : Int)) (fT2 (List.take (2000 : Nat) zs) (0 : Int)) (fH3 (List.take (2000 : Nat) zs) (0 : Int)) (fT3 (List.take
  (2000 : Nat) zs) (0 : Int))) (srcN (List.take (2000 : Nat) zs) (fA (List.take (2000 : Nat) zs) (0 : Int)) (2 : Int)).toNat (1 : Nat) [AV.int IntKind.i64 (n + ((200 : Int) + modZ b
  (80 : Int)))]) (20 : Int))) [[AV.int IntKind.i64 (6 : Int)], [AV.int IntKind.i64 (7 : Int)]] then True ∧ true = true else false = true else false = true else bif decide (chE (setEl
  ([] ++ row6 (fH1 (List.take (2000 : Nat) zs) (0 : Int)) (fT1 (List.take (2000 : Nat) zs) (0 : Int)) (fH2 (List.take (2000 : Nat) zs) (0 : Int)) (fT2 (List.take (2000 : Nat) zs) (0
  : Int)) (fH3 (List.take (2000 : Nat) zs) (0 : Int)) (fT3 (List.take (2000 : Nat) zs) (0 : Int))) (srcN (List.take (2000 : Nat) zs) (fA (List.take (2000 : Nat) zs) (0 : Int)) (2 :
  Int)).toNat (1 : Nat) [AV.int IntKind.i64 (n + ((200 : Int) + modZ b (80 : Int)))]) (20 : Int) = (0 : Int)) then EqP (iro (chL (setEl ([] ++ row6 (fH1 (List.take (2000 : Nat) zs)
  (0 : Int)) (fT1 (List.take (2000 : Nat) zs) (0 : Int)) (fH2 (List.take (2000 : Nat) zs) (0 : Int)) (fT2 (List.take (2000 : Nat) zs) (0 : Int)) (fH3 (List.take (2000 : Nat) zs) (0 :
  Int)) (fT3 (List.take (2000 : Nat) zs) (0 : Int))) (srcN (List.take (2000 : Nat) zs) (fA (List.take (2000 : Nat) zs) (0 : Int)) (2 : Int)).toNat (1 : Nat) [AV.int IntKind.i64 (n +
  ((200 : Int) + modZ b (80 : Int)))]) (20 : Int))) [[AV.int IntKind.i64 (6 : Int)], [AV.int IntKind.i64 (7 : Int)]] (2 : Nat) ∧ bif eqR (iro (chL (setEl ([] ++ row6 (fH1 (List.take
  (2000 : Nat) zs) (0 : Int)) (fT1 (List.take (2000 : Nat) zs) (0 : Int)) (fH2 (List.take (2000 : Nat) zs) (0 : Int)) (fT2 (List.take (2000 : Nat) zs) (0 : Int)) (fH3 (List.take
  (2000 : Nat) zs) (0 : Int)) (fT3 (List.take (2000 : Nat) zs) (0 : Int))) (srcN (List.take (2000 : Nat) zs) (fA (List.take (2000 : Nat) zs) (0 : Int)) (2 : Int)).toNat (1 : Nat)
  [AV.int IntKind.i64 (n + ((200 : Int) + modZ b (80 : Int)))]) (20 : Int))) [[AV.int IntKind.i64 (6 : Int)], [AV.int IntKind.i64 (7 : Int)]] then True ∧ true = true else false =
  true else false = true else bif !w then bif decide ¬rU (setEl ([] ++ row6 (fH1 (List.take (2000 : Nat) zs) (0 : Int)) (fT1 (List.take (2000 : Nat) zs) (0 : Int)) (fH2 (List.take
  (2000 : Nat) zs) (0 : Int)) (fT2 (List.take (2000 : Nat) zs) (0 : Int)) (fH3 (List.take (2000 : Nat) zs) (0 : Int)) (fT3 (List.take (2000 : Nat) zs) (0 : Int))) (srcN (List.take
  (2000 : Nat) zs) (fA (List.take (2000 : Nat) zs) (0 : Int)) (2 : Int)).toNat (1 : Nat) [AV.int IntKind.i64 (n + ((200 : Int) + modZ b (80 : Int)))]) = rU (row6 (fH1 (List.take
  (2000 : Nat) zs) (0 : Int)) (fT1 (List.take (2000 : Nat) zs) (0 : Int)) (fH2 (List.take (2000 : Nat) zs) (0 : Int)) (fT2 (List.take (2000 : Nat) zs) (0 : Int)) (fH3 (List.take
  (2000 : Nat) zs) (0 : Int)) (fT3 (List.take (2000 : Nat) zs) (0 : Int))) then false = true else bif decide (chE (setEl ([] ++ row6 (fH1 (List.take (2000 : Nat) zs) (0 : Int)) (fT1
  (List.take (2000 : Nat) zs) (0 : Int)) (fH2 (List.take (2000 : Nat) zs) (0 : Int)) (fT2 (List.take (2000 : Nat) zs) (0 : Int)) (fH3 (List.take (2000 : Nat) zs) (0 : Int)) (fT3
  (List.take (2000 : Nat) zs) (0 : Int))) (srcN (List.take (2000 : Nat) zs) (fA (List.take (2000 : Nat) zs) (0 : Int)) (2 : Int)).toNat (1 : Nat) [AV.int IntKind.i64 (n + ((200 :
  Int) + modZ b (80 : Int)))]) (20 : Int) = (0 : Int)) then EqP (iro (chL (setEl ([] ++ row6 (fH1 (List.take (2000 : Nat) zs) (0 : Int)) (fT1 (List.take (2000 : Nat) zs) (0 : Int))
  (fH2 (List.take (2000 : Nat) zs) (0 : Int)) (fT2 (List.take (2000 : Nat) zs) (0 : Int)) (fH3 (List.take (2000 : Nat) zs) (0 : Int)) (fT3 (List.take (2000 : Nat) zs) (0 : Int)))
  (srcN (List.take (2000 : Nat) zs) (fA (List.take (2000 : Nat) zs) (0 : Int)) (2 : Int)).toNat (1 : Nat) [AV.int IntKind.i64 (n + ((200 : Int) + modZ b (80 : Int)))]) (20 : Int)))
  [[AV.int IntKind.i64 (6 : Int)], [AV.int IntKind.i64 (7 : Int)]] (2 : Nat) ∧ bif eqR (iro (chL (setEl ([] ++ row6 (fH1 (List.take (2000 : Nat) zs) (0 : Int)) (fT1 (List.take (2000
  : Nat) zs) (0 : Int)) (fH2 (List.take (2000 : Nat) zs) (0 : Int)) (fT2 (List.take (2000 : Nat) zs) (0 : Int)) (fH3 (List.take (2000 : Nat) zs) (0 : Int)) (fT3 (List.take (2000 :
  Nat) zs) (0 : Int))) (srcN (List.take (2000 : Nat) zs) (fA (List.take (2000 : Nat) zs) (0 : Int)) (2 : Int)).toNat (1 : Nat) [AV.int IntKind.i64 (n + ((200 : Int) + modZ b (80 :
  Int)))]) (20 : Int))) [[AV.int IntKind.i64 (6 : Int)], [AV.int IntKind.i64 (7 : Int)]] then True ∧ true = true else false = true else false = true else bif decide (chE (setEl ([]
  ++ row6 (fH1 (List.take (2000 : Nat) zs) (0 : Int)) (fT1 (List.take (2000 : Nat) zs) (0 : Int)) (fH2 (List.take (2000 : Nat) zs) (0 : Int)) (fT2 (List.take (2000 : Nat) zs) (0 :
  Int)) (fH3 (List.take (2000 : Nat) zs) (0 : Int)) (fT3 (List.take (2000 : Nat) zs) (0 : Int))) (srcN (List.take (2000 : Nat) zs) (fA (List.take (2000 : Nat) zs) (0 : Int)) (2 :
  Int)).toNat (1 : Nat) [AV.int IntKind.i64 (n + ((200 : Int) + modZ b (80 : Int)))]) (20 : Int) = (0 : Int)) then EqP (iro (chL (setEl ([] ++ row6 (fH1 (List.take (2000 : Nat) zs)
  (0 : Int)) (fT1 (List.take (2000 : Nat) zs) (0 : Int)) (fH2 (List.take (2000 : Nat) zs) (0 : Int)) (fT2 (List.take (2000 : Nat) zs) (0 : Int)) (fH3 (List.take (2000 : Nat) zs) (0 :
  Int)) (fT3 (List.take (2000 : Nat) zs) (0 : Int))) (srcN (List.take (2000 : Nat) zs) (fA (List.take (2000 : Nat) zs) (0 : Int)) (2 : Int)).toNat (1 : Nat) [AV.int IntKind.i64 (n +
  ((200 : Int) + modZ b (80 : Int)))]) (20 : Int))) [[AV.int IntKind.i64 (6 : Int)], [AV.int IntKind.i64 (7 : Int)]] (2 : Nat) ∧ bif eqR (iro (chL (setEl ([] ++ row6 (fH1 (List.take
  (2000 : Nat) zs) (0 : Int)) (fT1 (List.take (2000 : Nat) zs) (0 : Int)) (fH2 (List.take (2000 : Nat) zs) (0 : Int)) (fT2 (List.take (2000 : Nat) zs) (0 : Int)) (fH3 (List.take
  (2000 : Nat) zs) (0 : Int)) (fT3 (List.take (2000 : Nat) zs) (0 : Int))) (srcN (List.take (2000 : Nat) zs) (fA (List.take (2000 : Nat) zs) (0 : Int)) (2 : Int)).toNat (1 : Nat)
  [AV.int IntKind.i64 (n + ((200 : Int) + modZ b (80 : Int)))]) (20 : Int))) [[AV.int IntKind.i64 (6 : Int)], [AV.int IntKind.i64 (7 : Int)]] then True ∧ true = true else false =
  true else false = true else False else False else False else False else False else False else False else False else False
set_option maxRecDepth 100000 in
theorem lEnds_P : lEnds_T vdE chL chE eqR fA fH1 fH2 fH3 fT1 fT2 fT3 rL rU bL bU botL := by
  unfold lEnds_T
  intro zs b w hz _ hb _
  have hs : SrcI (List.take 2000 zs) := SrcI.take hz
  have f := fit_ok (List.take 2000 zs) 0
  have i1 : 0 ≤ fA (List.take 2000 zs) 0 := rawA_le (rawA_le (rawA_le (rawA_le (by decide))))
  generalize List.take 2000 zs = X at *
  generalize fA X 0 = i at *
  have i2 := rawA_le (xs := X) i1
  have c1' := srcN_lt (xs := X) (i := i) (n := 2) (by decide)
  have c2' := srcN_lt (xs := X) (i := rawA X i) (n := 2) (by decide)
  generalize srcN X i 2 = j at *
  generalize srcN X (rawA X i) 2 = k at *
  generalize fH1 X 0 = h1 at *
  generalize fH2 X 0 = h2 at *
  generalize fH3 X 0 = h3 at *
  generalize fT1 X 0 = t1 at *
  generalize fT2 X 0 = t2 at *
  generalize fT3 X 0 = t3 at *
  have rb := f.rds
  have hr : RdsP (row6 h1 t1 h2 t2 h3 t3) := rds6 (by unfold R64; omega) (by unfold R64; omega) (by unfold R64; omega) (by unfold R64; omega) (by unfold R64; omega) (by unfold R64; omega)
  have m1 := modZ_in b (n := 80) (by decide)
  generalize modZ b 80 = u at *
  refine ⟨trivial, ⟨hs, by decide⟩, ⟨hs, i1⟩, ?_⟩
  cases w with
  | true =>
    refine c1 rfl ⟨⟨hs, i2⟩, cdI (by omega) ?_⟩
    have tl : ∀ e g, (e = h3 + (200 + u) ∧ g = t3) ∨ (e = h3 ∧ g = t3 + (200 + u)) → RdsP (row6 h1 t1 h2 t2 e g) ∧ cond (decide ¬vdE (row6 h1 t1 h2 t2 e g) = 0) (True ∧ true = true) (cond (decide (6 = 6)) (RdsP (row6 h1 t1 h2 t2 e g) ∧ cond (decide (6 = 6)) (RdsP (row6 h1 t1 h2 t2 e g) ∧ RdsP (row6 h1 t1 h2 t2 h3 t3) ∧ cond (decide ¬rL (row6 h1 t1 h2 t2 e g) = rL (row6 h1 t1 h2 t2 h3 t3)) (false = true)
      (cond (decide (chE (row6 h1 t1 h2 t2 e g) 20 = 0)) (EqP (iro (chL (row6 h1 t1 h2 t2 e g) 20)) [[.int .i64 10], [.int .i64 11]] 2 ∧ cond (eqR (iro (chL (row6 h1 t1 h2 t2 e g) 20)) [[.int .i64 10], [.int .i64 11]]) (True ∧ true = true) (false = true)) (false = true))) False) False) := by
      intro e g he
      have hr2 : RdsP (row6 h1 t1 h2 t2 e g) := rds6 (by unfold R64; omega) (by unfold R64; omega) (by unfold R64; omega) (by unfold R64; omega) (by unfold R64; omega) (by unfold R64; omega)
      refine ⟨hr2, cs (fun _ => ⟨trivial, rfl⟩) (fun q => cd1 rfl ⟨hr2, cd1 rfl ⟨hr2, hr, ?_⟩⟩)⟩
      obtain ⟨e0, e1, e2⟩ := f.top (d := 200 + u) (by omega) he (Decidable.not_not.1 q)
      rw [e0, e1, e2]
      exact cd0 (by simp) (cd1 rfl ⟨⟨iro_ints (by simp [R64]), iro_ints (l := [10, 11]) (by simp [R64]), rfl, by decide⟩, c1 (eqR_iro [10, 11]) ⟨trivial, rfl⟩⟩)
    have hk : k = 0 ∨ k = 1 := by omega
    rcases hk with rfl | rfl
    · exact cd1 (show (0 : Int) ≤ 4 ∧ (4 : Int) < 6 by decide) (cd1 ⟨rfl, show 4 < 6 by decide⟩ ⟨h3, rfl, trivial, cdI (by omega) (cdI (by omega) (cd1 (show (0 : Int) ≤ 4 ∧ (4 : Int) < 6 by decide) (cd1 ⟨rfl, show 4 < 6 by decide⟩ (cd1 rfl (tl _ _ (.inl ⟨rfl, rfl⟩))))))⟩)
    · exact cd1 (show (0 : Int) ≤ 5 ∧ (5 : Int) < 6 by decide) (cd1 ⟨rfl, show 5 < 6 by decide⟩ ⟨t3, rfl, trivial, cdI (by omega) (cdI (by omega) (cd1 (show (0 : Int) ≤ 5 ∧ (5 : Int) < 6 by decide) (cd1 ⟨rfl, show 5 < 6 by decide⟩ (cd1 rfl (tl _ _ (.inr ⟨rfl, rfl⟩))))))⟩)
  | false =>
    refine c0 rfl ?_
    have tl : ∀ a c, (a = h1 + (200 + u) ∧ c = t1) ∨ (a = h1 ∧ c = t1 + (200 + u)) → RdsP (row6 a c h2 t2 h3 t3) ∧ cond (decide ¬vdE (row6 a c h2 t2 h3 t3) = 0) (True ∧ true = true) (cond (decide (6 = 6)) (RdsP (row6 a c h2 t2 h3 t3) ∧ cond (decide (6 = 6)) (RdsP (row6 a c h2 t2 h3 t3) ∧ RdsP (row6 h1 t1 h2 t2 h3 t3) ∧ cond (decide ¬rU (row6 a c h2 t2 h3 t3) = rU (row6 h1 t1 h2 t2 h3 t3)) (false = true)
      (cond (decide (chE (row6 a c h2 t2 h3 t3) 20 = 0)) (EqP (iro (chL (row6 a c h2 t2 h3 t3) 20)) [[.int .i64 6], [.int .i64 7]] 2 ∧ cond (eqR (iro (chL (row6 a c h2 t2 h3 t3) 20)) [[.int .i64 6], [.int .i64 7]]) (True ∧ true = true) (false = true)) (false = true))) False) False) := by
      intro a c he
      have hr2 : RdsP (row6 a c h2 t2 h3 t3) := rds6 (by unfold R64; omega) (by unfold R64; omega) (by unfold R64; omega) (by unfold R64; omega) (by unfold R64; omega) (by unfold R64; omega)
      refine ⟨hr2, cs (fun _ => ⟨trivial, rfl⟩) (fun q => cd1 rfl ⟨hr2, cd1 rfl ⟨hr2, hr, ?_⟩⟩)⟩
      obtain ⟨e0, e1, e2⟩ := f.bot (d := 200 + u) (by omega) he (Decidable.not_not.1 q)
      rw [e0, e1, e2]
      exact cd0 (by simp) (cd1 rfl ⟨⟨iro_ints (by simp [R64]), iro_ints (l := [6, 7]) (by simp [R64]), rfl, by decide⟩, c1 (eqR_iro [6, 7]) ⟨trivial, rfl⟩⟩)
    have hk : j = 0 ∨ j = 1 := by omega
    rcases hk with rfl | rfl
    · exact cd1 (show (0 : Int) ≤ 0 ∧ (0 : Int) < 6 by decide) (cd1 ⟨rfl, show 0 < 6 by decide⟩ ⟨h1, rfl, trivial, cdI (by omega) (cdI (by omega) (cd1 (show (0 : Int) ≤ 0 ∧ (0 : Int) < 6 by decide) (cd1 ⟨rfl, show 0 < 6 by decide⟩ (cd1 rfl (tl _ _ (.inl ⟨rfl, rfl⟩))))))⟩)
    · exact cd1 (show (0 : Int) ≤ 1 ∧ (1 : Int) < 6 by decide) (cd1 ⟨rfl, show 1 < 6 by decide⟩ ⟨t1, rfl, trivial, cdI (by omega) (cdI (by omega) (cd1 (show (0 : Int) ≤ 1 ∧ (1 : Int) < 6 by decide) (cd1 ⟨rfl, show 1 < 6 by decide⟩ (cd1 rfl (tl _ _ (.inr ⟨rfl, rfl⟩))))))⟩)
def lEnds_S (vdE : List (List AV) → Int) (chL : List (List AV) → Int → List Int) (chE : List (List AV) → Int → Int) (eqR : List (List AV) → List (List AV) → Bool) (fA : List (List AV) → Int → Int) (fH1 : List (List AV) → Int → Int) (fH2 : List (List AV) → Int → Int) (fH3 : List (List AV) → Int → Int) (fT1 : List (List AV) → Int → Int) (fT2 : List (List AV) → Int → Int) (fT3 : List (List AV) → Int → Int) (rL : List (List AV) → Int) (rU : List (List AV) → Int) (bL : List (List AV) → Bool) (bU : List (List AV) → Bool) (botL : Int → Int → Int → List Int) : Prop := ∀ (zs : List (List AV)) (b : Int) (w : Bool), IntsA zs → fnK Tryd.prog { glob := glb, spec := lk [(9, (hcheck_s vdE rL rU bL bU chL chE botL)), (15, (hresids_s rL rU bL bU)), (10, mod_s), (11, (rvalid_s vdE)), (12, hawake_s)], specH := lk [(7, newsrc_s), (8, (hfit_s fA fH1 fH2 fH3 fT1 fT2 fT3)), (14, srcn_s), (13, (kints_s eqR))], shape := [41], nowf := true } { nt := 96, drop := drp [(1, 12582912), (2, 50331648), (3, 469762048), (5, 16106127360), (6, 120259084288), (7, 281337537757184), (8, 844424930131968), (9, 2251799813685248), (10, 139611588448485376), (11, 18302628885633695744), (12, 2342736497361113055232), (13, 38683265044426698767990784), (15, 79150791261809001326362755072)], frz := fun id => cond (Nat.beq id 3) [8] (cond (Nat.beq id 8) [11] []) } (fun _ _ => none) 6 Tryd.f4 [.sl 1 false zs, .int .i64 b, .bool w] (.bool true)
set_option maxRecDepth 100000 in
theorem lEnds_e (vdE : List (List AV) → Int) (chL : List (List AV) → Int → List Int) (chE : List (List AV) → Int → Int) (eqR : List (List AV) → List (List AV) → Bool) (fA : List (List AV) → Int → Int) (fH1 : List (List AV) → Int → Int) (fH2 : List (List AV) → Int → Int) (fH3 : List (List AV) → Int → Int) (fT1 : List (List AV) → Int → Int) (fT2 : List (List AV) → Int → Int) (fT3 : List (List AV) → Int → Int) (rL : List (List AV) → Int) (rU : List (List AV) → Int) (bL : List (List AV) → Bool) (bU : List (List AV) → Bool) (botL : Int → Int → Int → List Int) : lEnds_T vdE chL chE eqR fA fH1 fH2 fH3 fT1 fT2 fT3 rL rU bL bU botL = lEnds_S vdE chL chE eqR fA fH1 fH2 fH3 fT1 fT2 fT3 rL rU bL bU botL := by kernel_rfl
theorem lEnds_v : lEnds_S vdE chL chE eqR fA fH1 fH2 fH3 fT1 fT2 fT3 rL rU bL bU botL := @Eq.mp (lEnds_T vdE chL chE eqR fA fH1 fH2 fH3 fT1 fT2 fT3 rL rU bL bU botL) (lEnds_S vdE chL chE eqR fA fH1 fH2 fH3 fT1 fT2 fT3 rL rU bL bU botL) (lEnds_e vdE chL chE eqR fA fH1 fH2 fH3 fT1 fT2 fT3 rL rU bL bU botL) lEnds_P
theorem lEnds_ok : SOK Tryd.prog glb 4 (lEnds_s vdE chL chE eqR fA fH1 fH2 fH3 fT1 fT2 fT3 rL rU bL bU) := by
  refine ⟨fok Tryd.func4 (by kernel_rfl) (by kernel_rfl), ?_⟩
  intro xs pre r h hp
  unfold lEnds_s at h
  split at h
  · simp only [Option.some.injEq, Prod.mk.injEq] at h
    obtain ⟨h1, h2⟩ := h
    subst h1 h2
    exact fnK_sound tyNil (by exact specOK rfl rfl ⟨hcheck_ok, hresids_ok glb, mod_ok glb, rvalid_ok glb, hawake_ok, trivial⟩ ⟨newsrc_ok glb, hfit_ok glb, srcn_ok glb, kints_ok glb, trivial⟩) (by kernel_rfl) Tryd.func4 rfl (lEnds_v  _ _ _ hp)
  · cases h
end Go.Proofs.YtboknhifjhjkdaaDoor
