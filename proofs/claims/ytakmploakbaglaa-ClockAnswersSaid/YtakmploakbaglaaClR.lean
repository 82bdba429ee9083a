/- The clock: the law of answers. -/
import Derived.Test.YtakmploakbaglaaClN
namespace Go.Proofs.Ytakmploakbaglaa
open Go
set_option linter.unusedVariables false
set_option linter.unusedSimpArgs false

def lAns_s (inB : Int → Bool) (dtY : Int → Int) (dtM : Int → Int) (dtD : Int → Int) (dtH : Int → Int) (dtI : Int → Int) (mnV : List (List AV) → Int → Int) (mnA : List (List AV) → Int → Int) (dim : Int → Int → Int) (vldB : Int → Int → Int → Int → Int → Bool) (mns : Int → Int → Int → Int → Int → Int) : Sp
  | [.agg [.int .i64 y, .int .i64 m, .int .i64 d, .int .i64 h, .int .i64 i], .int .i64 t, .sl 1 false zs] => some (IntsA zs, .bool true)
  | _ => none
set_option maxRecDepth 100000 in
def lAns_T (inB : Int → Bool) (dtY : Int → Int) (dtM : Int → Int) (dtD : Int → Int) (dtH : Int → Int) (dtI : Int → Int) (mnV : List (List AV) → Int → Int) (mnA : List (List AV) → Int → Int) (dim : Int → Int → Int) (vldB : Int → Int → Int → Int → Int → Bool) (mns : Int → Int → Int → Int → Int → Int) (dtR : Int → Int) (cumI : Int → Int → Int) (fmtC : Int → ByteArray) (prsM : ByteArray → Int) (prsV : ByteArray → Bool) (rsV : Int → Int → Int → Int → Int) (rsOk : Int → Int → Int → Int → Bool) : Prop :=
  ∀ (gl : Glob) (y m d h i t : Int) (zs : List (List AV)), (∀ (x : List AV), List.Mem x zs → ∃ n, x = [AV.int IntKind.i64 n] ∧ rng IntKind.i64 n) → ((-9223372036854775808 : Int) ≤ y
  ∧ y ≤ (9223372036854775807 : Int)) ∧ ((-9223372036854775808 : Int) ≤ m ∧ m ≤ (9223372036854775807 : Int)) ∧ ((-9223372036854775808 : Int) ≤ d ∧ d ≤ (9223372036854775807 : Int)) ∧
  ((-9223372036854775808 : Int) ≤ h ∧ h ≤ (9223372036854775807 : Int)) ∧ ((-9223372036854775808 : Int) ≤ i ∧ i ≤ (9223372036854775807 : Int)) ∧ True → (-9223372036854775808 : Int) ≤
  t ∧ t ≤ (9223372036854775807 : Int) → True → True ∧ ((SrcI (List.take (2000 : Nat) zs) ∧ (0 : Int) ≤ (0 : Int)) ∧ ((-1000000 : Int) ≤ (1999 : Int) ∧ (1999 : Int) ≤ (1000000 : Int))
  ∧ (1999 : Int) ≤ (2100 : Int) ∧ (2100 : Int) ≤ (1000000 : Int)) ∧ ((SrcI (List.take (2000 : Nat) zs) ∧ (0 : Int) ≤ rawA (List.take (2000 : Nat) zs) (0 : Int)) ∧ ((-1000000 : Int) ≤
  (0 : Int) ∧ (0 : Int) ≤ (1000000 : Int)) ∧ (0 : Int) ≤ (13 : Int) ∧ (13 : Int) ≤ (1000000 : Int)) ∧ ((SrcI (List.take (2000 : Nat) zs) ∧ (0 : Int) ≤ rawA (List.take (2000 : Nat)
  zs) (rawA (List.take (2000 : Nat) zs) (0 : Int))) ∧ ((-1000000 : Int) ≤ (0 : Int) ∧ (0 : Int) ≤ (1000000 : Int)) ∧ (0 : Int) ≤ (32 : Int) ∧ (32 : Int) ≤ (1000000 : Int)) ∧ ((SrcI
  (List.take (2000 : Nat) zs) ∧ (0 : Int) ≤ rawA (List.take (2000 : Nat) zs) (rawA (List.take (2000 : Nat) zs) (rawA (List.take (2000 : Nat) zs) (0 : Int)))) ∧ ((-1000000 : Int) ≤
  (-1 : Int) ∧ (-1 : Int) ≤ (1000000 : Int)) ∧ (-1 : Int) ≤ (24 : Int) ∧ (24 : Int) ≤ (1000000 : Int)) ∧ ((SrcI (List.take (2000 : Nat) zs) ∧ (0 : Int) ≤ rawA (List.take (2000 : Nat)
  zs) (rawA (List.take (2000 : Nat) zs) (rawA (List.take (2000 : Nat) zs) (rawA (List.take (2000 : Nat) zs) (0 : Int))))) ∧ ((-1000000 : Int) ≤ (-1 : Int) ∧ (-1 : Int) ≤ (1000000 :
  Int)) ∧ (-1 : Int) ≤ (60 : Int) ∧ (60 : Int) ≤ (1000000 : Int)) ∧ True ∧ True ∧ bif decide ¬(if vldB y m d h i = true then mns y m d h i else (0 : Int)) = if vldB y m d h i = true
  then mns y m d h i else (0 : Int) then false = true else bif decide ¬(if vldB y m d h i = true then (0 : Int) else (1 : Int)) = if vldB y m d h i = true then (0 : Int) else (1 :
  Int) then false = true else True ∧ True ∧ bif !decide (vldB y m d h i = vldB y m d h i) then false = true else True ∧ True ∧ bif decide ¬dim y m = dim y m then false = true else
  True ∧ True ∧ bif decide ¬(if vldB ((1999 : Int) + srcN (List.take (2000 : Nat) zs) (0 : Int) (102 : Int)) ((0 : Int) + srcN (List.take (2000 : Nat) zs) (rawA (List.take (2000 :
  Nat) zs) (0 : Int)) (14 : Int)) ((0 : Int) + srcN (List.take (2000 : Nat) zs) (rawA (List.take (2000 : Nat) zs) (rawA (List.take (2000 : Nat) zs) (0 : Int))) (33 : Int)) ((-1 :
  Int) + srcN (List.take (2000 : Nat) zs) (rawA (List.take (2000 : Nat) zs) (rawA (List.take (2000 : Nat) zs) (rawA (List.take (2000 : Nat) zs) (0 : Int)))) (26 : Int)) ((-1 : Int) +
  srcN (List.take (2000 : Nat) zs) (rawA (List.take (2000 : Nat) zs) (rawA (List.take (2000 : Nat) zs) (rawA (List.take (2000 : Nat) zs) (rawA (List.take (2000 : Nat) zs) (0 :
  Int))))) (62 : Int)) = true then mns ((1999 : Int) + srcN (List.take (2000 : Nat) zs) (0 : Int) (102 : Int)) ((0 : Int) + srcN (List.take (2000 : Nat) zs) (rawA (List.take (2000 :
  Nat) zs) (0 : Int)) (14 : Int)) ((0 : Int) + srcN (List.take (2000 : Nat) zs) (rawA (List.take (2000 : Nat) zs) (rawA (List.take (2000 : Nat) zs) (0 : Int))) (33 : Int)) ((-1 :
  Int) + srcN (List.take (2000 : Nat) zs) (rawA (List.take (2000 : Nat) zs) (rawA (List.take (2000 : Nat) zs) (rawA (List.take (2000 : Nat) zs) (0 : Int)))) (26 : Int)) ((-1 : Int) +
  srcN (List.take (2000 : Nat) zs) (rawA (List.take (2000 : Nat) zs) (rawA (List.take (2000 : Nat) zs) (rawA (List.take (2000 : Nat) zs) (rawA (List.take (2000 : Nat) zs) (0 :
  Int))))) (62 : Int)) else (0 : Int)) = if vldB ((1999 : Int) + srcN (List.take (2000 : Nat) zs) (0 : Int) (102 : Int)) ((0 : Int) + srcN (List.take (2000 : Nat) zs) (rawA
  (List.take (2000 : Nat) zs) (0 : Int)) (14 : Int)) ((0 : Int) + srcN (List.take (2000 : Nat) zs) (rawA (List.take (2000 : Nat) zs) (rawA (List.take (2000 : Nat) zs) (0 : Int))) (33
  : Int)) ((-1 : Int) + srcN (List.take (2000 : Nat) zs) (rawA (List.take (2000 : Nat) zs) (rawA (List.take (2000 : Nat) zs) (rawA (List.take (2000 : Nat) zs) (0 : Int)))) (26 :
  Int)) ((-1 : Int) + srcN (List.take (2000 : Nat) zs) (rawA (List.take (2000 : Nat) zs) (rawA (List.take (2000 : Nat) zs) (rawA (List.take (2000 : Nat) zs) (rawA (List.take (2000 :
  Nat) zs) (0 : Int))))) (62 : Int)) = true then mns ((1999 : Int) + srcN (List.take (2000 : Nat) zs) (0 : Int) (102 : Int)) ((0 : Int) + srcN (List.take (2000 : Nat) zs) (rawA
  (List.take (2000 : Nat) zs) (0 : Int)) (14 : Int)) ((0 : Int) + srcN (List.take (2000 : Nat) zs) (rawA (List.take (2000 : Nat) zs) (rawA (List.take (2000 : Nat) zs) (0 : Int))) (33
  : Int)) ((-1 : Int) + srcN (List.take (2000 : Nat) zs) (rawA (List.take (2000 : Nat) zs) (rawA (List.take (2000 : Nat) zs) (rawA (List.take (2000 : Nat) zs) (0 : Int)))) (26 :
  Int)) ((-1 : Int) + srcN (List.take (2000 : Nat) zs) (rawA (List.take (2000 : Nat) zs) (rawA (List.take (2000 : Nat) zs) (rawA (List.take (2000 : Nat) zs) (rawA (List.take (2000 :
  Nat) zs) (0 : Int))))) (62 : Int)) else (0 : Int) then false = true else bif decide ¬(if vldB ((1999 : Int) + srcN (List.take (2000 : Nat) zs) (0 : Int) (102 : Int)) ((0 : Int) +
  srcN (List.take (2000 : Nat) zs) (rawA (List.take (2000 : Nat) zs) (0 : Int)) (14 : Int)) ((0 : Int) + srcN (List.take (2000 : Nat) zs) (rawA (List.take (2000 : Nat) zs) (rawA
  (List.take (2000 : Nat) zs) (0 : Int))) (33 : Int)) ((-1 : Int) + srcN (List.take (2000 : Nat) zs) (rawA (List.take (2000 : Nat) zs) (rawA (List.take (2000 : Nat) zs) (rawA
  (List.take (2000 : Nat) zs) (0 : Int)))) (26 : Int)) ((-1 : Int) + srcN (List.take (2000 : Nat) zs) (rawA (List.take (2000 : Nat) zs) (rawA (List.take (2000 : Nat) zs) (rawA
  (List.take (2000 : Nat) zs) (rawA (List.take (2000 : Nat) zs) (0 : Int))))) (62 : Int)) = true then (0 : Int) else (1 : Int)) = if vldB ((1999 : Int) + srcN (List.take (2000 : Nat)
  zs) (0 : Int) (102 : Int)) ((0 : Int) + srcN (List.take (2000 : Nat) zs) (rawA (List.take (2000 : Nat) zs) (0 : Int)) (14 : Int)) ((0 : Int) + srcN (List.take (2000 : Nat) zs)
  (rawA (List.take (2000 : Nat) zs) (rawA (List.take (2000 : Nat) zs) (0 : Int))) (33 : Int)) ((-1 : Int) + srcN (List.take (2000 : Nat) zs) (rawA (List.take (2000 : Nat) zs) (rawA
  (List.take (2000 : Nat) zs) (rawA (List.take (2000 : Nat) zs) (0 : Int)))) (26 : Int)) ((-1 : Int) + srcN (List.take (2000 : Nat) zs) (rawA (List.take (2000 : Nat) zs) (rawA
  (List.take (2000 : Nat) zs) (rawA (List.take (2000 : Nat) zs) (rawA (List.take (2000 : Nat) zs) (0 : Int))))) (62 : Int)) = true then (0 : Int) else (1 : Int) then false = true
  else True ∧ True ∧ bif !decide (vldB ((1999 : Int) + srcN (List.take (2000 : Nat) zs) (0 : Int) (102 : Int)) ((0 : Int) + srcN (List.take (2000 : Nat) zs) (rawA (List.take (2000 :
  Nat) zs) (0 : Int)) (14 : Int)) ((0 : Int) + srcN (List.take (2000 : Nat) zs) (rawA (List.take (2000 : Nat) zs) (rawA (List.take (2000 : Nat) zs) (0 : Int))) (33 : Int)) ((-1 :
  Int) + srcN (List.take (2000 : Nat) zs) (rawA (List.take (2000 : Nat) zs) (rawA (List.take (2000 : Nat) zs) (rawA (List.take (2000 : Nat) zs) (0 : Int)))) (26 : Int)) ((-1 : Int) +
  srcN (List.take (2000 : Nat) zs) (rawA (List.take (2000 : Nat) zs) (rawA (List.take (2000 : Nat) zs) (rawA (List.take (2000 : Nat) zs) (rawA (List.take (2000 : Nat) zs) (0 :
  Int))))) (62 : Int)) = vldB ((1999 : Int) + srcN (List.take (2000 : Nat) zs) (0 : Int) (102 : Int)) ((0 : Int) + srcN (List.take (2000 : Nat) zs) (rawA (List.take (2000 : Nat) zs)
  (0 : Int)) (14 : Int)) ((0 : Int) + srcN (List.take (2000 : Nat) zs) (rawA (List.take (2000 : Nat) zs) (rawA (List.take (2000 : Nat) zs) (0 : Int))) (33 : Int)) ((-1 : Int) + srcN
  (List.take (2000 : Nat) zs) (rawA (List.take (2000 : Nat) zs) (rawA (List.take (2000 : Nat) zs) (rawA (List.take (2000 : Nat) zs) (0 : Int)))) (26 : Int)) ((-1 : Int) + srcN
  (List.take (2000 : Nat) zs) (rawA (List.take (2000 : Nat) zs) (rawA (List.take (2000 : Nat) zs) (rawA (List.take (2000 : Nat) zs) (rawA (List.take (2000 : Nat) zs) (0 : Int)))))
  (62 : Int))) then false = true else True ∧ True ∧ bif decide ¬dim ((1999 : Int) + srcN (List.take (2000 : Nat) zs) (0 : Int) (102 : Int)) ((0 : Int) + srcN (List.take (2000 : Nat)
  zs) (rawA (List.take (2000 : Nat) zs) (0 : Int)) (14 : Int)) = dim ((1999 : Int) + srcN (List.take (2000 : Nat) zs) (0 : Int) (102 : Int)) ((0 : Int) + srcN (List.take (2000 : Nat)
  zs) (rawA (List.take (2000 : Nat) zs) (0 : Int)) (14 : Int)) then false = true else (SrcI (List.take (2000 : Nat) zs) ∧ (0 : Int) ≤ rawA (List.take (2000 : Nat) zs) (rawA
  (List.take (2000 : Nat) zs) (rawA (List.take (2000 : Nat) zs) (rawA (List.take (2000 : Nat) zs) (rawA (List.take (2000 : Nat) zs) (0 : Int)))))) ∧ True ∧ True ∧ bif !(decide ((if
  inB t = true then dtY t else (0 : Int)) = if inB t = true then dtY t else (0 : Int)) && (decide ((if inB t = true then dtM t else (0 : Int)) = if inB t = true then dtM t else (0 :
  Int)) && (decide ((if inB t = true then dtD t else (0 : Int)) = if inB t = true then dtD t else (0 : Int)) && (decide ((if inB t = true then dtH t else (0 : Int)) = if inB t = true
  then dtH t else (0 : Int)) && (decide ((if inB t = true then dtI t else (0 : Int)) = if inB t = true then dtI t else (0 : Int)) && true))))) then false = true else bif decide ¬(if
  inB t = true then (0 : Int) else (1 : Int)) = if inB t = true then (0 : Int) else (1 : Int) then false = true else True ∧ True ∧ bif !(decide ((if inB (mnV (List.take (2000 : Nat)
  zs) (rawA (List.take (2000 : Nat) zs) (rawA (List.take (2000 : Nat) zs) (rawA (List.take (2000 : Nat) zs) (rawA (List.take (2000 : Nat) zs) (rawA (List.take (2000 : Nat) zs) (0 :
  Int))))))) = true then dtY (mnV (List.take (2000 : Nat) zs) (rawA (List.take (2000 : Nat) zs) (rawA (List.take (2000 : Nat) zs) (rawA (List.take (2000 : Nat) zs) (rawA (List.take
  (2000 : Nat) zs) (rawA (List.take (2000 : Nat) zs) (0 : Int))))))) else (0 : Int)) = if inB (mnV (List.take (2000 : Nat) zs) (rawA (List.take (2000 : Nat) zs) (rawA (List.take
  (2000 : Nat) zs) (rawA (List.take (2000 : Nat) zs) (rawA (List.take (2000 : Nat) zs) (rawA (List.take (2000 : Nat) zs) (0 : Int))))))) = true then dtY (mnV (List.take (2000 : Nat)
  zs) (rawA (List.take (2000 : Nat) zs) (rawA (List.take (2000 : Nat) zs) (rawA (List.take (2000 : Nat) zs) (rawA (List.take (2000 : Nat) zs) (rawA (List.take (2000 : Nat) zs) (0 :
  Int))))))) else (0 : Int)) && (decide ((if inB (mnV (List.take (2000 : Nat) zs) (rawA (List.take (2000 : Nat) zs) (rawA (List.take (2000 : Nat) zs) (rawA (List.take (2000 : Nat)
  zs) (rawA (List.take (2000 : Nat) zs) (rawA (List.take (2000 : Nat) zs) (0 : Int))))))) = true then dtM (mnV (List.take (2000 : Nat) zs) (rawA (List.take (2000 : Nat) zs) (rawA
  (List.take (2000 : Nat) zs) (rawA (List.take (2000 : Nat) zs) (rawA (List.take (2000 : Nat) zs) (rawA (List.take (2000 : Nat) zs) (0 : Int))))))) else (0 : Int)) = if inB (mnV
  (List.take (2000 : Nat) zs) (rawA (List.take (2000 : Nat) zs) (rawA (List.take (2000 : Nat) zs) (rawA (List.take (2000 : Nat) zs) (rawA (List.take (2000 : Nat) zs) (rawA (List.take
  (2000 : Nat) zs) (0 : Int))))))) = true then dtM (mnV (List.take (2000 : Nat) zs) (rawA (List.take (2000 : Nat) zs) (rawA (List.take (2000 : Nat) zs) (rawA (List.take (2000 : Nat)
  zs) (rawA (List.take (2000 : Nat) zs) (rawA (List.take (2000 : Nat) zs) (0 : Int))))))) else (0 : Int)) && (decide ((if inB (mnV (List.take (2000 : Nat) zs) (rawA (List.take (2000
  : Nat) zs) (rawA (List.take (2000 : Nat) zs) (rawA (List.take (2000 : Nat) zs) (rawA (List.take (2000 : Nat) zs) (rawA (List.take (2000 : Nat) zs) (0 : Int))))))) = true then dtD
  (mnV (List.take (2000 : Nat) zs) (rawA (List.take (2000 : Nat) zs) (rawA (List.take (2000 : Nat) zs) (rawA (List.take (2000 : Nat) zs) (rawA (List.take (2000 : Nat) zs) (rawA
  (List.take (2000 : Nat) zs) (0 : Int))))))) else (0 : Int)) = if inB (mnV (List.take (2000 : Nat) zs) (rawA (List.take (2000 : Nat) zs) (rawA (List.take (2000 : Nat) zs) (rawA
  (List.take (2000 : Nat) zs) (rawA (List.take (2000 : Nat) zs) (rawA (List.take (2000 : Nat) zs) (0 : Int))))))) = true then dtD (mnV (List.take (2000 : Nat) zs) (rawA (List.take
  (2000 : Nat) zs) (rawA (List.take (2000 : Nat) zs) (rawA (List.take (2000 : Nat) zs) (rawA (List.take (2000 : Nat) zs) (rawA (List.take (2000 : Nat) zs) (0 : Int))))))) else (0 :
  Int)) && (decide ((if inB (mnV (List.take (2000 : Nat) zs) (rawA (List.take (2000 : Nat) zs) (rawA (List.take (2000 : Nat) zs) (rawA (List.take (2000 : Nat) zs) (rawA (List.take
  (2000 : Nat) zs) (rawA (List.take (2000 : Nat) zs) (0 : Int))))))) = true then dtH (mnV (List.take (2000 : Nat) zs) (rawA (List.take (2000 : Nat) zs) (rawA (List.take (2000 : Nat)
  zs) (rawA (List.take (2000 : Nat) zs) (rawA (List.take (2000 : Nat) zs) (rawA (List.take (2000 : Nat) zs) (0 : Int))))))) else (0 : Int)) = if inB (mnV (List.take (2000 : Nat) zs)
  (rawA (List.take (2000 : Nat) zs) (rawA (List.take (2000 : Nat) zs) (rawA (List.take (2000 : Nat) zs) (rawA (List.take (2000 : Nat) zs) (rawA (List.take (2000 : Nat) zs) (0 :
  Int))))))) = true then dtH (mnV (List.take (2000 : Nat) zs) (rawA (List.take (2000 : Nat) zs) (rawA (List.take (2000 : Nat) zs) (rawA (List.take (2000 : Nat) zs) (rawA (List.take
  (2000 : Nat) zs) (rawA (List.take (2000 : Nat) zs) (0 : Int))))))) else (0 : Int)) && (decide ((if inB (mnV (List.take (2000 : Nat) zs) (rawA (List.take (2000 : Nat) zs) (rawA
  (List.take (2000 : Nat) zs) (rawA (List.take (2000 : Nat) zs) (rawA (List.take (2000 : Nat) zs) (rawA (List.take (2000 : Nat) zs) (0 : Int))))))) = true then dtI (mnV (List.take
  (2000 : Nat) zs) (rawA (List.take (2000 : Nat) zs) (rawA (List.take (2000 : Nat) zs) (rawA (List.take (2000 : Nat) zs) (rawA (List.take (2000 : Nat) zs) (rawA (List.take (2000 :
  Nat) zs) (0 : Int))))))) else (0 : Int)) = if inB (mnV (List.take (2000 : Nat) zs) (rawA (List.take (2000 : Nat) zs) (rawA (List.take (2000 : Nat) zs) (rawA (List.take (2000 : Nat)
  zs) (rawA (List.take (2000 : Nat) zs) (rawA (List.take (2000 : Nat) zs) (0 : Int))))))) = true then dtI (mnV (List.take (2000 : Nat) zs) (rawA (List.take (2000 : Nat) zs) (rawA
  (List.take (2000 : Nat) zs) (rawA (List.take (2000 : Nat) zs) (rawA (List.take (2000 : Nat) zs) (rawA (List.take (2000 : Nat) zs) (0 : Int))))))) else (0 : Int)) && true))))) then
  false = true else bif decide ¬(if inB (mnV (List.take (2000 : Nat) zs) (rawA (List.take (2000 : Nat) zs) (rawA (List.take (2000 : Nat) zs) (rawA (List.take (2000 : Nat) zs) (rawA
  (List.take (2000 : Nat) zs) (rawA (List.take (2000 : Nat) zs) (0 : Int))))))) = true then (0 : Int) else (1 : Int)) = if inB (mnV (List.take (2000 : Nat) zs) (rawA (List.take (2000
  : Nat) zs) (rawA (List.take (2000 : Nat) zs) (rawA (List.take (2000 : Nat) zs) (rawA (List.take (2000 : Nat) zs) (rawA (List.take (2000 : Nat) zs) (0 : Int))))))) = true then (0 :
  Int) else (1 : Int) then false = true else True ∧ true = true
set_option maxRecDepth 100000 in
theorem lAns_P : lAns_T inB dtY dtM dtD dtH dtI mnV mnA dim vldB mns dtR cumI fmtC prsM prsV rsV rsOk := by
  unfold lAns_T
  intro gl y m d h i t zs hz _ _ _
  have hs : SrcI (List.take 2000 zs) := SrcI.take hz
  generalize List.take 2000 zs = xs at *
  have p0 : (0 : Int) ≤ 0 := by decide
  have p1 := rawA_le (xs := xs) p0
  have p2 := rawA_le (xs := xs) p1
  have p3 := rawA_le (xs := xs) p2
  have p4 := rawA_le (xs := xs) p3
  have p5 := rawA_le (xs := xs) p4
  refine ⟨trivial, ⟨⟨hs, p0⟩, by decide⟩, ⟨⟨hs, p1⟩, by decide⟩, ⟨⟨hs, p2⟩, by decide⟩, ⟨⟨hs, p3⟩, by decide⟩, ⟨⟨hs, p4⟩, by decide⟩, ?_⟩
  generalize rawA xs (rawA xs (rawA xs (rawA xs (rawA xs 0)))) = j5 at *
  generalize 1999 + srcN xs 0 102 = y'
  generalize 0 + srcN xs (rawA xs 0) 14 = m'
  generalize 0 + srcN xs (rawA xs (rawA xs 0)) 33 = d'
  generalize -1 + srcN xs (rawA xs (rawA xs (rawA xs 0))) 26 = h'
  generalize -1 + srcN xs (rawA xs (rawA xs (rawA xs (rawA xs 0)))) 62 = i'
  have e2 : ∀ (x : Bool) {A : Prop}, A → cond (!decide (x = x)) (false = true) A := fun x {A} a => by rw [decide_eq_true rfl]; exact a
  have e3 : ∀ (a b c d e : Int) {A : Prop}, A → cond (!(decide (a = a) && (decide (b = b) && (decide (c = c) && (decide (d = d) && (decide (e = e) && true)))))) (false = true) A := fun a b c d e {A} z => by
    rw [decide_eq_true rfl, decide_eq_true rfl, decide_eq_true rfl, decide_eq_true rfl, decide_eq_true rfl]; exact z
  repeat' (first | exact trivial | refine csplit (fun q => absurd rfl (of_decide_eq_true q)) (fun _ => ?_) | refine e2 _ ?_ | refine e3 _ _ _ _ _ ?_ | exact ⟨hs, p5⟩ | refine ⟨trivial, ?_⟩ | refine ⟨⟨hs, p5⟩, ?_⟩ | exact rfl)
def lAns_S (inB : Int → Bool) (dtY : Int → Int) (dtM : Int → Int) (dtD : Int → Int) (dtH : Int → Int) (dtI : Int → Int) (mnV : List (List AV) → Int → Int) (mnA : List (List AV) → Int → Int) (dim : Int → Int → Int) (vldB : Int → Int → Int → Int → Int → Bool) (mns : Int → Int → Int → Int → Int → Int) (dtR : Int → Int) (cumI : Int → Int → Int) (fmtC : Int → ByteArray) (prsM : ByteArray → Int) (prsV : ByteArray → Bool) (rsV : Int → Int → Int → Int → Int) (rsOk : Int → Int → Int → Int → Bool) : Prop := ∀ (gl : Glob) (y m d h i t : Int) (zs : List (List AV)), IntsA zs → fnK Try.prog { glob := gl, spec := lk [(19, (cDate_s inB dtY dtM dtD dtH dtI dtR cumI)), (12, (cMinutes_s vldB mns)), (14, (cValid_s vldB)), (16, (cDays_s dim)), (20, (rDate_s inB dtY dtM dtD dtH dtI dtR)), (13, (rMinutes_s vldB mns)), (15, (rValid_s vldB)), (17, (rDays_s dim)), (21, (cAwake_s fmtC inB prsM prsV rsV rsOk))], specH := lk [(10, newsrc_s), (18, (lMinute_s mnV mnA)), (11, srcRg_s)], nowf := true } { nt := 110, drop := drp [(1, 6291456), (2, 17171480576), (3, 51539607552), (5, 3298534883328), (6, 136339441844224), (7, 4362862139015168), (8, 604462905303714959982592), (10, 1208925819614629174706176), (11, 16924961474604808445886464), (13, 928455029464035206174343168), (14, 38376141217846788521872850944), (15, 1228036518971097232699931230208), (16, 160991626228985133990081307082752), (18, 324518553658426726783156020576256), (19, 649037107316853453566312041152512)], tys := [23] } (fun _ => none) 6 Try.f3 [.agg [.int .i64 y, .int .i64 m, .int .i64 d, .int .i64 h, .int .i64 i], .int .i64 t, .sl 1 false zs] (.bool true)
set_option maxRecDepth 100000 in
theorem lAns_e (inB : Int → Bool) (dtY : Int → Int) (dtM : Int → Int) (dtD : Int → Int) (dtH : Int → Int) (dtI : Int → Int) (mnV : List (List AV) → Int → Int) (mnA : List (List AV) → Int → Int) (dim : Int → Int → Int) (vldB : Int → Int → Int → Int → Int → Bool) (mns : Int → Int → Int → Int → Int → Int) (dtR : Int → Int) (cumI : Int → Int → Int) (fmtC : Int → ByteArray) (prsM : ByteArray → Int) (prsV : ByteArray → Bool) (rsV : Int → Int → Int → Int → Int) (rsOk : Int → Int → Int → Int → Bool) : lAns_T inB dtY dtM dtD dtH dtI mnV mnA dim vldB mns dtR cumI fmtC prsM prsV rsV rsOk = lAns_S inB dtY dtM dtD dtH dtI mnV mnA dim vldB mns dtR cumI fmtC prsM prsV rsV rsOk := by kernel_rfl
theorem lAns_v : lAns_S inB dtY dtM dtD dtH dtI mnV mnA dim vldB mns dtR cumI fmtC prsM prsV rsV rsOk := @Eq.mp (lAns_T inB dtY dtM dtD dtH dtI mnV mnA dim vldB mns dtR cumI fmtC prsM prsV rsV rsOk) (lAns_S inB dtY dtM dtD dtH dtI mnV mnA dim vldB mns dtR cumI fmtC prsM prsV rsV rsOk) (lAns_e inB dtY dtM dtD dtH dtI mnV mnA dim vldB mns dtR cumI fmtC prsM prsV rsV rsOk) lAns_P
theorem lAns_ok (gl : Glob) : SOK Try.prog gl 3 (lAns_s inB dtY dtM dtD dtH dtI mnV mnA dim vldB mns) := by
  refine ⟨fok Try.func3 (by kernel_rfl) (by kernel_rfl), ?_⟩
  intro xs pre r h hp
  unfold lAns_s at h
  split at h
  · simp only [Option.some.injEq, Prod.mk.injEq] at h
    obtain ⟨h1, h2⟩ := h
    subst h1 h2
    exact fnK_sound (tyOf (by kernel_rfl)) (by exact specOK rfl rfl ⟨cDate_ok gl, cMinutes_ok gl, cValid_ok gl, cDays_ok gl, rDate_ok gl, rMinutes_ok gl, rValid_ok gl, rDays_ok gl, cAwake_ok gl, trivial⟩ ⟨newsrc_ok gl, lMinute_ok gl, srcRg_ok gl, trivial⟩) (by kernel_rfl) Try.func3 rfl (lAns_v gl _ _ _ _ _ _ _ hp)
  · cases h
end Go.Proofs.Ytakmploakbaglaa
