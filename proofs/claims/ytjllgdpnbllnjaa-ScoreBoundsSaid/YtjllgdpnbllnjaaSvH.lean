/- Scores: the law of merging. -/
import Derived.Test.YtjllgdpnbllnjaaSvF
import Derived.Test.YtjllgdpnbllnjaaSvG
namespace Go.Proofs.Ytjllgdpnbllnjaa
open Go
set_option linter.unusedVariables false
set_option linter.unusedSimpArgs false

structure MrgP (L : List (List AV)) (N S A Q E : List (List AV) → Int) : Prop where
  len : L.length ≤ 30
  row : PrsP L
  tk : ∀ n : Nat, PrsP (L.take n) ∧ PrsP (L.drop n)
  eL : E L = 0
  e : ∀ n : Nat, E (L.take n) = 0 ∧ E (L.drop n) = 0
  add : ∀ n : Nat, n ≤ L.length → N L = N (L.take n) + N (L.drop n) ∧ S L = S (L.take n) + S (L.drop n) ∧ A L = A (L.take n) + A (L.drop n) ∧ Q L = Q (L.take n) + Q (L.drop n)
  bd : ∀ n : Nat, (0 ≤ N (L.take n) ∧ N (L.take n) ≤ 30) ∧ adB (N (L.take n)) (S (L.take n)) (A (L.take n)) (Q (L.take n)) = true ∧ (0 ≤ N (L.drop n) ∧ N (L.drop n) ≤ 30) ∧ adB (N (L.drop n)) (S (L.drop n)) (A (L.drop n)) (Q (L.drop n)) = true
  cau : S L * S L ≤ N L * Q L
  abs : -A L ≤ S L ∧ S L ≤ A L
  sb : -1000000000 ≤ S L ∧ S L ≤ 1000000000
structure MgF (M : Int → Int → Int → Int → Int → Int → Int → Int → Int → Int) (ME : Int → Int → Int → Int → Int → Int → Int → Int → Int) : Prop where
  f : ∀ n s a q n' s' a' q', adB n s a q = true → adB n' s' a' q' = true → n + n' ≤ 1000000 → ME n s a q n' s' a' q' = 0 ∧ M n s a q n' s' a' q' 0 = n + n' ∧ M n s a q n' s' a' q' 1 = s + s' ∧ M n s a q n' s' a' q' 2 = a + a' ∧ M n s a q n' s' a' q' 3 = q + q'
def wdG_s (H L : Int → Int → Int) : Sp
  | [.int .i64 a, .int .i64 b] => some (True, .agg [.int .i64 (H a b), .int .u64 (L a b)])
  | _ => none
def wcG_s (C : Int → Int → Int → Int → Int) : Sp
  | [.agg [.int .i64 a, .int .u64 b], .agg [.int .i64 c, .int .u64 d]] => some (True, .int .i64 (C a b c d))
  | _ => none
set_option maxRecDepth 100000 in
def lMerges_T : Prop :=
  ∀ (gl : Glob) (g : Bool) (cs : List (List AV)) (k : Int) (oN oS oA oQ oE : List (List AV) → Int) (V : List (List AV) → Int → Int → List (List AV)) (J : List (List AV) → Int → Int →
  Int) (M : Int → Int → Int → Int → Int → Int → Int → Int → Int → Int) (ME : Int → Int → Int → Int → Int → Int → Int → Int → Int) (H W : Int → Int → Int) (C : Int → Int → Int → Int →
  Int), (FldP (List.take (200 : Nat) cs) (0 : Int) ∧ MrgP (V (List.take (200 : Nat) cs) (0 : Int) (30 : Int)) oN oS oA oQ oE ∧ MgF M ME ∧ ∀ (a b c d : Int), C (H a b) (W a b) (H c d)
  (W c d) = cmpI (a * b) (c * d)) → True → (0 : Int) ≤ k ∧ k ≤ (255 : Int) → True ∧ (0 : Int) ≤ (200 : Int) ∧ (FldP (List.take (200 : Nat) cs) (0 : Int) ∧ (0 : Int) ≤ (30 : Int) ∧
  (30 : Int) ≤ (10000 : Int)) ∧ bif decide (rng IntKind.i64 ((↑(V (List.take (200 : Nat) cs) (0 : Int) (30 : Int)).length : Int) + (1 : Int))) then bif decide ((0 : Int) ≤ k.tmod
  ((↑(V (List.take (200 : Nat) cs) (0 : Int) (30 : Int)).length : Int) + (1 : Int)) ∧ k.tmod ((↑(V (List.take (200 : Nat) cs) (0 : Int) (30 : Int)).length : Int) + (1 : Int)) ≤ (↑(V
  (List.take (200 : Nat) cs) (0 : Int) (30 : Int)).length : Int)) then bif decide ((0 : Int) ≤ (0 : Int) ∧ (0 : Int) ≤ k.tmod ((↑(V (List.take (200 : Nat) cs) (0 : Int) (30 :
  Int)).length : Int) + (1 : Int))) then PrsP (List.drop (0 : Nat) (List.take (k.tmod ((↑(V (List.take (200 : Nat) cs) (0 : Int) (30 : Int)).length : Int) + (1 : Int))).toNat (V
  (List.take (200 : Nat) cs) (0 : Int) (30 : Int)))) ∧ bif decide ((0 : Int) ≤ (↑(V (List.take (200 : Nat) cs) (0 : Int) (30 : Int)).length : Int) ∧ (↑(V (List.take (200 : Nat) cs)
  (0 : Int) (30 : Int)).length : Int) ≤ (↑(V (List.take (200 : Nat) cs) (0 : Int) (30 : Int)).length : Int)) then bif decide ((0 : Int) ≤ k.tmod ((↑(V (List.take (200 : Nat) cs) (0 :
  Int) (30 : Int)).length : Int) + (1 : Int)) ∧ k.tmod ((↑(V (List.take (200 : Nat) cs) (0 : Int) (30 : Int)).length : Int) + (1 : Int)) ≤ (↑(V (List.take (200 : Nat) cs) (0 : Int)
  (30 : Int)).length : Int)) then PrsP (List.drop (k.tmod ((↑(V (List.take (200 : Nat) cs) (0 : Int) (30 : Int)).length : Int) + (1 : Int))).toNat (List.take (↑(V (List.take (200 :
  Nat) cs) (0 : Int) (30 : Int)).length : Int).toNat (V (List.take (200 : Nat) cs) (0 : Int) (30 : Int)))) ∧ PrsP (V (List.take (200 : Nat) cs) (0 : Int) (30 : Int)) ∧ True ∧ True ∧
  bif decide (oE (List.drop (0 : Nat) (List.take (k.tmod ((↑(V (List.take (200 : Nat) cs) (0 : Int) (30 : Int)).length : Int) + (1 : Int))).toNat (V (List.take (200 : Nat) cs) (0 :
  Int) (30 : Int)))) = (0 : Int)) then bif decide (oE (List.drop (k.tmod ((↑(V (List.take (200 : Nat) cs) (0 : Int) (30 : Int)).length : Int) + (1 : Int))).toNat (List.take (↑(V
  (List.take (200 : Nat) cs) (0 : Int) (30 : Int)).length : Int).toNat (V (List.take (200 : Nat) cs) (0 : Int) (30 : Int)))) = (0 : Int)) then bif decide (oE (V (List.take (200 :
  Nat) cs) (0 : Int) (30 : Int)) = (0 : Int)) then bif decide (ME (oN (List.drop (0 : Nat) (List.take (k.tmod ((↑(V (List.take (200 : Nat) cs) (0 : Int) (30 : Int)).length : Int) +
  (1 : Int))).toNat (V (List.take (200 : Nat) cs) (0 : Int) (30 : Int))))) (oS (List.drop (0 : Nat) (List.take (k.tmod ((↑(V (List.take (200 : Nat) cs) (0 : Int) (30 : Int)).length :
  Int) + (1 : Int))).toNat (V (List.take (200 : Nat) cs) (0 : Int) (30 : Int))))) (oA (List.drop (0 : Nat) (List.take (k.tmod ((↑(V (List.take (200 : Nat) cs) (0 : Int) (30 :
  Int)).length : Int) + (1 : Int))).toNat (V (List.take (200 : Nat) cs) (0 : Int) (30 : Int))))) (oQ (List.drop (0 : Nat) (List.take (k.tmod ((↑(V (List.take (200 : Nat) cs) (0 :
  Int) (30 : Int)).length : Int) + (1 : Int))).toNat (V (List.take (200 : Nat) cs) (0 : Int) (30 : Int))))) (oN (List.drop (k.tmod ((↑(V (List.take (200 : Nat) cs) (0 : Int) (30 :
  Int)).length : Int) + (1 : Int))).toNat (List.take (↑(V (List.take (200 : Nat) cs) (0 : Int) (30 : Int)).length : Int).toNat (V (List.take (200 : Nat) cs) (0 : Int) (30 : Int)))))
  (oS (List.drop (k.tmod ((↑(V (List.take (200 : Nat) cs) (0 : Int) (30 : Int)).length : Int) + (1 : Int))).toNat (List.take (↑(V (List.take (200 : Nat) cs) (0 : Int) (30 :
  Int)).length : Int).toNat (V (List.take (200 : Nat) cs) (0 : Int) (30 : Int))))) (oA (List.drop (k.tmod ((↑(V (List.take (200 : Nat) cs) (0 : Int) (30 : Int)).length : Int) + (1 :
  Int))).toNat (List.take (↑(V (List.take (200 : Nat) cs) (0 : Int) (30 : Int)).length : Int).toNat (V (List.take (200 : Nat) cs) (0 : Int) (30 : Int))))) (oQ (List.drop (k.tmod
  ((↑(V (List.take (200 : Nat) cs) (0 : Int) (30 : Int)).length : Int) + (1 : Int))).toNat (List.take (↑(V (List.take (200 : Nat) cs) (0 : Int) (30 : Int)).length : Int).toNat (V
  (List.take (200 : Nat) cs) (0 : Int) (30 : Int))))) = (0 : Int)) then bif decide (ME (oN (List.drop (k.tmod ((↑(V (List.take (200 : Nat) cs) (0 : Int) (30 : Int)).length : Int) +
  (1 : Int))).toNat (List.take (↑(V (List.take (200 : Nat) cs) (0 : Int) (30 : Int)).length : Int).toNat (V (List.take (200 : Nat) cs) (0 : Int) (30 : Int))))) (oS (List.drop (k.tmod
  ((↑(V (List.take (200 : Nat) cs) (0 : Int) (30 : Int)).length : Int) + (1 : Int))).toNat (List.take (↑(V (List.take (200 : Nat) cs) (0 : Int) (30 : Int)).length : Int).toNat (V
  (List.take (200 : Nat) cs) (0 : Int) (30 : Int))))) (oA (List.drop (k.tmod ((↑(V (List.take (200 : Nat) cs) (0 : Int) (30 : Int)).length : Int) + (1 : Int))).toNat (List.take (↑(V
  (List.take (200 : Nat) cs) (0 : Int) (30 : Int)).length : Int).toNat (V (List.take (200 : Nat) cs) (0 : Int) (30 : Int))))) (oQ (List.drop (k.tmod ((↑(V (List.take (200 : Nat) cs)
  (0 : Int) (30 : Int)).length : Int) + (1 : Int))).toNat (List.take (↑(V (List.take (200 : Nat) cs) (0 : Int) (30 : Int)).length : Int).toNat (V (List.take (200 : Nat) cs) (0 : Int)
  (30 : Int))))) (oN (List.drop (0 : Nat) (List.take (k.tmod ((↑(V (List.take (200 : Nat) cs) (0 : Int) (30 : Int)).length : Int) + (1 : Int))).toNat (V (List.take (200 : Nat) cs) (0
  : Int) (30 : Int))))) (oS (List.drop (0 : Nat) (List.take (k.tmod ((↑(V (List.take (200 : Nat) cs) (0 : Int) (30 : Int)).length : Int) + (1 : Int))).toNat (V (List.take (200 : Nat)
  cs) (0 : Int) (30 : Int))))) (oA (List.drop (0 : Nat) (List.take (k.tmod ((↑(V (List.take (200 : Nat) cs) (0 : Int) (30 : Int)).length : Int) + (1 : Int))).toNat (V (List.take (200
  : Nat) cs) (0 : Int) (30 : Int))))) (oQ (List.drop (0 : Nat) (List.take (k.tmod ((↑(V (List.take (200 : Nat) cs) (0 : Int) (30 : Int)).length : Int) + (1 : Int))).toNat (V
  (List.take (200 : Nat) cs) (0 : Int) (30 : Int))))) = (0 : Int)) then bif decide (oN (V (List.take (200 : Nat) cs) (0 : Int) (30 : Int)) = M (oN (List.drop (0 : Nat) (List.take
  (k.tmod ((↑(V (List.take (200 : Nat) cs) (0 : Int) (30 : Int)).length : Int) + (1 : Int))).toNat (V (List.take (200 : Nat) cs) (0 : Int) (30 : Int))))) (oS (List.drop (0 : Nat)
  (List.take (k.tmod ((↑(V (List.take (200 : Nat) cs) (0 : Int) (30 : Int)).length : Int) + (1 : Int))).toNat (V (List.take (200 : Nat) cs) (0 : Int) (30 : Int))))) (oA (List.drop (0
  : Nat) (List.take (k.tmod ((↑(V (List.take (200 : Nat) cs) (0 : Int) (30 : Int)).length : Int) + (1 : Int))).toNat (V (List.take (200 : Nat) cs) (0 : Int) (30 : Int))))) (oQ
  (List.drop (0 : Nat) (List.take (k.tmod ((↑(V (List.take (200 : Nat) cs) (0 : Int) (30 : Int)).length : Int) + (1 : Int))).toNat (V (List.take (200 : Nat) cs) (0 : Int) (30 :
  Int))))) (oN (List.drop (k.tmod ((↑(V (List.take (200 : Nat) cs) (0 : Int) (30 : Int)).length : Int) + (1 : Int))).toNat (List.take (↑(V (List.take (200 : Nat) cs) (0 : Int) (30 :
  Int)).length : Int).toNat (V (List.take (200 : Nat) cs) (0 : Int) (30 : Int))))) (oS (List.drop (k.tmod ((↑(V (List.take (200 : Nat) cs) (0 : Int) (30 : Int)).length : Int) + (1 :
  Int))).toNat (List.take (↑(V (List.take (200 : Nat) cs) (0 : Int) (30 : Int)).length : Int).toNat (V (List.take (200 : Nat) cs) (0 : Int) (30 : Int))))) (oA (List.drop (k.tmod
  ((↑(V (List.take (200 : Nat) cs) (0 : Int) (30 : Int)).length : Int) + (1 : Int))).toNat (List.take (↑(V (List.take (200 : Nat) cs) (0 : Int) (30 : Int)).length : Int).toNat (V
  (List.take (200 : Nat) cs) (0 : Int) (30 : Int))))) (oQ (List.drop (k.tmod ((↑(V (List.take (200 : Nat) cs) (0 : Int) (30 : Int)).length : Int) + (1 : Int))).toNat (List.take (↑(V
  (List.take (200 : Nat) cs) (0 : Int) (30 : Int)).length : Int).toNat (V (List.take (200 : Nat) cs) (0 : Int) (30 : Int))))) (0 : Int)) && (decide (oS (V (List.take (200 : Nat) cs)
  (0 : Int) (30 : Int)) = M (oN (List.drop (0 : Nat) (List.take (k.tmod ((↑(V (List.take (200 : Nat) cs) (0 : Int) (30 : Int)).length : Int) + (1 : Int))).toNat (V (List.take (200 :
  Nat) cs) (0 : Int) (30 : Int))))) (oS (List.drop (0 : Nat) (List.take (k.tmod ((↑(V (List.take (200 : Nat) cs) (0 : Int) (30 : Int)).length : Int) + (1 : Int))).toNat (V (List.take
  (200 : Nat) cs) (0 : Int) (30 : Int))))) (oA (List.drop (0 : Nat) (List.take (k.tmod ((↑(V (List.take (200 : Nat) cs) (0 : Int) (30 : Int)).length : Int) + (1 : Int))).toNat (V
  (List.take (200 : Nat) cs) (0 : Int) (30 : Int))))) (oQ (List.drop (0 : Nat) (List.take (k.tmod ((↑(V (List.take (200 : Nat) cs) (0 : Int) (30 : Int)).length : Int) + (1 :
  Int))).toNat (V (List.take (200 : Nat) cs) (0 : Int) (30 : Int))))) (oN (List.drop (k.tmod ((↑(V (List.take (200 : Nat) cs) (0 : Int) (30 : Int)).length : Int) + (1 : Int))).toNat
  (List.take (↑(V (List.take (200 : Nat) cs) (0 : Int) (30 : Int)).length : Int).toNat (V (List.take (200 : Nat) cs) (0 : Int) (30 : Int))))) (oS (List.drop (k.tmod ((↑(V (List.take
  (200 : Nat) cs) (0 : Int) (30 : Int)).length : Int) + (1 : Int))).toNat (List.take (↑(V (List.take (200 : Nat) cs) (0 : Int) (30 : Int)).length : Int).toNat (V (List.take (200 :
  Nat) cs) (0 : Int) (30 : Int))))) (oA (List.drop (k.tmod ((↑(V (List.take (200 : Nat) cs) (0 : Int) (30 : Int)).length : Int) + (1 : Int))).toNat (List.take (↑(V (List.take (200 :
  Nat) cs) (0 : Int) (30 : Int)).length : Int).toNat (V (List.take (200 : Nat) cs) (0 : Int) (30 : Int))))) (oQ (List.drop (k.tmod ((↑(V (List.take (200 : Nat) cs) (0 : Int) (30 :
  Int)).length : Int) + (1 : Int))).toNat (List.take (↑(V (List.take (200 : Nat) cs) (0 : Int) (30 : Int)).length : Int).toNat (V (List.take (200 : Nat) cs) (0 : Int) (30 : Int)))))
  (1 : Int)) && (decide (oA (V (List.take (200 : Nat) cs) (0 : Int) (30 : Int)) = M (oN (List.drop (0 : Nat) (List.take (k.tmod ((↑(V (List.take (200 : Nat) cs) (0 : Int) (30 :
  Int)).length : Int) + (1 : Int))).toNat (V (List.take (200 : Nat) cs) (0 : Int) (30 : Int))))) (oS (List.drop (0 : Nat) (List.take (k.tmod ((↑(V (List.take (200 : Nat) cs) (0 :
  Int) (30 : Int)).length : Int) + (1 : Int))).toNat (V (List.take (200 : Nat) cs) (0 : Int) (30 : Int))))) (oA (List.drop (0 : Nat) (List.take (k.tmod ((↑(V (List.take (200 : Nat)
  cs) (0 : Int) (30 : Int)).length : Int) + (1 : Int))).toNat (V (List.take (200 : Nat) cs) (0 : Int) (30 : Int))))) (oQ (List.drop (0 : Nat) (List.take (k.tmod ((↑(V (List.take (200
  : Nat) cs) (0 : Int) (30 : Int)).length : Int) + (1 : Int))).toNat (V (List.take (200 : Nat) cs) (0 : Int) (30 : Int))))) (oN (List.drop (k.tmod ((↑(V (List.take (200 : Nat) cs) (0
  : Int) (30 : Int)).length : Int) + (1 : Int))).toNat (List.take (↑(V (List.take (200 : Nat) cs) (0 : Int) (30 : Int)).length : Int).toNat (V (List.take (200 : Nat) cs) (0 : Int)
  (30 : Int))))) (oS (List.drop (k.tmod ((↑(V (List.take (200 : Nat) cs) (0 : Int) (30 : Int)).length : Int) + (1 : Int))).toNat (List.take (↑(V (List.take (200 : Nat) cs) (0 : Int)
  (30 : Int)).length : Int).toNat (V (List.take (200 : Nat) cs) (0 : Int) (30 : Int))))) (oA (List.drop (k.tmod ((↑(V (List.take (200 : Nat) cs) (0 : Int) (30 : Int)).length : Int) +
  (1 : Int))).toNat (List.take (↑(V (List.take (200 : Nat) cs) (0 : Int) (30 : Int)).length : Int).toNat (V (List.take (200 : Nat) cs) (0 : Int) (30 : Int))))) (oQ (List.drop (k.tmod
  ((↑(V (List.take (200 : Nat) cs) (0 : Int) (30 : Int)).length : Int) + (1 : Int))).toNat (List.take (↑(V (List.take (200 : Nat) cs) (0 : Int) (30 : Int)).length : Int).toNat (V
  (List.take (200 : Nat) cs) (0 : Int) (30 : Int))))) (2 : Int)) && (decide (oQ (V (List.take (200 : Nat) cs) (0 : Int) (30 : Int)) = M (oN (List.drop (0 : Nat) (List.take (k.tmod
  ((↑(V (List.take (200 : Nat) cs) (0 : Int) (30 : Int)).length : Int) + (1 : Int))).toNat (V (List.take (200 : Nat) cs) (0 : Int) (30 : Int))))) (oS (List.drop (0 : Nat) (List.take
  (k.tmod ((↑(V (List.take (200 : Nat) cs) (0 : Int) (30 : Int)).length : Int) + (1 : Int))).toNat (V (List.take (200 : Nat) cs) (0 : Int) (30 : Int))))) (oA (List.drop (0 : Nat)
  (List.take (k.tmod ((↑(V (List.take (200 : Nat) cs) (0 : Int) (30 : Int)).length : Int) + (1 : Int))).toNat (V (List.take (200 : Nat) cs) (0 : Int) (30 : Int))))) (oQ (List.drop (0
  : Nat) (List.take (k.tmod ((↑(V (List.take (200 : Nat) cs) (0 : Int) (30 : Int)).length : Int) + (1 : Int))).toNat (V (List.take (200 : Nat) cs) (0 : Int) (30 : Int))))) (oN
  (List.drop (k.tmod ((↑(V (List.take (200 : Nat) cs) (0 : Int) (30 : Int)).length : Int) + (1 : Int))).toNat (List.take (↑(V (List.take (200 : Nat) cs) (0 : Int) (30 : Int)).length
  : Int).toNat (V (List.take (200 : Nat) cs) (0 : Int) (30 : Int))))) (oS (List.drop (k.tmod ((↑(V (List.take (200 : Nat) cs) (0 : Int) (30 : Int)).length : Int) + (1 : Int))).toNat
  (List.take (↑(V (List.take (200 : Nat) cs) (0 : Int) (30 : Int)).length : Int).toNat (V (List.take (200 : Nat) cs) (0 : Int) (30 : Int))))) (oA (List.drop (k.tmod ((↑(V (List.take
  (200 : Nat) cs) (0 : Int) (30 : Int)).length : Int) + (1 : Int))).toNat (List.take (↑(V (List.take (200 : Nat) cs) (0 : Int) (30 : Int)).length : Int).toNat (V (List.take (200 :
  Nat) cs) (0 : Int) (30 : Int))))) (oQ (List.drop (k.tmod ((↑(V (List.take (200 : Nat) cs) (0 : Int) (30 : Int)).length : Int) + (1 : Int))).toNat (List.take (↑(V (List.take (200 :
  Nat) cs) (0 : Int) (30 : Int)).length : Int).toNat (V (List.take (200 : Nat) cs) (0 : Int) (30 : Int))))) (3 : Int)) && true))) then bif decide (M (oN (List.drop (0 : Nat)
  (List.take (k.tmod ((↑(V (List.take (200 : Nat) cs) (0 : Int) (30 : Int)).length : Int) + (1 : Int))).toNat (V (List.take (200 : Nat) cs) (0 : Int) (30 : Int))))) (oS (List.drop (0
  : Nat) (List.take (k.tmod ((↑(V (List.take (200 : Nat) cs) (0 : Int) (30 : Int)).length : Int) + (1 : Int))).toNat (V (List.take (200 : Nat) cs) (0 : Int) (30 : Int))))) (oA
  (List.drop (0 : Nat) (List.take (k.tmod ((↑(V (List.take (200 : Nat) cs) (0 : Int) (30 : Int)).length : Int) + (1 : Int))).toNat (V (List.take (200 : Nat) cs) (0 : Int) (30 :
  Int))))) (oQ (List.drop (0 : Nat) (List.take (k.tmod ((↑(V (List.take (200 : Nat) cs) (0 : Int) (30 : Int)).length : Int) + (1 : Int))).toNat (V (List.take (200 : Nat) cs) (0 :
  Int) (30 : Int))))) (oN (List.drop (k.tmod ((↑(V (List.take (200 : Nat) cs) (0 : Int) (30 : Int)).length : Int) + (1 : Int))).toNat (List.take (↑(V (List.take (200 : Nat) cs) (0 :
  Int) (30 : Int)).length : Int).toNat (V (List.take (200 : Nat) cs) (0 : Int) (30 : Int))))) (oS (List.drop (k.tmod ((↑(V (List.take (200 : Nat) cs) (0 : Int) (30 : Int)).length :
  Int) + (1 : Int))).toNat (List.take (↑(V (List.take (200 : Nat) cs) (0 : Int) (30 : Int)).length : Int).toNat (V (List.take (200 : Nat) cs) (0 : Int) (30 : Int))))) (oA (List.drop
  (k.tmod ((↑(V (List.take (200 : Nat) cs) (0 : Int) (30 : Int)).length : Int) + (1 : Int))).toNat (List.take (↑(V (List.take (200 : Nat) cs) (0 : Int) (30 : Int)).length :
  Int).toNat (V (List.take (200 : Nat) cs) (0 : Int) (30 : Int))))) (oQ (List.drop (k.tmod ((↑(V (List.take (200 : Nat) cs) (0 : Int) (30 : Int)).length : Int) + (1 : Int))).toNat
  (List.take (↑(V (List.take (200 : Nat) cs) (0 : Int) (30 : Int)).length : Int).toNat (V (List.take (200 : Nat) cs) (0 : Int) (30 : Int))))) (0 : Int) = M (oN (List.drop (k.tmod
  ((↑(V (List.take (200 : Nat) cs) (0 : Int) (30 : Int)).length : Int) + (1 : Int))).toNat (List.take (↑(V (List.take (200 : Nat) cs) (0 : Int) (30 : Int)).length : Int).toNat (V
  (List.take (200 : Nat) cs) (0 : Int) (30 : Int))))) (oS (List.drop (k.tmod ((↑(V (List.take (200 : Nat) cs) (0 : Int) (30 : Int)).length : Int) + (1 : Int))).toNat (List.take (↑(V
  (List.take (200 : Nat) cs) (0 : Int) (30 : Int)).length : Int).toNat (V (List.take (200 : Nat) cs) (0 : Int) (30 : Int))))) (oA (List.drop (k.tmod ((↑(V (List.take (200 : Nat) cs)
  (0 : Int) (30 : Int)).length : Int) + (1 : Int))).toNat (List.take (↑(V (List.take (200 : Nat) cs) (0 : Int) (30 : Int)).length : Int).toNat (V (List.take (200 : Nat) cs) (0 : Int)
  (30 : Int))))) (oQ (List.drop (k.tmod ((↑(V (List.take (200 : Nat) cs) (0 : Int) (30 : Int)).length : Int) + (1 : Int))).toNat (List.take (↑(V (List.take (200 : Nat) cs) (0 : Int)
  (30 : Int)).length : Int).toNat (V (List.take (200 : Nat) cs) (0 : Int) (30 : Int))))) (oN (List.drop (0 : Nat) (List.take (k.tmod ((↑(V (List.take (200 : Nat) cs) (0 : Int) (30 :
  Int)).length : Int) + (1 : Int))).toNat (V (List.take (200 : Nat) cs) (0 : Int) (30 : Int))))) (oS (List.drop (0 : Nat) (List.take (k.tmod ((↑(V (List.take (200 : Nat) cs) (0 :
  Int) (30 : Int)).length : Int) + (1 : Int))).toNat (V (List.take (200 : Nat) cs) (0 : Int) (30 : Int))))) (oA (List.drop (0 : Nat) (List.take (k.tmod ((↑(V (List.take (200 : Nat)
  cs) (0 : Int) (30 : Int)).length : Int) + (1 : Int))).toNat (V (List.take (200 : Nat) cs) (0 : Int) (30 : Int))))) (oQ (List.drop (0 : Nat) (List.take (k.tmod ((↑(V (List.take (200
  : Nat) cs) (0 : Int) (30 : Int)).length : Int) + (1 : Int))).toNat (V (List.take (200 : Nat) cs) (0 : Int) (30 : Int))))) (0 : Int)) && (decide (M (oN (List.drop (0 : Nat)
  (List.take (k.tmod ((↑(V (List.take (200 : Nat) cs) (0 : Int) (30 : Int)).length : Int) + (1 : Int))).toNat (V (List.take (200 : Nat) cs) (0 : Int) (30 : Int))))) (oS (List.drop (0
  : Nat) (List.take (k.tmod ((↑(V (List.take (200 : Nat) cs) (0 : Int) (30 : Int)).length : Int) + (1 : Int))).toNat (V (List.take (200 : Nat) cs) (0 : Int) (30 : Int))))) (oA
  (List.drop (0 : Nat) (List.take (k.tmod ((↑(V (List.take (200 : Nat) cs) (0 : Int) (30 : Int)).length : Int) + (1 : Int))).toNat (V (List.take (200 : Nat) cs) (0 : Int) (30 :
  Int))))) (oQ (List.drop (0 : Nat) (List.take (k.tmod ((↑(V (List.take (200 : Nat) cs) (0 : Int) (30 : Int)).length : Int) + (1 : Int))).toNat (V (List.take (200 : Nat) cs) (0 :
  Int) (30 : Int))))) (oN (List.drop (k.tmod ((↑(V (List.take (200 : Nat) cs) (0 : Int) (30 : Int)).length : Int) + (1 : Int))).toNat (List.take (↑(V (List.take (200 : Nat) cs) (0 :
  Int) (30 : Int)).length : Int).toNat (V (List.take (200 : Nat) cs) (0 : Int) (30 : Int))))) (oS (List.drop (k.tmod ((↑(V (List.take (200 : Nat) cs) (0 : Int) (30 : Int)).length :
  Int) + (1 : Int))).toNat (List.take (↑(V (List.take (200 : Nat) cs) (0 : Int) (30 : Int)).length : Int).toNat (V (List.take (200 : Nat) cs) (0 : Int) (30 : Int))))) (oA (List.drop
  (k.tmod ((↑(V (List.take (200 : Nat) cs) (0 : Int) (30 : Int)).length : Int) + (1 : Int))).toNat (List.take (↑(V (List.take (200 : Nat) cs) (0 : Int) (30 : Int)).length :
  Int).toNat (V (List.take (200 : Nat) cs) (0 : Int) (30 : Int))))) (oQ (List.drop (k.tmod ((↑(V (List.take (200 : Nat) cs) (0 : Int) (30 : Int)).length : Int) + (1 : Int))).toNat
  (List.take (↑(V (List.take (200 : Nat) cs) (0 : Int) (30 : Int)).length : Int).toNat (V (List.take (200 : Nat) cs) (0 : Int) (30 : Int))))) (1 : Int) = M (oN (List.drop (k.tmod
  ((↑(V (List.take (200 : Nat) cs) (0 : Int) (30 : Int)).length : Int) + (1 : Int))).toNat (List.take (↑(V (List.take (200 : Nat) cs) (0 : Int) (30 : Int)).length : Int).toNat (V
  (List.take (200 : Nat) cs) (0 : Int) (30 : Int))))) (oS (List.drop (k.tmod ((↑(V (List.take (200 : Nat) cs) (0 : Int) (30 : Int)).length : Int) + (1 : Int))).toNat (List.take (↑(V
  (List.take (200 : Nat) cs) (0 : Int) (30 : Int)).length : Int).toNat (V (List.take (200 : Nat) cs) (0 : Int) (30 : Int))))) (oA (List.drop (k.tmod ((↑(V (List.take (200 : Nat) cs)
  (0 : Int) (30 : Int)).length : Int) + (1 : Int))).toNat (List.take (↑(V (List.take (200 : Nat) cs) (0 : Int) (30 : Int)).length : Int).toNat (V (List.take (200 : Nat) cs) (0 : Int)
  (30 : Int))))) (oQ (List.drop (k.tmod ((↑(V (List.take (200 : Nat) cs) (0 : Int) (30 : Int)).length : Int) + (1 : Int))).toNat (List.take (↑(V (List.take (200 : Nat) cs) (0 : Int)
  (30 : Int)).length : Int).toNat (V (List.take (200 : Nat) cs) (0 : Int) (30 : Int))))) (oN (List.drop (0 : Nat) (List.take (k.tmod ((↑(V (List.take (200 : Nat) cs) (0 : Int) (30 :
  Int)).length : Int) + (1 : Int))).toNat (V (List.take (200 : Nat) cs) (0 : Int) (30 : Int))))) (oS (List.drop (0 : Nat) (List.take (k.tmod ((↑(V (List.take (200 : Nat) cs) (0 :
  Int) (30 : Int)).length : Int) + (1 : Int))).toNat (V (List.take (200 : Nat) cs) (0 : Int) (30 : Int))))) (oA (List.drop (0 : Nat) (List.take (k.tmod ((↑(V (List.take (200 : Nat)
  cs) (0 : Int) (30 : Int)).length : Int) + (1 : Int))).toNat (V (List.take (200 : Nat) cs) (0 : Int) (30 : Int))))) (oQ (List.drop (0 : Nat) (List.take (k.tmod ((↑(V (List.take (200
  : Nat) cs) (0 : Int) (30 : Int)).length : Int) + (1 : Int))).toNat (V (List.take (200 : Nat) cs) (0 : Int) (30 : Int))))) (1 : Int)) && (decide (M (oN (List.drop (0 : Nat)
  (List.take (k.tmod ((↑(V (List.take (200 : Nat) cs) (0 : Int) (30 : Int)).length : Int) + (1 : Int))).toNat (V (List.take (200 : Nat) cs) (0 : Int) (30 : Int))))) (oS (List.drop (0
  : Nat) (List.take (k.tmod ((↑(V (List.take (200 : Nat) cs) (0 : Int) (30 : Int)).length : Int) + (1 : Int))).toNat (V (List.take (200 : Nat) cs) (0 : Int) (30 : Int))))) (oA
  (List.drop (0 : Nat) (List.take (k.tmod ((↑(V (List.take (200 : Nat) cs) (0 : Int) (30 : Int)).length : Int) + (1 : Int))).toNat (V (List.take (200 : Nat) cs) (0 : Int) (30 :
  Int))))) (oQ (List.drop (0 : Nat) (List.take (k.tmod ((↑(V (List.take (200 : Nat) cs) (0 : Int) (30 : Int)).length : Int) + (1 : Int))).toNat (V (List.take (200 : Nat) cs) (0 :
  Int) (30 : Int))))) (oN (List.drop (k.tmod ((↑(V (List.take (200 : Nat) cs) (0 : Int) (30 : Int)).length : Int) + (1 : Int))).toNat (List.take (↑(V (List.take (200 : Nat) cs) (0 :
  Int) (30 : Int)).length : Int).toNat (V (List.take (200 : Nat) cs) (0 : Int) (30 : Int))))) (oS (List.drop (k.tmod ((↑(V (List.take (200 : Nat) cs) (0 : Int) (30 : Int)).length :
  Int) + (1 : Int))).toNat (List.take (↑(V (List.take (200 : Nat) cs) (0 : Int) (30 : Int)).length : Int).toNat (V (List.take (200 : Nat) cs) (0 : Int) (30 : Int))))) (oA (List.drop
  (k.tmod ((↑(V (List.take (200 : Nat) cs) (0 : Int) (30 : Int)).length : Int) + (1 : Int))).toNat (List.take (↑(V (List.take (200 : Nat) cs) (0 : Int) (30 : Int)).length :
  Int).toNat (V (List.take (200 : Nat) cs) (0 : Int) (30 : Int))))) (oQ (List.drop (k.tmod ((↑(V (List.take (200 : Nat) cs) (0 : Int) (30 : Int)).length : Int) + (1 : Int))).toNat
  (List.take (↑(V (List.take (200 : Nat) cs) (0 : Int) (30 : Int)).length : Int).toNat (V (List.take (200 : Nat) cs) (0 : Int) (30 : Int))))) (2 : Int) = M (oN (List.drop (k.tmod
  ((↑(V (List.take (200 : Nat) cs) (0 : Int) (30 : Int)).length : Int) + (1 : Int))).toNat (List.take (↑(V (List.take (200 : Nat) cs) (0 : Int) (30 : Int)).length : Int).toNat (V
  (List.take (200 : Nat) cs) (0 : Int) (30 : Int))))) (oS (List.drop (k.tmod ((↑(V (List.take (200 : Nat) cs) (0 : Int) (30 : Int)).length : Int) + (1 : Int))).toNat (List.take (↑(V
  (List.take (200 : Nat) cs) (0 : Int) (30 : Int)).length : Int).toNat (V (List.take (200 : Nat) cs) (0 : Int) (30 : Int))))) (oA (List.drop (k.tmod ((↑(V (List.take (200 : Nat) cs)
  (0 : Int) (30 : Int)).length : Int) + (1 : Int))).toNat (List.take (↑(V (List.take (200 : Nat) cs) (0 : Int) (30 : Int)).length : Int).toNat (V (List.take (200 : Nat) cs) (0 : Int)
  (30 : Int))))) (oQ (List.drop (k.tmod ((↑(V (List.take (200 : Nat) cs) (0 : Int) (30 : Int)).length : Int) + (1 : Int))).toNat (List.take (↑(V (List.take (200 : Nat) cs) (0 : Int)
  (30 : Int)).length : Int).toNat (V (List.take (200 : Nat) cs) (0 : Int) (30 : Int))))) (oN (List.drop (0 : Nat) (List.take (k.tmod ((↑(V (List.take (200 : Nat) cs) (0 : Int) (30 :
  Int)).length : Int) + (1 : Int))).toNat (V (List.take (200 : Nat) cs) (0 : Int) (30 : Int))))) (oS (List.drop (0 : Nat) (List.take (k.tmod ((↑(V (List.take (200 : Nat) cs) (0 :
  Int) (30 : Int)).length : Int) + (1 : Int))).toNat (V (List.take (200 : Nat) cs) (0 : Int) (30 : Int))))) (oA (List.drop (0 : Nat) (List.take (k.tmod ((↑(V (List.take (200 : Nat)
  cs) (0 : Int) (30 : Int)).length : Int) + (1 : Int))).toNat (V (List.take (200 : Nat) cs) (0 : Int) (30 : Int))))) (oQ (List.drop (0 : Nat) (List.take (k.tmod ((↑(V (List.take (200
  : Nat) cs) (0 : Int) (30 : Int)).length : Int) + (1 : Int))).toNat (V (List.take (200 : Nat) cs) (0 : Int) (30 : Int))))) (2 : Int)) && (decide (M (oN (List.drop (0 : Nat)
  (List.take (k.tmod ((↑(V (List.take (200 : Nat) cs) (0 : Int) (30 : Int)).length : Int) + (1 : Int))).toNat (V (List.take (200 : Nat) cs) (0 : Int) (30 : Int))))) (oS (List.drop (0
  : Nat) (List.take (k.tmod ((↑(V (List.take (200 : Nat) cs) (0 : Int) (30 : Int)).length : Int) + (1 : Int))).toNat (V (List.take (200 : Nat) cs) (0 : Int) (30 : Int))))) (oA
  (List.drop (0 : Nat) (List.take (k.tmod ((↑(V (List.take (200 : Nat) cs) (0 : Int) (30 : Int)).length : Int) + (1 : Int))).toNat (V (List.take (200 : Nat) cs) (0 : Int) (30 :
  Int))))) (oQ (List.drop (0 : Nat) (List.take (k.tmod ((↑(V (List.take (200 : Nat) cs) (0 : Int) (30 : Int)).length : Int) + (1 : Int))).toNat (V (List.take (200 : Nat) cs) (0 :
  Int) (30 : Int))))) (oN (List.drop (k.tmod ((↑(V (List.take (200 : Nat) cs) (0 : Int) (30 : Int)).length : Int) + (1 : Int))).toNat (List.take (↑(V (List.take (200 : Nat) cs) (0 :
  Int) (30 : Int)).length : Int).toNat (V (List.take (200 : Nat) cs) (0 : Int) (30 : Int))))) (oS (List.drop (k.tmod ((↑(V (List.take (200 : Nat) cs) (0 : Int) (30 : Int)).length :
  Int) + (1 : Int))).toNat (List.take (↑(V (List.take (200 : Nat) cs) (0 : Int) (30 : Int)).length : Int).toNat (V (List.take (200 : Nat) cs) (0 : Int) (30 : Int))))) (oA (List.drop
  (k.tmod ((↑(V (List.take (200 : Nat) cs) (0 : Int) (30 : Int)).length : Int) + (1 : Int))).toNat (List.take (↑(V (List.take (200 : Nat) cs) (0 : Int) (30 : Int)).length :
  Int).toNat (V (List.take (200 : Nat) cs) (0 : Int) (30 : Int))))) (oQ (List.drop (k.tmod ((↑(V (List.take (200 : Nat) cs) (0 : Int) (30 : Int)).length : Int) + (1 : Int))).toNat
  (List.take (↑(V (List.take (200 : Nat) cs) (0 : Int) (30 : Int)).length : Int).toNat (V (List.take (200 : Nat) cs) (0 : Int) (30 : Int))))) (3 : Int) = M (oN (List.drop (k.tmod
  ((↑(V (List.take (200 : Nat) cs) (0 : Int) (30 : Int)).length : Int) + (1 : Int))).toNat (List.take (↑(V (List.take (200 : Nat) cs) (0 : Int) (30 : Int)).length : Int).toNat (V
  (List.take (200 : Nat) cs) (0 : Int) (30 : Int))))) (oS (List.drop (k.tmod ((↑(V (List.take (200 : Nat) cs) (0 : Int) (30 : Int)).length : Int) + (1 : Int))).toNat (List.take (↑(V
  (List.take (200 : Nat) cs) (0 : Int) (30 : Int)).length : Int).toNat (V (List.take (200 : Nat) cs) (0 : Int) (30 : Int))))) (oA (List.drop (k.tmod ((↑(V (List.take (200 : Nat) cs)
  (0 : Int) (30 : Int)).length : Int) + (1 : Int))).toNat (List.take (↑(V (List.take (200 : Nat) cs) (0 : Int) (30 : Int)).length : Int).toNat (V (List.take (200 : Nat) cs) (0 : Int)
  (30 : Int))))) (oQ (List.drop (k.tmod ((↑(V (List.take (200 : Nat) cs) (0 : Int) (30 : Int)).length : Int) + (1 : Int))).toNat (List.take (↑(V (List.take (200 : Nat) cs) (0 : Int)
  (30 : Int)).length : Int).toNat (V (List.take (200 : Nat) cs) (0 : Int) (30 : Int))))) (oN (List.drop (0 : Nat) (List.take (k.tmod ((↑(V (List.take (200 : Nat) cs) (0 : Int) (30 :
  Int)).length : Int) + (1 : Int))).toNat (V (List.take (200 : Nat) cs) (0 : Int) (30 : Int))))) (oS (List.drop (0 : Nat) (List.take (k.tmod ((↑(V (List.take (200 : Nat) cs) (0 :
  Int) (30 : Int)).length : Int) + (1 : Int))).toNat (V (List.take (200 : Nat) cs) (0 : Int) (30 : Int))))) (oA (List.drop (0 : Nat) (List.take (k.tmod ((↑(V (List.take (200 : Nat)
  cs) (0 : Int) (30 : Int)).length : Int) + (1 : Int))).toNat (V (List.take (200 : Nat) cs) (0 : Int) (30 : Int))))) (oQ (List.drop (0 : Nat) (List.take (k.tmod ((↑(V (List.take (200
  : Nat) cs) (0 : Int) (30 : Int)).length : Int) + (1 : Int))).toNat (V (List.take (200 : Nat) cs) (0 : Int) (30 : Int))))) (3 : Int)) && true))) then True ∧ True ∧ True ∧ bif decide
  (C (H (oS (V (List.take (200 : Nat) cs) (0 : Int) (30 : Int))) (oS (V (List.take (200 : Nat) cs) (0 : Int) (30 : Int)))) (W (oS (V (List.take (200 : Nat) cs) (0 : Int) (30 : Int)))
  (oS (V (List.take (200 : Nat) cs) (0 : Int) (30 : Int)))) (H (oN (V (List.take (200 : Nat) cs) (0 : Int) (30 : Int))) (oQ (V (List.take (200 : Nat) cs) (0 : Int) (30 : Int)))) (W
  (oN (V (List.take (200 : Nat) cs) (0 : Int) (30 : Int))) (oQ (V (List.take (200 : Nat) cs) (0 : Int) (30 : Int)))) ≤ (0 : Int)) then bif decide (rng IntKind.i64 ((0 : Int) - oS (V
  (List.take (200 : Nat) cs) (0 : Int) (30 : Int)))) then decide (max (oS (V (List.take (200 : Nat) cs) (0 : Int) (30 : Int))) ((0 : Int) - oS (V (List.take (200 : Nat) cs) (0 : Int)
  (30 : Int))) ≤ oA (V (List.take (200 : Nat) cs) (0 : Int) (30 : Int))) = true else False else false = true else false = true else false = true else false = true else false = true
  else false = true else false = true else false = true else False else False else False else False else False
set_option maxRecDepth 100000 in
theorem lMerges_P : lMerges_T := by
  unfold lMerges_T
  intro gl g cs k oN oS oA oQ oE V J M ME H W C ⟨p1, p2, p3, p4⟩ _ hk
  generalize V (List.take 200 cs) 0 30 = L at *
  have hl := p2.len
  have hm : 0 ≤ k.tmod ((L.length : Int) + 1) ∧ k.tmod ((L.length : Int) + 1) ≤ L.length := by
    have a := Int.tmod_nonneg ((L.length : Int) + 1) hk.1
    have b := Int.tmod_lt_of_pos k (show 0 < (L.length : Int) + 1 by omega)
    omega
  have hr : rng .i64 ((L.length : Int) + 1) := by show _ ∧ _; omega
  generalize k.tmod ((L.length : Int) + 1) = m at *
  simp only [List.drop_zero, Int.toNat_natCast, List.take_length]
  have hn : m.toNat ≤ L.length := by omega
  generalize m.toNat = n at *
  have t := p2.tk n
  have et := p2.e n
  have ea := p2.add n hn
  have eb := p2.bd n
  have cau := p2.cau
  have ab := p2.abs
  have sb := p2.sb
  have eL := p2.eL
  have f1 := p3.f _ _ _ _ _ _ _ _ eb.2.1 eb.2.2.2 (by omega)
  have f2 := p3.f _ _ _ _ _ _ _ _ eb.2.2.2 eb.2.1 (by omega)
  rw [Int.add_comm (oN (L.drop n)), Int.add_comm (oS (L.drop n)), Int.add_comm (oA (L.drop n)), Int.add_comm (oQ (L.drop n)), ← ea.1, ← ea.2.1, ← ea.2.2.1, ← ea.2.2.2] at f2
  rw [← ea.1, ← ea.2.1, ← ea.2.2.1, ← ea.2.2.2] at f1
  obtain ⟨f10, f11, f12, f13, f14⟩ := f1
  obtain ⟨f20, f21, f22, f23, f24⟩ := f2
  have hc : cmpI (oS L * oS L) (oN L * oQ L) ≤ 0 := by unfold cmpI; split <;> (try split) <;> omega
  simp only [decide_eq_true hr, decide_eq_true hm, decide_eq_true hm.1, decide_eq_true (show (0 : Int) ≤ 0 ∧ 0 ≤ m by omega), decide_eq_true (show (0 : Int) ≤ (L.length : Int) ∧ (L.length : Int) ≤ L.length by omega), et.1, et.2, eL, f10, f20, f11, f12, f13, f14, f21, f22, f23, f24, p4, decide_true, Bool.and_true, Bool.not_true, cond_true, cond_false]
  refine ⟨trivial, by decide, ⟨p1, by decide, by decide⟩, t.1, t.2, p2.row, ?_⟩
  repeat (first | refine ⟨trivial, ?_⟩)
  have hr2 : rng .i64 (0 - oS L) := by show _ ∧ _; omega
  simp only [decide_eq_true hc, decide_eq_true hr2, cond_true]
  exact decide_eq_true (by omega)
def lMerges_S : Prop := ∀ (gl : Glob) (g : Bool) (cs : List (List AV)) (k : Int) (oN oS oA oQ oE : List (List AV) → Int) (V : List (List AV) → Int → Int → List (List AV)) (J : List (List AV) → Int → Int → Int) (M : Int → Int → Int → Int → Int → Int → Int → Int → Int → Int) (ME : Int → Int → Int → Int → Int → Int → Int → Int → Int) (H W : Int → Int → Int) (C : Int → Int → Int → Int → Int), FldP (List.take 200 cs) 0 ∧ MrgP (V (List.take 200 cs) 0 30) oN oS oA oQ oE ∧ MgF M ME ∧ (∀ a b c d, C (H a b) (W a b) (H c d) (W c d) = cmpI (a * b) (c * d)) → fnK Try.prog { glob := gl, spec := lk [(9, sawake_s), (29, mgG_s M ME), (35, wdG_s H W), (34, wcG_s C), (21, ofG_s oN oS oA oQ oE)], specH := lk [(19, fnew_s), (20, prG_s V J)], nowf := true } { nt := 112, drop := drp [(1, 131072), (3, 3670016), (4, 264241152), (5, 34091302912), (6, 4363686772736), (7, 136339441844224), (8, 8866461766385664), (9, 567453553048682496), (10, 5192296858534827052069744025796608)], tys := [42] } (fun _ _ => none) 6 Try.f6 [.sl 1 g cs, .int .u8 k] (.bool true)
set_option maxRecDepth 100000 in
theorem lMerges_e : lMerges_T = lMerges_S := by kernel_rfl
theorem lMerges_v : lMerges_S := @Eq.mp (lMerges_T) (lMerges_S) (lMerges_e) lMerges_P
end Go.Proofs.Ytjllgdpnbllnjaa
