/- The law PlaceNormal: its walk. -/
import Derived.Test.YtddmmjkhkoencaaDoorPlE
import Derived.Test.YtddmmjkhkoencaaDoorPlL
namespace Go.Proofs.YtddmmjkhkoencaaDoor
open Go
set_option linter.unusedVariables false
set_option linter.unusedSimpArgs false
--KIND somewhere H synoptic/synopticlaw02.somewhere

/-- The reader, made of a list whose first numbers are X. -/
def newg_s (X : List (List AV)) : SpH
  | [.sl 1 false xs], [] => some (xs.take 2000 = X, .ptr 0 0, [.cells [.sl 1 false X, .int .i64 0]])
  | _, _ => none
/-- Places that are read out of X. -/
def swg_s (X : List (List AV)) (F A B C J : Int → Int) : SpH
  | [.ptr 0 0], [.cells [.sl 1 false xs, .int .i64 i]] => some (xs = X ∧ 0 ≤ i, .agg [.int .i64 (F i), .int .i64 (A i), .int .i64 (B i), .int .i64 (C i)], [.cells [.sl 1 false xs, .int .i64 (J i)]])
  | _, _ => none
structure SwP (zs X : List (List AV)) (F A B C J : Int → Int) : Prop where
  X : zs.take 2000 = X
  vld : ∀ i, 0 ≤ i → Vld (F i) (A i) (B i) (C i)
  jle : ∀ i, 0 ≤ i → 0 ≤ J i
structure NrmP (p : List AV) (l : List (List AV)) (x : Int × Bool) : Prop where
  lo : 0 ≤ x.1
  hi : x.1 ≤ l.length
  fnd : x.2 = true ↔ p ∈ l.take x.1.toNat
def pcells (f a b c : Int) : Blk := .cells [.int .i64 f, .int .i64 a, .int .i64 b, .int .i64 c]
def pcellsN (n : Int × Int × Int × Int) : Blk := .cells [.int .i64 n.1, .int .i64 n.2.1, .int .i64 n.2.2.1, .int .i64 n.2.2.2]
def nrmI (l : List (List AV)) (n n' : Int × Int × Int × Int) (f a b c f' a' b' c' : Int) : LInv := ⟨Int × Bool, fun x => ⟨[(4, .ptr 4 0), (5, .ptr 5 0), (6, .sl 4 false l), (8, .ptr 8 0), (10, .ptr 10 0), (15, .bool x.2), (87, .sl 4 false l), (88, .int .i64 l.length), (89, .int .i64 x.1)],
   [(4, pcells f a b c), (5, pcells f' a' b' c'), (8, pcellsN n), (10, pcellsN n')]⟩,
  NrmP [.int .i64 f, .int .i64 a, .int .i64 b, .int .i64 c] l, fun x => (l.length - x.1).toNat, none⟩
structure ZerP (a b c z : Int) : Prop where
  e : z = zc a + zc b + zc c
def zerI (l : List (List AV)) (n n' : Int × Int × Int × Int) (f a b c f' a' b' c' : Int) : LInv := ⟨Int, fun z => ⟨[(4, .ptr 4 0), (5, .ptr 5 0), (6, .sl 4 false l), (8, .ptr 8 0), (10, .ptr 10 0), (12, .int .i64 z)],
   [(4, pcells f a b c), (5, pcells f' a' b' c'), (8, pcellsN n), (10, pcellsN n')]⟩, ZerP a b c, fun _ => 0, none⟩
set_option maxRecDepth 100000 in
def placeNormal_T (vld : Int → Int → Int → Int → Bool) (adr : Int → Int → Int → Int → List (List AV)) (nrm : Int → Int → Int → Int → Int × Int × Int × Int) (sameW : Int → Int → Int → Int → Int → Int → Int → Int → Bool) : Prop :=
  ∀ (zs X : List (List AV)) (F A B C J : Int → Int), (∀ (x : List AV), List.Mem x zs → ∃ n, x = [AV.int IntKind.i64 n] ∧ rng IntKind.i64 n) ∧ SwP zs X F A B C J → True → List.take
  (2000 : Nat) zs = X ∧ (X = X ∧ (0 : Int) ≤ (0 : Int)) ∧ (X = X ∧ (0 : Int) ≤ J (0 : Int)) ∧ True ∧ True ∧ True ∧ bif decide ¬err (vld (F (0 : Int)) (A (0 : Int)) (B (0 : Int)) (C
  (0 : Int))) = (0 : Int) then false = true else bif decide ¬err (vld (F (0 : Int)) (A (0 : Int)) (B (0 : Int)) (C (0 : Int))) = (0 : Int) then false = true else bif decide ¬err (vld
  (F (J (0 : Int))) (A (J (0 : Int))) (B (J (0 : Int))) (C (J (0 : Int)))) = (0 : Int) then false = true else bif decide ((↑(adr (F (0 : Int)) (A (0 : Int)) (B (0 : Int)) (C (0 :
  Int))).length : Int) = (0 : Int)) then false = true else bif decide ((0 : Int) ≤ (0 : Int) ∧ (0 : Int) < (↑(adr (F (0 : Int)) (A (0 : Int)) (B (0 : Int)) (C (0 : Int))).length :
  Int)) then ∃ n n_1 n_2 n_3, List.take [AV.int IntKind.i64 n, AV.int IntKind.i64 n_1, AV.int IntKind.i64 n_2, AV.int IntKind.i64 n_3].length ((adr (F (0 : Int)) (A (0 : Int)) (B (0
  : Int)) (C (0 : Int))).getD (0 : Nat) []) = [AV.int IntKind.i64 n, AV.int IntKind.i64 n_1, AV.int IntKind.i64 n_2, AV.int IntKind.i64 n_3] ∧ bif !(decide (n = (nrm (F (0 : Int)) (A
  (0 : Int)) (B (0 : Int)) (C (0 : Int))).fst) && (decide (n_1 = (nrm (F (0 : Int)) (A (0 : Int)) (B (0 : Int)) (C (0 : Int))).snd.fst) && (decide (n_2 = (nrm (F (0 : Int)) (A (0 :
  Int)) (B (0 : Int)) (C (0 : Int))).snd.snd.fst) && (decide (n_3 = (nrm (F (0 : Int)) (A (0 : Int)) (B (0 : Int)) (C (0 : Int))).snd.snd.snd) && true)))) then false = true else (bif
  decide (A (0 : Int) = (0 : Int)) then bif decide (B (0 : Int) = (0 : Int)) then bif decide (C (0 : Int) = (0 : Int)) then ∃ x, ZerP (A (0 : Int)) (B (0 : Int)) (C (0 : Int)) x ∧
  ((0 : Nat) = (0 : Nat) ∧ (0 : Nat) = (0 : Nat) ∧ (True ∧ adr (F (0 : Int)) (A (0 : Int)) (B (0 : Int)) (C (0 : Int)) = adr (F (0 : Int)) (A (0 : Int)) (B (0 : Int)) (C (0 : Int)))
  ∧ (0 : Nat) = (0 : Nat) ∧ (0 : Nat) = (0 : Nat) ∧ (3 : Int) = x ∧ True) ∧ (F (0 : Int) = F (0 : Int) ∧ A (0 : Int) = A (0 : Int) ∧ B (0 : Int) = B (0 : Int) ∧ C (0 : Int) = C (0 :
  Int) ∧ True) ∧ (F (J (0 : Int)) = F (J (0 : Int)) ∧ A (J (0 : Int)) = A (J (0 : Int)) ∧ B (J (0 : Int)) = B (J (0 : Int)) ∧ C (J (0 : Int)) = C (J (0 : Int)) ∧ True) ∧ ((nrm (F (0
  : Int)) (A (0 : Int)) (B (0 : Int)) (C (0 : Int))).fst = (nrm (F (0 : Int)) (A (0 : Int)) (B (0 : Int)) (C (0 : Int))).fst ∧ (nrm (F (0 : Int)) (A (0 : Int)) (B (0 : Int)) (C (0 :
  Int))).snd.fst = (nrm (F (0 : Int)) (A (0 : Int)) (B (0 : Int)) (C (0 : Int))).snd.fst ∧ (nrm (F (0 : Int)) (A (0 : Int)) (B (0 : Int)) (C (0 : Int))).snd.snd.fst = (nrm (F (0 :
  Int)) (A (0 : Int)) (B (0 : Int)) (C (0 : Int))).snd.snd.fst ∧ (nrm (F (0 : Int)) (A (0 : Int)) (B (0 : Int)) (C (0 : Int))).snd.snd.snd = (nrm (F (0 : Int)) (A (0 : Int)) (B (0 :
  Int)) (C (0 : Int))).snd.snd.snd ∧ True) ∧ ((nrm (F (J (0 : Int))) (A (J (0 : Int))) (B (J (0 : Int))) (C (J (0 : Int)))).fst = (nrm (F (J (0 : Int))) (A (J (0 : Int))) (B (J (0 :
  Int))) (C (J (0 : Int)))).fst ∧ (nrm (F (J (0 : Int))) (A (J (0 : Int))) (B (J (0 : Int))) (C (J (0 : Int)))).snd.fst = (nrm (F (J (0 : Int))) (A (J (0 : Int))) (B (J (0 : Int)))
  (C (J (0 : Int)))).snd.fst ∧ (nrm (F (J (0 : Int))) (A (J (0 : Int))) (B (J (0 : Int))) (C (J (0 : Int)))).snd.snd.fst = (nrm (F (J (0 : Int))) (A (J (0 : Int))) (B (J (0 : Int)))
  (C (J (0 : Int)))).snd.snd.fst ∧ (nrm (F (J (0 : Int))) (A (J (0 : Int))) (B (J (0 : Int))) (C (J (0 : Int)))).snd.snd.snd = (nrm (F (J (0 : Int))) (A (J (0 : Int))) (B (J (0 :
  Int))) (C (J (0 : Int)))).snd.snd.snd ∧ True) ∧ True else ∃ x, ZerP (A (0 : Int)) (B (0 : Int)) (C (0 : Int)) x ∧ ((0 : Nat) = (0 : Nat) ∧ (0 : Nat) = (0 : Nat) ∧ (True ∧ adr (F (0
  : Int)) (A (0 : Int)) (B (0 : Int)) (C (0 : Int)) = adr (F (0 : Int)) (A (0 : Int)) (B (0 : Int)) (C (0 : Int))) ∧ (0 : Nat) = (0 : Nat) ∧ (0 : Nat) = (0 : Nat) ∧ (2 : Int) = x ∧
  True) ∧ (F (0 : Int) = F (0 : Int) ∧ A (0 : Int) = A (0 : Int) ∧ B (0 : Int) = B (0 : Int) ∧ C (0 : Int) = C (0 : Int) ∧ True) ∧ (F (J (0 : Int)) = F (J (0 : Int)) ∧ A (J (0 :
  Int)) = A (J (0 : Int)) ∧ B (J (0 : Int)) = B (J (0 : Int)) ∧ C (J (0 : Int)) = C (J (0 : Int)) ∧ True) ∧ ((nrm (F (0 : Int)) (A (0 : Int)) (B (0 : Int)) (C (0 : Int))).fst = (nrm
  (F (0 : Int)) (A (0 : Int)) (B (0 : Int)) (C (0 : Int))).fst ∧ (nrm (F (0 : Int)) (A (0 : Int)) (B (0 : Int)) (C (0 : Int))).snd.fst = (nrm (F (0 : Int)) (A (0 : Int)) (B (0 :
  Int)) (C (0 : Int))).snd.fst ∧ (nrm (F (0 : Int)) (A (0 : Int)) (B (0 : Int)) (C (0 : Int))).snd.snd.fst = (nrm (F (0 : Int)) (A (0 : Int)) (B (0 : Int)) (C (0 : Int))).snd.snd.fst
  ∧ (nrm (F (0 : Int)) (A (0 : Int)) (B (0 : Int)) (C (0 : Int))).snd.snd.snd = (nrm (F (0 : Int)) (A (0 : Int)) (B (0 : Int)) (C (0 : Int))).snd.snd.snd ∧ True) ∧ ((nrm (F (J (0 :
  Int))) (A (J (0 : Int))) (B (J (0 : Int))) (C (J (0 : Int)))).fst = (nrm (F (J (0 : Int))) (A (J (0 : Int))) (B (J (0 : Int))) (C (J (0 : Int)))).fst ∧ (nrm (F (J (0 : Int))) (A (J
  (0 : Int))) (B (J (0 : Int))) (C (J (0 : Int)))).snd.fst = (nrm (F (J (0 : Int))) (A (J (0 : Int))) (B (J (0 : Int))) (C (J (0 : Int)))).snd.fst ∧ (nrm (F (J (0 : Int))) (A (J (0 :
  Int))) (B (J (0 : Int))) (C (J (0 : Int)))).snd.snd.fst = (nrm (F (J (0 : Int))) (A (J (0 : Int))) (B (J (0 : Int))) (C (J (0 : Int)))).snd.snd.fst ∧ (nrm (F (J (0 : Int))) (A (J
  (0 : Int))) (B (J (0 : Int))) (C (J (0 : Int)))).snd.snd.snd = (nrm (F (J (0 : Int))) (A (J (0 : Int))) (B (J (0 : Int))) (C (J (0 : Int)))).snd.snd.snd ∧ True) ∧ True else bif
  decide (C (0 : Int) = (0 : Int)) then ∃ x, ZerP (A (0 : Int)) (B (0 : Int)) (C (0 : Int)) x ∧ ((0 : Nat) = (0 : Nat) ∧ (0 : Nat) = (0 : Nat) ∧ (True ∧ adr (F (0 : Int)) (A (0 :
  Int)) (B (0 : Int)) (C (0 : Int)) = adr (F (0 : Int)) (A (0 : Int)) (B (0 : Int)) (C (0 : Int))) ∧ (0 : Nat) = (0 : Nat) ∧ (0 : Nat) = (0 : Nat) ∧ (2 : Int) = x ∧ True) ∧ (F (0 :
  Int) = F (0 : Int) ∧ A (0 : Int) = A (0 : Int) ∧ B (0 : Int) = B (0 : Int) ∧ C (0 : Int) = C (0 : Int) ∧ True) ∧ (F (J (0 : Int)) = F (J (0 : Int)) ∧ A (J (0 : Int)) = A (J (0 :
  Int)) ∧ B (J (0 : Int)) = B (J (0 : Int)) ∧ C (J (0 : Int)) = C (J (0 : Int)) ∧ True) ∧ ((nrm (F (0 : Int)) (A (0 : Int)) (B (0 : Int)) (C (0 : Int))).fst = (nrm (F (0 : Int)) (A
  (0 : Int)) (B (0 : Int)) (C (0 : Int))).fst ∧ (nrm (F (0 : Int)) (A (0 : Int)) (B (0 : Int)) (C (0 : Int))).snd.fst = (nrm (F (0 : Int)) (A (0 : Int)) (B (0 : Int)) (C (0 :
  Int))).snd.fst ∧ (nrm (F (0 : Int)) (A (0 : Int)) (B (0 : Int)) (C (0 : Int))).snd.snd.fst = (nrm (F (0 : Int)) (A (0 : Int)) (B (0 : Int)) (C (0 : Int))).snd.snd.fst ∧ (nrm (F (0
  : Int)) (A (0 : Int)) (B (0 : Int)) (C (0 : Int))).snd.snd.snd = (nrm (F (0 : Int)) (A (0 : Int)) (B (0 : Int)) (C (0 : Int))).snd.snd.snd ∧ True) ∧ ((nrm (F (J (0 : Int))) (A (J
  (0 : Int))) (B (J (0 : Int))) (C (J (0 : Int)))).fst = (nrm (F (J (0 : Int))) (A (J (0 : Int))) (B (J (0 : Int))) (C (J (0 : Int)))).fst ∧ (nrm (F (J (0 : Int))) (A (J (0 : Int)))
  (B (J (0 : Int))) (C (J (0 : Int)))).snd.fst = (nrm (F (J (0 : Int))) (A (J (0 : Int))) (B (J (0 : Int))) (C (J (0 : Int)))).snd.fst ∧ (nrm (F (J (0 : Int))) (A (J (0 : Int))) (B
  (J (0 : Int))) (C (J (0 : Int)))).snd.snd.fst = (nrm (F (J (0 : Int))) (A (J (0 : Int))) (B (J (0 : Int))) (C (J (0 : Int)))).snd.snd.fst ∧ (nrm (F (J (0 : Int))) (A (J (0 : Int)))
  (B (J (0 : Int))) (C (J (0 : Int)))).snd.snd.snd = (nrm (F (J (0 : Int))) (A (J (0 : Int))) (B (J (0 : Int))) (C (J (0 : Int)))).snd.snd.snd ∧ True) ∧ True else ∃ x, ZerP (A (0 :
  Int)) (B (0 : Int)) (C (0 : Int)) x ∧ ((0 : Nat) = (0 : Nat) ∧ (0 : Nat) = (0 : Nat) ∧ (True ∧ adr (F (0 : Int)) (A (0 : Int)) (B (0 : Int)) (C (0 : Int)) = adr (F (0 : Int)) (A (0
  : Int)) (B (0 : Int)) (C (0 : Int))) ∧ (0 : Nat) = (0 : Nat) ∧ (0 : Nat) = (0 : Nat) ∧ (1 : Int) = x ∧ True) ∧ (F (0 : Int) = F (0 : Int) ∧ A (0 : Int) = A (0 : Int) ∧ B (0 : Int)
  = B (0 : Int) ∧ C (0 : Int) = C (0 : Int) ∧ True) ∧ (F (J (0 : Int)) = F (J (0 : Int)) ∧ A (J (0 : Int)) = A (J (0 : Int)) ∧ B (J (0 : Int)) = B (J (0 : Int)) ∧ C (J (0 : Int)) = C
  (J (0 : Int)) ∧ True) ∧ ((nrm (F (0 : Int)) (A (0 : Int)) (B (0 : Int)) (C (0 : Int))).fst = (nrm (F (0 : Int)) (A (0 : Int)) (B (0 : Int)) (C (0 : Int))).fst ∧ (nrm (F (0 : Int))
  (A (0 : Int)) (B (0 : Int)) (C (0 : Int))).snd.fst = (nrm (F (0 : Int)) (A (0 : Int)) (B (0 : Int)) (C (0 : Int))).snd.fst ∧ (nrm (F (0 : Int)) (A (0 : Int)) (B (0 : Int)) (C (0 :
  Int))).snd.snd.fst = (nrm (F (0 : Int)) (A (0 : Int)) (B (0 : Int)) (C (0 : Int))).snd.snd.fst ∧ (nrm (F (0 : Int)) (A (0 : Int)) (B (0 : Int)) (C (0 : Int))).snd.snd.snd = (nrm (F
  (0 : Int)) (A (0 : Int)) (B (0 : Int)) (C (0 : Int))).snd.snd.snd ∧ True) ∧ ((nrm (F (J (0 : Int))) (A (J (0 : Int))) (B (J (0 : Int))) (C (J (0 : Int)))).fst = (nrm (F (J (0 :
  Int))) (A (J (0 : Int))) (B (J (0 : Int))) (C (J (0 : Int)))).fst ∧ (nrm (F (J (0 : Int))) (A (J (0 : Int))) (B (J (0 : Int))) (C (J (0 : Int)))).snd.fst = (nrm (F (J (0 : Int)))
  (A (J (0 : Int))) (B (J (0 : Int))) (C (J (0 : Int)))).snd.fst ∧ (nrm (F (J (0 : Int))) (A (J (0 : Int))) (B (J (0 : Int))) (C (J (0 : Int)))).snd.snd.fst = (nrm (F (J (0 : Int)))
  (A (J (0 : Int))) (B (J (0 : Int))) (C (J (0 : Int)))).snd.snd.fst ∧ (nrm (F (J (0 : Int))) (A (J (0 : Int))) (B (J (0 : Int))) (C (J (0 : Int)))).snd.snd.snd = (nrm (F (J (0 :
  Int))) (A (J (0 : Int))) (B (J (0 : Int))) (C (J (0 : Int)))).snd.snd.snd ∧ True) ∧ True else bif decide (B (0 : Int) = (0 : Int)) then bif decide (C (0 : Int) = (0 : Int)) then ∃
  x, ZerP (A (0 : Int)) (B (0 : Int)) (C (0 : Int)) x ∧ ((0 : Nat) = (0 : Nat) ∧ (0 : Nat) = (0 : Nat) ∧ (True ∧ adr (F (0 : Int)) (A (0 : Int)) (B (0 : Int)) (C (0 : Int)) = adr (F
  (0 : Int)) (A (0 : Int)) (B (0 : Int)) (C (0 : Int))) ∧ (0 : Nat) = (0 : Nat) ∧ (0 : Nat) = (0 : Nat) ∧ (2 : Int) = x ∧ True) ∧ (F (0 : Int) = F (0 : Int) ∧ A (0 : Int) = A (0 :
  Int) ∧ B (0 : Int) = B (0 : Int) ∧ C (0 : Int) = C (0 : Int) ∧ True) ∧ (F (J (0 : Int)) = F (J (0 : Int)) ∧ A (J (0 : Int)) = A (J (0 : Int)) ∧ B (J (0 : Int)) = B (J (0 : Int)) ∧
  C (J (0 : Int)) = C (J (0 : Int)) ∧ True) ∧ ((nrm (F (0 : Int)) (A (0 : Int)) (B (0 : Int)) (C (0 : Int))).fst = (nrm (F (0 : Int)) (A (0 : Int)) (B (0 : Int)) (C (0 : Int))).fst ∧
  (nrm (F (0 : Int)) (A (0 : Int)) (B (0 : Int)) (C (0 : Int))).snd.fst = (nrm (F (0 : Int)) (A (0 : Int)) (B (0 : Int)) (C (0 : Int))).snd.fst ∧ (nrm (F (0 : Int)) (A (0 : Int)) (B
  (0 : Int)) (C (0 : Int))).snd.snd.fst = (nrm (F (0 : Int)) (A (0 : Int)) (B (0 : Int)) (C (0 : Int))).snd.snd.fst ∧ (nrm (F (0 : Int)) (A (0 : Int)) (B (0 : Int)) (C (0 :
  Int))).snd.snd.snd = (nrm (F (0 : Int)) (A (0 : Int)) (B (0 : Int)) (C (0 : Int))).snd.snd.snd ∧ True) ∧ ((nrm (F (J (0 : Int))) (A (J (0 : Int))) (B (J (0 : Int))) (C (J (0 :
  Int)))).fst = (nrm (F (J (0 : Int))) (A (J (0 : Int))) (B (J (0 : Int))) (C (J (0 : Int)))).fst ∧ (nrm (F (J (0 : Int))) (A (J (0 : Int))) (B (J (0 : Int))) (C (J (0 :
  Int)))).snd.fst = (nrm (F (J (0 : Int))) (A (J (0 : Int))) (B (J (0 : Int))) (C (J (0 : Int)))).snd.fst ∧ (nrm (F (J (0 : Int))) (A (J (0 : Int))) (B (J (0 : Int))) (C (J (0 :
  Int)))).snd.snd.fst = (nrm (F (J (0 : Int))) (A (J (0 : Int))) (B (J (0 : Int))) (C (J (0 : Int)))).snd.snd.fst ∧ (nrm (F (J (0 : Int))) (A (J (0 : Int))) (B (J (0 : Int))) (C (J
  (0 : Int)))).snd.snd.snd = (nrm (F (J (0 : Int))) (A (J (0 : Int))) (B (J (0 : Int))) (C (J (0 : Int)))).snd.snd.snd ∧ True) ∧ True else ∃ x, ZerP (A (0 : Int)) (B (0 : Int)) (C (0
  : Int)) x ∧ ((0 : Nat) = (0 : Nat) ∧ (0 : Nat) = (0 : Nat) ∧ (True ∧ adr (F (0 : Int)) (A (0 : Int)) (B (0 : Int)) (C (0 : Int)) = adr (F (0 : Int)) (A (0 : Int)) (B (0 : Int)) (C
  (0 : Int))) ∧ (0 : Nat) = (0 : Nat) ∧ (0 : Nat) = (0 : Nat) ∧ (1 : Int) = x ∧ True) ∧ (F (0 : Int) = F (0 : Int) ∧ A (0 : Int) = A (0 : Int) ∧ B (0 : Int) = B (0 : Int) ∧ C (0 :
  Int) = C (0 : Int) ∧ True) ∧ (F (J (0 : Int)) = F (J (0 : Int)) ∧ A (J (0 : Int)) = A (J (0 : Int)) ∧ B (J (0 : Int)) = B (J (0 : Int)) ∧ C (J (0 : Int)) = C (J (0 : Int)) ∧ True)
  ∧ ((nrm (F (0 : Int)) (A (0 : Int)) (B (0 : Int)) (C (0 : Int))).fst = (nrm (F (0 : Int)) (A (0 : Int)) (B (0 : Int)) (C (0 : Int))).fst ∧ (nrm (F (0 : Int)) (A (0 : Int)) (B (0 :
  Int)) (C (0 : Int))).snd.fst = (nrm (F (0 : Int)) (A (0 : Int)) (B (0 : Int)) (C (0 : Int))).snd.fst ∧ (nrm (F (0 : Int)) (A (0 : Int)) (B (0 : Int)) (C (0 : Int))).snd.snd.fst =
  (nrm (F (0 : Int)) (A (0 : Int)) (B (0 : Int)) (C (0 : Int))).snd.snd.fst ∧ (nrm (F (0 : Int)) (A (0 : Int)) (B (0 : Int)) (C (0 : Int))).snd.snd.snd = (nrm (F (0 : Int)) (A (0 :
  Int)) (B (0 : Int)) (C (0 : Int))).snd.snd.snd ∧ True) ∧ ((nrm (F (J (0 : Int))) (A (J (0 : Int))) (B (J (0 : Int))) (C (J (0 : Int)))).fst = (nrm (F (J (0 : Int))) (A (J (0 :
  Int))) (B (J (0 : Int))) (C (J (0 : Int)))).fst ∧ (nrm (F (J (0 : Int))) (A (J (0 : Int))) (B (J (0 : Int))) (C (J (0 : Int)))).snd.fst = (nrm (F (J (0 : Int))) (A (J (0 : Int)))
  (B (J (0 : Int))) (C (J (0 : Int)))).snd.fst ∧ (nrm (F (J (0 : Int))) (A (J (0 : Int))) (B (J (0 : Int))) (C (J (0 : Int)))).snd.snd.fst = (nrm (F (J (0 : Int))) (A (J (0 : Int)))
  (B (J (0 : Int))) (C (J (0 : Int)))).snd.snd.fst ∧ (nrm (F (J (0 : Int))) (A (J (0 : Int))) (B (J (0 : Int))) (C (J (0 : Int)))).snd.snd.snd = (nrm (F (J (0 : Int))) (A (J (0 :
  Int))) (B (J (0 : Int))) (C (J (0 : Int)))).snd.snd.snd ∧ True) ∧ True else bif decide (C (0 : Int) = (0 : Int)) then ∃ x, ZerP (A (0 : Int)) (B (0 : Int)) (C (0 : Int)) x ∧ ((0 :
  Nat) = (0 : Nat) ∧ (0 : Nat) = (0 : Nat) ∧ (True ∧ adr (F (0 : Int)) (A (0 : Int)) (B (0 : Int)) (C (0 : Int)) = adr (F (0 : Int)) (A (0 : Int)) (B (0 : Int)) (C (0 : Int))) ∧ (0 :
  Nat) = (0 : Nat) ∧ (0 : Nat) = (0 : Nat) ∧ (1 : Int) = x ∧ True) ∧ (F (0 : Int) = F (0 : Int) ∧ A (0 : Int) = A (0 : Int) ∧ B (0 : Int) = B (0 : Int) ∧ C (0 : Int) = C (0 : Int) ∧
  True) ∧ (F (J (0 : Int)) = F (J (0 : Int)) ∧ A (J (0 : Int)) = A (J (0 : Int)) ∧ B (J (0 : Int)) = B (J (0 : Int)) ∧ C (J (0 : Int)) = C (J (0 : Int)) ∧ True) ∧ ((nrm (F (0 : Int))
  (A (0 : Int)) (B (0 : Int)) (C (0 : Int))).fst = (nrm (F (0 : Int)) (A (0 : Int)) (B (0 : Int)) (C (0 : Int))).fst ∧ (nrm (F (0 : Int)) (A (0 : Int)) (B (0 : Int)) (C (0 :
  Int))).snd.fst = (nrm (F (0 : Int)) (A (0 : Int)) (B (0 : Int)) (C (0 : Int))).snd.fst ∧ (nrm (F (0 : Int)) (A (0 : Int)) (B (0 : Int)) (C (0 : Int))).snd.snd.fst = (nrm (F (0 :
  Int)) (A (0 : Int)) (B (0 : Int)) (C (0 : Int))).snd.snd.fst ∧ (nrm (F (0 : Int)) (A (0 : Int)) (B (0 : Int)) (C (0 : Int))).snd.snd.snd = (nrm (F (0 : Int)) (A (0 : Int)) (B (0 :
  Int)) (C (0 : Int))).snd.snd.snd ∧ True) ∧ ((nrm (F (J (0 : Int))) (A (J (0 : Int))) (B (J (0 : Int))) (C (J (0 : Int)))).fst = (nrm (F (J (0 : Int))) (A (J (0 : Int))) (B (J (0 :
  Int))) (C (J (0 : Int)))).fst ∧ (nrm (F (J (0 : Int))) (A (J (0 : Int))) (B (J (0 : Int))) (C (J (0 : Int)))).snd.fst = (nrm (F (J (0 : Int))) (A (J (0 : Int))) (B (J (0 : Int)))
  (C (J (0 : Int)))).snd.fst ∧ (nrm (F (J (0 : Int))) (A (J (0 : Int))) (B (J (0 : Int))) (C (J (0 : Int)))).snd.snd.fst = (nrm (F (J (0 : Int))) (A (J (0 : Int))) (B (J (0 : Int)))
  (C (J (0 : Int)))).snd.snd.fst ∧ (nrm (F (J (0 : Int))) (A (J (0 : Int))) (B (J (0 : Int))) (C (J (0 : Int)))).snd.snd.snd = (nrm (F (J (0 : Int))) (A (J (0 : Int))) (B (J (0 :
  Int))) (C (J (0 : Int)))).snd.snd.snd ∧ True) ∧ True else ∃ x, ZerP (A (0 : Int)) (B (0 : Int)) (C (0 : Int)) x ∧ ((0 : Nat) = (0 : Nat) ∧ (0 : Nat) = (0 : Nat) ∧ (True ∧ adr (F (0
  : Int)) (A (0 : Int)) (B (0 : Int)) (C (0 : Int)) = adr (F (0 : Int)) (A (0 : Int)) (B (0 : Int)) (C (0 : Int))) ∧ (0 : Nat) = (0 : Nat) ∧ (0 : Nat) = (0 : Nat) ∧ (0 : Int) = x ∧
  True) ∧ (F (0 : Int) = F (0 : Int) ∧ A (0 : Int) = A (0 : Int) ∧ B (0 : Int) = B (0 : Int) ∧ C (0 : Int) = C (0 : Int) ∧ True) ∧ (F (J (0 : Int)) = F (J (0 : Int)) ∧ A (J (0 :
  Int)) = A (J (0 : Int)) ∧ B (J (0 : Int)) = B (J (0 : Int)) ∧ C (J (0 : Int)) = C (J (0 : Int)) ∧ True) ∧ ((nrm (F (0 : Int)) (A (0 : Int)) (B (0 : Int)) (C (0 : Int))).fst = (nrm
  (F (0 : Int)) (A (0 : Int)) (B (0 : Int)) (C (0 : Int))).fst ∧ (nrm (F (0 : Int)) (A (0 : Int)) (B (0 : Int)) (C (0 : Int))).snd.fst = (nrm (F (0 : Int)) (A (0 : Int)) (B (0 :
  Int)) (C (0 : Int))).snd.fst ∧ (nrm (F (0 : Int)) (A (0 : Int)) (B (0 : Int)) (C (0 : Int))).snd.snd.fst = (nrm (F (0 : Int)) (A (0 : Int)) (B (0 : Int)) (C (0 : Int))).snd.snd.fst
  ∧ (nrm (F (0 : Int)) (A (0 : Int)) (B (0 : Int)) (C (0 : Int))).snd.snd.snd = (nrm (F (0 : Int)) (A (0 : Int)) (B (0 : Int)) (C (0 : Int))).snd.snd.snd ∧ True) ∧ ((nrm (F (J (0 :
  Int))) (A (J (0 : Int))) (B (J (0 : Int))) (C (J (0 : Int)))).fst = (nrm (F (J (0 : Int))) (A (J (0 : Int))) (B (J (0 : Int))) (C (J (0 : Int)))).fst ∧ (nrm (F (J (0 : Int))) (A (J
  (0 : Int))) (B (J (0 : Int))) (C (J (0 : Int)))).snd.fst = (nrm (F (J (0 : Int))) (A (J (0 : Int))) (B (J (0 : Int))) (C (J (0 : Int)))).snd.fst ∧ (nrm (F (J (0 : Int))) (A (J (0 :
  Int))) (B (J (0 : Int))) (C (J (0 : Int)))).snd.snd.fst = (nrm (F (J (0 : Int))) (A (J (0 : Int))) (B (J (0 : Int))) (C (J (0 : Int)))).snd.snd.fst ∧ (nrm (F (J (0 : Int))) (A (J
  (0 : Int))) (B (J (0 : Int))) (C (J (0 : Int)))).snd.snd.snd = (nrm (F (J (0 : Int))) (A (J (0 : Int))) (B (J (0 : Int))) (C (J (0 : Int)))).snd.snd.snd ∧ True) ∧ True) ∧ ∀ (x :
  Int), ZerP (A (0 : Int)) (B (0 : Int)) (C (0 : Int)) x → bif decide ((0 : Int) ≤ x ∧ x < (3 : Int)) then bif decide ((3 : Nat) = (3 : Nat) ∧ x.toNat < (3 : Nat)) then ∃ n,
  List.take [AV.int IntKind.i64 n].length (List.drop (0 : Nat) ([[AV.int IntKind.i64 (1 : Int)], [AV.int IntKind.i64 (2 : Int)], [AV.int IntKind.i64 (5 : Int)]].getD x.toNat [])) =
  [AV.int IntKind.i64 n] ∧ bif decide ¬(↑(adr (F (0 : Int)) (A (0 : Int)) (B (0 : Int)) (C (0 : Int))).length : Int) = n then false = true else (∃ x, NrmP [AV.int IntKind.i64 (F (0 :
  Int)), AV.int IntKind.i64 (A (0 : Int)), AV.int IntKind.i64 (B (0 : Int)), AV.int IntKind.i64 (C (0 : Int))] (adr (F (0 : Int)) (A (0 : Int)) (B (0 : Int)) (C (0 : Int))) x ∧ ((0 :
  Nat) = (0 : Nat) ∧ (0 : Nat) = (0 : Nat) ∧ (True ∧ adr (F (0 : Int)) (A (0 : Int)) (B (0 : Int)) (C (0 : Int)) = adr (F (0 : Int)) (A (0 : Int)) (B (0 : Int)) (C (0 : Int))) ∧ (0 :
  Nat) = (0 : Nat) ∧ (0 : Nat) = (0 : Nat) ∧ false = x.snd ∧ (True ∧ adr (F (0 : Int)) (A (0 : Int)) (B (0 : Int)) (C (0 : Int)) = adr (F (0 : Int)) (A (0 : Int)) (B (0 : Int)) (C (0
  : Int))) ∧ (↑(adr (F (0 : Int)) (A (0 : Int)) (B (0 : Int)) (C (0 : Int))).length : Int) = (↑(adr (F (0 : Int)) (A (0 : Int)) (B (0 : Int)) (C (0 : Int))).length : Int) ∧ (0 : Int)
  = x.fst ∧ True) ∧ (F (0 : Int) = F (0 : Int) ∧ A (0 : Int) = A (0 : Int) ∧ B (0 : Int) = B (0 : Int) ∧ C (0 : Int) = C (0 : Int) ∧ True) ∧ (F (J (0 : Int)) = F (J (0 : Int)) ∧ A (J
  (0 : Int)) = A (J (0 : Int)) ∧ B (J (0 : Int)) = B (J (0 : Int)) ∧ C (J (0 : Int)) = C (J (0 : Int)) ∧ True) ∧ ((nrm (F (0 : Int)) (A (0 : Int)) (B (0 : Int)) (C (0 : Int))).fst =
  (nrm (F (0 : Int)) (A (0 : Int)) (B (0 : Int)) (C (0 : Int))).fst ∧ (nrm (F (0 : Int)) (A (0 : Int)) (B (0 : Int)) (C (0 : Int))).snd.fst = (nrm (F (0 : Int)) (A (0 : Int)) (B (0 :
  Int)) (C (0 : Int))).snd.fst ∧ (nrm (F (0 : Int)) (A (0 : Int)) (B (0 : Int)) (C (0 : Int))).snd.snd.fst = (nrm (F (0 : Int)) (A (0 : Int)) (B (0 : Int)) (C (0 : Int))).snd.snd.fst
  ∧ (nrm (F (0 : Int)) (A (0 : Int)) (B (0 : Int)) (C (0 : Int))).snd.snd.snd = (nrm (F (0 : Int)) (A (0 : Int)) (B (0 : Int)) (C (0 : Int))).snd.snd.snd ∧ True) ∧ ((nrm (F (J (0 :
  Int))) (A (J (0 : Int))) (B (J (0 : Int))) (C (J (0 : Int)))).fst = (nrm (F (J (0 : Int))) (A (J (0 : Int))) (B (J (0 : Int))) (C (J (0 : Int)))).fst ∧ (nrm (F (J (0 : Int))) (A (J
  (0 : Int))) (B (J (0 : Int))) (C (J (0 : Int)))).snd.fst = (nrm (F (J (0 : Int))) (A (J (0 : Int))) (B (J (0 : Int))) (C (J (0 : Int)))).snd.fst ∧ (nrm (F (J (0 : Int))) (A (J (0 :
  Int))) (B (J (0 : Int))) (C (J (0 : Int)))).snd.snd.fst = (nrm (F (J (0 : Int))) (A (J (0 : Int))) (B (J (0 : Int))) (C (J (0 : Int)))).snd.snd.fst ∧ (nrm (F (J (0 : Int))) (A (J
  (0 : Int))) (B (J (0 : Int))) (C (J (0 : Int)))).snd.snd.snd = (nrm (F (J (0 : Int))) (A (J (0 : Int))) (B (J (0 : Int))) (C (J (0 : Int)))).snd.snd.snd ∧ True) ∧ True) ∧ ∀ (x :
  Int × Bool), NrmP [AV.int IntKind.i64 (F (0 : Int)), AV.int IntKind.i64 (A (0 : Int)), AV.int IntKind.i64 (B (0 : Int)), AV.int IntKind.i64 (C (0 : Int))] (adr (F (0 : Int)) (A (0
  : Int)) (B (0 : Int)) (C (0 : Int))) x → bif decide (x.fst < (↑(adr (F (0 : Int)) (A (0 : Int)) (B (0 : Int)) (C (0 : Int))).length : Int)) then bif decide ((0 : Int) ≤ x.fst ∧
  x.fst < (↑(adr (F (0 : Int)) (A (0 : Int)) (B (0 : Int)) (C (0 : Int))).length : Int)) then ∃ n n_4 n_5 n_6, List.take [AV.int IntKind.i64 n, AV.int IntKind.i64 n_4, AV.int
  IntKind.i64 n_5, AV.int IntKind.i64 n_6].length ((adr (F (0 : Int)) (A (0 : Int)) (B (0 : Int)) (C (0 : Int))).getD x.fst.toNat []) = [AV.int IntKind.i64 n, AV.int IntKind.i64 n_4,
  AV.int IntKind.i64 n_5, AV.int IntKind.i64 n_6] ∧ True ∧ bif decide ¬err (vld n n_4 n_5 n_6) = (0 : Int) then false = true else bif !(decide ((nrm n n_4 n_5 n_6).fst = (nrm (F (0 :
  Int)) (A (0 : Int)) (B (0 : Int)) (C (0 : Int))).fst) && (decide ((nrm n n_4 n_5 n_6).snd.fst = (nrm (F (0 : Int)) (A (0 : Int)) (B (0 : Int)) (C (0 : Int))).snd.fst) && (decide
  ((nrm n n_4 n_5 n_6).snd.snd.fst = (nrm (F (0 : Int)) (A (0 : Int)) (B (0 : Int)) (C (0 : Int))).snd.snd.fst) && (decide ((nrm n n_4 n_5 n_6).snd.snd.snd = (nrm (F (0 : Int)) (A (0
  : Int)) (B (0 : Int)) (C (0 : Int))).snd.snd.snd) && true)))) then false = true else True ∧ bif !(vld n n_4 n_5 n_6 && vld (F (0 : Int)) (A (0 : Int)) (B (0 : Int)) (C (0 : Int))
  && sameW n n_4 n_5 n_6 (F (0 : Int)) (A (0 : Int)) (B (0 : Int)) (C (0 : Int))) then false = true else bif decide ((0 : Int) < x.fst) then bif decide (rng IntKind.i64 (x.fst - (1 :
  Int))) then bif decide ((0 : Int) ≤ x.fst - (1 : Int) ∧ x.fst - (1 : Int) < (↑(adr (F (0 : Int)) (A (0 : Int)) (B (0 : Int)) (C (0 : Int))).length : Int)) then ∃ n_7, List.take
  [AV.int IntKind.i64 n_7].length (List.drop (0 : Nat) ((adr (F (0 : Int)) (A (0 : Int)) (B (0 : Int)) (C (0 : Int))).getD (x.fst - (1 : Int)).toNat [])) = [AV.int IntKind.i64 n_7] ∧
  bif decide (n ≤ n_7) then false = true else bif x.snd then bif decide (rng IntKind.i64 (x.fst + (1 : Int))) then ∃ y, NrmP [AV.int IntKind.i64 (F (0 : Int)), AV.int IntKind.i64 (A
  (0 : Int)), AV.int IntKind.i64 (B (0 : Int)), AV.int IntKind.i64 (C (0 : Int))] (adr (F (0 : Int)) (A (0 : Int)) (B (0 : Int)) (C (0 : Int))) y ∧ (nrmI (adr (F (0 : Int)) (A (0 :
  Int)) (B (0 : Int)) (C (0 : Int))) (nrm (F (0 : Int)) (A (0 : Int)) (B (0 : Int)) (C (0 : Int))) (nrm (F (J (0 : Int))) (A (J (0 : Int))) (B (J (0 : Int))) (C (J (0 : Int)))) (F (0
  : Int)) (A (0 : Int)) (B (0 : Int)) (C (0 : Int)) (F (J (0 : Int))) (A (J (0 : Int))) (B (J (0 : Int))) (C (J (0 : Int)))).m y < (nrmI (adr (F (0 : Int)) (A (0 : Int)) (B (0 :
  Int)) (C (0 : Int))) (nrm (F (0 : Int)) (A (0 : Int)) (B (0 : Int)) (C (0 : Int))) (nrm (F (J (0 : Int))) (A (J (0 : Int))) (B (J (0 : Int))) (C (J (0 : Int)))) (F (0 : Int)) (A (0
  : Int)) (B (0 : Int)) (C (0 : Int)) (F (J (0 : Int))) (A (J (0 : Int))) (B (J (0 : Int))) (C (J (0 : Int)))).m x ∧ ((0 : Nat) = (0 : Nat) ∧ (0 : Nat) = (0 : Nat) ∧ (True ∧ adr (F
  (0 : Int)) (A (0 : Int)) (B (0 : Int)) (C (0 : Int)) = adr (F (0 : Int)) (A (0 : Int)) (B (0 : Int)) (C (0 : Int))) ∧ (0 : Nat) = (0 : Nat) ∧ (0 : Nat) = (0 : Nat) ∧ true = y.snd ∧
  (True ∧ adr (F (0 : Int)) (A (0 : Int)) (B (0 : Int)) (C (0 : Int)) = adr (F (0 : Int)) (A (0 : Int)) (B (0 : Int)) (C (0 : Int))) ∧ (↑(adr (F (0 : Int)) (A (0 : Int)) (B (0 :
  Int)) (C (0 : Int))).length : Int) = (↑(adr (F (0 : Int)) (A (0 : Int)) (B (0 : Int)) (C (0 : Int))).length : Int) ∧ x.fst + (1 : Int) = y.fst ∧ True) ∧ (F (0 : Int) = F (0 : Int)
  ∧ A (0 : Int) = A (0 : Int) ∧ B (0 : Int) = B (0 : Int) ∧ C (0 : Int) = C (0 : Int) ∧ True) ∧ (F (J (0 : Int)) = F (J (0 : Int)) ∧ A (J (0 : Int)) = A (J (0 : Int)) ∧ B (J (0 :
  Int)) = B (J (0 : Int)) ∧ C (J (0 : Int)) = C (J (0 : Int)) ∧ True) ∧ ((nrm (F (0 : Int)) (A (0 : Int)) (B (0 : Int)) (C (0 : Int))).fst = (nrm (F (0 : Int)) (A (0 : Int)) (B (0 :
  Int)) (C (0 : Int))).fst ∧ (nrm (F (0 : Int)) (A (0 : Int)) (B (0 : Int)) (C (0 : Int))).snd.fst = (nrm (F (0 : Int)) (A (0 : Int)) (B (0 : Int)) (C (0 : Int))).snd.fst ∧ (nrm (F
  (0 : Int)) (A (0 : Int)) (B (0 : Int)) (C (0 : Int))).snd.snd.fst = (nrm (F (0 : Int)) (A (0 : Int)) (B (0 : Int)) (C (0 : Int))).snd.snd.fst ∧ (nrm (F (0 : Int)) (A (0 : Int)) (B
  (0 : Int)) (C (0 : Int))).snd.snd.snd = (nrm (F (0 : Int)) (A (0 : Int)) (B (0 : Int)) (C (0 : Int))).snd.snd.snd ∧ True) ∧ ((nrm (F (J (0 : Int))) (A (J (0 : Int))) (B (J (0 :
  Int))) (C (J (0 : Int)))).fst = (nrm (F (J (0 : Int))) (A (J (0 : Int))) (B (J (0 : Int))) (C (J (0 : Int)))).fst ∧ (nrm (F (J (0 : Int))) (A (J (0 : Int))) (B (J (0 : Int))) (C (J
  (0 : Int)))).snd.fst = (nrm (F (J (0 : Int))) (A (J (0 : Int))) (B (J (0 : Int))) (C (J (0 : Int)))).snd.fst ∧ (nrm (F (J (0 : Int))) (A (J (0 : Int))) (B (J (0 : Int))) (C (J (0 :
  Int)))).snd.snd.fst = (nrm (F (J (0 : Int))) (A (J (0 : Int))) (B (J (0 : Int))) (C (J (0 : Int)))).snd.snd.fst ∧ (nrm (F (J (0 : Int))) (A (J (0 : Int))) (B (J (0 : Int))) (C (J
  (0 : Int)))).snd.snd.snd = (nrm (F (J (0 : Int))) (A (J (0 : Int))) (B (J (0 : Int))) (C (J (0 : Int)))).snd.snd.snd ∧ True) ∧ True else False else bif decide (rng IntKind.i64
  (x.fst + (1 : Int))) then ∃ y, NrmP [AV.int IntKind.i64 (F (0 : Int)), AV.int IntKind.i64 (A (0 : Int)), AV.int IntKind.i64 (B (0 : Int)), AV.int IntKind.i64 (C (0 : Int))] (adr (F
  (0 : Int)) (A (0 : Int)) (B (0 : Int)) (C (0 : Int))) y ∧ (nrmI (adr (F (0 : Int)) (A (0 : Int)) (B (0 : Int)) (C (0 : Int))) (nrm (F (0 : Int)) (A (0 : Int)) (B (0 : Int)) (C (0 :
  Int))) (nrm (F (J (0 : Int))) (A (J (0 : Int))) (B (J (0 : Int))) (C (J (0 : Int)))) (F (0 : Int)) (A (0 : Int)) (B (0 : Int)) (C (0 : Int)) (F (J (0 : Int))) (A (J (0 : Int))) (B
  (J (0 : Int))) (C (J (0 : Int)))).m y < (nrmI (adr (F (0 : Int)) (A (0 : Int)) (B (0 : Int)) (C (0 : Int))) (nrm (F (0 : Int)) (A (0 : Int)) (B (0 : Int)) (C (0 : Int))) (nrm (F (J
  (0 : Int))) (A (J (0 : Int))) (B (J (0 : Int))) (C (J (0 : Int)))) (F (0 : Int)) (A (0 : Int)) (B (0 : Int)) (C (0 : Int)) (F (J (0 : Int))) (A (J (0 : Int))) (B (J (0 : Int))) (C
  (J (0 : Int)))).m x ∧ ((0 : Nat) = (0 : Nat) ∧ (0 : Nat) = (0 : Nat) ∧ (True ∧ adr (F (0 : Int)) (A (0 : Int)) (B (0 : Int)) (C (0 : Int)) = adr (F (0 : Int)) (A (0 : Int)) (B (0 :
  Int)) (C (0 : Int))) ∧ (0 : Nat) = (0 : Nat) ∧ (0 : Nat) = (0 : Nat) ∧ (decide (n = F (0 : Int)) && (decide (n_4 = A (0 : Int)) && (decide (n_5 = B (0 : Int)) && (decide (n_6 = C
  (0 : Int)) && true)))) = y.snd ∧ (True ∧ adr (F (0 : Int)) (A (0 : Int)) (B (0 : Int)) (C (0 : Int)) = adr (F (0 : Int)) (A (0 : Int)) (B (0 : Int)) (C (0 : Int))) ∧ (↑(adr (F (0 :
  Int)) (A (0 : Int)) (B (0 : Int)) (C (0 : Int))).length : Int) = (↑(adr (F (0 : Int)) (A (0 : Int)) (B (0 : Int)) (C (0 : Int))).length : Int) ∧ x.fst + (1 : Int) = y.fst ∧ True) ∧
  (F (0 : Int) = F (0 : Int) ∧ A (0 : Int) = A (0 : Int) ∧ B (0 : Int) = B (0 : Int) ∧ C (0 : Int) = C (0 : Int) ∧ True) ∧ (F (J (0 : Int)) = F (J (0 : Int)) ∧ A (J (0 : Int)) = A (J
  (0 : Int)) ∧ B (J (0 : Int)) = B (J (0 : Int)) ∧ C (J (0 : Int)) = C (J (0 : Int)) ∧ True) ∧ ((nrm (F (0 : Int)) (A (0 : Int)) (B (0 : Int)) (C (0 : Int))).fst = (nrm (F (0 : Int))
  (A (0 : Int)) (B (0 : Int)) (C (0 : Int))).fst ∧ (nrm (F (0 : Int)) (A (0 : Int)) (B (0 : Int)) (C (0 : Int))).snd.fst = (nrm (F (0 : Int)) (A (0 : Int)) (B (0 : Int)) (C (0 :
  Int))).snd.fst ∧ (nrm (F (0 : Int)) (A (0 : Int)) (B (0 : Int)) (C (0 : Int))).snd.snd.fst = (nrm (F (0 : Int)) (A (0 : Int)) (B (0 : Int)) (C (0 : Int))).snd.snd.fst ∧ (nrm (F (0
  : Int)) (A (0 : Int)) (B (0 : Int)) (C (0 : Int))).snd.snd.snd = (nrm (F (0 : Int)) (A (0 : Int)) (B (0 : Int)) (C (0 : Int))).snd.snd.snd ∧ True) ∧ ((nrm (F (J (0 : Int))) (A (J
  (0 : Int))) (B (J (0 : Int))) (C (J (0 : Int)))).fst = (nrm (F (J (0 : Int))) (A (J (0 : Int))) (B (J (0 : Int))) (C (J (0 : Int)))).fst ∧ (nrm (F (J (0 : Int))) (A (J (0 : Int)))
  (B (J (0 : Int))) (C (J (0 : Int)))).snd.fst = (nrm (F (J (0 : Int))) (A (J (0 : Int))) (B (J (0 : Int))) (C (J (0 : Int)))).snd.fst ∧ (nrm (F (J (0 : Int))) (A (J (0 : Int))) (B
  (J (0 : Int))) (C (J (0 : Int)))).snd.snd.fst = (nrm (F (J (0 : Int))) (A (J (0 : Int))) (B (J (0 : Int))) (C (J (0 : Int)))).snd.snd.fst ∧ (nrm (F (J (0 : Int))) (A (J (0 : Int)))
  (B (J (0 : Int))) (C (J (0 : Int)))).snd.snd.snd = (nrm (F (J (0 : Int))) (A (J (0 : Int))) (B (J (0 : Int))) (C (J (0 : Int)))).snd.snd.snd ∧ True) ∧ True else False else False
  else False else bif x.snd then bif decide (rng IntKind.i64 (x.fst + (1 : Int))) then ∃ y, NrmP [AV.int IntKind.i64 (F (0 : Int)), AV.int IntKind.i64 (A (0 : Int)), AV.int
  IntKind.i64 (B (0 : Int)), AV.int IntKind.i64 (C (0 : Int))] (adr (F (0 : Int)) (A (0 : Int)) (B (0 : Int)) (C (0 : Int))) y ∧ (nrmI (adr (F (0 : Int)) (A (0 : Int)) (B (0 : Int))
  (C (0 : Int))) (nrm (F (0 : Int)) (A (0 : Int)) (B (0 : Int)) (C (0 : Int))) (nrm (F (J (0 : Int))) (A (J (0 : Int))) (B (J (0 : Int))) (C (J (0 : Int)))) (F (0 : Int)) (A (0 :
  Int)) (B (0 : Int)) (C (0 : Int)) (F (J (0 : Int))) (A (J (0 : Int))) (B (J (0 : Int))) (C (J (0 : Int)))).m y < (nrmI (adr (F (0 : Int)) (A (0 : Int)) (B (0 : Int)) (C (0 : Int)))
  (nrm (F (0 : Int)) (A (0 : Int)) (B (0 : Int)) (C (0 : Int))) (nrm (F (J (0 : Int))) (A (J (0 : Int))) (B (J (0 : Int))) (C (J (0 : Int)))) (F (0 : Int)) (A (0 : Int)) (B (0 :
  Int)) (C (0 : Int)) (F (J (0 : Int))) (A (J (0 : Int))) (B (J (0 : Int))) (C (J (0 : Int)))).m x ∧ ((0 : Nat) = (0 : Nat) ∧ (0 : Nat) = (0 : Nat) ∧ (True ∧ adr (F (0 : Int)) (A (0
  : Int)) (B (0 : Int)) (C (0 : Int)) = adr (F (0 : Int)) (A (0 : Int)) (B (0 : Int)) (C (0 : Int))) ∧ (0 : Nat) = (0 : Nat) ∧ (0 : Nat) = (0 : Nat) ∧ true = y.snd ∧ (True ∧ adr (F
  (0 : Int)) (A (0 : Int)) (B (0 : Int)) (C (0 : Int)) = adr (F (0 : Int)) (A (0 : Int)) (B (0 : Int)) (C (0 : Int))) ∧ (↑(adr (F (0 : Int)) (A (0 : Int)) (B (0 : Int)) (C (0 :
  Int))).length : Int) = (↑(adr (F (0 : Int)) (A (0 : Int)) (B (0 : Int)) (C (0 : Int))).length : Int) ∧ x.fst + (1 : Int) = y.fst ∧ True) ∧ (F (0 : Int) = F (0 : Int) ∧ A (0 : Int)
  = A (0 : Int) ∧ B (0 : Int) = B (0 : Int) ∧ C (0 : Int) = C (0 : Int) ∧ True) ∧ (F (J (0 : Int)) = F (J (0 : Int)) ∧ A (J (0 : Int)) = A (J (0 : Int)) ∧ B (J (0 : Int)) = B (J (0 :
  Int)) ∧ C (J (0 : Int)) = C (J (0 : Int)) ∧ True) ∧ ((nrm (F (0 : Int)) (A (0 : Int)) (B (0 : Int)) (C (0 : Int))).fst = (nrm (F (0 : Int)) (A (0 : Int)) (B (0 : Int)) (C (0 :
  Int))).fst ∧ (nrm (F (0 : Int)) (A (0 : Int)) (B (0 : Int)) (C (0 : Int))).snd.fst = (nrm (F (0 : Int)) (A (0 : Int)) (B (0 : Int)) (C (0 : Int))).snd.fst ∧ (nrm (F (0 : Int)) (A
  (0 : Int)) (B (0 : Int)) (C (0 : Int))).snd.snd.fst = (nrm (F (0 : Int)) (A (0 : Int)) (B (0 : Int)) (C (0 : Int))).snd.snd.fst ∧ (nrm (F (0 : Int)) (A (0 : Int)) (B (0 : Int)) (C
  (0 : Int))).snd.snd.snd = (nrm (F (0 : Int)) (A (0 : Int)) (B (0 : Int)) (C (0 : Int))).snd.snd.snd ∧ True) ∧ ((nrm (F (J (0 : Int))) (A (J (0 : Int))) (B (J (0 : Int))) (C (J (0 :
  Int)))).fst = (nrm (F (J (0 : Int))) (A (J (0 : Int))) (B (J (0 : Int))) (C (J (0 : Int)))).fst ∧ (nrm (F (J (0 : Int))) (A (J (0 : Int))) (B (J (0 : Int))) (C (J (0 :
  Int)))).snd.fst = (nrm (F (J (0 : Int))) (A (J (0 : Int))) (B (J (0 : Int))) (C (J (0 : Int)))).snd.fst ∧ (nrm (F (J (0 : Int))) (A (J (0 : Int))) (B (J (0 : Int))) (C (J (0 :
  Int)))).snd.snd.fst = (nrm (F (J (0 : Int))) (A (J (0 : Int))) (B (J (0 : Int))) (C (J (0 : Int)))).snd.snd.fst ∧ (nrm (F (J (0 : Int))) (A (J (0 : Int))) (B (J (0 : Int))) (C (J
  (0 : Int)))).snd.snd.snd = (nrm (F (J (0 : Int))) (A (J (0 : Int))) (B (J (0 : Int))) (C (J (0 : Int)))).snd.snd.snd ∧ True) ∧ True else False else bif decide (rng IntKind.i64
  (x.fst + (1 : Int))) then ∃ y, NrmP [AV.int IntKind.i64 (F (0 : Int)), AV.int IntKind.i64 (A (0 : Int)), AV.int IntKind.i64 (B (0 : Int)), AV.int IntKind.i64 (C (0 : Int))] (adr (F
  (0 : Int)) (A (0 : Int)) (B (0 : Int)) (C (0 : Int))) y ∧ (nrmI (adr (F (0 : Int)) (A (0 : Int)) (B (0 : Int)) (C (0 : Int))) (nrm (F (0 : Int)) (A (0 : Int)) (B (0 : Int)) (C (0 :
  Int))) (nrm (F (J (0 : Int))) (A (J (0 : Int))) (B (J (0 : Int))) (C (J (0 : Int)))) (F (0 : Int)) (A (0 : Int)) (B (0 : Int)) (C (0 : Int)) (F (J (0 : Int))) (A (J (0 : Int))) (B
  (J (0 : Int))) (C (J (0 : Int)))).m y < (nrmI (adr (F (0 : Int)) (A (0 : Int)) (B (0 : Int)) (C (0 : Int))) (nrm (F (0 : Int)) (A (0 : Int)) (B (0 : Int)) (C (0 : Int))) (nrm (F (J
  (0 : Int))) (A (J (0 : Int))) (B (J (0 : Int))) (C (J (0 : Int)))) (F (0 : Int)) (A (0 : Int)) (B (0 : Int)) (C (0 : Int)) (F (J (0 : Int))) (A (J (0 : Int))) (B (J (0 : Int))) (C
  (J (0 : Int)))).m x ∧ ((0 : Nat) = (0 : Nat) ∧ (0 : Nat) = (0 : Nat) ∧ (True ∧ adr (F (0 : Int)) (A (0 : Int)) (B (0 : Int)) (C (0 : Int)) = adr (F (0 : Int)) (A (0 : Int)) (B (0 :
  Int)) (C (0 : Int))) ∧ (0 : Nat) = (0 : Nat) ∧ (0 : Nat) = (0 : Nat) ∧ (decide (n = F (0 : Int)) && (decide (n_4 = A (0 : Int)) && (decide (n_5 = B (0 : Int)) && (decide (n_6 = C
  (0 : Int)) && true)))) = y.snd ∧ (True ∧ adr (F (0 : Int)) (A (0 : Int)) (B (0 : Int)) (C (0 : Int)) = adr (F (0 : Int)) (A (0 : Int)) (B (0 : Int)) (C (0 : Int))) ∧ (↑(adr (F (0 :
  Int)) (A (0 : Int)) (B (0 : Int)) (C (0 : Int))).length : Int) = (↑(adr (F (0 : Int)) (A (0 : Int)) (B (0 : Int)) (C (0 : Int))).length : Int) ∧ x.fst + (1 : Int) = y.fst ∧ True) ∧
  (F (0 : Int) = F (0 : Int) ∧ A (0 : Int) = A (0 : Int) ∧ B (0 : Int) = B (0 : Int) ∧ C (0 : Int) = C (0 : Int) ∧ True) ∧ (F (J (0 : Int)) = F (J (0 : Int)) ∧ A (J (0 : Int)) = A (J
  (0 : Int)) ∧ B (J (0 : Int)) = B (J (0 : Int)) ∧ C (J (0 : Int)) = C (J (0 : Int)) ∧ True) ∧ ((nrm (F (0 : Int)) (A (0 : Int)) (B (0 : Int)) (C (0 : Int))).fst = (nrm (F (0 : Int))
  (A (0 : Int)) (B (0 : Int)) (C (0 : Int))).fst ∧ (nrm (F (0 : Int)) (A (0 : Int)) (B (0 : Int)) (C (0 : Int))).snd.fst = (nrm (F (0 : Int)) (A (0 : Int)) (B (0 : Int)) (C (0 :
  Int))).snd.fst ∧ (nrm (F (0 : Int)) (A (0 : Int)) (B (0 : Int)) (C (0 : Int))).snd.snd.fst = (nrm (F (0 : Int)) (A (0 : Int)) (B (0 : Int)) (C (0 : Int))).snd.snd.fst ∧ (nrm (F (0
  : Int)) (A (0 : Int)) (B (0 : Int)) (C (0 : Int))).snd.snd.snd = (nrm (F (0 : Int)) (A (0 : Int)) (B (0 : Int)) (C (0 : Int))).snd.snd.snd ∧ True) ∧ ((nrm (F (J (0 : Int))) (A (J
  (0 : Int))) (B (J (0 : Int))) (C (J (0 : Int)))).fst = (nrm (F (J (0 : Int))) (A (J (0 : Int))) (B (J (0 : Int))) (C (J (0 : Int)))).fst ∧ (nrm (F (J (0 : Int))) (A (J (0 : Int)))
  (B (J (0 : Int))) (C (J (0 : Int)))).snd.fst = (nrm (F (J (0 : Int))) (A (J (0 : Int))) (B (J (0 : Int))) (C (J (0 : Int)))).snd.fst ∧ (nrm (F (J (0 : Int))) (A (J (0 : Int))) (B
  (J (0 : Int))) (C (J (0 : Int)))).snd.snd.fst = (nrm (F (J (0 : Int))) (A (J (0 : Int))) (B (J (0 : Int))) (C (J (0 : Int)))).snd.snd.fst ∧ (nrm (F (J (0 : Int))) (A (J (0 : Int)))
  (B (J (0 : Int))) (C (J (0 : Int)))).snd.snd.snd = (nrm (F (J (0 : Int))) (A (J (0 : Int))) (B (J (0 : Int))) (C (J (0 : Int)))).snd.snd.snd ∧ True) ∧ True else False else False
  else bif x.snd then True ∧ bif decide ((vld (F (0 : Int)) (A (0 : Int)) (B (0 : Int)) (C (0 : Int)) && vld (F (J (0 : Int))) (A (J (0 : Int))) (B (J (0 : Int))) (C (J (0 : Int)))
  && sameW (F (0 : Int)) (A (0 : Int)) (B (0 : Int)) (C (0 : Int)) (F (J (0 : Int))) (A (J (0 : Int))) (B (J (0 : Int))) (C (J (0 : Int)))) = (decide ((nrm (F (0 : Int)) (A (0 :
  Int)) (B (0 : Int)) (C (0 : Int))).fst = (nrm (F (J (0 : Int))) (A (J (0 : Int))) (B (J (0 : Int))) (C (J (0 : Int)))).fst) && (decide ((nrm (F (0 : Int)) (A (0 : Int)) (B (0 :
  Int)) (C (0 : Int))).snd.fst = (nrm (F (J (0 : Int))) (A (J (0 : Int))) (B (J (0 : Int))) (C (J (0 : Int)))).snd.fst) && (decide ((nrm (F (0 : Int)) (A (0 : Int)) (B (0 : Int)) (C
  (0 : Int))).snd.snd.fst = (nrm (F (J (0 : Int))) (A (J (0 : Int))) (B (J (0 : Int))) (C (J (0 : Int)))).snd.snd.fst) && (decide ((nrm (F (0 : Int)) (A (0 : Int)) (B (0 : Int)) (C
  (0 : Int))).snd.snd.snd = (nrm (F (J (0 : Int))) (A (J (0 : Int))) (B (J (0 : Int))) (C (J (0 : Int)))).snd.snd.snd) && true))))) then True ∧ true = true else false = true else
  false = true else False else False else False
set_option maxRecDepth 100000 in
theorem placeNormal_P : placeNormal_T vld adr nrm sameW := by
  unfold placeNormal_T
  intro zs X F A B C J ⟨hz, hs⟩ _
  have v1 := hs.vld 0 (by decide)
  have j1 := hs.jle 0 (by decide)
  have v2 := hs.vld (J 0) j1
  refine ⟨hs.X, ⟨rfl, by decide⟩, ⟨rfl, j1⟩, trivial, trivial, trivial, ?_⟩
  clear hs hz
  generalize F (J 0) = f' at *
  generalize A (J 0) = a' at *
  generalize B (J 0) = b' at *
  generalize C (J 0) = c' at *
  generalize F 0 = f at *
  generalize A 0 = a at *
  generalize B 0 = b at *
  generalize C 0 = c at *
  obtain ⟨l, R⟩ := adr_rows v1
  have hz := adr_zeros v1
  have hS := same_nrm v1 v2
  have hlen : (adr f a b c).length = l.length := by rw [R.adr, List.length_map]
  have hg : ∀ i : Nat, ∀ r, l[i]? = some r → (adr f a b c).getD i [] = encP r := by
    intro i r hr; rw [R.adr, List.getD_eq_getElem?_getD, List.getElem?_map, hr]; rfl
  have hown : [AV.int IntKind.i64 f, AV.int IntKind.i64 a, AV.int IntKind.i64 b, AV.int IntKind.i64 c] ∈ adr f a b c := by rw [R.adr]; exact List.mem_map.2 ⟨_, R.own, rfl⟩
  have hpos : 0 < l.length := by have := R.own; cases l with | nil => cases this | cons _ _ => simp
  have t1 := vld_t v1
  have t2 := vld_t v2
  have h0 := hg 0 _ R.head
  have hrow := R.row
  have hasc := R.asc
  have hadr := R.adr
  clear R
  generalize adr f a b c = L at *
  generalize hN : nrm f a b c = N at *
  generalize nrm f' a' b' c' = N' at *
  have er1 : ¬ ¬ err (vld f a b c) = 0 := by rw [t1]; decide
  have er2 : ¬ ¬ err (vld f' a' b' c') = 0 := by rw [t2]; decide
  refine cd0 er1 (cd0 er1 (cd0 er2 (cd0 (by omega) (cd1 ⟨by decide, by omega⟩ ⟨N.1, N.2.1, N.2.2.1, N.2.2.2, by rw [h0]; rfl, c0 (by simp) ⟨?_, ?_⟩⟩))))
  · refine csplit (fun h0 => csplit (fun h1 => csplit (fun h2 => ?_) (fun h2 => ?_)) (fun h1 => csplit (fun h2 => ?_) (fun h2 => ?_))) (fun h0 => csplit (fun h1 => csplit (fun h2 => ?_) (fun h2 => ?_)) (fun h1 => csplit (fun h2 => ?_) (fun h2 => ?_)))
    all_goals
      simp only [decide_eq_true_eq, decide_eq_false_iff_not] at h0 h1 h2
      refine ⟨_, ⟨rfl⟩, ⟨rfl, rfl, ⟨trivial, rfl⟩, rfl, rfl, ?_, trivial⟩, ?_⟩
      · simp [zc, h0, h1, h2]
      · repeat' (first | apply And.intro | exact trivial | exact rfl)
  · intro x hx
    have hx := hx.e
    have hlx : (L.length : Int) = ([1, 2, 5] : List Int).getD x.toNat 0 ∧ 0 ≤ x ∧ x < 3 := by
      rcases hz with ⟨h, k⟩ | ⟨h, k⟩ | ⟨h, k⟩ <;> rw [← hx] at h <;> subst h <;> exact ⟨by rw [k]; rfl, by decide, by decide⟩
    refine cd1 hlx.2 (cd1 ⟨rfl, by omega⟩ ⟨([1, 2, 5] : List Int).getD x.toNat 0, ?_, cd0 (by omega) ⟨⟨(0, false), ⟨by decide, by simp, by simp⟩, ?_⟩, ?_⟩⟩)
    · have : x = 0 ∨ x = 1 ∨ x = 2 := by omega
      rcases this with h | h | h <;> rw [h] <;> rfl
    · repeat' (first | apply And.intro | exact trivial | exact rfl)
    · have hl5 : L.length ≤ 5 := by omega
      clear hlx hz h0
      rintro ⟨i, fd⟩ ⟨hi0, hi1, hfd⟩
      simp only at hi0 hi1 hfd
      dsimp only
      refine csplit (fun hlt => ?_) (fun hlt => ?_)
      · have hlt : i < (L.length : Int) := of_decide_eq_true hlt
        obtain ⟨k, rfl⟩ : ∃ k : Nat, i = k := ⟨i.toNat, by omega⟩
        have hk : k < l.length := by omega
        have hr := List.getElem?_eq_getElem hk
        generalize l[k] = r at hr
        have hm : r ∈ l := List.mem_of_getElem? hr
        have hR := hrow r hm
        have hgk := hg k r hr
        have hnx : L.take (k + 1) = L.take k ++ [encP r] := by
          rw [hadr, List.take_add_one, List.getElem?_map, hr]; rfl
        have hfd2 : (fd || (decide (r.1 = f) && (decide (r.2.1 = a) && (decide (r.2.2.1 = b) && (decide (r.2.2.2 = c) && true))))) = true ↔ [AV.int IntKind.i64 f, AV.int IntKind.i64 a, AV.int IntKind.i64 b, AV.int IntKind.i64 c] ∈ L.take (k + 1) := by
          rw [hnx, List.mem_append, List.mem_singleton, Bool.or_eq_true, hfd]
          simp only [Int.toNat_natCast, encP, List.cons.injEq, AV.int.injEq, true_and, and_true, Bool.and_eq_true, decide_eq_true_eq]
          constructor
          · rintro (h | ⟨h0, h1, h2, h3⟩)
            · exact .inl h
            · exact .inr ⟨h0.symm, h1.symm, h2.symm, h3.symm⟩
          · rintro (h | ⟨h0, h1, h2, h3⟩)
            · exact .inl h
            · exact .inr ⟨h0.symm, h1.symm, h2.symm, h3.symm⟩
        have er3 : ¬ ¬ err (vld r.1 r.2.1 r.2.2.1 r.2.2.2) = 0 := by rw [vld_t hR.vld]; decide
        have e1 : ((k : Int) + 1).toNat = k + 1 := by omega
        have hsm : (!(vld r.1 r.2.1 r.2.2.1 r.2.2.2 && vld f a b c && sameW r.1 r.2.1 r.2.2.1 r.2.2.2 f a b c)) = false := by rw [vld_t hR.vld, t1, hR.same]; rfl
        have hk5 : k + 1 ≤ 5 := by omega
        have hq : ∀ q : Bool, (q = true ↔ [AV.int IntKind.i64 f, AV.int IntKind.i64 a, AV.int IntKind.i64 b, AV.int IntKind.i64 c] ∈ L.take (k + 1)) → NrmP [AV.int IntKind.i64 f, AV.int IntKind.i64 a, AV.int IntKind.i64 b, AV.int IntKind.i64 c] L ((k : Int) + 1, q) := by
          intro q h
          exact ⟨by simp only; omega, by simp only; omega, by simp only [e1]; exact h⟩
        have hT : fd = true → (true = true ↔ [AV.int IntKind.i64 f, AV.int IntKind.i64 a, AV.int IntKind.i64 b, AV.int IntKind.i64 c] ∈ L.take (k + 1)) := by
          intro h; rw [h] at hfd2; simpa using hfd2
        have hF : fd = false → ((decide (r.1 = f) && (decide (r.2.1 = a) && (decide (r.2.2.1 = b) && (decide (r.2.2.2 = c) && true)))) = true ↔ [AV.int IntKind.i64 f, AV.int IntKind.i64 a, AV.int IntKind.i64 b, AV.int IntKind.i64 c] ∈ L.take (k + 1)) := by
          intro h; rw [h] at hfd2; simpa using hfd2
        have hrd : decide (rng IntKind.i64 ((k : Int) + 1)) = true := decide_eq_true (by simp only [rng]; omega)
        have hms : (nrmI L N N' f a b c f' a' b' c').m ((k : Int) + 1, true) < (nrmI L N N' f a b c f' a' b' c').m ((k : Int), fd) := by simp only [nrmI]; omega
        refine cd1 ⟨hi0, hlt⟩ ⟨r.1, r.2.1, r.2.2.1, r.2.2.2, by simp only [Int.toNat_natCast]; rw [hgk]; rfl, trivial, cd0 er3 (c0 (by rw [hR.nrm, hN]; simp) ⟨trivial, c0 hsm ?_⟩)⟩
        refine csplit (fun h0 => ?_) (fun h0 => ?_)
        · have h0 : 0 < (k : Int) := of_decide_eq_true h0
          have hr' := List.getElem?_eq_getElem (show k - 1 < l.length by omega)
          have hlt1 : (l[k - 1]'(by omega)).1 < r.1 := by
            have h5 := List.pairwise_iff_getElem.1 hasc (k - 1) k (by omega) hk (by omega)
            have h6 : l[k] = r := by have := List.getElem?_eq_getElem hk; rw [this] at hr; exact Option.some.inj hr
            rw [h6] at h5; exact h5
          generalize (l[k - 1]'(by omega)) = r' at hr' hlt1
          have hgk' := hg (k - 1) r' hr'
          have e2 : ((k : Int) - 1).toNat = k - 1 := by omega
          refine cd1 (by simp only [rng]; omega) (cd1 ⟨by omega, by omega⟩ ⟨r'.1, by simp only [e2]; rw [hgk']; rfl, cd0 (by omega) ?_⟩)
          refine csplit (fun hf => ?_) (fun hf => ?_)
          · rw [hrd, cond_true]
            refine ⟨((k : Int) + 1, true), ?_, ?_, ?_⟩
            · exact hq _ (hT hf)
            · exact hms
            repeat' (first | apply And.intro | exact trivial | exact rfl)
          · rw [hrd, cond_true]
            refine ⟨((k : Int) + 1, (decide (r.1 = f) && (decide (r.2.1 = a) && (decide (r.2.2.1 = b) && (decide (r.2.2.2 = c) && true))))), ?_, ?_, ?_⟩
            · exact hq _ (hF hf)
            · exact hms
            repeat' (first | apply And.intro | exact trivial | exact rfl)
        · refine csplit (fun hf => ?_) (fun hf => ?_)
          · rw [hrd, cond_true]
            refine ⟨((k : Int) + 1, true), ?_, ?_, ?_⟩
            · exact hq _ (hT hf)
            · exact hms
            repeat' (first | apply And.intro | exact trivial | exact rfl)
          · rw [hrd, cond_true]
            refine ⟨((k : Int) + 1, (decide (r.1 = f) && (decide (r.2.1 = a) && (decide (r.2.2.1 = b) && (decide (r.2.2.2 = c) && true))))), ?_, ?_, ?_⟩
            · exact hq _ (hF hf)
            · exact hms
            repeat' (first | apply And.intro | exact trivial | exact rfl)
      · have hlt : ¬ i < (L.length : Int) := of_decide_eq_false hlt
        have hi : i.toNat = L.length := by omega
        rw [hi, List.take_length] at hfd
        refine c1 (hfd.2 hown) ⟨trivial, cd1 ?_ ?_⟩
        · rw [t1, t2, hS, Bool.eq_iff_iff]
          obtain ⟨n0, n1, n2, n3⟩ := N
          obtain ⟨m0, m1, m2, m3⟩ := N'
          simp
        · repeat' (first | apply And.intro | exact trivial | exact rfl)
def placeNormal_S (vld : Int → Int → Int → Int → Bool) (adr : Int → Int → Int → Int → List (List AV)) (nrm : Int → Int → Int → Int → Int × Int × Int × Int) (sameW : Int → Int → Int → Int → Int → Int → Int → Int → Bool) : Prop := ∀ (zs X : List (List AV)) (F A B C J : Int → Int), IntsA zs ∧ SwP zs X F A B C J → fnK Tryd.prog { glob := glb, spec := lk [(11, (addresses_s vld adr)), (12, (normal_s vld nrm)), (13, (same_s vld sameW)), (14, awake_s)], specH := lk [(9, newg_s X), (10, swg_s X F A B C J)], shape := [59, 85, 93, 121], nowf := true } { nt := 147, drop := drp [(1, 3145728), (2, 62914560), (3, 2080374784), (4, 66571993088), (5, 2130303778816), (6, 4611683819404132352), (9, 581072438321850875904), (11, 28334198897217871282176), (12, 37778931862957161709568), (13, 453347182355485940514816), (14, 604462909807314587353088), (15, 76162326635721638006489088), (20, 17331160549995323848587739136), (21, 614018259485548616349965615104), (22, 85070591096409315751728951109590450176), (24, 10718894558009561599096300134100698660864), (25, 10889035741470030830827987437816582766592), (26, 178384183516762045070624090206311258882310144)], tys := [26] } (invs [(19, nrmI (adr (F 0) (A 0) (B 0) (C 0)) (nrm (F 0) (A 0) (B 0) (C 0)) (nrm (F (J 0)) (A (J 0)) (B (J 0)) (C (J 0))) (F 0) (A 0) (B 0) (C 0) (F (J 0)) (A (J 0)) (B (J 0)) (C (J 0))), (100015, zerI (adr (F 0) (A 0) (B 0) (C 0)) (nrm (F 0) (A 0) (B 0) (C 0)) (nrm (F (J 0)) (A (J 0)) (B (J 0)) (C (J 0))) (F 0) (A 0) (B 0) (C 0) (F (J 0)) (A (J 0)) (B (J 0)) (C (J 0)))]) 4 Tryd.f3 [.sl 1 false zs] (.bool true)
set_option maxRecDepth 100000 in
theorem placeNormal_e (vld : Int → Int → Int → Int → Bool) (adr : Int → Int → Int → Int → List (List AV)) (nrm : Int → Int → Int → Int → Int × Int × Int × Int) (sameW : Int → Int → Int → Int → Int → Int → Int → Int → Bool) : placeNormal_T vld adr nrm sameW = placeNormal_S vld adr nrm sameW := by kernel_rfl
theorem placeNormal_v : placeNormal_S vld adr nrm sameW := @Eq.mp (placeNormal_T vld adr nrm sameW) (placeNormal_S vld adr nrm sameW) (placeNormal_e vld adr nrm sameW) placeNormal_P
theorem newg_ok (gl : Glob) (X : List (List AV)) : HOK Tryd.prog gl 9 (newg_s X) := by
  refine ⟨(newsrc_ok gl).1, ?_⟩
  intro xs bs pre r bs2 h hp
  unfold newg_s at h
  split at h
  · simp only [Option.some.injEq, Prod.mk.injEq] at h
    obtain ⟨h1, h2, h3⟩ := h
    subst h1
    subst hp h2 h3
    exact (newsrc_ok gl).2 _ _ _ _ _ rfl trivial
  · cases h
theorem swg_ok (gl : Glob) (X : List (List AV)) (hX : SrcI X) : HOK Tryd.prog gl 10 (swg_s X (swF X) (fun i => (swR X i).1) (fun i => (swR X i).2.1) (fun i => (swR X i).2.2) (swI X)) := by
  refine ⟨(somewhere_ok gl).1, ?_⟩
  intro xs bs pre r bs2 h hp
  unfold swg_s at h
  split at h
  · simp only [Option.some.injEq, Prod.mk.injEq] at h
    obtain ⟨h1, h2, h3⟩ := h
    subst h1
    obtain ⟨rfl, h0⟩ := hp
    subst h2 h3
    exact (somewhere_ok gl).2 _ _ _ _ _ rfl ⟨hX, h0⟩
  · cases h
theorem swB_bd (X : List (List AV)) (i : Int) : 0 ≤ (swB X i).1 ∧ 0 ≤ (swB X i).2.1 ∧ (swB X i).1 + (swB X i).2.1 ≤ 840 := by
  have b1 := srcN_lt (xs := X) (i := rawA X (rawA X i)) (n := 841) (by decide)
  have b2 := srcN_lt (xs := X) (i := rawA X (rawA X (rawA X i))) (n := 840 - srcN X (rawA X (rawA X i)) 841 + 1) (by omega)
  unfold swB
  split
  · simp only; omega
  · split <;> simp only <;> omega
theorem swg_P (zs X : List (List AV)) (h : zs.take 2000 = X) : SwP zs X (swF X) (fun i => (swR X i).1) (fun i => (swR X i).2.1) (fun i => (swR X i).2.2) (swI X) := by
  refine ⟨h, fun i h0 => ?_, fun i h0 => ?_⟩
  · have hb := swB_bd X i
    have hf : 0 ≤ swF X i ∧ swF X i < 20 := srcN_lt (by decide)
    have key : ∀ k : Int, Vld (swF X i) (rot k (swB X i).1 (swB X i).2.1 (840 - (swB X i).1 - (swB X i).2.1)).1 (rot k (swB X i).1 (swB X i).2.1 (840 - (swB X i).1 - (swB X i).2.1)).2.1 (rot k (swB X i).1 (swB X i).2.1 (840 - (swB X i).1 - (swB X i).2.1)).2.2 := by
      intro k
      unfold rot
      split
      · split <;> exact ⟨hf, by simp only; omega, by simp only; omega, by simp only; omega, by simp only; omega⟩
      · exact ⟨hf, by simp only; omega, by simp only; omega, by simp only; omega, by simp only; omega⟩
    exact key _
  · have p1 := rawA_le (xs := X) h0
    have p2 := rawA_le (xs := X) p1
    have p3 := rawA_le (xs := X) p2
    have p4 := rawA_le (xs := X) p3
    unfold swI
    refine rawA_le ?_
    unfold swB
    split
    · exact p2
    · split
      · exact p3
      · exact p4
theorem normal_law (zs : List (List AV)) (hz : IntsA zs) : PureC Tryd.prog glb 3 [.sl 1 false zs] (.bool true) :=
  fnK_sound (tyOf (by kernel_rfl)) (by exact specOK rfl rfl ⟨addresses_ok, normal_ok, same_ok, awake_ok, trivial⟩ ⟨newg_ok glb _, swg_ok glb _ (SrcI.take hz), trivial⟩) (by kernel_rfl) Tryd.func3 rfl (placeNormal_v zs _ _ _ _ _ _ ⟨hz, swg_P zs _ rfl⟩)
end Go.Proofs.YtddmmjkhkoencaaDoor
