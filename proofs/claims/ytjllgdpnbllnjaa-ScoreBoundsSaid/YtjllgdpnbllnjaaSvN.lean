/- Scores: the law of ranges. -/
import Derived.Test.YtjllgdpnbllnjaaSvM
import Derived.Test.YtjllgdpnbllnjaaSvL
namespace Go.Proofs.Ytjllgdpnbllnjaa
open Go
set_option linter.unusedVariables false
set_option linter.unusedSimpArgs false

def scG_s (N D E : Int → Int → Int → Int → Int) : Sp
  | [.agg [.int .i64 h, .int .i64 a, .int .i64 m, .int .i64 o]] => some (TbP h a m o, .tup [.agg [.int .i64 (N h a m o), .int .i64 (D h a m o)], .int .i64 (E h a m o)])
  | _ => none
structure PrV (cs : List (List AV)) (V : List (List AV) → Int → Int → List (List AV)) : Prop where
  f : FldP (List.take 160 cs) 0
  p : PrsP (V (List.take 160 cs) 0 20)
  l : (V (List.take 160 cs) 0 20).length ≤ 20
  t : ∀ n : Nat, PrsP ((V (List.take 160 cs) 0 20).take n)
structure OneU (x : Unit) : Prop where
  t : True
def bdC1 (L M : List (List AV)) (h a m o hN hD hE : Int) : LInv := ⟨Unit, fun _ => ⟨[(7, .sl 2 false L), (8, .sl 2 false M), (9, .ptr 9 0), (11, .ptr 11 0), (17, .ptr 17 0), (18, .int .i64 hE)], [(9, .cells [.int .i64 h, .int .i64 a, .int .i64 m, .int .i64 o]), (11, .cells [.int .i64 1, .int .i64 1]), (17, .cells [.int .i64 hN, .int .i64 hD])]⟩, OneU, fun _ => 0, none⟩
def bdC2 (L M : List (List AV)) : LInv := ⟨Unit, fun _ => ⟨[(7, .sl 2 false L), (8, .sl 2 false M), (11, .ptr 11 0)], [(11, .cells [.int .i64 1, .int .i64 1])]⟩, OneU, fun _ => 0, none⟩
structure BdF (len h a m o : Int) (dN dD dE fN fD fE rN rD rE hN hD hE : Int) (C : Int → Int → Int → Int → Int) : Prop where
  ln : 0 ≤ len ∧ len ≤ 20
  sum : h + a + m + o = len
  tb : TbP h a m o
  fd : dE = 0 → FrP dN dD ∧ ¬ (0 < C dN dD 1 1) ∧ ¬ (C dN dD 0 1 < 0) ∧ rE = 0 ∧ ¬ (0 < C rN rD dN dD)
  ff : fE = 0 → FrP fN fD ∧ ¬ (0 < C fN fD 1 1) ∧ ¬ (C fN fD 0 1 < 0)
  fr : rE = 0 → FrP rN rD ∧ ¬ (C rN rD 0 1 < 0)
  fh : hE = 0 → FrP hN hD ∧ ¬ (0 < C hN hD 1 1) ∧ ¬ (C hN hD (-1) 1 < 0)
  fk : hE = 0 → ((hN = 1 ∧ hD = 1) ↔ (a = 0 ∧ m = 0))
structure BdK (n : Int) (eL eA eB N Q N' Q' kP kQ kE : Int) (C : Int → Int → Int → Int → Int) : Prop where
  l : eL = 0
  a : eA = 0
  b : eB = 0
  z : ¬ kE = 0 → n = 0 ∨ Q' = 0
  k : kE = 0 → FrP kP kQ ∧ C kP kQ 1 1 ≤ 0 ∧ ((kP = 1 ∧ kQ = 1) ↔ Q = 0)
theorem fr11 : FrP 1 1 := ⟨by decide, by decide⟩
theorem fr01 : FrP 0 1 := ⟨by decide, by decide⟩
theorem frm1 : FrP (-1) 1 := ⟨by decide, by decide⟩
theorem bq1 {p q a m : Int} {F A : Prop} (h : (p = 1 ∧ q = 1) ↔ (a = 0 ∧ m = 0)) (ha : a = 0) (k : A) : cond (!decide ((decide (p = 1) && (decide (q = 1) && true)) = decide (m = 0))) F A := by
  have : (decide (p = 1) && (decide (q = 1) && true)) = decide (m = 0) := by
    rw [Bool.and_true, ← Bool.decide_and, decide_eq_decide]
    exact ⟨fun e => (h.1 e).2, fun e => h.2 ⟨ha, e⟩⟩
  rw [decide_eq_true this]; exact k
theorem bq2 {p q a m : Int} {F A : Prop} (h : (p = 1 ∧ q = 1) ↔ (a = 0 ∧ m = 0)) (ha : ¬ a = 0) (k : A) : cond (!decide ((decide (p = 1) && (decide (q = 1) && true)) = false)) F A := by
  have : (decide (p = 1) && (decide (q = 1) && true)) = false := by
    rw [Bool.and_true, ← Bool.decide_and]
    exact decide_eq_false fun e => ha (h.1 e).1
  rw [decide_eq_true this]; exact k
theorem bq3 {p q Q : Int} (h : (p = 1 ∧ q = 1) ↔ Q = 0) : decide ((decide (p = 1) && (decide (q = 1) && true)) = decide (Q = 0)) = true := by
  refine decide_eq_true ?_
  rw [Bool.and_true, ← Bool.decide_and, decide_eq_decide]; exact h
set_option maxRecDepth 100000 in
def lBounds_T : Prop :=
  ∀ (gl : Glob) (g g' : Bool) (cs ds : List (List AV)) (th : Int) (oN oS oA oQ oE : List (List AV) → Int) (V : List (List AV) → Int → Int → List (List AV)) (J : List (List AV) → Int
  → Int → Int) (tH tA tM tO : List (List AV) → Int → Int) (kP kQ kE dN dD dE fN fD fE rN rD rE hN hD hE C : Int → Int → Int → Int → Int), PrV cs V ∧ PrV ds V ∧ BdF (↑(V (List.take
  (160 : Nat) cs) (0 : Int) (20 : Int)).length : Int) (tH (V (List.take (160 : Nat) cs) (0 : Int) (20 : Int)) (th.tmod (10 : Int))) (tA (V (List.take (160 : Nat) cs) (0 : Int) (20 :
  Int)) (th.tmod (10 : Int))) (tM (V (List.take (160 : Nat) cs) (0 : Int) (20 : Int)) (th.tmod (10 : Int))) (tO (V (List.take (160 : Nat) cs) (0 : Int) (20 : Int)) (th.tmod (10 :
  Int))) (dN (tH (V (List.take (160 : Nat) cs) (0 : Int) (20 : Int)) (th.tmod (10 : Int))) (tA (V (List.take (160 : Nat) cs) (0 : Int) (20 : Int)) (th.tmod (10 : Int))) (tM (V
  (List.take (160 : Nat) cs) (0 : Int) (20 : Int)) (th.tmod (10 : Int))) (tO (V (List.take (160 : Nat) cs) (0 : Int) (20 : Int)) (th.tmod (10 : Int)))) (dD (tH (V (List.take (160 :
  Nat) cs) (0 : Int) (20 : Int)) (th.tmod (10 : Int))) (tA (V (List.take (160 : Nat) cs) (0 : Int) (20 : Int)) (th.tmod (10 : Int))) (tM (V (List.take (160 : Nat) cs) (0 : Int) (20 :
  Int)) (th.tmod (10 : Int))) (tO (V (List.take (160 : Nat) cs) (0 : Int) (20 : Int)) (th.tmod (10 : Int)))) (dE (tH (V (List.take (160 : Nat) cs) (0 : Int) (20 : Int)) (th.tmod (10
  : Int))) (tA (V (List.take (160 : Nat) cs) (0 : Int) (20 : Int)) (th.tmod (10 : Int))) (tM (V (List.take (160 : Nat) cs) (0 : Int) (20 : Int)) (th.tmod (10 : Int))) (tO (V
  (List.take (160 : Nat) cs) (0 : Int) (20 : Int)) (th.tmod (10 : Int)))) (fN (tH (V (List.take (160 : Nat) cs) (0 : Int) (20 : Int)) (th.tmod (10 : Int))) (tA (V (List.take (160 :
  Nat) cs) (0 : Int) (20 : Int)) (th.tmod (10 : Int))) (tM (V (List.take (160 : Nat) cs) (0 : Int) (20 : Int)) (th.tmod (10 : Int))) (tO (V (List.take (160 : Nat) cs) (0 : Int) (20 :
  Int)) (th.tmod (10 : Int)))) (fD (tH (V (List.take (160 : Nat) cs) (0 : Int) (20 : Int)) (th.tmod (10 : Int))) (tA (V (List.take (160 : Nat) cs) (0 : Int) (20 : Int)) (th.tmod (10
  : Int))) (tM (V (List.take (160 : Nat) cs) (0 : Int) (20 : Int)) (th.tmod (10 : Int))) (tO (V (List.take (160 : Nat) cs) (0 : Int) (20 : Int)) (th.tmod (10 : Int)))) (fE (tH (V
  (List.take (160 : Nat) cs) (0 : Int) (20 : Int)) (th.tmod (10 : Int))) (tA (V (List.take (160 : Nat) cs) (0 : Int) (20 : Int)) (th.tmod (10 : Int))) (tM (V (List.take (160 : Nat)
  cs) (0 : Int) (20 : Int)) (th.tmod (10 : Int))) (tO (V (List.take (160 : Nat) cs) (0 : Int) (20 : Int)) (th.tmod (10 : Int)))) (rN (tH (V (List.take (160 : Nat) cs) (0 : Int) (20 :
  Int)) (th.tmod (10 : Int))) (tA (V (List.take (160 : Nat) cs) (0 : Int) (20 : Int)) (th.tmod (10 : Int))) (tM (V (List.take (160 : Nat) cs) (0 : Int) (20 : Int)) (th.tmod (10 :
  Int))) (tO (V (List.take (160 : Nat) cs) (0 : Int) (20 : Int)) (th.tmod (10 : Int)))) (rD (tH (V (List.take (160 : Nat) cs) (0 : Int) (20 : Int)) (th.tmod (10 : Int))) (tA (V
  (List.take (160 : Nat) cs) (0 : Int) (20 : Int)) (th.tmod (10 : Int))) (tM (V (List.take (160 : Nat) cs) (0 : Int) (20 : Int)) (th.tmod (10 : Int))) (tO (V (List.take (160 : Nat)
  cs) (0 : Int) (20 : Int)) (th.tmod (10 : Int)))) (rE (tH (V (List.take (160 : Nat) cs) (0 : Int) (20 : Int)) (th.tmod (10 : Int))) (tA (V (List.take (160 : Nat) cs) (0 : Int) (20 :
  Int)) (th.tmod (10 : Int))) (tM (V (List.take (160 : Nat) cs) (0 : Int) (20 : Int)) (th.tmod (10 : Int))) (tO (V (List.take (160 : Nat) cs) (0 : Int) (20 : Int)) (th.tmod (10 :
  Int)))) (hN (tH (V (List.take (160 : Nat) cs) (0 : Int) (20 : Int)) (th.tmod (10 : Int))) (tA (V (List.take (160 : Nat) cs) (0 : Int) (20 : Int)) (th.tmod (10 : Int))) (tM (V
  (List.take (160 : Nat) cs) (0 : Int) (20 : Int)) (th.tmod (10 : Int))) (tO (V (List.take (160 : Nat) cs) (0 : Int) (20 : Int)) (th.tmod (10 : Int)))) (hD (tH (V (List.take (160 :
  Nat) cs) (0 : Int) (20 : Int)) (th.tmod (10 : Int))) (tA (V (List.take (160 : Nat) cs) (0 : Int) (20 : Int)) (th.tmod (10 : Int))) (tM (V (List.take (160 : Nat) cs) (0 : Int) (20 :
  Int)) (th.tmod (10 : Int))) (tO (V (List.take (160 : Nat) cs) (0 : Int) (20 : Int)) (th.tmod (10 : Int)))) (hE (tH (V (List.take (160 : Nat) cs) (0 : Int) (20 : Int)) (th.tmod (10
  : Int))) (tA (V (List.take (160 : Nat) cs) (0 : Int) (20 : Int)) (th.tmod (10 : Int))) (tM (V (List.take (160 : Nat) cs) (0 : Int) (20 : Int)) (th.tmod (10 : Int))) (tO (V
  (List.take (160 : Nat) cs) (0 : Int) (20 : Int)) (th.tmod (10 : Int)))) C ∧ BdK (min (↑(V (List.take (160 : Nat) cs) (0 : Int) (20 : Int)).length : Int) (↑(V (List.take (160 : Nat)
  ds) (0 : Int) (20 : Int)).length : Int)) (oE (V (List.take (160 : Nat) cs) (0 : Int) (20 : Int))) (oE (List.take (min (↑(V (List.take (160 : Nat) cs) (0 : Int) (20 : Int)).length :
  Int) (↑(V (List.take (160 : Nat) ds) (0 : Int) (20 : Int)).length : Int)).toNat (V (List.take (160 : Nat) cs) (0 : Int) (20 : Int)))) (oE (List.take (min (↑(V (List.take (160 :
  Nat) cs) (0 : Int) (20 : Int)).length : Int) (↑(V (List.take (160 : Nat) ds) (0 : Int) (20 : Int)).length : Int)).toNat (V (List.take (160 : Nat) ds) (0 : Int) (20 : Int)))) (oN
  (List.take (min (↑(V (List.take (160 : Nat) cs) (0 : Int) (20 : Int)).length : Int) (↑(V (List.take (160 : Nat) ds) (0 : Int) (20 : Int)).length : Int)).toNat (V (List.take (160 :
  Nat) cs) (0 : Int) (20 : Int)))) (oQ (List.take (min (↑(V (List.take (160 : Nat) cs) (0 : Int) (20 : Int)).length : Int) (↑(V (List.take (160 : Nat) ds) (0 : Int) (20 :
  Int)).length : Int)).toNat (V (List.take (160 : Nat) cs) (0 : Int) (20 : Int)))) (oN (List.take (min (↑(V (List.take (160 : Nat) cs) (0 : Int) (20 : Int)).length : Int) (↑(V
  (List.take (160 : Nat) ds) (0 : Int) (20 : Int)).length : Int)).toNat (V (List.take (160 : Nat) ds) (0 : Int) (20 : Int)))) (oQ (List.take (min (↑(V (List.take (160 : Nat) cs) (0 :
  Int) (20 : Int)).length : Int) (↑(V (List.take (160 : Nat) ds) (0 : Int) (20 : Int)).length : Int)).toNat (V (List.take (160 : Nat) ds) (0 : Int) (20 : Int)))) (kP (oN (List.take
  (min (↑(V (List.take (160 : Nat) cs) (0 : Int) (20 : Int)).length : Int) (↑(V (List.take (160 : Nat) ds) (0 : Int) (20 : Int)).length : Int)).toNat (V (List.take (160 : Nat) cs) (0
  : Int) (20 : Int)))) (oQ (List.take (min (↑(V (List.take (160 : Nat) cs) (0 : Int) (20 : Int)).length : Int) (↑(V (List.take (160 : Nat) ds) (0 : Int) (20 : Int)).length :
  Int)).toNat (V (List.take (160 : Nat) cs) (0 : Int) (20 : Int)))) (oN (List.take (min (↑(V (List.take (160 : Nat) cs) (0 : Int) (20 : Int)).length : Int) (↑(V (List.take (160 :
  Nat) ds) (0 : Int) (20 : Int)).length : Int)).toNat (V (List.take (160 : Nat) ds) (0 : Int) (20 : Int)))) (oQ (List.take (min (↑(V (List.take (160 : Nat) cs) (0 : Int) (20 :
  Int)).length : Int) (↑(V (List.take (160 : Nat) ds) (0 : Int) (20 : Int)).length : Int)).toNat (V (List.take (160 : Nat) ds) (0 : Int) (20 : Int))))) (kQ (oN (List.take (min (↑(V
  (List.take (160 : Nat) cs) (0 : Int) (20 : Int)).length : Int) (↑(V (List.take (160 : Nat) ds) (0 : Int) (20 : Int)).length : Int)).toNat (V (List.take (160 : Nat) cs) (0 : Int)
  (20 : Int)))) (oQ (List.take (min (↑(V (List.take (160 : Nat) cs) (0 : Int) (20 : Int)).length : Int) (↑(V (List.take (160 : Nat) ds) (0 : Int) (20 : Int)).length : Int)).toNat (V
  (List.take (160 : Nat) cs) (0 : Int) (20 : Int)))) (oN (List.take (min (↑(V (List.take (160 : Nat) cs) (0 : Int) (20 : Int)).length : Int) (↑(V (List.take (160 : Nat) ds) (0 : Int)
  (20 : Int)).length : Int)).toNat (V (List.take (160 : Nat) ds) (0 : Int) (20 : Int)))) (oQ (List.take (min (↑(V (List.take (160 : Nat) cs) (0 : Int) (20 : Int)).length : Int) (↑(V
  (List.take (160 : Nat) ds) (0 : Int) (20 : Int)).length : Int)).toNat (V (List.take (160 : Nat) ds) (0 : Int) (20 : Int))))) (kE (oN (List.take (min (↑(V (List.take (160 : Nat) cs)
  (0 : Int) (20 : Int)).length : Int) (↑(V (List.take (160 : Nat) ds) (0 : Int) (20 : Int)).length : Int)).toNat (V (List.take (160 : Nat) cs) (0 : Int) (20 : Int)))) (oQ (List.take
  (min (↑(V (List.take (160 : Nat) cs) (0 : Int) (20 : Int)).length : Int) (↑(V (List.take (160 : Nat) ds) (0 : Int) (20 : Int)).length : Int)).toNat (V (List.take (160 : Nat) cs) (0
  : Int) (20 : Int)))) (oN (List.take (min (↑(V (List.take (160 : Nat) cs) (0 : Int) (20 : Int)).length : Int) (↑(V (List.take (160 : Nat) ds) (0 : Int) (20 : Int)).length :
  Int)).toNat (V (List.take (160 : Nat) ds) (0 : Int) (20 : Int)))) (oQ (List.take (min (↑(V (List.take (160 : Nat) cs) (0 : Int) (20 : Int)).length : Int) (↑(V (List.take (160 :
  Nat) ds) (0 : Int) (20 : Int)).length : Int)).toNat (V (List.take (160 : Nat) ds) (0 : Int) (20 : Int))))) C → True → True → (0 : Int) ≤ th ∧ th ≤ (255 : Int) → True ∧ (0 : Int) ≤
  (160 : Int) ∧ (FldP (List.take (160 : Nat) cs) (0 : Int) ∧ (0 : Int) ≤ (20 : Int) ∧ (20 : Int) ≤ (10000 : Int)) ∧ (0 : Int) ≤ (160 : Int) ∧ (FldP (List.take (160 : Nat) ds) (0 :
  Int) ∧ (0 : Int) ≤ (20 : Int) ∧ (20 : Int) ≤ (10000 : Int)) ∧ PrsP (V (List.take (160 : Nat) cs) (0 : Int) (20 : Int)) ∧ bif decide ¬oE (V (List.take (160 : Nat) cs) (0 : Int) (20
  : Int)) = (0 : Int) then false = true else bif decide (rng IntKind.i64 (tH (V (List.take (160 : Nat) cs) (0 : Int) (20 : Int)) (th.tmod (10 : Int)) + tA (V (List.take (160 : Nat)
  cs) (0 : Int) (20 : Int)) (th.tmod (10 : Int)))) then bif decide (rng IntKind.i64 (tH (V (List.take (160 : Nat) cs) (0 : Int) (20 : Int)) (th.tmod (10 : Int)) + tA (V (List.take
  (160 : Nat) cs) (0 : Int) (20 : Int)) (th.tmod (10 : Int)) + tM (V (List.take (160 : Nat) cs) (0 : Int) (20 : Int)) (th.tmod (10 : Int)))) then bif decide (rng IntKind.i64 (tH (V
  (List.take (160 : Nat) cs) (0 : Int) (20 : Int)) (th.tmod (10 : Int)) + tA (V (List.take (160 : Nat) cs) (0 : Int) (20 : Int)) (th.tmod (10 : Int)) + tM (V (List.take (160 : Nat)
  cs) (0 : Int) (20 : Int)) (th.tmod (10 : Int)) + tO (V (List.take (160 : Nat) cs) (0 : Int) (20 : Int)) (th.tmod (10 : Int)))) then bif decide ¬tH (V (List.take (160 : Nat) cs) (0
  : Int) (20 : Int)) (th.tmod (10 : Int)) + tA (V (List.take (160 : Nat) cs) (0 : Int) (20 : Int)) (th.tmod (10 : Int)) + tM (V (List.take (160 : Nat) cs) (0 : Int) (20 : Int))
  (th.tmod (10 : Int)) + tO (V (List.take (160 : Nat) cs) (0 : Int) (20 : Int)) (th.tmod (10 : Int)) = (↑(V (List.take (160 : Nat) cs) (0 : Int) (20 : Int)).length : Int) then false
  = true else TbP (tH (V (List.take (160 : Nat) cs) (0 : Int) (20 : Int)) (th.tmod (10 : Int))) (tA (V (List.take (160 : Nat) cs) (0 : Int) (20 : Int)) (th.tmod (10 : Int))) (tM (V
  (List.take (160 : Nat) cs) (0 : Int) (20 : Int)) (th.tmod (10 : Int))) (tO (V (List.take (160 : Nat) cs) (0 : Int) (20 : Int)) (th.tmod (10 : Int))) ∧ TbP (tH (V (List.take (160 :
  Nat) cs) (0 : Int) (20 : Int)) (th.tmod (10 : Int))) (tA (V (List.take (160 : Nat) cs) (0 : Int) (20 : Int)) (th.tmod (10 : Int))) (tM (V (List.take (160 : Nat) cs) (0 : Int) (20 :
  Int)) (th.tmod (10 : Int))) (tO (V (List.take (160 : Nat) cs) (0 : Int) (20 : Int)) (th.tmod (10 : Int))) ∧ TbP (tH (V (List.take (160 : Nat) cs) (0 : Int) (20 : Int)) (th.tmod (10
  : Int))) (tA (V (List.take (160 : Nat) cs) (0 : Int) (20 : Int)) (th.tmod (10 : Int))) (tM (V (List.take (160 : Nat) cs) (0 : Int) (20 : Int)) (th.tmod (10 : Int))) (tO (V
  (List.take (160 : Nat) cs) (0 : Int) (20 : Int)) (th.tmod (10 : Int))) ∧ TbP (tH (V (List.take (160 : Nat) cs) (0 : Int) (20 : Int)) (th.tmod (10 : Int))) (tA (V (List.take (160 :
  Nat) cs) (0 : Int) (20 : Int)) (th.tmod (10 : Int))) (tM (V (List.take (160 : Nat) cs) (0 : Int) (20 : Int)) (th.tmod (10 : Int))) (tO (V (List.take (160 : Nat) cs) (0 : Int) (20 :
  Int)) (th.tmod (10 : Int))) ∧ (bif decide (dE (tH (V (List.take (160 : Nat) cs) (0 : Int) (20 : Int)) (th.tmod (10 : Int))) (tA (V (List.take (160 : Nat) cs) (0 : Int) (20 : Int))
  (th.tmod (10 : Int))) (tM (V (List.take (160 : Nat) cs) (0 : Int) (20 : Int)) (th.tmod (10 : Int))) (tO (V (List.take (160 : Nat) cs) (0 : Int) (20 : Int)) (th.tmod (10 : Int))) =
  (0 : Int)) then (FrP (dN (tH (V (List.take (160 : Nat) cs) (0 : Int) (20 : Int)) (th.tmod (10 : Int))) (tA (V (List.take (160 : Nat) cs) (0 : Int) (20 : Int)) (th.tmod (10 : Int)))
  (tM (V (List.take (160 : Nat) cs) (0 : Int) (20 : Int)) (th.tmod (10 : Int))) (tO (V (List.take (160 : Nat) cs) (0 : Int) (20 : Int)) (th.tmod (10 : Int)))) (dD (tH (V (List.take
  (160 : Nat) cs) (0 : Int) (20 : Int)) (th.tmod (10 : Int))) (tA (V (List.take (160 : Nat) cs) (0 : Int) (20 : Int)) (th.tmod (10 : Int))) (tM (V (List.take (160 : Nat) cs) (0 :
  Int) (20 : Int)) (th.tmod (10 : Int))) (tO (V (List.take (160 : Nat) cs) (0 : Int) (20 : Int)) (th.tmod (10 : Int)))) ∧ FrP (1 : Int) (1 : Int)) ∧ bif decide ((0 : Int) < C (dN (tH
  (V (List.take (160 : Nat) cs) (0 : Int) (20 : Int)) (th.tmod (10 : Int))) (tA (V (List.take (160 : Nat) cs) (0 : Int) (20 : Int)) (th.tmod (10 : Int))) (tM (V (List.take (160 :
  Nat) cs) (0 : Int) (20 : Int)) (th.tmod (10 : Int))) (tO (V (List.take (160 : Nat) cs) (0 : Int) (20 : Int)) (th.tmod (10 : Int)))) (dD (tH (V (List.take (160 : Nat) cs) (0 : Int)
  (20 : Int)) (th.tmod (10 : Int))) (tA (V (List.take (160 : Nat) cs) (0 : Int) (20 : Int)) (th.tmod (10 : Int))) (tM (V (List.take (160 : Nat) cs) (0 : Int) (20 : Int)) (th.tmod (10
  : Int))) (tO (V (List.take (160 : Nat) cs) (0 : Int) (20 : Int)) (th.tmod (10 : Int)))) (1 : Int) (1 : Int)) then false = true else (FrP (dN (tH (V (List.take (160 : Nat) cs) (0 :
  Int) (20 : Int)) (th.tmod (10 : Int))) (tA (V (List.take (160 : Nat) cs) (0 : Int) (20 : Int)) (th.tmod (10 : Int))) (tM (V (List.take (160 : Nat) cs) (0 : Int) (20 : Int))
  (th.tmod (10 : Int))) (tO (V (List.take (160 : Nat) cs) (0 : Int) (20 : Int)) (th.tmod (10 : Int)))) (dD (tH (V (List.take (160 : Nat) cs) (0 : Int) (20 : Int)) (th.tmod (10 :
  Int))) (tA (V (List.take (160 : Nat) cs) (0 : Int) (20 : Int)) (th.tmod (10 : Int))) (tM (V (List.take (160 : Nat) cs) (0 : Int) (20 : Int)) (th.tmod (10 : Int))) (tO (V (List.take
  (160 : Nat) cs) (0 : Int) (20 : Int)) (th.tmod (10 : Int)))) ∧ FrP (0 : Int) (1 : Int)) ∧ bif decide (C (dN (tH (V (List.take (160 : Nat) cs) (0 : Int) (20 : Int)) (th.tmod (10 :
  Int))) (tA (V (List.take (160 : Nat) cs) (0 : Int) (20 : Int)) (th.tmod (10 : Int))) (tM (V (List.take (160 : Nat) cs) (0 : Int) (20 : Int)) (th.tmod (10 : Int))) (tO (V (List.take
  (160 : Nat) cs) (0 : Int) (20 : Int)) (th.tmod (10 : Int)))) (dD (tH (V (List.take (160 : Nat) cs) (0 : Int) (20 : Int)) (th.tmod (10 : Int))) (tA (V (List.take (160 : Nat) cs) (0
  : Int) (20 : Int)) (th.tmod (10 : Int))) (tM (V (List.take (160 : Nat) cs) (0 : Int) (20 : Int)) (th.tmod (10 : Int))) (tO (V (List.take (160 : Nat) cs) (0 : Int) (20 : Int))
  (th.tmod (10 : Int)))) (0 : Int) (1 : Int) < (0 : Int)) then false = true else bif decide ¬rE (tH (V (List.take (160 : Nat) cs) (0 : Int) (20 : Int)) (th.tmod (10 : Int))) (tA (V
  (List.take (160 : Nat) cs) (0 : Int) (20 : Int)) (th.tmod (10 : Int))) (tM (V (List.take (160 : Nat) cs) (0 : Int) (20 : Int)) (th.tmod (10 : Int))) (tO (V (List.take (160 : Nat)
  cs) (0 : Int) (20 : Int)) (th.tmod (10 : Int))) = (0 : Int) then false = true else (FrP (rN (tH (V (List.take (160 : Nat) cs) (0 : Int) (20 : Int)) (th.tmod (10 : Int))) (tA (V
  (List.take (160 : Nat) cs) (0 : Int) (20 : Int)) (th.tmod (10 : Int))) (tM (V (List.take (160 : Nat) cs) (0 : Int) (20 : Int)) (th.tmod (10 : Int))) (tO (V (List.take (160 : Nat)
  cs) (0 : Int) (20 : Int)) (th.tmod (10 : Int)))) (rD (tH (V (List.take (160 : Nat) cs) (0 : Int) (20 : Int)) (th.tmod (10 : Int))) (tA (V (List.take (160 : Nat) cs) (0 : Int) (20 :
  Int)) (th.tmod (10 : Int))) (tM (V (List.take (160 : Nat) cs) (0 : Int) (20 : Int)) (th.tmod (10 : Int))) (tO (V (List.take (160 : Nat) cs) (0 : Int) (20 : Int)) (th.tmod (10 :
  Int)))) ∧ FrP (dN (tH (V (List.take (160 : Nat) cs) (0 : Int) (20 : Int)) (th.tmod (10 : Int))) (tA (V (List.take (160 : Nat) cs) (0 : Int) (20 : Int)) (th.tmod (10 : Int))) (tM (V
  (List.take (160 : Nat) cs) (0 : Int) (20 : Int)) (th.tmod (10 : Int))) (tO (V (List.take (160 : Nat) cs) (0 : Int) (20 : Int)) (th.tmod (10 : Int)))) (dD (tH (V (List.take (160 :
  Nat) cs) (0 : Int) (20 : Int)) (th.tmod (10 : Int))) (tA (V (List.take (160 : Nat) cs) (0 : Int) (20 : Int)) (th.tmod (10 : Int))) (tM (V (List.take (160 : Nat) cs) (0 : Int) (20 :
  Int)) (th.tmod (10 : Int))) (tO (V (List.take (160 : Nat) cs) (0 : Int) (20 : Int)) (th.tmod (10 : Int))))) ∧ bif decide ((0 : Int) < C (rN (tH (V (List.take (160 : Nat) cs) (0 :
  Int) (20 : Int)) (th.tmod (10 : Int))) (tA (V (List.take (160 : Nat) cs) (0 : Int) (20 : Int)) (th.tmod (10 : Int))) (tM (V (List.take (160 : Nat) cs) (0 : Int) (20 : Int))
  (th.tmod (10 : Int))) (tO (V (List.take (160 : Nat) cs) (0 : Int) (20 : Int)) (th.tmod (10 : Int)))) (rD (tH (V (List.take (160 : Nat) cs) (0 : Int) (20 : Int)) (th.tmod (10 :
  Int))) (tA (V (List.take (160 : Nat) cs) (0 : Int) (20 : Int)) (th.tmod (10 : Int))) (tM (V (List.take (160 : Nat) cs) (0 : Int) (20 : Int)) (th.tmod (10 : Int))) (tO (V (List.take
  (160 : Nat) cs) (0 : Int) (20 : Int)) (th.tmod (10 : Int)))) (dN (tH (V (List.take (160 : Nat) cs) (0 : Int) (20 : Int)) (th.tmod (10 : Int))) (tA (V (List.take (160 : Nat) cs) (0
  : Int) (20 : Int)) (th.tmod (10 : Int))) (tM (V (List.take (160 : Nat) cs) (0 : Int) (20 : Int)) (th.tmod (10 : Int))) (tO (V (List.take (160 : Nat) cs) (0 : Int) (20 : Int))
  (th.tmod (10 : Int)))) (dD (tH (V (List.take (160 : Nat) cs) (0 : Int) (20 : Int)) (th.tmod (10 : Int))) (tA (V (List.take (160 : Nat) cs) (0 : Int) (20 : Int)) (th.tmod (10 :
  Int))) (tM (V (List.take (160 : Nat) cs) (0 : Int) (20 : Int)) (th.tmod (10 : Int))) (tO (V (List.take (160 : Nat) cs) (0 : Int) (20 : Int)) (th.tmod (10 : Int))))) then false =
  true else bif decide (fE (tH (V (List.take (160 : Nat) cs) (0 : Int) (20 : Int)) (th.tmod (10 : Int))) (tA (V (List.take (160 : Nat) cs) (0 : Int) (20 : Int)) (th.tmod (10 : Int)))
  (tM (V (List.take (160 : Nat) cs) (0 : Int) (20 : Int)) (th.tmod (10 : Int))) (tO (V (List.take (160 : Nat) cs) (0 : Int) (20 : Int)) (th.tmod (10 : Int))) = (0 : Int)) then (FrP
  (fN (tH (V (List.take (160 : Nat) cs) (0 : Int) (20 : Int)) (th.tmod (10 : Int))) (tA (V (List.take (160 : Nat) cs) (0 : Int) (20 : Int)) (th.tmod (10 : Int))) (tM (V (List.take
  (160 : Nat) cs) (0 : Int) (20 : Int)) (th.tmod (10 : Int))) (tO (V (List.take (160 : Nat) cs) (0 : Int) (20 : Int)) (th.tmod (10 : Int)))) (fD (tH (V (List.take (160 : Nat) cs) (0
  : Int) (20 : Int)) (th.tmod (10 : Int))) (tA (V (List.take (160 : Nat) cs) (0 : Int) (20 : Int)) (th.tmod (10 : Int))) (tM (V (List.take (160 : Nat) cs) (0 : Int) (20 : Int))
  (th.tmod (10 : Int))) (tO (V (List.take (160 : Nat) cs) (0 : Int) (20 : Int)) (th.tmod (10 : Int)))) ∧ FrP (1 : Int) (1 : Int)) ∧ bif decide ((0 : Int) < C (fN (tH (V (List.take
  (160 : Nat) cs) (0 : Int) (20 : Int)) (th.tmod (10 : Int))) (tA (V (List.take (160 : Nat) cs) (0 : Int) (20 : Int)) (th.tmod (10 : Int))) (tM (V (List.take (160 : Nat) cs) (0 :
  Int) (20 : Int)) (th.tmod (10 : Int))) (tO (V (List.take (160 : Nat) cs) (0 : Int) (20 : Int)) (th.tmod (10 : Int)))) (fD (tH (V (List.take (160 : Nat) cs) (0 : Int) (20 : Int))
  (th.tmod (10 : Int))) (tA (V (List.take (160 : Nat) cs) (0 : Int) (20 : Int)) (th.tmod (10 : Int))) (tM (V (List.take (160 : Nat) cs) (0 : Int) (20 : Int)) (th.tmod (10 : Int)))
  (tO (V (List.take (160 : Nat) cs) (0 : Int) (20 : Int)) (th.tmod (10 : Int)))) (1 : Int) (1 : Int)) then false = true else (FrP (fN (tH (V (List.take (160 : Nat) cs) (0 : Int) (20
  : Int)) (th.tmod (10 : Int))) (tA (V (List.take (160 : Nat) cs) (0 : Int) (20 : Int)) (th.tmod (10 : Int))) (tM (V (List.take (160 : Nat) cs) (0 : Int) (20 : Int)) (th.tmod (10 :
  Int))) (tO (V (List.take (160 : Nat) cs) (0 : Int) (20 : Int)) (th.tmod (10 : Int)))) (fD (tH (V (List.take (160 : Nat) cs) (0 : Int) (20 : Int)) (th.tmod (10 : Int))) (tA (V
  (List.take (160 : Nat) cs) (0 : Int) (20 : Int)) (th.tmod (10 : Int))) (tM (V (List.take (160 : Nat) cs) (0 : Int) (20 : Int)) (th.tmod (10 : Int))) (tO (V (List.take (160 : Nat)
  cs) (0 : Int) (20 : Int)) (th.tmod (10 : Int)))) ∧ FrP (0 : Int) (1 : Int)) ∧ bif decide (C (fN (tH (V (List.take (160 : Nat) cs) (0 : Int) (20 : Int)) (th.tmod (10 : Int))) (tA (V
  (List.take (160 : Nat) cs) (0 : Int) (20 : Int)) (th.tmod (10 : Int))) (tM (V (List.take (160 : Nat) cs) (0 : Int) (20 : Int)) (th.tmod (10 : Int))) (tO (V (List.take (160 : Nat)
  cs) (0 : Int) (20 : Int)) (th.tmod (10 : Int)))) (fD (tH (V (List.take (160 : Nat) cs) (0 : Int) (20 : Int)) (th.tmod (10 : Int))) (tA (V (List.take (160 : Nat) cs) (0 : Int) (20 :
  Int)) (th.tmod (10 : Int))) (tM (V (List.take (160 : Nat) cs) (0 : Int) (20 : Int)) (th.tmod (10 : Int))) (tO (V (List.take (160 : Nat) cs) (0 : Int) (20 : Int)) (th.tmod (10 :
  Int)))) (0 : Int) (1 : Int) < (0 : Int)) then false = true else bif decide (rE (tH (V (List.take (160 : Nat) cs) (0 : Int) (20 : Int)) (th.tmod (10 : Int))) (tA (V (List.take (160
  : Nat) cs) (0 : Int) (20 : Int)) (th.tmod (10 : Int))) (tM (V (List.take (160 : Nat) cs) (0 : Int) (20 : Int)) (th.tmod (10 : Int))) (tO (V (List.take (160 : Nat) cs) (0 : Int) (20
  : Int)) (th.tmod (10 : Int))) = (0 : Int)) then (FrP (rN (tH (V (List.take (160 : Nat) cs) (0 : Int) (20 : Int)) (th.tmod (10 : Int))) (tA (V (List.take (160 : Nat) cs) (0 : Int)
  (20 : Int)) (th.tmod (10 : Int))) (tM (V (List.take (160 : Nat) cs) (0 : Int) (20 : Int)) (th.tmod (10 : Int))) (tO (V (List.take (160 : Nat) cs) (0 : Int) (20 : Int)) (th.tmod (10
  : Int)))) (rD (tH (V (List.take (160 : Nat) cs) (0 : Int) (20 : Int)) (th.tmod (10 : Int))) (tA (V (List.take (160 : Nat) cs) (0 : Int) (20 : Int)) (th.tmod (10 : Int))) (tM (V
  (List.take (160 : Nat) cs) (0 : Int) (20 : Int)) (th.tmod (10 : Int))) (tO (V (List.take (160 : Nat) cs) (0 : Int) (20 : Int)) (th.tmod (10 : Int)))) ∧ FrP (0 : Int) (1 : Int)) ∧
  bif decide (C (rN (tH (V (List.take (160 : Nat) cs) (0 : Int) (20 : Int)) (th.tmod (10 : Int))) (tA (V (List.take (160 : Nat) cs) (0 : Int) (20 : Int)) (th.tmod (10 : Int))) (tM (V
  (List.take (160 : Nat) cs) (0 : Int) (20 : Int)) (th.tmod (10 : Int))) (tO (V (List.take (160 : Nat) cs) (0 : Int) (20 : Int)) (th.tmod (10 : Int)))) (rD (tH (V (List.take (160 :
  Nat) cs) (0 : Int) (20 : Int)) (th.tmod (10 : Int))) (tA (V (List.take (160 : Nat) cs) (0 : Int) (20 : Int)) (th.tmod (10 : Int))) (tM (V (List.take (160 : Nat) cs) (0 : Int) (20 :
  Int)) (th.tmod (10 : Int))) (tO (V (List.take (160 : Nat) cs) (0 : Int) (20 : Int)) (th.tmod (10 : Int)))) (0 : Int) (1 : Int) < (0 : Int)) then false = true else ∃ x, OneU x ∧
  ((True ∧ V (List.take (160 : Nat) cs) (0 : Int) (20 : Int) = V (List.take (160 : Nat) cs) (0 : Int) (20 : Int)) ∧ (True ∧ V (List.take (160 : Nat) ds) (0 : Int) (20 : Int) = V
  (List.take (160 : Nat) ds) (0 : Int) (20 : Int)) ∧ (0 : Nat) = (0 : Nat) ∧ (0 : Nat) = (0 : Nat) ∧ (0 : Nat) = (0 : Nat) ∧ hE (tH (V (List.take (160 : Nat) cs) (0 : Int) (20 :
  Int)) (th.tmod (10 : Int))) (tA (V (List.take (160 : Nat) cs) (0 : Int) (20 : Int)) (th.tmod (10 : Int))) (tM (V (List.take (160 : Nat) cs) (0 : Int) (20 : Int)) (th.tmod (10 :
  Int))) (tO (V (List.take (160 : Nat) cs) (0 : Int) (20 : Int)) (th.tmod (10 : Int))) = hE (tH (V (List.take (160 : Nat) cs) (0 : Int) (20 : Int)) (th.tmod (10 : Int))) (tA (V
  (List.take (160 : Nat) cs) (0 : Int) (20 : Int)) (th.tmod (10 : Int))) (tM (V (List.take (160 : Nat) cs) (0 : Int) (20 : Int)) (th.tmod (10 : Int))) (tO (V (List.take (160 : Nat)
  cs) (0 : Int) (20 : Int)) (th.tmod (10 : Int))) ∧ True) ∧ (tH (V (List.take (160 : Nat) cs) (0 : Int) (20 : Int)) (th.tmod (10 : Int)) = tH (V (List.take (160 : Nat) cs) (0 : Int)
  (20 : Int)) (th.tmod (10 : Int)) ∧ tA (V (List.take (160 : Nat) cs) (0 : Int) (20 : Int)) (th.tmod (10 : Int)) = tA (V (List.take (160 : Nat) cs) (0 : Int) (20 : Int)) (th.tmod (10
  : Int)) ∧ tM (V (List.take (160 : Nat) cs) (0 : Int) (20 : Int)) (th.tmod (10 : Int)) = tM (V (List.take (160 : Nat) cs) (0 : Int) (20 : Int)) (th.tmod (10 : Int)) ∧ tO (V
  (List.take (160 : Nat) cs) (0 : Int) (20 : Int)) (th.tmod (10 : Int)) = tO (V (List.take (160 : Nat) cs) (0 : Int) (20 : Int)) (th.tmod (10 : Int)) ∧ True) ∧ ((1 : Int) = (1 : Int)
  ∧ (1 : Int) = (1 : Int) ∧ True) ∧ (hN (tH (V (List.take (160 : Nat) cs) (0 : Int) (20 : Int)) (th.tmod (10 : Int))) (tA (V (List.take (160 : Nat) cs) (0 : Int) (20 : Int)) (th.tmod
  (10 : Int))) (tM (V (List.take (160 : Nat) cs) (0 : Int) (20 : Int)) (th.tmod (10 : Int))) (tO (V (List.take (160 : Nat) cs) (0 : Int) (20 : Int)) (th.tmod (10 : Int))) = hN (tH (V
  (List.take (160 : Nat) cs) (0 : Int) (20 : Int)) (th.tmod (10 : Int))) (tA (V (List.take (160 : Nat) cs) (0 : Int) (20 : Int)) (th.tmod (10 : Int))) (tM (V (List.take (160 : Nat)
  cs) (0 : Int) (20 : Int)) (th.tmod (10 : Int))) (tO (V (List.take (160 : Nat) cs) (0 : Int) (20 : Int)) (th.tmod (10 : Int))) ∧ hD (tH (V (List.take (160 : Nat) cs) (0 : Int) (20 :
  Int)) (th.tmod (10 : Int))) (tA (V (List.take (160 : Nat) cs) (0 : Int) (20 : Int)) (th.tmod (10 : Int))) (tM (V (List.take (160 : Nat) cs) (0 : Int) (20 : Int)) (th.tmod (10 :
  Int))) (tO (V (List.take (160 : Nat) cs) (0 : Int) (20 : Int)) (th.tmod (10 : Int))) = hD (tH (V (List.take (160 : Nat) cs) (0 : Int) (20 : Int)) (th.tmod (10 : Int))) (tA (V
  (List.take (160 : Nat) cs) (0 : Int) (20 : Int)) (th.tmod (10 : Int))) (tM (V (List.take (160 : Nat) cs) (0 : Int) (20 : Int)) (th.tmod (10 : Int))) (tO (V (List.take (160 : Nat)
  cs) (0 : Int) (20 : Int)) (th.tmod (10 : Int))) ∧ True) ∧ True else ∃ x, OneU x ∧ ((True ∧ V (List.take (160 : Nat) cs) (0 : Int) (20 : Int) = V (List.take (160 : Nat) cs) (0 :
  Int) (20 : Int)) ∧ (True ∧ V (List.take (160 : Nat) ds) (0 : Int) (20 : Int) = V (List.take (160 : Nat) ds) (0 : Int) (20 : Int)) ∧ (0 : Nat) = (0 : Nat) ∧ (0 : Nat) = (0 : Nat) ∧
  (0 : Nat) = (0 : Nat) ∧ hE (tH (V (List.take (160 : Nat) cs) (0 : Int) (20 : Int)) (th.tmod (10 : Int))) (tA (V (List.take (160 : Nat) cs) (0 : Int) (20 : Int)) (th.tmod (10 :
  Int))) (tM (V (List.take (160 : Nat) cs) (0 : Int) (20 : Int)) (th.tmod (10 : Int))) (tO (V (List.take (160 : Nat) cs) (0 : Int) (20 : Int)) (th.tmod (10 : Int))) = hE (tH (V
  (List.take (160 : Nat) cs) (0 : Int) (20 : Int)) (th.tmod (10 : Int))) (tA (V (List.take (160 : Nat) cs) (0 : Int) (20 : Int)) (th.tmod (10 : Int))) (tM (V (List.take (160 : Nat)
  cs) (0 : Int) (20 : Int)) (th.tmod (10 : Int))) (tO (V (List.take (160 : Nat) cs) (0 : Int) (20 : Int)) (th.tmod (10 : Int))) ∧ True) ∧ (tH (V (List.take (160 : Nat) cs) (0 : Int)
  (20 : Int)) (th.tmod (10 : Int)) = tH (V (List.take (160 : Nat) cs) (0 : Int) (20 : Int)) (th.tmod (10 : Int)) ∧ tA (V (List.take (160 : Nat) cs) (0 : Int) (20 : Int)) (th.tmod (10
  : Int)) = tA (V (List.take (160 : Nat) cs) (0 : Int) (20 : Int)) (th.tmod (10 : Int)) ∧ tM (V (List.take (160 : Nat) cs) (0 : Int) (20 : Int)) (th.tmod (10 : Int)) = tM (V
  (List.take (160 : Nat) cs) (0 : Int) (20 : Int)) (th.tmod (10 : Int)) ∧ tO (V (List.take (160 : Nat) cs) (0 : Int) (20 : Int)) (th.tmod (10 : Int)) = tO (V (List.take (160 : Nat)
  cs) (0 : Int) (20 : Int)) (th.tmod (10 : Int)) ∧ True) ∧ ((1 : Int) = (1 : Int) ∧ (1 : Int) = (1 : Int) ∧ True) ∧ (hN (tH (V (List.take (160 : Nat) cs) (0 : Int) (20 : Int))
  (th.tmod (10 : Int))) (tA (V (List.take (160 : Nat) cs) (0 : Int) (20 : Int)) (th.tmod (10 : Int))) (tM (V (List.take (160 : Nat) cs) (0 : Int) (20 : Int)) (th.tmod (10 : Int)))
  (tO (V (List.take (160 : Nat) cs) (0 : Int) (20 : Int)) (th.tmod (10 : Int))) = hN (tH (V (List.take (160 : Nat) cs) (0 : Int) (20 : Int)) (th.tmod (10 : Int))) (tA (V (List.take
  (160 : Nat) cs) (0 : Int) (20 : Int)) (th.tmod (10 : Int))) (tM (V (List.take (160 : Nat) cs) (0 : Int) (20 : Int)) (th.tmod (10 : Int))) (tO (V (List.take (160 : Nat) cs) (0 :
  Int) (20 : Int)) (th.tmod (10 : Int))) ∧ hD (tH (V (List.take (160 : Nat) cs) (0 : Int) (20 : Int)) (th.tmod (10 : Int))) (tA (V (List.take (160 : Nat) cs) (0 : Int) (20 : Int))
  (th.tmod (10 : Int))) (tM (V (List.take (160 : Nat) cs) (0 : Int) (20 : Int)) (th.tmod (10 : Int))) (tO (V (List.take (160 : Nat) cs) (0 : Int) (20 : Int)) (th.tmod (10 : Int))) =
  hD (tH (V (List.take (160 : Nat) cs) (0 : Int) (20 : Int)) (th.tmod (10 : Int))) (tA (V (List.take (160 : Nat) cs) (0 : Int) (20 : Int)) (th.tmod (10 : Int))) (tM (V (List.take
  (160 : Nat) cs) (0 : Int) (20 : Int)) (th.tmod (10 : Int))) (tO (V (List.take (160 : Nat) cs) (0 : Int) (20 : Int)) (th.tmod (10 : Int))) ∧ True) ∧ True else bif decide (rE (tH (V
  (List.take (160 : Nat) cs) (0 : Int) (20 : Int)) (th.tmod (10 : Int))) (tA (V (List.take (160 : Nat) cs) (0 : Int) (20 : Int)) (th.tmod (10 : Int))) (tM (V (List.take (160 : Nat)
  cs) (0 : Int) (20 : Int)) (th.tmod (10 : Int))) (tO (V (List.take (160 : Nat) cs) (0 : Int) (20 : Int)) (th.tmod (10 : Int))) = (0 : Int)) then (FrP (rN (tH (V (List.take (160 :
  Nat) cs) (0 : Int) (20 : Int)) (th.tmod (10 : Int))) (tA (V (List.take (160 : Nat) cs) (0 : Int) (20 : Int)) (th.tmod (10 : Int))) (tM (V (List.take (160 : Nat) cs) (0 : Int) (20 :
  Int)) (th.tmod (10 : Int))) (tO (V (List.take (160 : Nat) cs) (0 : Int) (20 : Int)) (th.tmod (10 : Int)))) (rD (tH (V (List.take (160 : Nat) cs) (0 : Int) (20 : Int)) (th.tmod (10
  : Int))) (tA (V (List.take (160 : Nat) cs) (0 : Int) (20 : Int)) (th.tmod (10 : Int))) (tM (V (List.take (160 : Nat) cs) (0 : Int) (20 : Int)) (th.tmod (10 : Int))) (tO (V
  (List.take (160 : Nat) cs) (0 : Int) (20 : Int)) (th.tmod (10 : Int)))) ∧ FrP (0 : Int) (1 : Int)) ∧ bif decide (C (rN (tH (V (List.take (160 : Nat) cs) (0 : Int) (20 : Int))
  (th.tmod (10 : Int))) (tA (V (List.take (160 : Nat) cs) (0 : Int) (20 : Int)) (th.tmod (10 : Int))) (tM (V (List.take (160 : Nat) cs) (0 : Int) (20 : Int)) (th.tmod (10 : Int)))
  (tO (V (List.take (160 : Nat) cs) (0 : Int) (20 : Int)) (th.tmod (10 : Int)))) (rD (tH (V (List.take (160 : Nat) cs) (0 : Int) (20 : Int)) (th.tmod (10 : Int))) (tA (V (List.take
  (160 : Nat) cs) (0 : Int) (20 : Int)) (th.tmod (10 : Int))) (tM (V (List.take (160 : Nat) cs) (0 : Int) (20 : Int)) (th.tmod (10 : Int))) (tO (V (List.take (160 : Nat) cs) (0 :
  Int) (20 : Int)) (th.tmod (10 : Int)))) (0 : Int) (1 : Int) < (0 : Int)) then false = true else ∃ x, OneU x ∧ ((True ∧ V (List.take (160 : Nat) cs) (0 : Int) (20 : Int) = V
  (List.take (160 : Nat) cs) (0 : Int) (20 : Int)) ∧ (True ∧ V (List.take (160 : Nat) ds) (0 : Int) (20 : Int) = V (List.take (160 : Nat) ds) (0 : Int) (20 : Int)) ∧ (0 : Nat) = (0 :
  Nat) ∧ (0 : Nat) = (0 : Nat) ∧ (0 : Nat) = (0 : Nat) ∧ hE (tH (V (List.take (160 : Nat) cs) (0 : Int) (20 : Int)) (th.tmod (10 : Int))) (tA (V (List.take (160 : Nat) cs) (0 : Int)
  (20 : Int)) (th.tmod (10 : Int))) (tM (V (List.take (160 : Nat) cs) (0 : Int) (20 : Int)) (th.tmod (10 : Int))) (tO (V (List.take (160 : Nat) cs) (0 : Int) (20 : Int)) (th.tmod (10
  : Int))) = hE (tH (V (List.take (160 : Nat) cs) (0 : Int) (20 : Int)) (th.tmod (10 : Int))) (tA (V (List.take (160 : Nat) cs) (0 : Int) (20 : Int)) (th.tmod (10 : Int))) (tM (V
  (List.take (160 : Nat) cs) (0 : Int) (20 : Int)) (th.tmod (10 : Int))) (tO (V (List.take (160 : Nat) cs) (0 : Int) (20 : Int)) (th.tmod (10 : Int))) ∧ True) ∧ (tH (V (List.take
  (160 : Nat) cs) (0 : Int) (20 : Int)) (th.tmod (10 : Int)) = tH (V (List.take (160 : Nat) cs) (0 : Int) (20 : Int)) (th.tmod (10 : Int)) ∧ tA (V (List.take (160 : Nat) cs) (0 :
  Int) (20 : Int)) (th.tmod (10 : Int)) = tA (V (List.take (160 : Nat) cs) (0 : Int) (20 : Int)) (th.tmod (10 : Int)) ∧ tM (V (List.take (160 : Nat) cs) (0 : Int) (20 : Int))
  (th.tmod (10 : Int)) = tM (V (List.take (160 : Nat) cs) (0 : Int) (20 : Int)) (th.tmod (10 : Int)) ∧ tO (V (List.take (160 : Nat) cs) (0 : Int) (20 : Int)) (th.tmod (10 : Int)) =
  tO (V (List.take (160 : Nat) cs) (0 : Int) (20 : Int)) (th.tmod (10 : Int)) ∧ True) ∧ ((1 : Int) = (1 : Int) ∧ (1 : Int) = (1 : Int) ∧ True) ∧ (hN (tH (V (List.take (160 : Nat) cs)
  (0 : Int) (20 : Int)) (th.tmod (10 : Int))) (tA (V (List.take (160 : Nat) cs) (0 : Int) (20 : Int)) (th.tmod (10 : Int))) (tM (V (List.take (160 : Nat) cs) (0 : Int) (20 : Int))
  (th.tmod (10 : Int))) (tO (V (List.take (160 : Nat) cs) (0 : Int) (20 : Int)) (th.tmod (10 : Int))) = hN (tH (V (List.take (160 : Nat) cs) (0 : Int) (20 : Int)) (th.tmod (10 :
  Int))) (tA (V (List.take (160 : Nat) cs) (0 : Int) (20 : Int)) (th.tmod (10 : Int))) (tM (V (List.take (160 : Nat) cs) (0 : Int) (20 : Int)) (th.tmod (10 : Int))) (tO (V (List.take
  (160 : Nat) cs) (0 : Int) (20 : Int)) (th.tmod (10 : Int))) ∧ hD (tH (V (List.take (160 : Nat) cs) (0 : Int) (20 : Int)) (th.tmod (10 : Int))) (tA (V (List.take (160 : Nat) cs) (0
  : Int) (20 : Int)) (th.tmod (10 : Int))) (tM (V (List.take (160 : Nat) cs) (0 : Int) (20 : Int)) (th.tmod (10 : Int))) (tO (V (List.take (160 : Nat) cs) (0 : Int) (20 : Int))
  (th.tmod (10 : Int))) = hD (tH (V (List.take (160 : Nat) cs) (0 : Int) (20 : Int)) (th.tmod (10 : Int))) (tA (V (List.take (160 : Nat) cs) (0 : Int) (20 : Int)) (th.tmod (10 :
  Int))) (tM (V (List.take (160 : Nat) cs) (0 : Int) (20 : Int)) (th.tmod (10 : Int))) (tO (V (List.take (160 : Nat) cs) (0 : Int) (20 : Int)) (th.tmod (10 : Int))) ∧ True) ∧ True
  else ∃ x, OneU x ∧ ((True ∧ V (List.take (160 : Nat) cs) (0 : Int) (20 : Int) = V (List.take (160 : Nat) cs) (0 : Int) (20 : Int)) ∧ (True ∧ V (List.take (160 : Nat) ds) (0 : Int)
  (20 : Int) = V (List.take (160 : Nat) ds) (0 : Int) (20 : Int)) ∧ (0 : Nat) = (0 : Nat) ∧ (0 : Nat) = (0 : Nat) ∧ (0 : Nat) = (0 : Nat) ∧ hE (tH (V (List.take (160 : Nat) cs) (0 :
  Int) (20 : Int)) (th.tmod (10 : Int))) (tA (V (List.take (160 : Nat) cs) (0 : Int) (20 : Int)) (th.tmod (10 : Int))) (tM (V (List.take (160 : Nat) cs) (0 : Int) (20 : Int))
  (th.tmod (10 : Int))) (tO (V (List.take (160 : Nat) cs) (0 : Int) (20 : Int)) (th.tmod (10 : Int))) = hE (tH (V (List.take (160 : Nat) cs) (0 : Int) (20 : Int)) (th.tmod (10 :
  Int))) (tA (V (List.take (160 : Nat) cs) (0 : Int) (20 : Int)) (th.tmod (10 : Int))) (tM (V (List.take (160 : Nat) cs) (0 : Int) (20 : Int)) (th.tmod (10 : Int))) (tO (V (List.take
  (160 : Nat) cs) (0 : Int) (20 : Int)) (th.tmod (10 : Int))) ∧ True) ∧ (tH (V (List.take (160 : Nat) cs) (0 : Int) (20 : Int)) (th.tmod (10 : Int)) = tH (V (List.take (160 : Nat)
  cs) (0 : Int) (20 : Int)) (th.tmod (10 : Int)) ∧ tA (V (List.take (160 : Nat) cs) (0 : Int) (20 : Int)) (th.tmod (10 : Int)) = tA (V (List.take (160 : Nat) cs) (0 : Int) (20 :
  Int)) (th.tmod (10 : Int)) ∧ tM (V (List.take (160 : Nat) cs) (0 : Int) (20 : Int)) (th.tmod (10 : Int)) = tM (V (List.take (160 : Nat) cs) (0 : Int) (20 : Int)) (th.tmod (10 :
  Int)) ∧ tO (V (List.take (160 : Nat) cs) (0 : Int) (20 : Int)) (th.tmod (10 : Int)) = tO (V (List.take (160 : Nat) cs) (0 : Int) (20 : Int)) (th.tmod (10 : Int)) ∧ True) ∧ ((1 :
  Int) = (1 : Int) ∧ (1 : Int) = (1 : Int) ∧ True) ∧ (hN (tH (V (List.take (160 : Nat) cs) (0 : Int) (20 : Int)) (th.tmod (10 : Int))) (tA (V (List.take (160 : Nat) cs) (0 : Int) (20
  : Int)) (th.tmod (10 : Int))) (tM (V (List.take (160 : Nat) cs) (0 : Int) (20 : Int)) (th.tmod (10 : Int))) (tO (V (List.take (160 : Nat) cs) (0 : Int) (20 : Int)) (th.tmod (10 :
  Int))) = hN (tH (V (List.take (160 : Nat) cs) (0 : Int) (20 : Int)) (th.tmod (10 : Int))) (tA (V (List.take (160 : Nat) cs) (0 : Int) (20 : Int)) (th.tmod (10 : Int))) (tM (V
  (List.take (160 : Nat) cs) (0 : Int) (20 : Int)) (th.tmod (10 : Int))) (tO (V (List.take (160 : Nat) cs) (0 : Int) (20 : Int)) (th.tmod (10 : Int))) ∧ hD (tH (V (List.take (160 :
  Nat) cs) (0 : Int) (20 : Int)) (th.tmod (10 : Int))) (tA (V (List.take (160 : Nat) cs) (0 : Int) (20 : Int)) (th.tmod (10 : Int))) (tM (V (List.take (160 : Nat) cs) (0 : Int) (20 :
  Int)) (th.tmod (10 : Int))) (tO (V (List.take (160 : Nat) cs) (0 : Int) (20 : Int)) (th.tmod (10 : Int))) = hD (tH (V (List.take (160 : Nat) cs) (0 : Int) (20 : Int)) (th.tmod (10
  : Int))) (tA (V (List.take (160 : Nat) cs) (0 : Int) (20 : Int)) (th.tmod (10 : Int))) (tM (V (List.take (160 : Nat) cs) (0 : Int) (20 : Int)) (th.tmod (10 : Int))) (tO (V
  (List.take (160 : Nat) cs) (0 : Int) (20 : Int)) (th.tmod (10 : Int))) ∧ True) ∧ True else bif decide (fE (tH (V (List.take (160 : Nat) cs) (0 : Int) (20 : Int)) (th.tmod (10 :
  Int))) (tA (V (List.take (160 : Nat) cs) (0 : Int) (20 : Int)) (th.tmod (10 : Int))) (tM (V (List.take (160 : Nat) cs) (0 : Int) (20 : Int)) (th.tmod (10 : Int))) (tO (V (List.take
  (160 : Nat) cs) (0 : Int) (20 : Int)) (th.tmod (10 : Int))) = (0 : Int)) then (FrP (fN (tH (V (List.take (160 : Nat) cs) (0 : Int) (20 : Int)) (th.tmod (10 : Int))) (tA (V
  (List.take (160 : Nat) cs) (0 : Int) (20 : Int)) (th.tmod (10 : Int))) (tM (V (List.take (160 : Nat) cs) (0 : Int) (20 : Int)) (th.tmod (10 : Int))) (tO (V (List.take (160 : Nat)
  cs) (0 : Int) (20 : Int)) (th.tmod (10 : Int)))) (fD (tH (V (List.take (160 : Nat) cs) (0 : Int) (20 : Int)) (th.tmod (10 : Int))) (tA (V (List.take (160 : Nat) cs) (0 : Int) (20 :
  Int)) (th.tmod (10 : Int))) (tM (V (List.take (160 : Nat) cs) (0 : Int) (20 : Int)) (th.tmod (10 : Int))) (tO (V (List.take (160 : Nat) cs) (0 : Int) (20 : Int)) (th.tmod (10 :
  Int)))) ∧ FrP (1 : Int) (1 : Int)) ∧ bif decide ((0 : Int) < C (fN (tH (V (List.take (160 : Nat) cs) (0 : Int) (20 : Int)) (th.tmod (10 : Int))) (tA (V (List.take (160 : Nat) cs)
  (0 : Int) (20 : Int)) (th.tmod (10 : Int))) (tM (V (List.take (160 : Nat) cs) (0 : Int) (20 : Int)) (th.tmod (10 : Int))) (tO (V (List.take (160 : Nat) cs) (0 : Int) (20 : Int))
  (th.tmod (10 : Int)))) (fD (tH (V (List.take (160 : Nat) cs) (0 : Int) (20 : Int)) (th.tmod (10 : Int))) (tA (V (List.take (160 : Nat) cs) (0 : Int) (20 : Int)) (th.tmod (10 :
  Int))) (tM (V (List.take (160 : Nat) cs) (0 : Int) (20 : Int)) (th.tmod (10 : Int))) (tO (V (List.take (160 : Nat) cs) (0 : Int) (20 : Int)) (th.tmod (10 : Int)))) (1 : Int) (1 :
  Int)) then false = true else (FrP (fN (tH (V (List.take (160 : Nat) cs) (0 : Int) (20 : Int)) (th.tmod (10 : Int))) (tA (V (List.take (160 : Nat) cs) (0 : Int) (20 : Int)) (th.tmod
  (10 : Int))) (tM (V (List.take (160 : Nat) cs) (0 : Int) (20 : Int)) (th.tmod (10 : Int))) (tO (V (List.take (160 : Nat) cs) (0 : Int) (20 : Int)) (th.tmod (10 : Int)))) (fD (tH (V
  (List.take (160 : Nat) cs) (0 : Int) (20 : Int)) (th.tmod (10 : Int))) (tA (V (List.take (160 : Nat) cs) (0 : Int) (20 : Int)) (th.tmod (10 : Int))) (tM (V (List.take (160 : Nat)
  cs) (0 : Int) (20 : Int)) (th.tmod (10 : Int))) (tO (V (List.take (160 : Nat) cs) (0 : Int) (20 : Int)) (th.tmod (10 : Int)))) ∧ FrP (0 : Int) (1 : Int)) ∧ bif decide (C (fN (tH (V
  (List.take (160 : Nat) cs) (0 : Int) (20 : Int)) (th.tmod (10 : Int))) (tA (V (List.take (160 : Nat) cs) (0 : Int) (20 : Int)) (th.tmod (10 : Int))) (tM (V (List.take (160 : Nat)
  cs) (0 : Int) (20 : Int)) (th.tmod (10 : Int))) (tO (V (List.take (160 : Nat) cs) (0 : Int) (20 : Int)) (th.tmod (10 : Int)))) (fD (tH (V (List.take (160 : Nat) cs) (0 : Int) (20 :
  Int)) (th.tmod (10 : Int))) (tA (V (List.take (160 : Nat) cs) (0 : Int) (20 : Int)) (th.tmod (10 : Int))) (tM (V (List.take (160 : Nat) cs) (0 : Int) (20 : Int)) (th.tmod (10 :
  Int))) (tO (V (List.take (160 : Nat) cs) (0 : Int) (20 : Int)) (th.tmod (10 : Int)))) (0 : Int) (1 : Int) < (0 : Int)) then false = true else bif decide (rE (tH (V (List.take (160
  : Nat) cs) (0 : Int) (20 : Int)) (th.tmod (10 : Int))) (tA (V (List.take (160 : Nat) cs) (0 : Int) (20 : Int)) (th.tmod (10 : Int))) (tM (V (List.take (160 : Nat) cs) (0 : Int) (20
  : Int)) (th.tmod (10 : Int))) (tO (V (List.take (160 : Nat) cs) (0 : Int) (20 : Int)) (th.tmod (10 : Int))) = (0 : Int)) then (FrP (rN (tH (V (List.take (160 : Nat) cs) (0 : Int)
  (20 : Int)) (th.tmod (10 : Int))) (tA (V (List.take (160 : Nat) cs) (0 : Int) (20 : Int)) (th.tmod (10 : Int))) (tM (V (List.take (160 : Nat) cs) (0 : Int) (20 : Int)) (th.tmod (10
  : Int))) (tO (V (List.take (160 : Nat) cs) (0 : Int) (20 : Int)) (th.tmod (10 : Int)))) (rD (tH (V (List.take (160 : Nat) cs) (0 : Int) (20 : Int)) (th.tmod (10 : Int))) (tA (V
  (List.take (160 : Nat) cs) (0 : Int) (20 : Int)) (th.tmod (10 : Int))) (tM (V (List.take (160 : Nat) cs) (0 : Int) (20 : Int)) (th.tmod (10 : Int))) (tO (V (List.take (160 : Nat)
  cs) (0 : Int) (20 : Int)) (th.tmod (10 : Int)))) ∧ FrP (0 : Int) (1 : Int)) ∧ bif decide (C (rN (tH (V (List.take (160 : Nat) cs) (0 : Int) (20 : Int)) (th.tmod (10 : Int))) (tA (V
  (List.take (160 : Nat) cs) (0 : Int) (20 : Int)) (th.tmod (10 : Int))) (tM (V (List.take (160 : Nat) cs) (0 : Int) (20 : Int)) (th.tmod (10 : Int))) (tO (V (List.take (160 : Nat)
  cs) (0 : Int) (20 : Int)) (th.tmod (10 : Int)))) (rD (tH (V (List.take (160 : Nat) cs) (0 : Int) (20 : Int)) (th.tmod (10 : Int))) (tA (V (List.take (160 : Nat) cs) (0 : Int) (20 :
  Int)) (th.tmod (10 : Int))) (tM (V (List.take (160 : Nat) cs) (0 : Int) (20 : Int)) (th.tmod (10 : Int))) (tO (V (List.take (160 : Nat) cs) (0 : Int) (20 : Int)) (th.tmod (10 :
  Int)))) (0 : Int) (1 : Int) < (0 : Int)) then false = true else ∃ x, OneU x ∧ ((True ∧ V (List.take (160 : Nat) cs) (0 : Int) (20 : Int) = V (List.take (160 : Nat) cs) (0 : Int)
  (20 : Int)) ∧ (True ∧ V (List.take (160 : Nat) ds) (0 : Int) (20 : Int) = V (List.take (160 : Nat) ds) (0 : Int) (20 : Int)) ∧ (0 : Nat) = (0 : Nat) ∧ (0 : Nat) = (0 : Nat) ∧ (0 :
  Nat) = (0 : Nat) ∧ hE (tH (V (List.take (160 : Nat) cs) (0 : Int) (20 : Int)) (th.tmod (10 : Int))) (tA (V (List.take (160 : Nat) cs) (0 : Int) (20 : Int)) (th.tmod (10 : Int)))
  (tM (V (List.take (160 : Nat) cs) (0 : Int) (20 : Int)) (th.tmod (10 : Int))) (tO (V (List.take (160 : Nat) cs) (0 : Int) (20 : Int)) (th.tmod (10 : Int))) = hE (tH (V (List.take
  (160 : Nat) cs) (0 : Int) (20 : Int)) (th.tmod (10 : Int))) (tA (V (List.take (160 : Nat) cs) (0 : Int) (20 : Int)) (th.tmod (10 : Int))) (tM (V (List.take (160 : Nat) cs) (0 :
  Int) (20 : Int)) (th.tmod (10 : Int))) (tO (V (List.take (160 : Nat) cs) (0 : Int) (20 : Int)) (th.tmod (10 : Int))) ∧ True) ∧ (tH (V (List.take (160 : Nat) cs) (0 : Int) (20 :
  Int)) (th.tmod (10 : Int)) = tH (V (List.take (160 : Nat) cs) (0 : Int) (20 : Int)) (th.tmod (10 : Int)) ∧ tA (V (List.take (160 : Nat) cs) (0 : Int) (20 : Int)) (th.tmod (10 :
  Int)) = tA (V (List.take (160 : Nat) cs) (0 : Int) (20 : Int)) (th.tmod (10 : Int)) ∧ tM (V (List.take (160 : Nat) cs) (0 : Int) (20 : Int)) (th.tmod (10 : Int)) = tM (V (List.take
  (160 : Nat) cs) (0 : Int) (20 : Int)) (th.tmod (10 : Int)) ∧ tO (V (List.take (160 : Nat) cs) (0 : Int) (20 : Int)) (th.tmod (10 : Int)) = tO (V (List.take (160 : Nat) cs) (0 :
  Int) (20 : Int)) (th.tmod (10 : Int)) ∧ True) ∧ ((1 : Int) = (1 : Int) ∧ (1 : Int) = (1 : Int) ∧ True) ∧ (hN (tH (V (List.take (160 : Nat) cs) (0 : Int) (20 : Int)) (th.tmod (10 :
  Int))) (tA (V (List.take (160 : Nat) cs) (0 : Int) (20 : Int)) (th.tmod (10 : Int))) (tM (V (List.take (160 : Nat) cs) (0 : Int) (20 : Int)) (th.tmod (10 : Int))) (tO (V (List.take
  (160 : Nat) cs) (0 : Int) (20 : Int)) (th.tmod (10 : Int))) = hN (tH (V (List.take (160 : Nat) cs) (0 : Int) (20 : Int)) (th.tmod (10 : Int))) (tA (V (List.take (160 : Nat) cs) (0
  : Int) (20 : Int)) (th.tmod (10 : Int))) (tM (V (List.take (160 : Nat) cs) (0 : Int) (20 : Int)) (th.tmod (10 : Int))) (tO (V (List.take (160 : Nat) cs) (0 : Int) (20 : Int))
  (th.tmod (10 : Int))) ∧ hD (tH (V (List.take (160 : Nat) cs) (0 : Int) (20 : Int)) (th.tmod (10 : Int))) (tA (V (List.take (160 : Nat) cs) (0 : Int) (20 : Int)) (th.tmod (10 :
  Int))) (tM (V (List.take (160 : Nat) cs) (0 : Int) (20 : Int)) (th.tmod (10 : Int))) (tO (V (List.take (160 : Nat) cs) (0 : Int) (20 : Int)) (th.tmod (10 : Int))) = hD (tH (V
  (List.take (160 : Nat) cs) (0 : Int) (20 : Int)) (th.tmod (10 : Int))) (tA (V (List.take (160 : Nat) cs) (0 : Int) (20 : Int)) (th.tmod (10 : Int))) (tM (V (List.take (160 : Nat)
  cs) (0 : Int) (20 : Int)) (th.tmod (10 : Int))) (tO (V (List.take (160 : Nat) cs) (0 : Int) (20 : Int)) (th.tmod (10 : Int))) ∧ True) ∧ True else ∃ x, OneU x ∧ ((True ∧ V
  (List.take (160 : Nat) cs) (0 : Int) (20 : Int) = V (List.take (160 : Nat) cs) (0 : Int) (20 : Int)) ∧ (True ∧ V (List.take (160 : Nat) ds) (0 : Int) (20 : Int) = V (List.take (160
  : Nat) ds) (0 : Int) (20 : Int)) ∧ (0 : Nat) = (0 : Nat) ∧ (0 : Nat) = (0 : Nat) ∧ (0 : Nat) = (0 : Nat) ∧ hE (tH (V (List.take (160 : Nat) cs) (0 : Int) (20 : Int)) (th.tmod (10 :
  Int))) (tA (V (List.take (160 : Nat) cs) (0 : Int) (20 : Int)) (th.tmod (10 : Int))) (tM (V (List.take (160 : Nat) cs) (0 : Int) (20 : Int)) (th.tmod (10 : Int))) (tO (V (List.take
  (160 : Nat) cs) (0 : Int) (20 : Int)) (th.tmod (10 : Int))) = hE (tH (V (List.take (160 : Nat) cs) (0 : Int) (20 : Int)) (th.tmod (10 : Int))) (tA (V (List.take (160 : Nat) cs) (0
  : Int) (20 : Int)) (th.tmod (10 : Int))) (tM (V (List.take (160 : Nat) cs) (0 : Int) (20 : Int)) (th.tmod (10 : Int))) (tO (V (List.take (160 : Nat) cs) (0 : Int) (20 : Int))
  (th.tmod (10 : Int))) ∧ True) ∧ (tH (V (List.take (160 : Nat) cs) (0 : Int) (20 : Int)) (th.tmod (10 : Int)) = tH (V (List.take (160 : Nat) cs) (0 : Int) (20 : Int)) (th.tmod (10 :
  Int)) ∧ tA (V (List.take (160 : Nat) cs) (0 : Int) (20 : Int)) (th.tmod (10 : Int)) = tA (V (List.take (160 : Nat) cs) (0 : Int) (20 : Int)) (th.tmod (10 : Int)) ∧ tM (V (List.take
  (160 : Nat) cs) (0 : Int) (20 : Int)) (th.tmod (10 : Int)) = tM (V (List.take (160 : Nat) cs) (0 : Int) (20 : Int)) (th.tmod (10 : Int)) ∧ tO (V (List.take (160 : Nat) cs) (0 :
  Int) (20 : Int)) (th.tmod (10 : Int)) = tO (V (List.take (160 : Nat) cs) (0 : Int) (20 : Int)) (th.tmod (10 : Int)) ∧ True) ∧ ((1 : Int) = (1 : Int) ∧ (1 : Int) = (1 : Int) ∧ True)
  ∧ (hN (tH (V (List.take (160 : Nat) cs) (0 : Int) (20 : Int)) (th.tmod (10 : Int))) (tA (V (List.take (160 : Nat) cs) (0 : Int) (20 : Int)) (th.tmod (10 : Int))) (tM (V (List.take
  (160 : Nat) cs) (0 : Int) (20 : Int)) (th.tmod (10 : Int))) (tO (V (List.take (160 : Nat) cs) (0 : Int) (20 : Int)) (th.tmod (10 : Int))) = hN (tH (V (List.take (160 : Nat) cs) (0
  : Int) (20 : Int)) (th.tmod (10 : Int))) (tA (V (List.take (160 : Nat) cs) (0 : Int) (20 : Int)) (th.tmod (10 : Int))) (tM (V (List.take (160 : Nat) cs) (0 : Int) (20 : Int))
  (th.tmod (10 : Int))) (tO (V (List.take (160 : Nat) cs) (0 : Int) (20 : Int)) (th.tmod (10 : Int))) ∧ hD (tH (V (List.take (160 : Nat) cs) (0 : Int) (20 : Int)) (th.tmod (10 :
  Int))) (tA (V (List.take (160 : Nat) cs) (0 : Int) (20 : Int)) (th.tmod (10 : Int))) (tM (V (List.take (160 : Nat) cs) (0 : Int) (20 : Int)) (th.tmod (10 : Int))) (tO (V (List.take
  (160 : Nat) cs) (0 : Int) (20 : Int)) (th.tmod (10 : Int))) = hD (tH (V (List.take (160 : Nat) cs) (0 : Int) (20 : Int)) (th.tmod (10 : Int))) (tA (V (List.take (160 : Nat) cs) (0
  : Int) (20 : Int)) (th.tmod (10 : Int))) (tM (V (List.take (160 : Nat) cs) (0 : Int) (20 : Int)) (th.tmod (10 : Int))) (tO (V (List.take (160 : Nat) cs) (0 : Int) (20 : Int))
  (th.tmod (10 : Int))) ∧ True) ∧ True else bif decide (rE (tH (V (List.take (160 : Nat) cs) (0 : Int) (20 : Int)) (th.tmod (10 : Int))) (tA (V (List.take (160 : Nat) cs) (0 : Int)
  (20 : Int)) (th.tmod (10 : Int))) (tM (V (List.take (160 : Nat) cs) (0 : Int) (20 : Int)) (th.tmod (10 : Int))) (tO (V (List.take (160 : Nat) cs) (0 : Int) (20 : Int)) (th.tmod (10
  : Int))) = (0 : Int)) then (FrP (rN (tH (V (List.take (160 : Nat) cs) (0 : Int) (20 : Int)) (th.tmod (10 : Int))) (tA (V (List.take (160 : Nat) cs) (0 : Int) (20 : Int)) (th.tmod
  (10 : Int))) (tM (V (List.take (160 : Nat) cs) (0 : Int) (20 : Int)) (th.tmod (10 : Int))) (tO (V (List.take (160 : Nat) cs) (0 : Int) (20 : Int)) (th.tmod (10 : Int)))) (rD (tH (V
  (List.take (160 : Nat) cs) (0 : Int) (20 : Int)) (th.tmod (10 : Int))) (tA (V (List.take (160 : Nat) cs) (0 : Int) (20 : Int)) (th.tmod (10 : Int))) (tM (V (List.take (160 : Nat)
  cs) (0 : Int) (20 : Int)) (th.tmod (10 : Int))) (tO (V (List.take (160 : Nat) cs) (0 : Int) (20 : Int)) (th.tmod (10 : Int)))) ∧ FrP (0 : Int) (1 : Int)) ∧ bif decide (C (rN (tH (V
  (List.take (160 : Nat) cs) (0 : Int) (20 : Int)) (th.tmod (10 : Int))) (tA (V (List.take (160 : Nat) cs) (0 : Int) (20 : Int)) (th.tmod (10 : Int))) (tM (V (List.take (160 : Nat)
  cs) (0 : Int) (20 : Int)) (th.tmod (10 : Int))) (tO (V (List.take (160 : Nat) cs) (0 : Int) (20 : Int)) (th.tmod (10 : Int)))) (rD (tH (V (List.take (160 : Nat) cs) (0 : Int) (20 :
  Int)) (th.tmod (10 : Int))) (tA (V (List.take (160 : Nat) cs) (0 : Int) (20 : Int)) (th.tmod (10 : Int))) (tM (V (List.take (160 : Nat) cs) (0 : Int) (20 : Int)) (th.tmod (10 :
  Int))) (tO (V (List.take (160 : Nat) cs) (0 : Int) (20 : Int)) (th.tmod (10 : Int)))) (0 : Int) (1 : Int) < (0 : Int)) then false = true else ∃ x, OneU x ∧ ((True ∧ V (List.take
  (160 : Nat) cs) (0 : Int) (20 : Int) = V (List.take (160 : Nat) cs) (0 : Int) (20 : Int)) ∧ (True ∧ V (List.take (160 : Nat) ds) (0 : Int) (20 : Int) = V (List.take (160 : Nat) ds)
  (0 : Int) (20 : Int)) ∧ (0 : Nat) = (0 : Nat) ∧ (0 : Nat) = (0 : Nat) ∧ (0 : Nat) = (0 : Nat) ∧ hE (tH (V (List.take (160 : Nat) cs) (0 : Int) (20 : Int)) (th.tmod (10 : Int))) (tA
  (V (List.take (160 : Nat) cs) (0 : Int) (20 : Int)) (th.tmod (10 : Int))) (tM (V (List.take (160 : Nat) cs) (0 : Int) (20 : Int)) (th.tmod (10 : Int))) (tO (V (List.take (160 :
  Nat) cs) (0 : Int) (20 : Int)) (th.tmod (10 : Int))) = hE (tH (V (List.take (160 : Nat) cs) (0 : Int) (20 : Int)) (th.tmod (10 : Int))) (tA (V (List.take (160 : Nat) cs) (0 : Int)
  (20 : Int)) (th.tmod (10 : Int))) (tM (V (List.take (160 : Nat) cs) (0 : Int) (20 : Int)) (th.tmod (10 : Int))) (tO (V (List.take (160 : Nat) cs) (0 : Int) (20 : Int)) (th.tmod (10
  : Int))) ∧ True) ∧ (tH (V (List.take (160 : Nat) cs) (0 : Int) (20 : Int)) (th.tmod (10 : Int)) = tH (V (List.take (160 : Nat) cs) (0 : Int) (20 : Int)) (th.tmod (10 : Int)) ∧ tA
  (V (List.take (160 : Nat) cs) (0 : Int) (20 : Int)) (th.tmod (10 : Int)) = tA (V (List.take (160 : Nat) cs) (0 : Int) (20 : Int)) (th.tmod (10 : Int)) ∧ tM (V (List.take (160 :
  Nat) cs) (0 : Int) (20 : Int)) (th.tmod (10 : Int)) = tM (V (List.take (160 : Nat) cs) (0 : Int) (20 : Int)) (th.tmod (10 : Int)) ∧ tO (V (List.take (160 : Nat) cs) (0 : Int) (20 :
  Int)) (th.tmod (10 : Int)) = tO (V (List.take (160 : Nat) cs) (0 : Int) (20 : Int)) (th.tmod (10 : Int)) ∧ True) ∧ ((1 : Int) = (1 : Int) ∧ (1 : Int) = (1 : Int) ∧ True) ∧ (hN (tH
  (V (List.take (160 : Nat) cs) (0 : Int) (20 : Int)) (th.tmod (10 : Int))) (tA (V (List.take (160 : Nat) cs) (0 : Int) (20 : Int)) (th.tmod (10 : Int))) (tM (V (List.take (160 :
  Nat) cs) (0 : Int) (20 : Int)) (th.tmod (10 : Int))) (tO (V (List.take (160 : Nat) cs) (0 : Int) (20 : Int)) (th.tmod (10 : Int))) = hN (tH (V (List.take (160 : Nat) cs) (0 : Int)
  (20 : Int)) (th.tmod (10 : Int))) (tA (V (List.take (160 : Nat) cs) (0 : Int) (20 : Int)) (th.tmod (10 : Int))) (tM (V (List.take (160 : Nat) cs) (0 : Int) (20 : Int)) (th.tmod (10
  : Int))) (tO (V (List.take (160 : Nat) cs) (0 : Int) (20 : Int)) (th.tmod (10 : Int))) ∧ hD (tH (V (List.take (160 : Nat) cs) (0 : Int) (20 : Int)) (th.tmod (10 : Int))) (tA (V
  (List.take (160 : Nat) cs) (0 : Int) (20 : Int)) (th.tmod (10 : Int))) (tM (V (List.take (160 : Nat) cs) (0 : Int) (20 : Int)) (th.tmod (10 : Int))) (tO (V (List.take (160 : Nat)
  cs) (0 : Int) (20 : Int)) (th.tmod (10 : Int))) = hD (tH (V (List.take (160 : Nat) cs) (0 : Int) (20 : Int)) (th.tmod (10 : Int))) (tA (V (List.take (160 : Nat) cs) (0 : Int) (20 :
  Int)) (th.tmod (10 : Int))) (tM (V (List.take (160 : Nat) cs) (0 : Int) (20 : Int)) (th.tmod (10 : Int))) (tO (V (List.take (160 : Nat) cs) (0 : Int) (20 : Int)) (th.tmod (10 :
  Int))) ∧ True) ∧ True else ∃ x, OneU x ∧ ((True ∧ V (List.take (160 : Nat) cs) (0 : Int) (20 : Int) = V (List.take (160 : Nat) cs) (0 : Int) (20 : Int)) ∧ (True ∧ V (List.take (160
  : Nat) ds) (0 : Int) (20 : Int) = V (List.take (160 : Nat) ds) (0 : Int) (20 : Int)) ∧ (0 : Nat) = (0 : Nat) ∧ (0 : Nat) = (0 : Nat) ∧ (0 : Nat) = (0 : Nat) ∧ hE (tH (V (List.take
  (160 : Nat) cs) (0 : Int) (20 : Int)) (th.tmod (10 : Int))) (tA (V (List.take (160 : Nat) cs) (0 : Int) (20 : Int)) (th.tmod (10 : Int))) (tM (V (List.take (160 : Nat) cs) (0 :
  Int) (20 : Int)) (th.tmod (10 : Int))) (tO (V (List.take (160 : Nat) cs) (0 : Int) (20 : Int)) (th.tmod (10 : Int))) = hE (tH (V (List.take (160 : Nat) cs) (0 : Int) (20 : Int))
  (th.tmod (10 : Int))) (tA (V (List.take (160 : Nat) cs) (0 : Int) (20 : Int)) (th.tmod (10 : Int))) (tM (V (List.take (160 : Nat) cs) (0 : Int) (20 : Int)) (th.tmod (10 : Int)))
  (tO (V (List.take (160 : Nat) cs) (0 : Int) (20 : Int)) (th.tmod (10 : Int))) ∧ True) ∧ (tH (V (List.take (160 : Nat) cs) (0 : Int) (20 : Int)) (th.tmod (10 : Int)) = tH (V
  (List.take (160 : Nat) cs) (0 : Int) (20 : Int)) (th.tmod (10 : Int)) ∧ tA (V (List.take (160 : Nat) cs) (0 : Int) (20 : Int)) (th.tmod (10 : Int)) = tA (V (List.take (160 : Nat)
  cs) (0 : Int) (20 : Int)) (th.tmod (10 : Int)) ∧ tM (V (List.take (160 : Nat) cs) (0 : Int) (20 : Int)) (th.tmod (10 : Int)) = tM (V (List.take (160 : Nat) cs) (0 : Int) (20 :
  Int)) (th.tmod (10 : Int)) ∧ tO (V (List.take (160 : Nat) cs) (0 : Int) (20 : Int)) (th.tmod (10 : Int)) = tO (V (List.take (160 : Nat) cs) (0 : Int) (20 : Int)) (th.tmod (10 :
  Int)) ∧ True) ∧ ((1 : Int) = (1 : Int) ∧ (1 : Int) = (1 : Int) ∧ True) ∧ (hN (tH (V (List.take (160 : Nat) cs) (0 : Int) (20 : Int)) (th.tmod (10 : Int))) (tA (V (List.take (160 :
  Nat) cs) (0 : Int) (20 : Int)) (th.tmod (10 : Int))) (tM (V (List.take (160 : Nat) cs) (0 : Int) (20 : Int)) (th.tmod (10 : Int))) (tO (V (List.take (160 : Nat) cs) (0 : Int) (20 :
  Int)) (th.tmod (10 : Int))) = hN (tH (V (List.take (160 : Nat) cs) (0 : Int) (20 : Int)) (th.tmod (10 : Int))) (tA (V (List.take (160 : Nat) cs) (0 : Int) (20 : Int)) (th.tmod (10
  : Int))) (tM (V (List.take (160 : Nat) cs) (0 : Int) (20 : Int)) (th.tmod (10 : Int))) (tO (V (List.take (160 : Nat) cs) (0 : Int) (20 : Int)) (th.tmod (10 : Int))) ∧ hD (tH (V
  (List.take (160 : Nat) cs) (0 : Int) (20 : Int)) (th.tmod (10 : Int))) (tA (V (List.take (160 : Nat) cs) (0 : Int) (20 : Int)) (th.tmod (10 : Int))) (tM (V (List.take (160 : Nat)
  cs) (0 : Int) (20 : Int)) (th.tmod (10 : Int))) (tO (V (List.take (160 : Nat) cs) (0 : Int) (20 : Int)) (th.tmod (10 : Int))) = hD (tH (V (List.take (160 : Nat) cs) (0 : Int) (20 :
  Int)) (th.tmod (10 : Int))) (tA (V (List.take (160 : Nat) cs) (0 : Int) (20 : Int)) (th.tmod (10 : Int))) (tM (V (List.take (160 : Nat) cs) (0 : Int) (20 : Int)) (th.tmod (10 :
  Int))) (tO (V (List.take (160 : Nat) cs) (0 : Int) (20 : Int)) (th.tmod (10 : Int))) ∧ True) ∧ True) ∧ ∀ (x : PUnit), OneU x → (bif decide (hE (tH (V (List.take (160 : Nat) cs) (0
  : Int) (20 : Int)) (th.tmod (10 : Int))) (tA (V (List.take (160 : Nat) cs) (0 : Int) (20 : Int)) (th.tmod (10 : Int))) (tM (V (List.take (160 : Nat) cs) (0 : Int) (20 : Int))
  (th.tmod (10 : Int))) (tO (V (List.take (160 : Nat) cs) (0 : Int) (20 : Int)) (th.tmod (10 : Int))) = (0 : Int)) then (FrP (hN (tH (V (List.take (160 : Nat) cs) (0 : Int) (20 :
  Int)) (th.tmod (10 : Int))) (tA (V (List.take (160 : Nat) cs) (0 : Int) (20 : Int)) (th.tmod (10 : Int))) (tM (V (List.take (160 : Nat) cs) (0 : Int) (20 : Int)) (th.tmod (10 :
  Int))) (tO (V (List.take (160 : Nat) cs) (0 : Int) (20 : Int)) (th.tmod (10 : Int)))) (hD (tH (V (List.take (160 : Nat) cs) (0 : Int) (20 : Int)) (th.tmod (10 : Int))) (tA (V
  (List.take (160 : Nat) cs) (0 : Int) (20 : Int)) (th.tmod (10 : Int))) (tM (V (List.take (160 : Nat) cs) (0 : Int) (20 : Int)) (th.tmod (10 : Int))) (tO (V (List.take (160 : Nat)
  cs) (0 : Int) (20 : Int)) (th.tmod (10 : Int)))) ∧ FrP (1 : Int) (1 : Int)) ∧ bif decide ((0 : Int) < C (hN (tH (V (List.take (160 : Nat) cs) (0 : Int) (20 : Int)) (th.tmod (10 :
  Int))) (tA (V (List.take (160 : Nat) cs) (0 : Int) (20 : Int)) (th.tmod (10 : Int))) (tM (V (List.take (160 : Nat) cs) (0 : Int) (20 : Int)) (th.tmod (10 : Int))) (tO (V (List.take
  (160 : Nat) cs) (0 : Int) (20 : Int)) (th.tmod (10 : Int)))) (hD (tH (V (List.take (160 : Nat) cs) (0 : Int) (20 : Int)) (th.tmod (10 : Int))) (tA (V (List.take (160 : Nat) cs) (0
  : Int) (20 : Int)) (th.tmod (10 : Int))) (tM (V (List.take (160 : Nat) cs) (0 : Int) (20 : Int)) (th.tmod (10 : Int))) (tO (V (List.take (160 : Nat) cs) (0 : Int) (20 : Int))
  (th.tmod (10 : Int)))) (1 : Int) (1 : Int)) then false = true else (FrP (hN (tH (V (List.take (160 : Nat) cs) (0 : Int) (20 : Int)) (th.tmod (10 : Int))) (tA (V (List.take (160 :
  Nat) cs) (0 : Int) (20 : Int)) (th.tmod (10 : Int))) (tM (V (List.take (160 : Nat) cs) (0 : Int) (20 : Int)) (th.tmod (10 : Int))) (tO (V (List.take (160 : Nat) cs) (0 : Int) (20 :
  Int)) (th.tmod (10 : Int)))) (hD (tH (V (List.take (160 : Nat) cs) (0 : Int) (20 : Int)) (th.tmod (10 : Int))) (tA (V (List.take (160 : Nat) cs) (0 : Int) (20 : Int)) (th.tmod (10
  : Int))) (tM (V (List.take (160 : Nat) cs) (0 : Int) (20 : Int)) (th.tmod (10 : Int))) (tO (V (List.take (160 : Nat) cs) (0 : Int) (20 : Int)) (th.tmod (10 : Int)))) ∧ FrP (-1 :
  Int) (1 : Int)) ∧ bif decide (C (hN (tH (V (List.take (160 : Nat) cs) (0 : Int) (20 : Int)) (th.tmod (10 : Int))) (tA (V (List.take (160 : Nat) cs) (0 : Int) (20 : Int)) (th.tmod
  (10 : Int))) (tM (V (List.take (160 : Nat) cs) (0 : Int) (20 : Int)) (th.tmod (10 : Int))) (tO (V (List.take (160 : Nat) cs) (0 : Int) (20 : Int)) (th.tmod (10 : Int)))) (hD (tH (V
  (List.take (160 : Nat) cs) (0 : Int) (20 : Int)) (th.tmod (10 : Int))) (tA (V (List.take (160 : Nat) cs) (0 : Int) (20 : Int)) (th.tmod (10 : Int))) (tM (V (List.take (160 : Nat)
  cs) (0 : Int) (20 : Int)) (th.tmod (10 : Int))) (tO (V (List.take (160 : Nat) cs) (0 : Int) (20 : Int)) (th.tmod (10 : Int)))) (-1 : Int) (1 : Int) < (0 : Int)) then false = true
  else bif decide (tA (V (List.take (160 : Nat) cs) (0 : Int) (20 : Int)) (th.tmod (10 : Int)) = (0 : Int)) then bif !decide ((decide (hN (tH (V (List.take (160 : Nat) cs) (0 : Int)
  (20 : Int)) (th.tmod (10 : Int))) (tA (V (List.take (160 : Nat) cs) (0 : Int) (20 : Int)) (th.tmod (10 : Int))) (tM (V (List.take (160 : Nat) cs) (0 : Int) (20 : Int)) (th.tmod (10
  : Int))) (tO (V (List.take (160 : Nat) cs) (0 : Int) (20 : Int)) (th.tmod (10 : Int))) = (1 : Int)) && (decide (hD (tH (V (List.take (160 : Nat) cs) (0 : Int) (20 : Int)) (th.tmod
  (10 : Int))) (tA (V (List.take (160 : Nat) cs) (0 : Int) (20 : Int)) (th.tmod (10 : Int))) (tM (V (List.take (160 : Nat) cs) (0 : Int) (20 : Int)) (th.tmod (10 : Int))) (tO (V
  (List.take (160 : Nat) cs) (0 : Int) (20 : Int)) (th.tmod (10 : Int))) = (1 : Int)) && true)) = decide (tM (V (List.take (160 : Nat) cs) (0 : Int) (20 : Int)) (th.tmod (10 : Int))
  = (0 : Int))) then false = true else ∃ x, OneU x ∧ ((True ∧ V (List.take (160 : Nat) cs) (0 : Int) (20 : Int) = V (List.take (160 : Nat) cs) (0 : Int) (20 : Int)) ∧ (True ∧ V
  (List.take (160 : Nat) ds) (0 : Int) (20 : Int) = V (List.take (160 : Nat) ds) (0 : Int) (20 : Int)) ∧ (0 : Nat) = (0 : Nat) ∧ True) ∧ ((1 : Int) = (1 : Int) ∧ (1 : Int) = (1 :
  Int) ∧ True) ∧ True else bif !decide ((decide (hN (tH (V (List.take (160 : Nat) cs) (0 : Int) (20 : Int)) (th.tmod (10 : Int))) (tA (V (List.take (160 : Nat) cs) (0 : Int) (20 :
  Int)) (th.tmod (10 : Int))) (tM (V (List.take (160 : Nat) cs) (0 : Int) (20 : Int)) (th.tmod (10 : Int))) (tO (V (List.take (160 : Nat) cs) (0 : Int) (20 : Int)) (th.tmod (10 :
  Int))) = (1 : Int)) && (decide (hD (tH (V (List.take (160 : Nat) cs) (0 : Int) (20 : Int)) (th.tmod (10 : Int))) (tA (V (List.take (160 : Nat) cs) (0 : Int) (20 : Int)) (th.tmod
  (10 : Int))) (tM (V (List.take (160 : Nat) cs) (0 : Int) (20 : Int)) (th.tmod (10 : Int))) (tO (V (List.take (160 : Nat) cs) (0 : Int) (20 : Int)) (th.tmod (10 : Int))) = (1 :
  Int)) && true)) = false) then false = true else ∃ x, OneU x ∧ ((True ∧ V (List.take (160 : Nat) cs) (0 : Int) (20 : Int) = V (List.take (160 : Nat) cs) (0 : Int) (20 : Int)) ∧
  (True ∧ V (List.take (160 : Nat) ds) (0 : Int) (20 : Int) = V (List.take (160 : Nat) ds) (0 : Int) (20 : Int)) ∧ (0 : Nat) = (0 : Nat) ∧ True) ∧ ((1 : Int) = (1 : Int) ∧ (1 : Int)
  = (1 : Int) ∧ True) ∧ True else ∃ x, OneU x ∧ ((True ∧ V (List.take (160 : Nat) cs) (0 : Int) (20 : Int) = V (List.take (160 : Nat) cs) (0 : Int) (20 : Int)) ∧ (True ∧ V (List.take
  (160 : Nat) ds) (0 : Int) (20 : Int) = V (List.take (160 : Nat) ds) (0 : Int) (20 : Int)) ∧ (0 : Nat) = (0 : Nat) ∧ True) ∧ ((1 : Int) = (1 : Int) ∧ (1 : Int) = (1 : Int) ∧ True) ∧
  True) ∧ ∀ (x : PUnit), OneU x → bif decide ((0 : Int) ≤ min (↑(V (List.take (160 : Nat) cs) (0 : Int) (20 : Int)).length : Int) (↑(V (List.take (160 : Nat) ds) (0 : Int) (20 :
  Int)).length : Int) ∧ min (↑(V (List.take (160 : Nat) cs) (0 : Int) (20 : Int)).length : Int) (↑(V (List.take (160 : Nat) ds) (0 : Int) (20 : Int)).length : Int) ≤ (↑(V (List.take
  (160 : Nat) cs) (0 : Int) (20 : Int)).length : Int)) then bif decide ((0 : Int) ≤ (0 : Int) ∧ (0 : Int) ≤ min (↑(V (List.take (160 : Nat) cs) (0 : Int) (20 : Int)).length : Int)
  (↑(V (List.take (160 : Nat) ds) (0 : Int) (20 : Int)).length : Int)) then PrsP (List.drop (0 : Nat) (List.take (min (↑(V (List.take (160 : Nat) cs) (0 : Int) (20 : Int)).length :
  Int) (↑(V (List.take (160 : Nat) ds) (0 : Int) (20 : Int)).length : Int)).toNat (V (List.take (160 : Nat) cs) (0 : Int) (20 : Int)))) ∧ bif decide ((0 : Int) ≤ min (↑(V (List.take
  (160 : Nat) cs) (0 : Int) (20 : Int)).length : Int) (↑(V (List.take (160 : Nat) ds) (0 : Int) (20 : Int)).length : Int) ∧ min (↑(V (List.take (160 : Nat) cs) (0 : Int) (20 :
  Int)).length : Int) (↑(V (List.take (160 : Nat) ds) (0 : Int) (20 : Int)).length : Int) ≤ (↑(V (List.take (160 : Nat) ds) (0 : Int) (20 : Int)).length : Int)) then bif decide ((0 :
  Int) ≤ (0 : Int) ∧ (0 : Int) ≤ min (↑(V (List.take (160 : Nat) cs) (0 : Int) (20 : Int)).length : Int) (↑(V (List.take (160 : Nat) ds) (0 : Int) (20 : Int)).length : Int)) then
  PrsP (List.drop (0 : Nat) (List.take (min (↑(V (List.take (160 : Nat) cs) (0 : Int) (20 : Int)).length : Int) (↑(V (List.take (160 : Nat) ds) (0 : Int) (20 : Int)).length :
  Int)).toNat (V (List.take (160 : Nat) ds) (0 : Int) (20 : Int)))) ∧ True ∧ bif decide (oE (List.drop (0 : Nat) (List.take (min (↑(V (List.take (160 : Nat) cs) (0 : Int) (20 :
  Int)).length : Int) (↑(V (List.take (160 : Nat) ds) (0 : Int) (20 : Int)).length : Int)).toNat (V (List.take (160 : Nat) cs) (0 : Int) (20 : Int)))) = (0 : Int)) then bif decide
  (oE (List.drop (0 : Nat) (List.take (min (↑(V (List.take (160 : Nat) cs) (0 : Int) (20 : Int)).length : Int) (↑(V (List.take (160 : Nat) ds) (0 : Int) (20 : Int)).length :
  Int)).toNat (V (List.take (160 : Nat) ds) (0 : Int) (20 : Int)))) = (0 : Int)) then bif decide ¬kE (oN (List.drop (0 : Nat) (List.take (min (↑(V (List.take (160 : Nat) cs) (0 :
  Int) (20 : Int)).length : Int) (↑(V (List.take (160 : Nat) ds) (0 : Int) (20 : Int)).length : Int)).toNat (V (List.take (160 : Nat) cs) (0 : Int) (20 : Int))))) (oQ (List.drop (0 :
  Nat) (List.take (min (↑(V (List.take (160 : Nat) cs) (0 : Int) (20 : Int)).length : Int) (↑(V (List.take (160 : Nat) ds) (0 : Int) (20 : Int)).length : Int)).toNat (V (List.take
  (160 : Nat) cs) (0 : Int) (20 : Int))))) (oN (List.drop (0 : Nat) (List.take (min (↑(V (List.take (160 : Nat) cs) (0 : Int) (20 : Int)).length : Int) (↑(V (List.take (160 : Nat)
  ds) (0 : Int) (20 : Int)).length : Int)).toNat (V (List.take (160 : Nat) ds) (0 : Int) (20 : Int))))) (oQ (List.drop (0 : Nat) (List.take (min (↑(V (List.take (160 : Nat) cs) (0 :
  Int) (20 : Int)).length : Int) (↑(V (List.take (160 : Nat) ds) (0 : Int) (20 : Int)).length : Int)).toNat (V (List.take (160 : Nat) ds) (0 : Int) (20 : Int))))) = (0 : Int) then
  bif decide (min (↑(V (List.take (160 : Nat) cs) (0 : Int) (20 : Int)).length : Int) (↑(V (List.take (160 : Nat) ds) (0 : Int) (20 : Int)).length : Int) = (0 : Int)) then true =
  true else bif decide (oQ (List.drop (0 : Nat) (List.take (min (↑(V (List.take (160 : Nat) cs) (0 : Int) (20 : Int)).length : Int) (↑(V (List.take (160 : Nat) ds) (0 : Int) (20 :
  Int)).length : Int)).toNat (V (List.take (160 : Nat) ds) (0 : Int) (20 : Int)))) = (0 : Int)) then true = true else bif decide (kE (oN (List.drop (0 : Nat) (List.take (min (↑(V
  (List.take (160 : Nat) cs) (0 : Int) (20 : Int)).length : Int) (↑(V (List.take (160 : Nat) ds) (0 : Int) (20 : Int)).length : Int)).toNat (V (List.take (160 : Nat) cs) (0 : Int)
  (20 : Int))))) (oQ (List.drop (0 : Nat) (List.take (min (↑(V (List.take (160 : Nat) cs) (0 : Int) (20 : Int)).length : Int) (↑(V (List.take (160 : Nat) ds) (0 : Int) (20 :
  Int)).length : Int)).toNat (V (List.take (160 : Nat) cs) (0 : Int) (20 : Int))))) (oN (List.drop (0 : Nat) (List.take (min (↑(V (List.take (160 : Nat) cs) (0 : Int) (20 :
  Int)).length : Int) (↑(V (List.take (160 : Nat) ds) (0 : Int) (20 : Int)).length : Int)).toNat (V (List.take (160 : Nat) ds) (0 : Int) (20 : Int))))) (oQ (List.drop (0 : Nat)
  (List.take (min (↑(V (List.take (160 : Nat) cs) (0 : Int) (20 : Int)).length : Int) (↑(V (List.take (160 : Nat) ds) (0 : Int) (20 : Int)).length : Int)).toNat (V (List.take (160 :
  Nat) ds) (0 : Int) (20 : Int))))) = (0 : Int)) then (FrP (kP (oN (List.drop (0 : Nat) (List.take (min (↑(V (List.take (160 : Nat) cs) (0 : Int) (20 : Int)).length : Int) (↑(V
  (List.take (160 : Nat) ds) (0 : Int) (20 : Int)).length : Int)).toNat (V (List.take (160 : Nat) cs) (0 : Int) (20 : Int))))) (oQ (List.drop (0 : Nat) (List.take (min (↑(V
  (List.take (160 : Nat) cs) (0 : Int) (20 : Int)).length : Int) (↑(V (List.take (160 : Nat) ds) (0 : Int) (20 : Int)).length : Int)).toNat (V (List.take (160 : Nat) cs) (0 : Int)
  (20 : Int))))) (oN (List.drop (0 : Nat) (List.take (min (↑(V (List.take (160 : Nat) cs) (0 : Int) (20 : Int)).length : Int) (↑(V (List.take (160 : Nat) ds) (0 : Int) (20 :
  Int)).length : Int)).toNat (V (List.take (160 : Nat) ds) (0 : Int) (20 : Int))))) (oQ (List.drop (0 : Nat) (List.take (min (↑(V (List.take (160 : Nat) cs) (0 : Int) (20 :
  Int)).length : Int) (↑(V (List.take (160 : Nat) ds) (0 : Int) (20 : Int)).length : Int)).toNat (V (List.take (160 : Nat) ds) (0 : Int) (20 : Int)))))) (kQ (oN (List.drop (0 : Nat)
  (List.take (min (↑(V (List.take (160 : Nat) cs) (0 : Int) (20 : Int)).length : Int) (↑(V (List.take (160 : Nat) ds) (0 : Int) (20 : Int)).length : Int)).toNat (V (List.take (160 :
  Nat) cs) (0 : Int) (20 : Int))))) (oQ (List.drop (0 : Nat) (List.take (min (↑(V (List.take (160 : Nat) cs) (0 : Int) (20 : Int)).length : Int) (↑(V (List.take (160 : Nat) ds) (0 :
  Int) (20 : Int)).length : Int)).toNat (V (List.take (160 : Nat) cs) (0 : Int) (20 : Int))))) (oN (List.drop (0 : Nat) (List.take (min (↑(V (List.take (160 : Nat) cs) (0 : Int) (20
  : Int)).length : Int) (↑(V (List.take (160 : Nat) ds) (0 : Int) (20 : Int)).length : Int)).toNat (V (List.take (160 : Nat) ds) (0 : Int) (20 : Int))))) (oQ (List.drop (0 : Nat)
  (List.take (min (↑(V (List.take (160 : Nat) cs) (0 : Int) (20 : Int)).length : Int) (↑(V (List.take (160 : Nat) ds) (0 : Int) (20 : Int)).length : Int)).toNat (V (List.take (160 :
  Nat) ds) (0 : Int) (20 : Int)))))) ∧ FrP (1 : Int) (1 : Int)) ∧ bif decide (C (kP (oN (List.drop (0 : Nat) (List.take (min (↑(V (List.take (160 : Nat) cs) (0 : Int) (20 :
  Int)).length : Int) (↑(V (List.take (160 : Nat) ds) (0 : Int) (20 : Int)).length : Int)).toNat (V (List.take (160 : Nat) cs) (0 : Int) (20 : Int))))) (oQ (List.drop (0 : Nat)
  (List.take (min (↑(V (List.take (160 : Nat) cs) (0 : Int) (20 : Int)).length : Int) (↑(V (List.take (160 : Nat) ds) (0 : Int) (20 : Int)).length : Int)).toNat (V (List.take (160 :
  Nat) cs) (0 : Int) (20 : Int))))) (oN (List.drop (0 : Nat) (List.take (min (↑(V (List.take (160 : Nat) cs) (0 : Int) (20 : Int)).length : Int) (↑(V (List.take (160 : Nat) ds) (0 :
  Int) (20 : Int)).length : Int)).toNat (V (List.take (160 : Nat) ds) (0 : Int) (20 : Int))))) (oQ (List.drop (0 : Nat) (List.take (min (↑(V (List.take (160 : Nat) cs) (0 : Int) (20
  : Int)).length : Int) (↑(V (List.take (160 : Nat) ds) (0 : Int) (20 : Int)).length : Int)).toNat (V (List.take (160 : Nat) ds) (0 : Int) (20 : Int)))))) (kQ (oN (List.drop (0 :
  Nat) (List.take (min (↑(V (List.take (160 : Nat) cs) (0 : Int) (20 : Int)).length : Int) (↑(V (List.take (160 : Nat) ds) (0 : Int) (20 : Int)).length : Int)).toNat (V (List.take
  (160 : Nat) cs) (0 : Int) (20 : Int))))) (oQ (List.drop (0 : Nat) (List.take (min (↑(V (List.take (160 : Nat) cs) (0 : Int) (20 : Int)).length : Int) (↑(V (List.take (160 : Nat)
  ds) (0 : Int) (20 : Int)).length : Int)).toNat (V (List.take (160 : Nat) cs) (0 : Int) (20 : Int))))) (oN (List.drop (0 : Nat) (List.take (min (↑(V (List.take (160 : Nat) cs) (0 :
  Int) (20 : Int)).length : Int) (↑(V (List.take (160 : Nat) ds) (0 : Int) (20 : Int)).length : Int)).toNat (V (List.take (160 : Nat) ds) (0 : Int) (20 : Int))))) (oQ (List.drop (0 :
  Nat) (List.take (min (↑(V (List.take (160 : Nat) cs) (0 : Int) (20 : Int)).length : Int) (↑(V (List.take (160 : Nat) ds) (0 : Int) (20 : Int)).length : Int)).toNat (V (List.take
  (160 : Nat) ds) (0 : Int) (20 : Int)))))) (1 : Int) (1 : Int) ≤ (0 : Int)) then decide ((decide (kP (oN (List.drop (0 : Nat) (List.take (min (↑(V (List.take (160 : Nat) cs) (0 :
  Int) (20 : Int)).length : Int) (↑(V (List.take (160 : Nat) ds) (0 : Int) (20 : Int)).length : Int)).toNat (V (List.take (160 : Nat) cs) (0 : Int) (20 : Int))))) (oQ (List.drop (0 :
  Nat) (List.take (min (↑(V (List.take (160 : Nat) cs) (0 : Int) (20 : Int)).length : Int) (↑(V (List.take (160 : Nat) ds) (0 : Int) (20 : Int)).length : Int)).toNat (V (List.take
  (160 : Nat) cs) (0 : Int) (20 : Int))))) (oN (List.drop (0 : Nat) (List.take (min (↑(V (List.take (160 : Nat) cs) (0 : Int) (20 : Int)).length : Int) (↑(V (List.take (160 : Nat)
  ds) (0 : Int) (20 : Int)).length : Int)).toNat (V (List.take (160 : Nat) ds) (0 : Int) (20 : Int))))) (oQ (List.drop (0 : Nat) (List.take (min (↑(V (List.take (160 : Nat) cs) (0 :
  Int) (20 : Int)).length : Int) (↑(V (List.take (160 : Nat) ds) (0 : Int) (20 : Int)).length : Int)).toNat (V (List.take (160 : Nat) ds) (0 : Int) (20 : Int))))) = (1 : Int)) &&
  (decide (kQ (oN (List.drop (0 : Nat) (List.take (min (↑(V (List.take (160 : Nat) cs) (0 : Int) (20 : Int)).length : Int) (↑(V (List.take (160 : Nat) ds) (0 : Int) (20 :
  Int)).length : Int)).toNat (V (List.take (160 : Nat) cs) (0 : Int) (20 : Int))))) (oQ (List.drop (0 : Nat) (List.take (min (↑(V (List.take (160 : Nat) cs) (0 : Int) (20 :
  Int)).length : Int) (↑(V (List.take (160 : Nat) ds) (0 : Int) (20 : Int)).length : Int)).toNat (V (List.take (160 : Nat) cs) (0 : Int) (20 : Int))))) (oN (List.drop (0 : Nat)
  (List.take (min (↑(V (List.take (160 : Nat) cs) (0 : Int) (20 : Int)).length : Int) (↑(V (List.take (160 : Nat) ds) (0 : Int) (20 : Int)).length : Int)).toNat (V (List.take (160 :
  Nat) ds) (0 : Int) (20 : Int))))) (oQ (List.drop (0 : Nat) (List.take (min (↑(V (List.take (160 : Nat) cs) (0 : Int) (20 : Int)).length : Int) (↑(V (List.take (160 : Nat) ds) (0 :
  Int) (20 : Int)).length : Int)).toNat (V (List.take (160 : Nat) ds) (0 : Int) (20 : Int))))) = (1 : Int)) && true)) = decide (oQ (List.drop (0 : Nat) (List.take (min (↑(V
  (List.take (160 : Nat) cs) (0 : Int) (20 : Int)).length : Int) (↑(V (List.take (160 : Nat) ds) (0 : Int) (20 : Int)).length : Int)).toNat (V (List.take (160 : Nat) cs) (0 : Int)
  (20 : Int)))) = (0 : Int))) = true else false = true else false = true else bif decide (kE (oN (List.drop (0 : Nat) (List.take (min (↑(V (List.take (160 : Nat) cs) (0 : Int) (20 :
  Int)).length : Int) (↑(V (List.take (160 : Nat) ds) (0 : Int) (20 : Int)).length : Int)).toNat (V (List.take (160 : Nat) cs) (0 : Int) (20 : Int))))) (oQ (List.drop (0 : Nat)
  (List.take (min (↑(V (List.take (160 : Nat) cs) (0 : Int) (20 : Int)).length : Int) (↑(V (List.take (160 : Nat) ds) (0 : Int) (20 : Int)).length : Int)).toNat (V (List.take (160 :
  Nat) cs) (0 : Int) (20 : Int))))) (oN (List.drop (0 : Nat) (List.take (min (↑(V (List.take (160 : Nat) cs) (0 : Int) (20 : Int)).length : Int) (↑(V (List.take (160 : Nat) ds) (0 :
  Int) (20 : Int)).length : Int)).toNat (V (List.take (160 : Nat) ds) (0 : Int) (20 : Int))))) (oQ (List.drop (0 : Nat) (List.take (min (↑(V (List.take (160 : Nat) cs) (0 : Int) (20
  : Int)).length : Int) (↑(V (List.take (160 : Nat) ds) (0 : Int) (20 : Int)).length : Int)).toNat (V (List.take (160 : Nat) ds) (0 : Int) (20 : Int))))) = (0 : Int)) then (FrP (kP
  (oN (List.drop (0 : Nat) (List.take (min (↑(V (List.take (160 : Nat) cs) (0 : Int) (20 : Int)).length : Int) (↑(V (List.take (160 : Nat) ds) (0 : Int) (20 : Int)).length :
  Int)).toNat (V (List.take (160 : Nat) cs) (0 : Int) (20 : Int))))) (oQ (List.drop (0 : Nat) (List.take (min (↑(V (List.take (160 : Nat) cs) (0 : Int) (20 : Int)).length : Int) (↑(V
  (List.take (160 : Nat) ds) (0 : Int) (20 : Int)).length : Int)).toNat (V (List.take (160 : Nat) cs) (0 : Int) (20 : Int))))) (oN (List.drop (0 : Nat) (List.take (min (↑(V
  (List.take (160 : Nat) cs) (0 : Int) (20 : Int)).length : Int) (↑(V (List.take (160 : Nat) ds) (0 : Int) (20 : Int)).length : Int)).toNat (V (List.take (160 : Nat) ds) (0 : Int)
  (20 : Int))))) (oQ (List.drop (0 : Nat) (List.take (min (↑(V (List.take (160 : Nat) cs) (0 : Int) (20 : Int)).length : Int) (↑(V (List.take (160 : Nat) ds) (0 : Int) (20 :
  Int)).length : Int)).toNat (V (List.take (160 : Nat) ds) (0 : Int) (20 : Int)))))) (kQ (oN (List.drop (0 : Nat) (List.take (min (↑(V (List.take (160 : Nat) cs) (0 : Int) (20 :
  Int)).length : Int) (↑(V (List.take (160 : Nat) ds) (0 : Int) (20 : Int)).length : Int)).toNat (V (List.take (160 : Nat) cs) (0 : Int) (20 : Int))))) (oQ (List.drop (0 : Nat)
  (List.take (min (↑(V (List.take (160 : Nat) cs) (0 : Int) (20 : Int)).length : Int) (↑(V (List.take (160 : Nat) ds) (0 : Int) (20 : Int)).length : Int)).toNat (V (List.take (160 :
  Nat) cs) (0 : Int) (20 : Int))))) (oN (List.drop (0 : Nat) (List.take (min (↑(V (List.take (160 : Nat) cs) (0 : Int) (20 : Int)).length : Int) (↑(V (List.take (160 : Nat) ds) (0 :
  Int) (20 : Int)).length : Int)).toNat (V (List.take (160 : Nat) ds) (0 : Int) (20 : Int))))) (oQ (List.drop (0 : Nat) (List.take (min (↑(V (List.take (160 : Nat) cs) (0 : Int) (20
  : Int)).length : Int) (↑(V (List.take (160 : Nat) ds) (0 : Int) (20 : Int)).length : Int)).toNat (V (List.take (160 : Nat) ds) (0 : Int) (20 : Int)))))) ∧ FrP (1 : Int) (1 : Int))
  ∧ bif decide (C (kP (oN (List.drop (0 : Nat) (List.take (min (↑(V (List.take (160 : Nat) cs) (0 : Int) (20 : Int)).length : Int) (↑(V (List.take (160 : Nat) ds) (0 : Int) (20 :
  Int)).length : Int)).toNat (V (List.take (160 : Nat) cs) (0 : Int) (20 : Int))))) (oQ (List.drop (0 : Nat) (List.take (min (↑(V (List.take (160 : Nat) cs) (0 : Int) (20 :
  Int)).length : Int) (↑(V (List.take (160 : Nat) ds) (0 : Int) (20 : Int)).length : Int)).toNat (V (List.take (160 : Nat) cs) (0 : Int) (20 : Int))))) (oN (List.drop (0 : Nat)
  (List.take (min (↑(V (List.take (160 : Nat) cs) (0 : Int) (20 : Int)).length : Int) (↑(V (List.take (160 : Nat) ds) (0 : Int) (20 : Int)).length : Int)).toNat (V (List.take (160 :
  Nat) ds) (0 : Int) (20 : Int))))) (oQ (List.drop (0 : Nat) (List.take (min (↑(V (List.take (160 : Nat) cs) (0 : Int) (20 : Int)).length : Int) (↑(V (List.take (160 : Nat) ds) (0 :
  Int) (20 : Int)).length : Int)).toNat (V (List.take (160 : Nat) ds) (0 : Int) (20 : Int)))))) (kQ (oN (List.drop (0 : Nat) (List.take (min (↑(V (List.take (160 : Nat) cs) (0 : Int)
  (20 : Int)).length : Int) (↑(V (List.take (160 : Nat) ds) (0 : Int) (20 : Int)).length : Int)).toNat (V (List.take (160 : Nat) cs) (0 : Int) (20 : Int))))) (oQ (List.drop (0 : Nat)
  (List.take (min (↑(V (List.take (160 : Nat) cs) (0 : Int) (20 : Int)).length : Int) (↑(V (List.take (160 : Nat) ds) (0 : Int) (20 : Int)).length : Int)).toNat (V (List.take (160 :
  Nat) cs) (0 : Int) (20 : Int))))) (oN (List.drop (0 : Nat) (List.take (min (↑(V (List.take (160 : Nat) cs) (0 : Int) (20 : Int)).length : Int) (↑(V (List.take (160 : Nat) ds) (0 :
  Int) (20 : Int)).length : Int)).toNat (V (List.take (160 : Nat) ds) (0 : Int) (20 : Int))))) (oQ (List.drop (0 : Nat) (List.take (min (↑(V (List.take (160 : Nat) cs) (0 : Int) (20
  : Int)).length : Int) (↑(V (List.take (160 : Nat) ds) (0 : Int) (20 : Int)).length : Int)).toNat (V (List.take (160 : Nat) ds) (0 : Int) (20 : Int)))))) (1 : Int) (1 : Int) ≤ (0 :
  Int)) then decide ((decide (kP (oN (List.drop (0 : Nat) (List.take (min (↑(V (List.take (160 : Nat) cs) (0 : Int) (20 : Int)).length : Int) (↑(V (List.take (160 : Nat) ds) (0 :
  Int) (20 : Int)).length : Int)).toNat (V (List.take (160 : Nat) cs) (0 : Int) (20 : Int))))) (oQ (List.drop (0 : Nat) (List.take (min (↑(V (List.take (160 : Nat) cs) (0 : Int) (20
  : Int)).length : Int) (↑(V (List.take (160 : Nat) ds) (0 : Int) (20 : Int)).length : Int)).toNat (V (List.take (160 : Nat) cs) (0 : Int) (20 : Int))))) (oN (List.drop (0 : Nat)
  (List.take (min (↑(V (List.take (160 : Nat) cs) (0 : Int) (20 : Int)).length : Int) (↑(V (List.take (160 : Nat) ds) (0 : Int) (20 : Int)).length : Int)).toNat (V (List.take (160 :
  Nat) ds) (0 : Int) (20 : Int))))) (oQ (List.drop (0 : Nat) (List.take (min (↑(V (List.take (160 : Nat) cs) (0 : Int) (20 : Int)).length : Int) (↑(V (List.take (160 : Nat) ds) (0 :
  Int) (20 : Int)).length : Int)).toNat (V (List.take (160 : Nat) ds) (0 : Int) (20 : Int))))) = (1 : Int)) && (decide (kQ (oN (List.drop (0 : Nat) (List.take (min (↑(V (List.take
  (160 : Nat) cs) (0 : Int) (20 : Int)).length : Int) (↑(V (List.take (160 : Nat) ds) (0 : Int) (20 : Int)).length : Int)).toNat (V (List.take (160 : Nat) cs) (0 : Int) (20 :
  Int))))) (oQ (List.drop (0 : Nat) (List.take (min (↑(V (List.take (160 : Nat) cs) (0 : Int) (20 : Int)).length : Int) (↑(V (List.take (160 : Nat) ds) (0 : Int) (20 : Int)).length :
  Int)).toNat (V (List.take (160 : Nat) cs) (0 : Int) (20 : Int))))) (oN (List.drop (0 : Nat) (List.take (min (↑(V (List.take (160 : Nat) cs) (0 : Int) (20 : Int)).length : Int) (↑(V
  (List.take (160 : Nat) ds) (0 : Int) (20 : Int)).length : Int)).toNat (V (List.take (160 : Nat) ds) (0 : Int) (20 : Int))))) (oQ (List.drop (0 : Nat) (List.take (min (↑(V
  (List.take (160 : Nat) cs) (0 : Int) (20 : Int)).length : Int) (↑(V (List.take (160 : Nat) ds) (0 : Int) (20 : Int)).length : Int)).toNat (V (List.take (160 : Nat) ds) (0 : Int)
  (20 : Int))))) = (1 : Int)) && true)) = decide (oQ (List.drop (0 : Nat) (List.take (min (↑(V (List.take (160 : Nat) cs) (0 : Int) (20 : Int)).length : Int) (↑(V (List.take (160 :
  Nat) ds) (0 : Int) (20 : Int)).length : Int)).toNat (V (List.take (160 : Nat) cs) (0 : Int) (20 : Int)))) = (0 : Int))) = true else false = true else false = true else false = true
  else false = true else False else False else False else False else False else False else False
set_option maxRecDepth 100000 in
theorem lBounds_P : lBounds_T := by
  unfold lBounds_T
  intro gl g g' cs ds th oN oS oA oQ oE V J tH tA tM tO kP kQ kE dN dD dE fN fD fE rN rD rE hN hD hE C ⟨v1, v2, b, s⟩ _ _ ht
  have p1 := v1.p
  have p2 := v2.p
  have l1 := v1.l
  have l2 := v2.l
  have t1 := v1.t
  have t2 := v2.t
  refine ⟨trivial, by decide, ⟨v1.f, by decide, by decide⟩, by decide, ⟨v2.f, by decide, by decide⟩, p1, ?_⟩
  generalize V (List.take 160 cs) 0 20 = L at *
  generalize V (List.take 160 ds) 0 20 = M at *
  have hm : 0 ≤ min (L.length : Int) M.length ∧ min (L.length : Int) M.length ≤ L.length ∧ min (L.length : Int) M.length ≤ M.length := by omega
  generalize min (L.length : Int) M.length = n at *
  have tb := b.tb
  have h1 := tb.h
  have h2 := tb.a
  have h3 := tb.m
  have h4 := tb.o
  have hs := b.sum
  have hl := b.ln
  refine cs' (fun q => absurd s.l q) (fun _ => cdI (by omega) (cdI (by omega) (cdI (by omega) (cs' (fun q => absurd hs q) (fun _ => ⟨tb, tb, tb, tb, ?_, fun _ _ => ⟨?_, fun _ _ => ?_⟩⟩)))))
  · exact cs' (fun q => ⟨⟨(b.fd q).1, fr11⟩, cs' (fun k => absurd k (b.fd q).2.1) (fun _ => ⟨⟨(b.fd q).1, fr01⟩, cs' (fun k => absurd k (b.fd q).2.2.1) (fun _ => cs' (fun k => absurd (b.fd q).2.2.2.1 k) (fun _ => ⟨⟨(b.fr (b.fd q).2.2.2.1).1, (b.fd q).1⟩, cs' (fun k => absurd k (b.fd q).2.2.2.2) (fun _ => cs' (fun q => ⟨⟨(b.ff q).1, fr11⟩, cs' (fun k => absurd k (b.ff q).2.1) (fun _ => ⟨⟨(b.ff q).1, fr01⟩, cs' (fun k => absurd k (b.ff q).2.2) (fun _ => cs' (fun q => ⟨⟨(b.fr q).1, fr01⟩, cs' (fun k => absurd k (b.fr q).2) (fun _ => ⟨(), ⟨trivial⟩, ⟨⟨trivial, rfl⟩, ⟨trivial, rfl⟩, rfl, rfl, rfl, rfl, trivial⟩, ⟨rfl, rfl, rfl, rfl, trivial⟩, ⟨rfl, rfl, trivial⟩, ⟨rfl, rfl, trivial⟩, trivial⟩)⟩) (fun _ => ⟨(), ⟨trivial⟩, ⟨⟨trivial, rfl⟩, ⟨trivial, rfl⟩, rfl, rfl, rfl, rfl, trivial⟩, ⟨rfl, rfl, rfl, rfl, trivial⟩, ⟨rfl, rfl, trivial⟩, ⟨rfl, rfl, trivial⟩, trivial⟩))⟩)⟩) (fun _ => cs' (fun q => ⟨⟨(b.fr q).1, fr01⟩, cs' (fun k => absurd k (b.fr q).2) (fun _ => ⟨(), ⟨trivial⟩, ⟨⟨trivial, rfl⟩, ⟨trivial, rfl⟩, rfl, rfl, rfl, rfl, trivial⟩, ⟨rfl, rfl, rfl, rfl, trivial⟩, ⟨rfl, rfl, trivial⟩, ⟨rfl, rfl, trivial⟩, trivial⟩)⟩) (fun _ => ⟨(), ⟨trivial⟩, ⟨⟨trivial, rfl⟩, ⟨trivial, rfl⟩, rfl, rfl, rfl, rfl, trivial⟩, ⟨rfl, rfl, rfl, rfl, trivial⟩, ⟨rfl, rfl, trivial⟩, ⟨rfl, rfl, trivial⟩, trivial⟩)))⟩))⟩)⟩) (fun _ => cs' (fun q => ⟨⟨(b.ff q).1, fr11⟩, cs' (fun k => absurd k (b.ff q).2.1) (fun _ => ⟨⟨(b.ff q).1, fr01⟩, cs' (fun k => absurd k (b.ff q).2.2) (fun _ => cs' (fun q => ⟨⟨(b.fr q).1, fr01⟩, cs' (fun k => absurd k (b.fr q).2) (fun _ => ⟨(), ⟨trivial⟩, ⟨⟨trivial, rfl⟩, ⟨trivial, rfl⟩, rfl, rfl, rfl, rfl, trivial⟩, ⟨rfl, rfl, rfl, rfl, trivial⟩, ⟨rfl, rfl, trivial⟩, ⟨rfl, rfl, trivial⟩, trivial⟩)⟩) (fun _ => ⟨(), ⟨trivial⟩, ⟨⟨trivial, rfl⟩, ⟨trivial, rfl⟩, rfl, rfl, rfl, rfl, trivial⟩, ⟨rfl, rfl, rfl, rfl, trivial⟩, ⟨rfl, rfl, trivial⟩, ⟨rfl, rfl, trivial⟩, trivial⟩))⟩)⟩) (fun _ => cs' (fun q => ⟨⟨(b.fr q).1, fr01⟩, cs' (fun k => absurd k (b.fr q).2) (fun _ => ⟨(), ⟨trivial⟩, ⟨⟨trivial, rfl⟩, ⟨trivial, rfl⟩, rfl, rfl, rfl, rfl, trivial⟩, ⟨rfl, rfl, rfl, rfl, trivial⟩, ⟨rfl, rfl, trivial⟩, ⟨rfl, rfl, trivial⟩, trivial⟩)⟩) (fun _ => ⟨(), ⟨trivial⟩, ⟨⟨trivial, rfl⟩, ⟨trivial, rfl⟩, rfl, rfl, rfl, rfl, trivial⟩, ⟨rfl, rfl, rfl, rfl, trivial⟩, ⟨rfl, rfl, trivial⟩, ⟨rfl, rfl, trivial⟩, trivial⟩)))
  · exact cs' (fun q => ⟨⟨(b.fh q).1, fr11⟩, cs' (fun k => absurd k (b.fh q).2.1) (fun _ => ⟨⟨(b.fh q).1, frm1⟩, cs' (fun k => absurd k (b.fh q).2.2) (fun _ => cs' (fun e => bq1 (b.fk q) e ⟨(), ⟨trivial⟩, ⟨⟨trivial, rfl⟩, ⟨trivial, rfl⟩, rfl, trivial⟩, ⟨rfl, rfl, trivial⟩, trivial⟩) (fun e => bq2 (b.fk q) e ⟨(), ⟨trivial⟩, ⟨⟨trivial, rfl⟩, ⟨trivial, rfl⟩, rfl, trivial⟩, ⟨rfl, rfl, trivial⟩, trivial⟩))⟩)⟩) (fun _ => ⟨(), ⟨trivial⟩, ⟨⟨trivial, rfl⟩, ⟨trivial, rfl⟩, rfl, trivial⟩, ⟨rfl, rfl, trivial⟩, trivial⟩)
  · refine cs' (fun _ => cs' (fun _ => ⟨t1 _, cs' (fun _ => cs' (fun _ => ⟨t2 _, trivial, ?_⟩) (fun k => absurd (show _ ∧ _ by omega) k)) (fun k => absurd (show _ ∧ _ by omega) k)⟩) (fun k => absurd (show _ ∧ _ by omega) k)) (fun k => absurd (show _ ∧ _ by omega) k)
    exact cs' (fun _ => cs' (fun _ => cs' (fun k => cs' (fun _ => rfl) (fun nz => cs' (fun _ => rfl) (fun qz => absurd (s.z k) (fun o => o.elim nz qz)))) (fun k => cs' (fun q => ⟨⟨(s.k q).1, fr11⟩, cs' (fun _ => bq3 (s.k q).2.2) (fun k => absurd (s.k q).2.1 k)⟩) (fun k => absurd (Decidable.not_not.1 ‹¬ ¬ _›) k))) (fun k => absurd s.b k)) (fun k => absurd s.a k)
def lBounds_S : Prop := ∀ (gl : Glob) (g g' : Bool) (cs ds : List (List AV)) (th : Int) (oN oS oA oQ oE : List (List AV) → Int) (V : List (List AV) → Int → Int → List (List AV)) (J : List (List AV) → Int → Int → Int) (tH tA tM tO : List (List AV) → Int → Int) (kP kQ kE : Int → Int → Int → Int → Int) (dN dD dE fN fD fE rN rD rE hN hD hE C : Int → Int → Int → Int → Int), PrV cs V ∧ PrV ds V ∧ BdF (V (List.take 160 cs) 0 20).length (tH (V (List.take 160 cs) 0 20) (th.tmod 10)) (tA (V (List.take 160 cs) 0 20) (th.tmod 10)) (tM (V (List.take 160 cs) 0 20) (th.tmod 10)) (tO (V (List.take 160 cs) 0 20) (th.tmod 10)) (dN (tH (V (List.take 160 cs) 0 20) (th.tmod 10)) (tA (V (List.take 160 cs) 0 20) (th.tmod 10)) (tM (V (List.take 160 cs) 0 20) (th.tmod 10)) (tO (V (List.take 160 cs) 0 20) (th.tmod 10))) (dD (tH (V (List.take 160 cs) 0 20) (th.tmod 10)) (tA (V (List.take 160 cs) 0 20) (th.tmod 10)) (tM (V (List.take 160 cs) 0 20) (th.tmod 10)) (tO (V (List.take 160 cs) 0 20) (th.tmod 10))) (dE (tH (V (List.take 160 cs) 0 20) (th.tmod 10)) (tA (V (List.take 160 cs) 0 20) (th.tmod 10)) (tM (V (List.take 160 cs) 0 20) (th.tmod 10)) (tO (V (List.take 160 cs) 0 20) (th.tmod 10))) (fN (tH (V (List.take 160 cs) 0 20) (th.tmod 10)) (tA (V (List.take 160 cs) 0 20) (th.tmod 10)) (tM (V (List.take 160 cs) 0 20) (th.tmod 10)) (tO (V (List.take 160 cs) 0 20) (th.tmod 10))) (fD (tH (V (List.take 160 cs) 0 20) (th.tmod 10)) (tA (V (List.take 160 cs) 0 20) (th.tmod 10)) (tM (V (List.take 160 cs) 0 20) (th.tmod 10)) (tO (V (List.take 160 cs) 0 20) (th.tmod 10))) (fE (tH (V (List.take 160 cs) 0 20) (th.tmod 10)) (tA (V (List.take 160 cs) 0 20) (th.tmod 10)) (tM (V (List.take 160 cs) 0 20) (th.tmod 10)) (tO (V (List.take 160 cs) 0 20) (th.tmod 10))) (rN (tH (V (List.take 160 cs) 0 20) (th.tmod 10)) (tA (V (List.take 160 cs) 0 20) (th.tmod 10)) (tM (V (List.take 160 cs) 0 20) (th.tmod 10)) (tO (V (List.take 160 cs) 0 20) (th.tmod 10))) (rD (tH (V (List.take 160 cs) 0 20) (th.tmod 10)) (tA (V (List.take 160 cs) 0 20) (th.tmod 10)) (tM (V (List.take 160 cs) 0 20) (th.tmod 10)) (tO (V (List.take 160 cs) 0 20) (th.tmod 10))) (rE (tH (V (List.take 160 cs) 0 20) (th.tmod 10)) (tA (V (List.take 160 cs) 0 20) (th.tmod 10)) (tM (V (List.take 160 cs) 0 20) (th.tmod 10)) (tO (V (List.take 160 cs) 0 20) (th.tmod 10))) (hN (tH (V (List.take 160 cs) 0 20) (th.tmod 10)) (tA (V (List.take 160 cs) 0 20) (th.tmod 10)) (tM (V (List.take 160 cs) 0 20) (th.tmod 10)) (tO (V (List.take 160 cs) 0 20) (th.tmod 10))) (hD (tH (V (List.take 160 cs) 0 20) (th.tmod 10)) (tA (V (List.take 160 cs) 0 20) (th.tmod 10)) (tM (V (List.take 160 cs) 0 20) (th.tmod 10)) (tO (V (List.take 160 cs) 0 20) (th.tmod 10))) (hE (tH (V (List.take 160 cs) 0 20) (th.tmod 10)) (tA (V (List.take 160 cs) 0 20) (th.tmod 10)) (tM (V (List.take 160 cs) 0 20) (th.tmod 10)) (tO (V (List.take 160 cs) 0 20) (th.tmod 10))) C ∧ BdK (min ((V (List.take 160 cs) 0 20).length : Int) (V (List.take 160 ds) 0 20).length) (oE (V (List.take 160 cs) 0 20)) (oE (List.take (min ((V (List.take 160 cs) 0 20).length : Int) (V (List.take 160 ds) 0 20).length).toNat (V (List.take 160 cs) 0 20))) (oE (List.take (min ((V (List.take 160 cs) 0 20).length : Int) (V (List.take 160 ds) 0 20).length).toNat (V (List.take 160 ds) 0 20))) (oN (List.take (min ((V (List.take 160 cs) 0 20).length : Int) (V (List.take 160 ds) 0 20).length).toNat (V (List.take 160 cs) 0 20))) (oQ (List.take (min ((V (List.take 160 cs) 0 20).length : Int) (V (List.take 160 ds) 0 20).length).toNat (V (List.take 160 cs) 0 20))) (oN (List.take (min ((V (List.take 160 cs) 0 20).length : Int) (V (List.take 160 ds) 0 20).length).toNat (V (List.take 160 ds) 0 20))) (oQ (List.take (min ((V (List.take 160 cs) 0 20).length : Int) (V (List.take 160 ds) 0 20).length).toNat (V (List.take 160 ds) 0 20))) (kP (oN (List.take (min ((V (List.take 160 cs) 0 20).length : Int) (V (List.take 160 ds) 0 20).length).toNat (V (List.take 160 cs) 0 20))) (oQ (List.take (min ((V (List.take 160 cs) 0 20).length : Int) (V (List.take 160 ds) 0 20).length).toNat (V (List.take 160 cs) 0 20))) (oN (List.take (min ((V (List.take 160 cs) 0 20).length : Int) (V (List.take 160 ds) 0 20).length).toNat (V (List.take 160 ds) 0 20))) (oQ (List.take (min ((V (List.take 160 cs) 0 20).length : Int) (V (List.take 160 ds) 0 20).length).toNat (V (List.take 160 ds) 0 20)))) (kQ (oN (List.take (min ((V (List.take 160 cs) 0 20).length : Int) (V (List.take 160 ds) 0 20).length).toNat (V (List.take 160 cs) 0 20))) (oQ (List.take (min ((V (List.take 160 cs) 0 20).length : Int) (V (List.take 160 ds) 0 20).length).toNat (V (List.take 160 cs) 0 20))) (oN (List.take (min ((V (List.take 160 cs) 0 20).length : Int) (V (List.take 160 ds) 0 20).length).toNat (V (List.take 160 ds) 0 20))) (oQ (List.take (min ((V (List.take 160 cs) 0 20).length : Int) (V (List.take 160 ds) 0 20).length).toNat (V (List.take 160 ds) 0 20)))) (kE (oN (List.take (min ((V (List.take 160 cs) 0 20).length : Int) (V (List.take 160 ds) 0 20).length).toNat (V (List.take 160 cs) 0 20))) (oQ (List.take (min ((V (List.take 160 cs) 0 20).length : Int) (V (List.take 160 ds) 0 20).length).toNat (V (List.take 160 cs) 0 20))) (oN (List.take (min ((V (List.take 160 cs) 0 20).length : Int) (V (List.take 160 ds) 0 20).length).toNat (V (List.take 160 ds) 0 20))) (oQ (List.take (min ((V (List.take 160 cs) 0 20).length : Int) (V (List.take 160 ds) 0 20).length).toNat (V (List.take 160 ds) 0 20)))) C → fnK Try.prog { glob := gl, spec := lk [(9, sawake_s), (21, ofG_s oN oS oA oQ oE), (22, tbG_s tH tA tM tO oE), (25, skG_s kP kQ kE), (38, frG_s C), (11, scG_s dN dD dE), (13, scG_s fN fD fE), (15, scG_s rN rD rE), (17, scG_s hN hD hE)], specH := lk [(19, fnew_s), (20, prG_s V J)], nowf := true } { nt := 222, drop := drp [(1, 33554432), (3, 8455716864), (4, 2190433320960), (5, 288228177128456192), (7, 1729382256910270464), (8, 71481133285624512512), (9, 2287396265139984400384), (10, 73196680484479500812288), (11, 2342293775503344025993216), (12, 1361129467683751436001859200468723433472), (14, 365375406610466794183413500472073895459837444096), (16, 22653275378628995232157114907102386804666954416128), (17, 2969771327056394729789887580079487095940854927327232), (18, 380130729863218525413105610250174348280429430697885696), (19, 24136804768637749519143965677617369641995141174391734272), (20, 6739986666763140020012899550021174115974881158697243294320964927488)], tys := [28] } (invs [(100014, bdC1 (V (List.take 160 cs) 0 20) (V (List.take 160 ds) 0 20) (tH (V (List.take 160 cs) 0 20) (th.tmod 10)) (tA (V (List.take 160 cs) 0 20) (th.tmod 10)) (tM (V (List.take 160 cs) 0 20) (th.tmod 10)) (tO (V (List.take 160 cs) 0 20) (th.tmod 10)) (hN (tH (V (List.take 160 cs) 0 20) (th.tmod 10)) (tA (V (List.take 160 cs) 0 20) (th.tmod 10)) (tM (V (List.take 160 cs) 0 20) (th.tmod 10)) (tO (V (List.take 160 cs) 0 20) (th.tmod 10))) (hD (tH (V (List.take 160 cs) 0 20) (th.tmod 10)) (tA (V (List.take 160 cs) 0 20) (th.tmod 10)) (tM (V (List.take 160 cs) 0 20) (th.tmod 10)) (tO (V (List.take 160 cs) 0 20) (th.tmod 10))) (hE (tH (V (List.take 160 cs) 0 20) (th.tmod 10)) (tA (V (List.take 160 cs) 0 20) (th.tmod 10)) (tM (V (List.take 160 cs) 0 20) (th.tmod 10)) (tO (V (List.take 160 cs) 0 20) (th.tmod 10)))), (100016, bdC2 (V (List.take 160 cs) 0 20) (V (List.take 160 ds) 0 20))]) 6 Try.f8 [.sl 1 g cs, .sl 1 g' ds, .int .u8 th] (.bool true)
set_option maxRecDepth 100000 in
theorem lBounds_e : lBounds_T = lBounds_S := by kernel_rfl
theorem lBounds_v : lBounds_S := @Eq.mp (lBounds_T) (lBounds_S) (lBounds_e) lBounds_P
end Go.Proofs.Ytjllgdpnbllnjaa
