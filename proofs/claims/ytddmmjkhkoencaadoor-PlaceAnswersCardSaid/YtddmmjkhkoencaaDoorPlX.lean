/- Places: the law across an edge. -/
import Derived.Test.YtddmmjkhkoencaaDoorPlN
import Derived.Test.YtddmmjkhkoencaaDoorPlS
import Derived.Test.YtddmmjkhkoencaaDoorDg
namespace Go.Proofs.YtddmmjkhkoencaaDoor
open Go
set_option linter.unusedVariables false
set_option linter.unusedSimpArgs false
--KIND across S synoptic/place.Across glob

def nV_s (X : List (List AV)) (V : Int → Int → Int) (J : Int → Int) : SpH
  | [.ptr 0 0, .int .i64 n], [.cells [.sl 1 false xs, .int .i64 i]] => some ((xs = X ∧ 0 ≤ i) ∧ 1 ≤ n, .int .i64 (V i n), [.cells [.sl 1 false xs, .int .i64 (J i)]])
  | _, _ => none
def acrG_s (G : Int → Int → Int) : Sp
  | [.int .i64 n, .int .i64 c] => some ((0 ≤ n ∧ n < 20) ∧ 0 ≤ c ∧ c < 3, .tup [.int .i64 (G n c), .int .i64 0])
  | _ => none
def adrG_s (L : Int → Int → Int → Int → List (List AV)) : Sp
  | [.agg [.int .i64 f, .int .i64 a, .int .i64 b, .int .i64 c]] => some (Vld f a b c, .tup [.sl 4 false (L f a b c), .int .i64 0])
  | _ => none
def corG_s (K : Int → Nat → Int) : Sp
  | [.int .i64 n] => some (0 ≤ n ∧ n < 20, .tup [.agg [.int .i64 (K n 0), .int .i64 (K n 1), .int .i64 (K n 2)], .int .i64 0])
  | _ => none
structure AcrV (zs X : List (List AV)) (V : Int → Int → Int) (J : Int → Int) : Prop where
  X : zs.take 2000 = X
  v : ∀ i n, 1 ≤ n → 0 ≤ V i n ∧ V i n < n
  jle : ∀ i, 0 ≤ i → 0 ≤ J i
structure KeyP (v : Int → Int → Int) (i k : Int) : Prop where
  e : k = v i 3
/-- The weights: a at the next corner, the others at the one behind it. -/
def rowK (L : Int → Int → Int → Int → List (List AV)) (f k a : Int) : List (List AV) := cond (decide (k = 0)) (L f 0 a (840 - a)) (cond (decide (k = 1)) (L f (840 - a) 0 a) (L f a (840 - a) 0))
def onK (U : Int → Int → Int → Int → Int → Nat → Int) (f k a g : Int) (m : Nat) : Int := cond (decide (k = 0)) (U f 0 a (840 - a) g m) (cond (decide (k = 1)) (U f (840 - a) 0 a g m) (U f a (840 - a) 0 g m))
def isF (g : Int) (r : List AV) : Bool := decide (cellI (r.take 1) = g)
def seen (l : List (List AV)) (g : Int) (n : Nat) : Bool := (l.take n).any (isF g)
structure OutP (l : List (List AV)) (g : Int) (x : Int × Bool) : Prop where
  lo : 0 ≤ x.1
  hi : x.1 ≤ l.length
  fnd : x.2 = seen l g x.1.toNat
structure InnP (m : Int) : Prop where
  lo : 0 ≤ m
  hi : m ≤ 3
def cutK (V : Int → Int → Int) (J : Int → Int) : LInv := ⟨Int, fun k => ⟨[(2, .bool false), (4, .int .i64 (V 0 20)), (5, .int .i64 k), (6, .int .i64 (V (J (J 0)) 841))], []⟩, KeyP V (J 0), fun _ => 0, some [0, 1, 2]⟩
def outI (L : Int → Int → Int → Int → List (List AV)) (G : Int → Int → Int) (K : Int → Nat → Int) (f a k : Int) : LInv := ⟨Int × Bool, fun x => ⟨[(5, .int .i64 k), (6, .int .i64 a), (9, .int .i64 (G f k)), (11, .sl 4 false (rowK L f k a)), (13, .ptr 13 0), (15, .bool x.2), (76, .sl 4 false (rowK L f k a)), (77, .int .i64 (rowK L f k a).length), (78, .int .i64 x.1)],
  [(13, .cells [.int .i64 (K f 0), .int .i64 (K f 1), .int .i64 (K f 2)])]⟩, OutP (rowK L f k a) (G f k), fun x => ((rowK L f k a).length - x.1).toNat, none⟩
def innI (L : Int → Int → Int → Int → List (List AV)) (G : Int → Int → Int) (K : Int → Nat → Int) (U : Int → Int → Int → Int → Int → Nat → Int) (f a k i : Int) : LInv := ⟨Int, fun m => ⟨[(5, .int .i64 k), (6, .int .i64 a), (9, .int .i64 (G f k)), (11, .sl 4 false (rowK L f k a)), (13, .ptr 13 0), (15, .bool true), (18, .ptr 18 0), (20, .ptr 20 0), (21, .int .i64 m), (76, .sl 4 false (rowK L f k a)), (77, .int .i64 (rowK L f k a).length), (78, .int .i64 i)],
  [(13, .cells [.int .i64 (K f 0), .int .i64 (K f 1), .int .i64 (K f 2)]), (18, .cells [.int .i64 (K (G f k) 0), .int .i64 (K (G f k) 1), .int .i64 (K (G f k) 2)]), (20, .cells [.int .i64 (onK U f k a (G f k) 0), .int .i64 (onK U f k a (G f k) 1), .int .i64 (onK U f k a (G f k) 2)])]⟩, InnP, fun m => (3 - m).toNat, none⟩
def numK (st : St) (s : Nat) (f : Int → Option LInv) : Option LInv := match lk st.tmps s with
  | some (.int _ n) => f n
  | _ => none
theorem seen_step {l : List (List AV)} {g : Int} {n : Nat} (h : n < l.length) : seen l g (n + 1) = (seen l g n || isF g (l.getD n [])) := by
  unfold seen
  rw [List.take_add_one, List.any_append, List.getD_eq_getElem?_getD, List.getElem?_eq_getElem h]
  simp
/-- What the law needs of a face, an edge and a weight. -/
structure AcrF (R : List (List AV)) (w a p q x0 x1 x2 : Int) (u : Int → Nat → Int) : Prop where
  g : 0 ≤ w ∧ w < 20
  row : ∀ i, i < R.length → ∃ n, R.getD i [] = [.int .i64 n, .int .i64 (u n 0), .int .i64 (u n 1), .int .i64 (u n 2)]
  all : seen R w R.length = true
  c1 : ∀ m : Nat, m < 3 → sel3 x0 x1 x2 m = p → sel3 (u w 0) (u w 1) (u w 2) m = a
  c2 : ∀ m : Nat, m < 3 → ¬ sel3 x0 x1 x2 m = p → sel3 x0 x1 x2 m = q → sel3 (u w 0) (u w 1) (u w 2) m = 840 - a
  c3 : ∀ m : Nat, m < 3 → ¬ sel3 x0 x1 x2 m = p → ¬ sel3 x0 x1 x2 m = q → sel3 (u w 0) (u w 1) (u w 2) m = 0
  len : ¬ a = 0 → ¬ a = 840 → (R.length : Int) = 2
  small : R.length ≤ 20
structure AcrA (L : Int → Int → Int → Int → List (List AV)) (G : Int → Int → Int) (K : Int → Nat → Int) (U : Int → Int → Int → Int → Int → Nat → Int) : Prop where
  f0 : ∀ f a, 0 ≤ f ∧ f < 20 → 0 ≤ a ∧ a ≤ 840 → AcrF (rowK L f 0 a) (G f 0) a (K f 1) (K f 2) (K (G f 0) 0) (K (G f 0) 1) (K (G f 0) 2) (onK U f 0 a)
  f1 : ∀ f a, 0 ≤ f ∧ f < 20 → 0 ≤ a ∧ a ≤ 840 → AcrF (rowK L f 1 a) (G f 1) a (K f 2) (K f 0) (K (G f 1) 0) (K (G f 1) 1) (K (G f 1) 2) (onK U f 1 a)
  f2 : ∀ f a, 0 ≤ f ∧ f < 20 → 0 ≤ a ∧ a ≤ 840 → AcrF (rowK L f 2 a) (G f 2) a (K f 0) (K f 1) (K (G f 2) 0) (K (G f 2) 1) (K (G f 2) 2) (onK U f 2 a)
theorem pick3 (p0 p1 p2 : Int) {m : Int} (h0 : 0 ≤ m) (h : m < 3) : List.take 1 (List.drop (0 + m.toNat * 1) [AV.int .i64 p0, .int .i64 p1, .int .i64 p2]) = [.int .i64 (sel3 p0 p1 p2 m.toNat)] := by
  have : m.toNat = 0 ∨ m.toNat = 1 ∨ m.toNat = 2 := by omega
  rcases this with e | e | e <;> rw [e] <;> rfl
set_option maxRecDepth 100000 in
def placeAcross_T : Prop :=
  ∀ (zs X : List (List AV)) (V : Int → Int → Int) (J : Int → Int) (L : Int → Int → Int → Int → List (List AV)) (G : Int → Int → Int) (K : Int → Nat → Int) (U : Int → Int → Int → Int
  → Int → Nat → Int), AcrV zs X V J ∧ AcrA L G K U → True → List.take (2000 : Nat) zs = X ∧ (((X = X ∧ (0 : Int) ≤ (0 : Int)) ∧ (1 : Int) ≤ (20 : Int)) ∧ ((X = X ∧ (0 : Int) ≤ J (0 :
  Int)) ∧ (1 : Int) ≤ (3 : Int)) ∧ ((X = X ∧ (0 : Int) ≤ J (J (0 : Int))) ∧ (1 : Int) ≤ (841 : Int)) ∧ ∃ x, KeyP V (J (0 : Int)) x ∧ (false = false ∧ V (0 : Int) (20 : Int) = V (0 :
  Int) (20 : Int) ∧ V (J (0 : Int)) (3 : Int) = x ∧ V (J (J (0 : Int))) (841 : Int) = V (J (J (0 : Int))) (841 : Int) ∧ True) ∧ True) ∧ (∀ (x : Int), KeyP V (J (0 : Int)) x → x = (0
  : Int) ∨ x = (1 : Int) ∨ x = (2 : Int) ∨ False) ∧ (KeyP V (J (0 : Int)) (0 : Int) → bif decide (rng IntKind.i64 ((840 : Int) - V (J (J (0 : Int))) (841 : Int))) then (((0 : Int) ≤
  V (0 : Int) (20 : Int) ∧ V (0 : Int) (20 : Int) < (20 : Int)) ∧ (0 : Int) ≤ (0 : Int) ∧ (0 : Int) < (3 : Int)) ∧ Vld (V (0 : Int) (20 : Int)) (0 : Int) (V (J (J (0 : Int))) (841 :
  Int)) ((840 : Int) - V (J (J (0 : Int))) (841 : Int)) ∧ ((0 : Int) ≤ V (0 : Int) (20 : Int) ∧ V (0 : Int) (20 : Int) < (20 : Int)) ∧ (∃ x, OutP (rowK L (V (0 : Int) (20 : Int)) (0
  : Int) (V (J (J (0 : Int))) (841 : Int))) (G (V (0 : Int) (20 : Int)) (0 : Int)) x ∧ ((0 : Int) = (0 : Int) ∧ V (J (J (0 : Int))) (841 : Int) = V (J (J (0 : Int))) (841 : Int) ∧ G
  (V (0 : Int) (20 : Int)) (0 : Int) = G (V (0 : Int) (20 : Int)) (0 : Int) ∧ (True ∧ L (V (0 : Int) (20 : Int)) (0 : Int) (V (J (J (0 : Int))) (841 : Int)) ((840 : Int) - V (J (J (0
  : Int))) (841 : Int)) = rowK L (V (0 : Int) (20 : Int)) (0 : Int) (V (J (J (0 : Int))) (841 : Int))) ∧ (0 : Nat) = (0 : Nat) ∧ false = x.snd ∧ (True ∧ L (V (0 : Int) (20 : Int)) (0
  : Int) (V (J (J (0 : Int))) (841 : Int)) ((840 : Int) - V (J (J (0 : Int))) (841 : Int)) = rowK L (V (0 : Int) (20 : Int)) (0 : Int) (V (J (J (0 : Int))) (841 : Int))) ∧ (↑(L (V (0
  : Int) (20 : Int)) (0 : Int) (V (J (J (0 : Int))) (841 : Int)) ((840 : Int) - V (J (J (0 : Int))) (841 : Int))).length : Int) = (↑(rowK L (V (0 : Int) (20 : Int)) (0 : Int) (V (J
  (J (0 : Int))) (841 : Int))).length : Int) ∧ (0 : Int) = x.fst ∧ True) ∧ (K (V (0 : Int) (20 : Int)) (0 : Nat) = K (V (0 : Int) (20 : Int)) (0 : Nat) ∧ K (V (0 : Int) (20 : Int))
  (1 : Nat) = K (V (0 : Int) (20 : Int)) (1 : Nat) ∧ K (V (0 : Int) (20 : Int)) (2 : Nat) = K (V (0 : Int) (20 : Int)) (2 : Nat) ∧ True) ∧ True) ∧ ∀ (x : Int × Bool), OutP (rowK L (V
  (0 : Int) (20 : Int)) (0 : Int) (V (J (J (0 : Int))) (841 : Int))) (G (V (0 : Int) (20 : Int)) (0 : Int)) x → bif decide (x.fst < (↑(rowK L (V (0 : Int) (20 : Int)) (0 : Int) (V (J
  (J (0 : Int))) (841 : Int))).length : Int)) then bif decide ((0 : Int) ≤ x.fst ∧ x.fst < (↑(rowK L (V (0 : Int) (20 : Int)) (0 : Int) (V (J (J (0 : Int))) (841 : Int))).length :
  Int)) then ∃ n n_1 n_2 n_3, List.take [AV.int IntKind.i64 n, AV.int IntKind.i64 n_1, AV.int IntKind.i64 n_2, AV.int IntKind.i64 n_3].length ((rowK L (V (0 : Int) (20 : Int)) (0 :
  Int) (V (J (J (0 : Int))) (841 : Int))).getD x.fst.toNat []) = [AV.int IntKind.i64 n, AV.int IntKind.i64 n_1, AV.int IntKind.i64 n_2, AV.int IntKind.i64 n_3] ∧ bif decide ¬n = G (V
  (0 : Int) (20 : Int)) (0 : Int) then bif decide (rng IntKind.i64 (x.fst + (1 : Int))) then ∃ y, OutP (rowK L (V (0 : Int) (20 : Int)) (0 : Int) (V (J (J (0 : Int))) (841 : Int)))
  (G (V (0 : Int) (20 : Int)) (0 : Int)) y ∧ (outI L G K (V (0 : Int) (20 : Int)) (V (J (J (0 : Int))) (841 : Int)) (0 : Int)).m y < (outI L G K (V (0 : Int) (20 : Int)) (V (J (J (0
  : Int))) (841 : Int)) (0 : Int)).m x ∧ ((0 : Int) = (0 : Int) ∧ V (J (J (0 : Int))) (841 : Int) = V (J (J (0 : Int))) (841 : Int) ∧ G (V (0 : Int) (20 : Int)) (0 : Int) = G (V (0 :
  Int) (20 : Int)) (0 : Int) ∧ (True ∧ rowK L (V (0 : Int) (20 : Int)) (0 : Int) (V (J (J (0 : Int))) (841 : Int)) = rowK L (V (0 : Int) (20 : Int)) (0 : Int) (V (J (J (0 : Int)))
  (841 : Int))) ∧ (0 : Nat) = (0 : Nat) ∧ x.snd = y.snd ∧ (True ∧ rowK L (V (0 : Int) (20 : Int)) (0 : Int) (V (J (J (0 : Int))) (841 : Int)) = rowK L (V (0 : Int) (20 : Int)) (0 :
  Int) (V (J (J (0 : Int))) (841 : Int))) ∧ (↑(rowK L (V (0 : Int) (20 : Int)) (0 : Int) (V (J (J (0 : Int))) (841 : Int))).length : Int) = (↑(rowK L (V (0 : Int) (20 : Int)) (0 :
  Int) (V (J (J (0 : Int))) (841 : Int))).length : Int) ∧ x.fst + (1 : Int) = y.fst ∧ True) ∧ (K (V (0 : Int) (20 : Int)) (0 : Nat) = K (V (0 : Int) (20 : Int)) (0 : Nat) ∧ K (V (0 :
  Int) (20 : Int)) (1 : Nat) = K (V (0 : Int) (20 : Int)) (1 : Nat) ∧ K (V (0 : Int) (20 : Int)) (2 : Nat) = K (V (0 : Int) (20 : Int)) (2 : Nat) ∧ True) ∧ True else False else ((0 :
  Int) ≤ G (V (0 : Int) (20 : Int)) (0 : Int) ∧ G (V (0 : Int) (20 : Int)) (0 : Int) < (20 : Int)) ∧ (∃ x_1, InnP x_1 ∧ ((0 : Int) = (0 : Int) ∧ V (J (J (0 : Int))) (841 : Int) = V
  (J (J (0 : Int))) (841 : Int) ∧ G (V (0 : Int) (20 : Int)) (0 : Int) = G (V (0 : Int) (20 : Int)) (0 : Int) ∧ (True ∧ rowK L (V (0 : Int) (20 : Int)) (0 : Int) (V (J (J (0 : Int)))
  (841 : Int)) = rowK L (V (0 : Int) (20 : Int)) (0 : Int) (V (J (J (0 : Int))) (841 : Int))) ∧ (0 : Nat) = (0 : Nat) ∧ decide ((0 : Int) = (0 : Int)) = true ∧ (0 : Nat) = (0 : Nat)
  ∧ (0 : Nat) = (0 : Nat) ∧ (0 : Int) = x_1 ∧ (True ∧ rowK L (V (0 : Int) (20 : Int)) (0 : Int) (V (J (J (0 : Int))) (841 : Int)) = rowK L (V (0 : Int) (20 : Int)) (0 : Int) (V (J (J
  (0 : Int))) (841 : Int))) ∧ (↑(rowK L (V (0 : Int) (20 : Int)) (0 : Int) (V (J (J (0 : Int))) (841 : Int))).length : Int) = (↑(rowK L (V (0 : Int) (20 : Int)) (0 : Int) (V (J (J (0
  : Int))) (841 : Int))).length : Int) ∧ x.fst = x.fst ∧ True) ∧ (K (V (0 : Int) (20 : Int)) (0 : Nat) = K (V (0 : Int) (20 : Int)) (0 : Nat) ∧ K (V (0 : Int) (20 : Int)) (1 : Nat) =
  K (V (0 : Int) (20 : Int)) (1 : Nat) ∧ K (V (0 : Int) (20 : Int)) (2 : Nat) = K (V (0 : Int) (20 : Int)) (2 : Nat) ∧ True) ∧ (K (G (V (0 : Int) (20 : Int)) (0 : Int)) (0 : Nat) = K
  (G (V (0 : Int) (20 : Int)) (0 : Int)) (0 : Nat) ∧ K (G (V (0 : Int) (20 : Int)) (0 : Int)) (1 : Nat) = K (G (V (0 : Int) (20 : Int)) (0 : Int)) (1 : Nat) ∧ K (G (V (0 : Int) (20 :
  Int)) (0 : Int)) (2 : Nat) = K (G (V (0 : Int) (20 : Int)) (0 : Int)) (2 : Nat) ∧ True) ∧ (n_1 = onK U (V (0 : Int) (20 : Int)) (0 : Int) (V (J (J (0 : Int))) (841 : Int)) (G (V (0
  : Int) (20 : Int)) (0 : Int)) (0 : Nat) ∧ n_2 = onK U (V (0 : Int) (20 : Int)) (0 : Int) (V (J (J (0 : Int))) (841 : Int)) (G (V (0 : Int) (20 : Int)) (0 : Int)) (1 : Nat) ∧ n_3 =
  onK U (V (0 : Int) (20 : Int)) (0 : Int) (V (J (J (0 : Int))) (841 : Int)) (G (V (0 : Int) (20 : Int)) (0 : Int)) (2 : Nat) ∧ True) ∧ True) ∧ ∀ (x_1 : Int), InnP x_1 → bif decide
  (x_1 < (3 : Int)) then bif decide ((0 : Int) ≤ x_1 ∧ x_1 < (3 : Int)) then ∃ n, List.take [AV.int IntKind.i64 n].length (List.drop ((0 : Nat) + x_1.toNat * (1 : Nat)) [AV.int
  IntKind.i64 (K (G (V (0 : Int) (20 : Int)) (0 : Int)) (0 : Nat)), AV.int IntKind.i64 (K (G (V (0 : Int) (20 : Int)) (0 : Int)) (1 : Nat)), AV.int IntKind.i64 (K (G (V (0 : Int) (20
  : Int)) (0 : Int)) (2 : Nat))]) = [AV.int IntKind.i64 n] ∧ bif decide (n = K (V (0 : Int) (20 : Int)) (1 : Nat)) then bif decide ((0 : Int) ≤ x_1 ∧ x_1 < (3 : Int)) then ∃ n,
  List.take [AV.int IntKind.i64 n].length (List.drop ((0 : Nat) + x_1.toNat * (1 : Nat)) [AV.int IntKind.i64 (onK U (V (0 : Int) (20 : Int)) (0 : Int) (V (J (J (0 : Int))) (841 :
  Int)) (G (V (0 : Int) (20 : Int)) (0 : Int)) (0 : Nat)), AV.int IntKind.i64 (onK U (V (0 : Int) (20 : Int)) (0 : Int) (V (J (J (0 : Int))) (841 : Int)) (G (V (0 : Int) (20 : Int))
  (0 : Int)) (1 : Nat)), AV.int IntKind.i64 (onK U (V (0 : Int) (20 : Int)) (0 : Int) (V (J (J (0 : Int))) (841 : Int)) (G (V (0 : Int) (20 : Int)) (0 : Int)) (2 : Nat))]) = [AV.int
  IntKind.i64 n] ∧ bif decide (rng IntKind.i64 (x_1 + (1 : Int))) then ∃ y, InnP y ∧ (innI L G K U (V (0 : Int) (20 : Int)) (V (J (J (0 : Int))) (841 : Int)) (0 : Int) x.fst).m y <
  (innI L G K U (V (0 : Int) (20 : Int)) (V (J (J (0 : Int))) (841 : Int)) (0 : Int) x.fst).m x_1 ∧ ((0 : Int) = (0 : Int) ∧ V (J (J (0 : Int))) (841 : Int) = V (J (J (0 : Int)))
  (841 : Int) ∧ G (V (0 : Int) (20 : Int)) (0 : Int) = G (V (0 : Int) (20 : Int)) (0 : Int) ∧ (True ∧ rowK L (V (0 : Int) (20 : Int)) (0 : Int) (V (J (J (0 : Int))) (841 : Int)) =
  rowK L (V (0 : Int) (20 : Int)) (0 : Int) (V (J (J (0 : Int))) (841 : Int))) ∧ (0 : Nat) = (0 : Nat) ∧ decide (n = V (J (J (0 : Int))) (841 : Int)) = true ∧ (0 : Nat) = (0 : Nat) ∧
  (0 : Nat) = (0 : Nat) ∧ x_1 + (1 : Int) = y ∧ (True ∧ rowK L (V (0 : Int) (20 : Int)) (0 : Int) (V (J (J (0 : Int))) (841 : Int)) = rowK L (V (0 : Int) (20 : Int)) (0 : Int) (V (J
  (J (0 : Int))) (841 : Int))) ∧ (↑(rowK L (V (0 : Int) (20 : Int)) (0 : Int) (V (J (J (0 : Int))) (841 : Int))).length : Int) = (↑(rowK L (V (0 : Int) (20 : Int)) (0 : Int) (V (J (J
  (0 : Int))) (841 : Int))).length : Int) ∧ x.fst = x.fst ∧ True) ∧ (K (V (0 : Int) (20 : Int)) (0 : Nat) = K (V (0 : Int) (20 : Int)) (0 : Nat) ∧ K (V (0 : Int) (20 : Int)) (1 :
  Nat) = K (V (0 : Int) (20 : Int)) (1 : Nat) ∧ K (V (0 : Int) (20 : Int)) (2 : Nat) = K (V (0 : Int) (20 : Int)) (2 : Nat) ∧ True) ∧ (K (G (V (0 : Int) (20 : Int)) (0 : Int)) (0 :
  Nat) = K (G (V (0 : Int) (20 : Int)) (0 : Int)) (0 : Nat) ∧ K (G (V (0 : Int) (20 : Int)) (0 : Int)) (1 : Nat) = K (G (V (0 : Int) (20 : Int)) (0 : Int)) (1 : Nat) ∧ K (G (V (0 :
  Int) (20 : Int)) (0 : Int)) (2 : Nat) = K (G (V (0 : Int) (20 : Int)) (0 : Int)) (2 : Nat) ∧ True) ∧ (onK U (V (0 : Int) (20 : Int)) (0 : Int) (V (J (J (0 : Int))) (841 : Int)) (G
  (V (0 : Int) (20 : Int)) (0 : Int)) (0 : Nat) = onK U (V (0 : Int) (20 : Int)) (0 : Int) (V (J (J (0 : Int))) (841 : Int)) (G (V (0 : Int) (20 : Int)) (0 : Int)) (0 : Nat) ∧ onK U
  (V (0 : Int) (20 : Int)) (0 : Int) (V (J (J (0 : Int))) (841 : Int)) (G (V (0 : Int) (20 : Int)) (0 : Int)) (1 : Nat) = onK U (V (0 : Int) (20 : Int)) (0 : Int) (V (J (J (0 :
  Int))) (841 : Int)) (G (V (0 : Int) (20 : Int)) (0 : Int)) (1 : Nat) ∧ onK U (V (0 : Int) (20 : Int)) (0 : Int) (V (J (J (0 : Int))) (841 : Int)) (G (V (0 : Int) (20 : Int)) (0 :
  Int)) (2 : Nat) = onK U (V (0 : Int) (20 : Int)) (0 : Int) (V (J (J (0 : Int))) (841 : Int)) (G (V (0 : Int) (20 : Int)) (0 : Int)) (2 : Nat) ∧ True) ∧ True else False else False
  else bif decide (n = K (V (0 : Int) (20 : Int)) (2 : Nat)) then bif decide ((0 : Int) ≤ x_1 ∧ x_1 < (3 : Int)) then ∃ n, List.take [AV.int IntKind.i64 n].length (List.drop ((0 :
  Nat) + x_1.toNat * (1 : Nat)) [AV.int IntKind.i64 (onK U (V (0 : Int) (20 : Int)) (0 : Int) (V (J (J (0 : Int))) (841 : Int)) (G (V (0 : Int) (20 : Int)) (0 : Int)) (0 : Nat)),
  AV.int IntKind.i64 (onK U (V (0 : Int) (20 : Int)) (0 : Int) (V (J (J (0 : Int))) (841 : Int)) (G (V (0 : Int) (20 : Int)) (0 : Int)) (1 : Nat)), AV.int IntKind.i64 (onK U (V (0 :
  Int) (20 : Int)) (0 : Int) (V (J (J (0 : Int))) (841 : Int)) (G (V (0 : Int) (20 : Int)) (0 : Int)) (2 : Nat))]) = [AV.int IntKind.i64 n] ∧ bif decide (rng IntKind.i64 ((840 : Int)
  - V (J (J (0 : Int))) (841 : Int))) then bif decide (rng IntKind.i64 (x_1 + (1 : Int))) then ∃ y, InnP y ∧ (innI L G K U (V (0 : Int) (20 : Int)) (V (J (J (0 : Int))) (841 : Int))
  (0 : Int) x.fst).m y < (innI L G K U (V (0 : Int) (20 : Int)) (V (J (J (0 : Int))) (841 : Int)) (0 : Int) x.fst).m x_1 ∧ ((0 : Int) = (0 : Int) ∧ V (J (J (0 : Int))) (841 : Int) =
  V (J (J (0 : Int))) (841 : Int) ∧ G (V (0 : Int) (20 : Int)) (0 : Int) = G (V (0 : Int) (20 : Int)) (0 : Int) ∧ (True ∧ rowK L (V (0 : Int) (20 : Int)) (0 : Int) (V (J (J (0 :
  Int))) (841 : Int)) = rowK L (V (0 : Int) (20 : Int)) (0 : Int) (V (J (J (0 : Int))) (841 : Int))) ∧ (0 : Nat) = (0 : Nat) ∧ decide (n = (840 : Int) - V (J (J (0 : Int))) (841 :
  Int)) = true ∧ (0 : Nat) = (0 : Nat) ∧ (0 : Nat) = (0 : Nat) ∧ x_1 + (1 : Int) = y ∧ (True ∧ rowK L (V (0 : Int) (20 : Int)) (0 : Int) (V (J (J (0 : Int))) (841 : Int)) = rowK L (V
  (0 : Int) (20 : Int)) (0 : Int) (V (J (J (0 : Int))) (841 : Int))) ∧ (↑(rowK L (V (0 : Int) (20 : Int)) (0 : Int) (V (J (J (0 : Int))) (841 : Int))).length : Int) = (↑(rowK L (V (0
  : Int) (20 : Int)) (0 : Int) (V (J (J (0 : Int))) (841 : Int))).length : Int) ∧ x.fst = x.fst ∧ True) ∧ (K (V (0 : Int) (20 : Int)) (0 : Nat) = K (V (0 : Int) (20 : Int)) (0 : Nat)
  ∧ K (V (0 : Int) (20 : Int)) (1 : Nat) = K (V (0 : Int) (20 : Int)) (1 : Nat) ∧ K (V (0 : Int) (20 : Int)) (2 : Nat) = K (V (0 : Int) (20 : Int)) (2 : Nat) ∧ True) ∧ (K (G (V (0 :
  Int) (20 : Int)) (0 : Int)) (0 : Nat) = K (G (V (0 : Int) (20 : Int)) (0 : Int)) (0 : Nat) ∧ K (G (V (0 : Int) (20 : Int)) (0 : Int)) (1 : Nat) = K (G (V (0 : Int) (20 : Int)) (0 :
  Int)) (1 : Nat) ∧ K (G (V (0 : Int) (20 : Int)) (0 : Int)) (2 : Nat) = K (G (V (0 : Int) (20 : Int)) (0 : Int)) (2 : Nat) ∧ True) ∧ (onK U (V (0 : Int) (20 : Int)) (0 : Int) (V (J
  (J (0 : Int))) (841 : Int)) (G (V (0 : Int) (20 : Int)) (0 : Int)) (0 : Nat) = onK U (V (0 : Int) (20 : Int)) (0 : Int) (V (J (J (0 : Int))) (841 : Int)) (G (V (0 : Int) (20 :
  Int)) (0 : Int)) (0 : Nat) ∧ onK U (V (0 : Int) (20 : Int)) (0 : Int) (V (J (J (0 : Int))) (841 : Int)) (G (V (0 : Int) (20 : Int)) (0 : Int)) (1 : Nat) = onK U (V (0 : Int) (20 :
  Int)) (0 : Int) (V (J (J (0 : Int))) (841 : Int)) (G (V (0 : Int) (20 : Int)) (0 : Int)) (1 : Nat) ∧ onK U (V (0 : Int) (20 : Int)) (0 : Int) (V (J (J (0 : Int))) (841 : Int)) (G
  (V (0 : Int) (20 : Int)) (0 : Int)) (2 : Nat) = onK U (V (0 : Int) (20 : Int)) (0 : Int) (V (J (J (0 : Int))) (841 : Int)) (G (V (0 : Int) (20 : Int)) (0 : Int)) (2 : Nat) ∧ True)
  ∧ True else False else False else False else bif decide ((0 : Int) ≤ x_1 ∧ x_1 < (3 : Int)) then ∃ n, List.take [AV.int IntKind.i64 n].length (List.drop ((0 : Nat) + x_1.toNat * (1
  : Nat)) [AV.int IntKind.i64 (onK U (V (0 : Int) (20 : Int)) (0 : Int) (V (J (J (0 : Int))) (841 : Int)) (G (V (0 : Int) (20 : Int)) (0 : Int)) (0 : Nat)), AV.int IntKind.i64 (onK U
  (V (0 : Int) (20 : Int)) (0 : Int) (V (J (J (0 : Int))) (841 : Int)) (G (V (0 : Int) (20 : Int)) (0 : Int)) (1 : Nat)), AV.int IntKind.i64 (onK U (V (0 : Int) (20 : Int)) (0 : Int)
  (V (J (J (0 : Int))) (841 : Int)) (G (V (0 : Int) (20 : Int)) (0 : Int)) (2 : Nat))]) = [AV.int IntKind.i64 n] ∧ bif decide (rng IntKind.i64 (x_1 + (1 : Int))) then ∃ y, InnP y ∧
  (innI L G K U (V (0 : Int) (20 : Int)) (V (J (J (0 : Int))) (841 : Int)) (0 : Int) x.fst).m y < (innI L G K U (V (0 : Int) (20 : Int)) (V (J (J (0 : Int))) (841 : Int)) (0 : Int)
  x.fst).m x_1 ∧ ((0 : Int) = (0 : Int) ∧ V (J (J (0 : Int))) (841 : Int) = V (J (J (0 : Int))) (841 : Int) ∧ G (V (0 : Int) (20 : Int)) (0 : Int) = G (V (0 : Int) (20 : Int)) (0 :
  Int) ∧ (True ∧ rowK L (V (0 : Int) (20 : Int)) (0 : Int) (V (J (J (0 : Int))) (841 : Int)) = rowK L (V (0 : Int) (20 : Int)) (0 : Int) (V (J (J (0 : Int))) (841 : Int))) ∧ (0 :
  Nat) = (0 : Nat) ∧ decide (n = (0 : Int)) = true ∧ (0 : Nat) = (0 : Nat) ∧ (0 : Nat) = (0 : Nat) ∧ x_1 + (1 : Int) = y ∧ (True ∧ rowK L (V (0 : Int) (20 : Int)) (0 : Int) (V (J (J
  (0 : Int))) (841 : Int)) = rowK L (V (0 : Int) (20 : Int)) (0 : Int) (V (J (J (0 : Int))) (841 : Int))) ∧ (↑(rowK L (V (0 : Int) (20 : Int)) (0 : Int) (V (J (J (0 : Int))) (841 :
  Int))).length : Int) = (↑(rowK L (V (0 : Int) (20 : Int)) (0 : Int) (V (J (J (0 : Int))) (841 : Int))).length : Int) ∧ x.fst = x.fst ∧ True) ∧ (K (V (0 : Int) (20 : Int)) (0 : Nat)
  = K (V (0 : Int) (20 : Int)) (0 : Nat) ∧ K (V (0 : Int) (20 : Int)) (1 : Nat) = K (V (0 : Int) (20 : Int)) (1 : Nat) ∧ K (V (0 : Int) (20 : Int)) (2 : Nat) = K (V (0 : Int) (20 :
  Int)) (2 : Nat) ∧ True) ∧ (K (G (V (0 : Int) (20 : Int)) (0 : Int)) (0 : Nat) = K (G (V (0 : Int) (20 : Int)) (0 : Int)) (0 : Nat) ∧ K (G (V (0 : Int) (20 : Int)) (0 : Int)) (1 :
  Nat) = K (G (V (0 : Int) (20 : Int)) (0 : Int)) (1 : Nat) ∧ K (G (V (0 : Int) (20 : Int)) (0 : Int)) (2 : Nat) = K (G (V (0 : Int) (20 : Int)) (0 : Int)) (2 : Nat) ∧ True) ∧ (onK U
  (V (0 : Int) (20 : Int)) (0 : Int) (V (J (J (0 : Int))) (841 : Int)) (G (V (0 : Int) (20 : Int)) (0 : Int)) (0 : Nat) = onK U (V (0 : Int) (20 : Int)) (0 : Int) (V (J (J (0 :
  Int))) (841 : Int)) (G (V (0 : Int) (20 : Int)) (0 : Int)) (0 : Nat) ∧ onK U (V (0 : Int) (20 : Int)) (0 : Int) (V (J (J (0 : Int))) (841 : Int)) (G (V (0 : Int) (20 : Int)) (0 :
  Int)) (1 : Nat) = onK U (V (0 : Int) (20 : Int)) (0 : Int) (V (J (J (0 : Int))) (841 : Int)) (G (V (0 : Int) (20 : Int)) (0 : Int)) (1 : Nat) ∧ onK U (V (0 : Int) (20 : Int)) (0 :
  Int) (V (J (J (0 : Int))) (841 : Int)) (G (V (0 : Int) (20 : Int)) (0 : Int)) (2 : Nat) = onK U (V (0 : Int) (20 : Int)) (0 : Int) (V (J (J (0 : Int))) (841 : Int)) (G (V (0 : Int)
  (20 : Int)) (0 : Int)) (2 : Nat) ∧ True) ∧ True else False else False else False else bif decide (rng IntKind.i64 (x.fst + (1 : Int))) then ∃ y, OutP (rowK L (V (0 : Int) (20 :
  Int)) (0 : Int) (V (J (J (0 : Int))) (841 : Int))) (G (V (0 : Int) (20 : Int)) (0 : Int)) y ∧ (outI L G K (V (0 : Int) (20 : Int)) (V (J (J (0 : Int))) (841 : Int)) (0 : Int)).m y
  < (outI L G K (V (0 : Int) (20 : Int)) (V (J (J (0 : Int))) (841 : Int)) (0 : Int)).m x ∧ ((0 : Int) = (0 : Int) ∧ V (J (J (0 : Int))) (841 : Int) = V (J (J (0 : Int))) (841 : Int)
  ∧ G (V (0 : Int) (20 : Int)) (0 : Int) = G (V (0 : Int) (20 : Int)) (0 : Int) ∧ (True ∧ rowK L (V (0 : Int) (20 : Int)) (0 : Int) (V (J (J (0 : Int))) (841 : Int)) = rowK L (V (0 :
  Int) (20 : Int)) (0 : Int) (V (J (J (0 : Int))) (841 : Int))) ∧ (0 : Nat) = (0 : Nat) ∧ true = y.snd ∧ (True ∧ rowK L (V (0 : Int) (20 : Int)) (0 : Int) (V (J (J (0 : Int))) (841 :
  Int)) = rowK L (V (0 : Int) (20 : Int)) (0 : Int) (V (J (J (0 : Int))) (841 : Int))) ∧ (↑(rowK L (V (0 : Int) (20 : Int)) (0 : Int) (V (J (J (0 : Int))) (841 : Int))).length : Int)
  = (↑(rowK L (V (0 : Int) (20 : Int)) (0 : Int) (V (J (J (0 : Int))) (841 : Int))).length : Int) ∧ x.fst + (1 : Int) = y.fst ∧ True) ∧ (K (V (0 : Int) (20 : Int)) (0 : Nat) = K (V
  (0 : Int) (20 : Int)) (0 : Nat) ∧ K (V (0 : Int) (20 : Int)) (1 : Nat) = K (V (0 : Int) (20 : Int)) (1 : Nat) ∧ K (V (0 : Int) (20 : Int)) (2 : Nat) = K (V (0 : Int) (20 : Int)) (2
  : Nat) ∧ True) ∧ True else False else False else bif x.snd then bif decide (V (J (J (0 : Int))) (841 : Int) = (0 : Int)) then True ∧ true = true else bif decide (V (J (J (0 :
  Int))) (841 : Int) = (840 : Int)) then True ∧ true = true else bif decide ((↑(rowK L (V (0 : Int) (20 : Int)) (0 : Int) (V (J (J (0 : Int))) (841 : Int))).length : Int) = (2 :
  Int)) then True ∧ true = true else false = true else false = true else False) ∧ (KeyP V (J (0 : Int)) (1 : Int) → bif decide (rng IntKind.i64 ((840 : Int) - V (J (J (0 : Int)))
  (841 : Int))) then (((0 : Int) ≤ V (0 : Int) (20 : Int) ∧ V (0 : Int) (20 : Int) < (20 : Int)) ∧ (0 : Int) ≤ (1 : Int) ∧ (1 : Int) < (3 : Int)) ∧ Vld (V (0 : Int) (20 : Int)) ((840
  : Int) - V (J (J (0 : Int))) (841 : Int)) (0 : Int) (V (J (J (0 : Int))) (841 : Int)) ∧ ((0 : Int) ≤ V (0 : Int) (20 : Int) ∧ V (0 : Int) (20 : Int) < (20 : Int)) ∧ (∃ x, OutP
  (rowK L (V (0 : Int) (20 : Int)) (1 : Int) (V (J (J (0 : Int))) (841 : Int))) (G (V (0 : Int) (20 : Int)) (1 : Int)) x ∧ ((1 : Int) = (1 : Int) ∧ V (J (J (0 : Int))) (841 : Int) =
  V (J (J (0 : Int))) (841 : Int) ∧ G (V (0 : Int) (20 : Int)) (1 : Int) = G (V (0 : Int) (20 : Int)) (1 : Int) ∧ (True ∧ L (V (0 : Int) (20 : Int)) ((840 : Int) - V (J (J (0 :
  Int))) (841 : Int)) (0 : Int) (V (J (J (0 : Int))) (841 : Int)) = rowK L (V (0 : Int) (20 : Int)) (1 : Int) (V (J (J (0 : Int))) (841 : Int))) ∧ (0 : Nat) = (0 : Nat) ∧ false =
  x.snd ∧ (True ∧ L (V (0 : Int) (20 : Int)) ((840 : Int) - V (J (J (0 : Int))) (841 : Int)) (0 : Int) (V (J (J (0 : Int))) (841 : Int)) = rowK L (V (0 : Int) (20 : Int)) (1 : Int)
  (V (J (J (0 : Int))) (841 : Int))) ∧ (↑(L (V (0 : Int) (20 : Int)) ((840 : Int) - V (J (J (0 : Int))) (841 : Int)) (0 : Int) (V (J (J (0 : Int))) (841 : Int))).length : Int) =
  (↑(rowK L (V (0 : Int) (20 : Int)) (1 : Int) (V (J (J (0 : Int))) (841 : Int))).length : Int) ∧ (0 : Int) = x.fst ∧ True) ∧ (K (V (0 : Int) (20 : Int)) (0 : Nat) = K (V (0 : Int)
  (20 : Int)) (0 : Nat) ∧ K (V (0 : Int) (20 : Int)) (1 : Nat) = K (V (0 : Int) (20 : Int)) (1 : Nat) ∧ K (V (0 : Int) (20 : Int)) (2 : Nat) = K (V (0 : Int) (20 : Int)) (2 : Nat) ∧
  True) ∧ True) ∧ ∀ (x : Int × Bool), OutP (rowK L (V (0 : Int) (20 : Int)) (1 : Int) (V (J (J (0 : Int))) (841 : Int))) (G (V (0 : Int) (20 : Int)) (1 : Int)) x → bif decide (x.fst
  < (↑(rowK L (V (0 : Int) (20 : Int)) (1 : Int) (V (J (J (0 : Int))) (841 : Int))).length : Int)) then bif decide ((0 : Int) ≤ x.fst ∧ x.fst < (↑(rowK L (V (0 : Int) (20 : Int)) (1
  : Int) (V (J (J (0 : Int))) (841 : Int))).length : Int)) then ∃ n n_1 n_2 n_3, List.take [AV.int IntKind.i64 n, AV.int IntKind.i64 n_1, AV.int IntKind.i64 n_2, AV.int IntKind.i64
  n_3].length ((rowK L (V (0 : Int) (20 : Int)) (1 : Int) (V (J (J (0 : Int))) (841 : Int))).getD x.fst.toNat []) = [AV.int IntKind.i64 n, AV.int IntKind.i64 n_1, AV.int IntKind.i64
  n_2, AV.int IntKind.i64 n_3] ∧ bif decide ¬n = G (V (0 : Int) (20 : Int)) (1 : Int) then bif decide (rng IntKind.i64 (x.fst + (1 : Int))) then ∃ y, OutP (rowK L (V (0 : Int) (20 :
  Int)) (1 : Int) (V (J (J (0 : Int))) (841 : Int))) (G (V (0 : Int) (20 : Int)) (1 : Int)) y ∧ (outI L G K (V (0 : Int) (20 : Int)) (V (J (J (0 : Int))) (841 : Int)) (1 : Int)).m y
  < (outI L G K (V (0 : Int) (20 : Int)) (V (J (J (0 : Int))) (841 : Int)) (1 : Int)).m x ∧ ((1 : Int) = (1 : Int) ∧ V (J (J (0 : Int))) (841 : Int) = V (J (J (0 : Int))) (841 : Int)
  ∧ G (V (0 : Int) (20 : Int)) (1 : Int) = G (V (0 : Int) (20 : Int)) (1 : Int) ∧ (True ∧ rowK L (V (0 : Int) (20 : Int)) (1 : Int) (V (J (J (0 : Int))) (841 : Int)) = rowK L (V (0 :
  Int) (20 : Int)) (1 : Int) (V (J (J (0 : Int))) (841 : Int))) ∧ (0 : Nat) = (0 : Nat) ∧ x.snd = y.snd ∧ (True ∧ rowK L (V (0 : Int) (20 : Int)) (1 : Int) (V (J (J (0 : Int))) (841
  : Int)) = rowK L (V (0 : Int) (20 : Int)) (1 : Int) (V (J (J (0 : Int))) (841 : Int))) ∧ (↑(rowK L (V (0 : Int) (20 : Int)) (1 : Int) (V (J (J (0 : Int))) (841 : Int))).length :
  Int) = (↑(rowK L (V (0 : Int) (20 : Int)) (1 : Int) (V (J (J (0 : Int))) (841 : Int))).length : Int) ∧ x.fst + (1 : Int) = y.fst ∧ True) ∧ (K (V (0 : Int) (20 : Int)) (0 : Nat) = K
  (V (0 : Int) (20 : Int)) (0 : Nat) ∧ K (V (0 : Int) (20 : Int)) (1 : Nat) = K (V (0 : Int) (20 : Int)) (1 : Nat) ∧ K (V (0 : Int) (20 : Int)) (2 : Nat) = K (V (0 : Int) (20 : Int))
  (2 : Nat) ∧ True) ∧ True else False else ((0 : Int) ≤ G (V (0 : Int) (20 : Int)) (1 : Int) ∧ G (V (0 : Int) (20 : Int)) (1 : Int) < (20 : Int)) ∧ (∃ x_1, InnP x_1 ∧ ((1 : Int) = (1
  : Int) ∧ V (J (J (0 : Int))) (841 : Int) = V (J (J (0 : Int))) (841 : Int) ∧ G (V (0 : Int) (20 : Int)) (1 : Int) = G (V (0 : Int) (20 : Int)) (1 : Int) ∧ (True ∧ rowK L (V (0 :
  Int) (20 : Int)) (1 : Int) (V (J (J (0 : Int))) (841 : Int)) = rowK L (V (0 : Int) (20 : Int)) (1 : Int) (V (J (J (0 : Int))) (841 : Int))) ∧ (0 : Nat) = (0 : Nat) ∧ decide ((0 :
  Int) = (0 : Int)) = true ∧ (0 : Nat) = (0 : Nat) ∧ (0 : Nat) = (0 : Nat) ∧ (0 : Int) = x_1 ∧ (True ∧ rowK L (V (0 : Int) (20 : Int)) (1 : Int) (V (J (J (0 : Int))) (841 : Int)) =
  rowK L (V (0 : Int) (20 : Int)) (1 : Int) (V (J (J (0 : Int))) (841 : Int))) ∧ (↑(rowK L (V (0 : Int) (20 : Int)) (1 : Int) (V (J (J (0 : Int))) (841 : Int))).length : Int) =
  (↑(rowK L (V (0 : Int) (20 : Int)) (1 : Int) (V (J (J (0 : Int))) (841 : Int))).length : Int) ∧ x.fst = x.fst ∧ True) ∧ (K (V (0 : Int) (20 : Int)) (0 : Nat) = K (V (0 : Int) (20 :
  Int)) (0 : Nat) ∧ K (V (0 : Int) (20 : Int)) (1 : Nat) = K (V (0 : Int) (20 : Int)) (1 : Nat) ∧ K (V (0 : Int) (20 : Int)) (2 : Nat) = K (V (0 : Int) (20 : Int)) (2 : Nat) ∧ True)
  ∧ (K (G (V (0 : Int) (20 : Int)) (1 : Int)) (0 : Nat) = K (G (V (0 : Int) (20 : Int)) (1 : Int)) (0 : Nat) ∧ K (G (V (0 : Int) (20 : Int)) (1 : Int)) (1 : Nat) = K (G (V (0 : Int)
  (20 : Int)) (1 : Int)) (1 : Nat) ∧ K (G (V (0 : Int) (20 : Int)) (1 : Int)) (2 : Nat) = K (G (V (0 : Int) (20 : Int)) (1 : Int)) (2 : Nat) ∧ True) ∧ (n_1 = onK U (V (0 : Int) (20 :
  Int)) (1 : Int) (V (J (J (0 : Int))) (841 : Int)) (G (V (0 : Int) (20 : Int)) (1 : Int)) (0 : Nat) ∧ n_2 = onK U (V (0 : Int) (20 : Int)) (1 : Int) (V (J (J (0 : Int))) (841 :
  Int)) (G (V (0 : Int) (20 : Int)) (1 : Int)) (1 : Nat) ∧ n_3 = onK U (V (0 : Int) (20 : Int)) (1 : Int) (V (J (J (0 : Int))) (841 : Int)) (G (V (0 : Int) (20 : Int)) (1 : Int)) (2
  : Nat) ∧ True) ∧ True) ∧ ∀ (x_1 : Int), InnP x_1 → bif decide (x_1 < (3 : Int)) then bif decide ((0 : Int) ≤ x_1 ∧ x_1 < (3 : Int)) then ∃ n, List.take [AV.int IntKind.i64
  n].length (List.drop ((0 : Nat) + x_1.toNat * (1 : Nat)) [AV.int IntKind.i64 (K (G (V (0 : Int) (20 : Int)) (1 : Int)) (0 : Nat)), AV.int IntKind.i64 (K (G (V (0 : Int) (20 : Int))
  (1 : Int)) (1 : Nat)), AV.int IntKind.i64 (K (G (V (0 : Int) (20 : Int)) (1 : Int)) (2 : Nat))]) = [AV.int IntKind.i64 n] ∧ bif decide (n = K (V (0 : Int) (20 : Int)) (2 : Nat))
  then bif decide ((0 : Int) ≤ x_1 ∧ x_1 < (3 : Int)) then ∃ n, List.take [AV.int IntKind.i64 n].length (List.drop ((0 : Nat) + x_1.toNat * (1 : Nat)) [AV.int IntKind.i64 (onK U (V
  (0 : Int) (20 : Int)) (1 : Int) (V (J (J (0 : Int))) (841 : Int)) (G (V (0 : Int) (20 : Int)) (1 : Int)) (0 : Nat)), AV.int IntKind.i64 (onK U (V (0 : Int) (20 : Int)) (1 : Int) (V
  (J (J (0 : Int))) (841 : Int)) (G (V (0 : Int) (20 : Int)) (1 : Int)) (1 : Nat)), AV.int IntKind.i64 (onK U (V (0 : Int) (20 : Int)) (1 : Int) (V (J (J (0 : Int))) (841 : Int)) (G
  (V (0 : Int) (20 : Int)) (1 : Int)) (2 : Nat))]) = [AV.int IntKind.i64 n] ∧ bif decide (rng IntKind.i64 (x_1 + (1 : Int))) then ∃ y, InnP y ∧ (innI L G K U (V (0 : Int) (20 : Int))
  (V (J (J (0 : Int))) (841 : Int)) (1 : Int) x.fst).m y < (innI L G K U (V (0 : Int) (20 : Int)) (V (J (J (0 : Int))) (841 : Int)) (1 : Int) x.fst).m x_1 ∧ ((1 : Int) = (1 : Int) ∧
  V (J (J (0 : Int))) (841 : Int) = V (J (J (0 : Int))) (841 : Int) ∧ G (V (0 : Int) (20 : Int)) (1 : Int) = G (V (0 : Int) (20 : Int)) (1 : Int) ∧ (True ∧ rowK L (V (0 : Int) (20 :
  Int)) (1 : Int) (V (J (J (0 : Int))) (841 : Int)) = rowK L (V (0 : Int) (20 : Int)) (1 : Int) (V (J (J (0 : Int))) (841 : Int))) ∧ (0 : Nat) = (0 : Nat) ∧ decide (n = V (J (J (0 :
  Int))) (841 : Int)) = true ∧ (0 : Nat) = (0 : Nat) ∧ (0 : Nat) = (0 : Nat) ∧ x_1 + (1 : Int) = y ∧ (True ∧ rowK L (V (0 : Int) (20 : Int)) (1 : Int) (V (J (J (0 : Int))) (841 :
  Int)) = rowK L (V (0 : Int) (20 : Int)) (1 : Int) (V (J (J (0 : Int))) (841 : Int))) ∧ (↑(rowK L (V (0 : Int) (20 : Int)) (1 : Int) (V (J (J (0 : Int))) (841 : Int))).length : Int)
  = (↑(rowK L (V (0 : Int) (20 : Int)) (1 : Int) (V (J (J (0 : Int))) (841 : Int))).length : Int) ∧ x.fst = x.fst ∧ True) ∧ (K (V (0 : Int) (20 : Int)) (0 : Nat) = K (V (0 : Int) (20
  : Int)) (0 : Nat) ∧ K (V (0 : Int) (20 : Int)) (1 : Nat) = K (V (0 : Int) (20 : Int)) (1 : Nat) ∧ K (V (0 : Int) (20 : Int)) (2 : Nat) = K (V (0 : Int) (20 : Int)) (2 : Nat) ∧
  True) ∧ (K (G (V (0 : Int) (20 : Int)) (1 : Int)) (0 : Nat) = K (G (V (0 : Int) (20 : Int)) (1 : Int)) (0 : Nat) ∧ K (G (V (0 : Int) (20 : Int)) (1 : Int)) (1 : Nat) = K (G (V (0 :
  Int) (20 : Int)) (1 : Int)) (1 : Nat) ∧ K (G (V (0 : Int) (20 : Int)) (1 : Int)) (2 : Nat) = K (G (V (0 : Int) (20 : Int)) (1 : Int)) (2 : Nat) ∧ True) ∧ (onK U (V (0 : Int) (20 :
  Int)) (1 : Int) (V (J (J (0 : Int))) (841 : Int)) (G (V (0 : Int) (20 : Int)) (1 : Int)) (0 : Nat) = onK U (V (0 : Int) (20 : Int)) (1 : Int) (V (J (J (0 : Int))) (841 : Int)) (G
  (V (0 : Int) (20 : Int)) (1 : Int)) (0 : Nat) ∧ onK U (V (0 : Int) (20 : Int)) (1 : Int) (V (J (J (0 : Int))) (841 : Int)) (G (V (0 : Int) (20 : Int)) (1 : Int)) (1 : Nat) = onK U
  (V (0 : Int) (20 : Int)) (1 : Int) (V (J (J (0 : Int))) (841 : Int)) (G (V (0 : Int) (20 : Int)) (1 : Int)) (1 : Nat) ∧ onK U (V (0 : Int) (20 : Int)) (1 : Int) (V (J (J (0 :
  Int))) (841 : Int)) (G (V (0 : Int) (20 : Int)) (1 : Int)) (2 : Nat) = onK U (V (0 : Int) (20 : Int)) (1 : Int) (V (J (J (0 : Int))) (841 : Int)) (G (V (0 : Int) (20 : Int)) (1 :
  Int)) (2 : Nat) ∧ True) ∧ True else False else False else bif decide (n = K (V (0 : Int) (20 : Int)) (0 : Nat)) then bif decide ((0 : Int) ≤ x_1 ∧ x_1 < (3 : Int)) then ∃ n,
  List.take [AV.int IntKind.i64 n].length (List.drop ((0 : Nat) + x_1.toNat * (1 : Nat)) [AV.int IntKind.i64 (onK U (V (0 : Int) (20 : Int)) (1 : Int) (V (J (J (0 : Int))) (841 :
  Int)) (G (V (0 : Int) (20 : Int)) (1 : Int)) (0 : Nat)), AV.int IntKind.i64 (onK U (V (0 : Int) (20 : Int)) (1 : Int) (V (J (J (0 : Int))) (841 : Int)) (G (V (0 : Int) (20 : Int))
  (1 : Int)) (1 : Nat)), AV.int IntKind.i64 (onK U (V (0 : Int) (20 : Int)) (1 : Int) (V (J (J (0 : Int))) (841 : Int)) (G (V (0 : Int) (20 : Int)) (1 : Int)) (2 : Nat))]) = [AV.int
  IntKind.i64 n] ∧ bif decide (rng IntKind.i64 ((840 : Int) - V (J (J (0 : Int))) (841 : Int))) then bif decide (rng IntKind.i64 (x_1 + (1 : Int))) then ∃ y, InnP y ∧ (innI L G K U
  (V (0 : Int) (20 : Int)) (V (J (J (0 : Int))) (841 : Int)) (1 : Int) x.fst).m y < (innI L G K U (V (0 : Int) (20 : Int)) (V (J (J (0 : Int))) (841 : Int)) (1 : Int) x.fst).m x_1 ∧
  ((1 : Int) = (1 : Int) ∧ V (J (J (0 : Int))) (841 : Int) = V (J (J (0 : Int))) (841 : Int) ∧ G (V (0 : Int) (20 : Int)) (1 : Int) = G (V (0 : Int) (20 : Int)) (1 : Int) ∧ (True ∧
  rowK L (V (0 : Int) (20 : Int)) (1 : Int) (V (J (J (0 : Int))) (841 : Int)) = rowK L (V (0 : Int) (20 : Int)) (1 : Int) (V (J (J (0 : Int))) (841 : Int))) ∧ (0 : Nat) = (0 : Nat) ∧
  decide (n = (840 : Int) - V (J (J (0 : Int))) (841 : Int)) = true ∧ (0 : Nat) = (0 : Nat) ∧ (0 : Nat) = (0 : Nat) ∧ x_1 + (1 : Int) = y ∧ (True ∧ rowK L (V (0 : Int) (20 : Int)) (1
  : Int) (V (J (J (0 : Int))) (841 : Int)) = rowK L (V (0 : Int) (20 : Int)) (1 : Int) (V (J (J (0 : Int))) (841 : Int))) ∧ (↑(rowK L (V (0 : Int) (20 : Int)) (1 : Int) (V (J (J (0 :
  Int))) (841 : Int))).length : Int) = (↑(rowK L (V (0 : Int) (20 : Int)) (1 : Int) (V (J (J (0 : Int))) (841 : Int))).length : Int) ∧ x.fst = x.fst ∧ True) ∧ (K (V (0 : Int) (20 :
  Int)) (0 : Nat) = K (V (0 : Int) (20 : Int)) (0 : Nat) ∧ K (V (0 : Int) (20 : Int)) (1 : Nat) = K (V (0 : Int) (20 : Int)) (1 : Nat) ∧ K (V (0 : Int) (20 : Int)) (2 : Nat) = K (V
  (0 : Int) (20 : Int)) (2 : Nat) ∧ True) ∧ (K (G (V (0 : Int) (20 : Int)) (1 : Int)) (0 : Nat) = K (G (V (0 : Int) (20 : Int)) (1 : Int)) (0 : Nat) ∧ K (G (V (0 : Int) (20 : Int))
  (1 : Int)) (1 : Nat) = K (G (V (0 : Int) (20 : Int)) (1 : Int)) (1 : Nat) ∧ K (G (V (0 : Int) (20 : Int)) (1 : Int)) (2 : Nat) = K (G (V (0 : Int) (20 : Int)) (1 : Int)) (2 : Nat)
  ∧ True) ∧ (onK U (V (0 : Int) (20 : Int)) (1 : Int) (V (J (J (0 : Int))) (841 : Int)) (G (V (0 : Int) (20 : Int)) (1 : Int)) (0 : Nat) = onK U (V (0 : Int) (20 : Int)) (1 : Int) (V
  (J (J (0 : Int))) (841 : Int)) (G (V (0 : Int) (20 : Int)) (1 : Int)) (0 : Nat) ∧ onK U (V (0 : Int) (20 : Int)) (1 : Int) (V (J (J (0 : Int))) (841 : Int)) (G (V (0 : Int) (20 :
  Int)) (1 : Int)) (1 : Nat) = onK U (V (0 : Int) (20 : Int)) (1 : Int) (V (J (J (0 : Int))) (841 : Int)) (G (V (0 : Int) (20 : Int)) (1 : Int)) (1 : Nat) ∧ onK U (V (0 : Int) (20 :
  Int)) (1 : Int) (V (J (J (0 : Int))) (841 : Int)) (G (V (0 : Int) (20 : Int)) (1 : Int)) (2 : Nat) = onK U (V (0 : Int) (20 : Int)) (1 : Int) (V (J (J (0 : Int))) (841 : Int)) (G
  (V (0 : Int) (20 : Int)) (1 : Int)) (2 : Nat) ∧ True) ∧ True else False else False else False else bif decide ((0 : Int) ≤ x_1 ∧ x_1 < (3 : Int)) then ∃ n, List.take [AV.int
  IntKind.i64 n].length (List.drop ((0 : Nat) + x_1.toNat * (1 : Nat)) [AV.int IntKind.i64 (onK U (V (0 : Int) (20 : Int)) (1 : Int) (V (J (J (0 : Int))) (841 : Int)) (G (V (0 : Int)
  (20 : Int)) (1 : Int)) (0 : Nat)), AV.int IntKind.i64 (onK U (V (0 : Int) (20 : Int)) (1 : Int) (V (J (J (0 : Int))) (841 : Int)) (G (V (0 : Int) (20 : Int)) (1 : Int)) (1 : Nat)),
  AV.int IntKind.i64 (onK U (V (0 : Int) (20 : Int)) (1 : Int) (V (J (J (0 : Int))) (841 : Int)) (G (V (0 : Int) (20 : Int)) (1 : Int)) (2 : Nat))]) = [AV.int IntKind.i64 n] ∧ bif
  decide (rng IntKind.i64 (x_1 + (1 : Int))) then ∃ y, InnP y ∧ (innI L G K U (V (0 : Int) (20 : Int)) (V (J (J (0 : Int))) (841 : Int)) (1 : Int) x.fst).m y < (innI L G K U (V (0 :
  Int) (20 : Int)) (V (J (J (0 : Int))) (841 : Int)) (1 : Int) x.fst).m x_1 ∧ ((1 : Int) = (1 : Int) ∧ V (J (J (0 : Int))) (841 : Int) = V (J (J (0 : Int))) (841 : Int) ∧ G (V (0 :
  Int) (20 : Int)) (1 : Int) = G (V (0 : Int) (20 : Int)) (1 : Int) ∧ (True ∧ rowK L (V (0 : Int) (20 : Int)) (1 : Int) (V (J (J (0 : Int))) (841 : Int)) = rowK L (V (0 : Int) (20 :
  Int)) (1 : Int) (V (J (J (0 : Int))) (841 : Int))) ∧ (0 : Nat) = (0 : Nat) ∧ decide (n = (0 : Int)) = true ∧ (0 : Nat) = (0 : Nat) ∧ (0 : Nat) = (0 : Nat) ∧ x_1 + (1 : Int) = y ∧
  (True ∧ rowK L (V (0 : Int) (20 : Int)) (1 : Int) (V (J (J (0 : Int))) (841 : Int)) = rowK L (V (0 : Int) (20 : Int)) (1 : Int) (V (J (J (0 : Int))) (841 : Int))) ∧ (↑(rowK L (V (0
  : Int) (20 : Int)) (1 : Int) (V (J (J (0 : Int))) (841 : Int))).length : Int) = (↑(rowK L (V (0 : Int) (20 : Int)) (1 : Int) (V (J (J (0 : Int))) (841 : Int))).length : Int) ∧
  x.fst = x.fst ∧ True) ∧ (K (V (0 : Int) (20 : Int)) (0 : Nat) = K (V (0 : Int) (20 : Int)) (0 : Nat) ∧ K (V (0 : Int) (20 : Int)) (1 : Nat) = K (V (0 : Int) (20 : Int)) (1 : Nat) ∧
  K (V (0 : Int) (20 : Int)) (2 : Nat) = K (V (0 : Int) (20 : Int)) (2 : Nat) ∧ True) ∧ (K (G (V (0 : Int) (20 : Int)) (1 : Int)) (0 : Nat) = K (G (V (0 : Int) (20 : Int)) (1 : Int))
  (0 : Nat) ∧ K (G (V (0 : Int) (20 : Int)) (1 : Int)) (1 : Nat) = K (G (V (0 : Int) (20 : Int)) (1 : Int)) (1 : Nat) ∧ K (G (V (0 : Int) (20 : Int)) (1 : Int)) (2 : Nat) = K (G (V
  (0 : Int) (20 : Int)) (1 : Int)) (2 : Nat) ∧ True) ∧ (onK U (V (0 : Int) (20 : Int)) (1 : Int) (V (J (J (0 : Int))) (841 : Int)) (G (V (0 : Int) (20 : Int)) (1 : Int)) (0 : Nat) =
  onK U (V (0 : Int) (20 : Int)) (1 : Int) (V (J (J (0 : Int))) (841 : Int)) (G (V (0 : Int) (20 : Int)) (1 : Int)) (0 : Nat) ∧ onK U (V (0 : Int) (20 : Int)) (1 : Int) (V (J (J (0 :
  Int))) (841 : Int)) (G (V (0 : Int) (20 : Int)) (1 : Int)) (1 : Nat) = onK U (V (0 : Int) (20 : Int)) (1 : Int) (V (J (J (0 : Int))) (841 : Int)) (G (V (0 : Int) (20 : Int)) (1 :
  Int)) (1 : Nat) ∧ onK U (V (0 : Int) (20 : Int)) (1 : Int) (V (J (J (0 : Int))) (841 : Int)) (G (V (0 : Int) (20 : Int)) (1 : Int)) (2 : Nat) = onK U (V (0 : Int) (20 : Int)) (1 :
  Int) (V (J (J (0 : Int))) (841 : Int)) (G (V (0 : Int) (20 : Int)) (1 : Int)) (2 : Nat) ∧ True) ∧ True else False else False else False else bif decide (rng IntKind.i64 (x.fst + (1
  : Int))) then ∃ y, OutP (rowK L (V (0 : Int) (20 : Int)) (1 : Int) (V (J (J (0 : Int))) (841 : Int))) (G (V (0 : Int) (20 : Int)) (1 : Int)) y ∧ (outI L G K (V (0 : Int) (20 :
  Int)) (V (J (J (0 : Int))) (841 : Int)) (1 : Int)).m y < (outI L G K (V (0 : Int) (20 : Int)) (V (J (J (0 : Int))) (841 : Int)) (1 : Int)).m x ∧ ((1 : Int) = (1 : Int) ∧ V (J (J (0
  : Int))) (841 : Int) = V (J (J (0 : Int))) (841 : Int) ∧ G (V (0 : Int) (20 : Int)) (1 : Int) = G (V (0 : Int) (20 : Int)) (1 : Int) ∧ (True ∧ rowK L (V (0 : Int) (20 : Int)) (1 :
  Int) (V (J (J (0 : Int))) (841 : Int)) = rowK L (V (0 : Int) (20 : Int)) (1 : Int) (V (J (J (0 : Int))) (841 : Int))) ∧ (0 : Nat) = (0 : Nat) ∧ true = y.snd ∧ (True ∧ rowK L (V (0
  : Int) (20 : Int)) (1 : Int) (V (J (J (0 : Int))) (841 : Int)) = rowK L (V (0 : Int) (20 : Int)) (1 : Int) (V (J (J (0 : Int))) (841 : Int))) ∧ (↑(rowK L (V (0 : Int) (20 : Int))
  (1 : Int) (V (J (J (0 : Int))) (841 : Int))).length : Int) = (↑(rowK L (V (0 : Int) (20 : Int)) (1 : Int) (V (J (J (0 : Int))) (841 : Int))).length : Int) ∧ x.fst + (1 : Int) =
  y.fst ∧ True) ∧ (K (V (0 : Int) (20 : Int)) (0 : Nat) = K (V (0 : Int) (20 : Int)) (0 : Nat) ∧ K (V (0 : Int) (20 : Int)) (1 : Nat) = K (V (0 : Int) (20 : Int)) (1 : Nat) ∧ K (V (0
  : Int) (20 : Int)) (2 : Nat) = K (V (0 : Int) (20 : Int)) (2 : Nat) ∧ True) ∧ True else False else False else bif x.snd then bif decide (V (J (J (0 : Int))) (841 : Int) = (0 :
  Int)) then True ∧ true = true else bif decide (V (J (J (0 : Int))) (841 : Int) = (840 : Int)) then True ∧ true = true else bif decide ((↑(rowK L (V (0 : Int) (20 : Int)) (1 : Int)
  (V (J (J (0 : Int))) (841 : Int))).length : Int) = (2 : Int)) then True ∧ true = true else false = true else false = true else False) ∧ (KeyP V (J (0 : Int)) (2 : Int) → bif decide
  (rng IntKind.i64 ((840 : Int) - V (J (J (0 : Int))) (841 : Int))) then (((0 : Int) ≤ V (0 : Int) (20 : Int) ∧ V (0 : Int) (20 : Int) < (20 : Int)) ∧ (0 : Int) ≤ (2 : Int) ∧ (2 :
  Int) < (3 : Int)) ∧ Vld (V (0 : Int) (20 : Int)) (V (J (J (0 : Int))) (841 : Int)) ((840 : Int) - V (J (J (0 : Int))) (841 : Int)) (0 : Int) ∧ ((0 : Int) ≤ V (0 : Int) (20 : Int) ∧
  V (0 : Int) (20 : Int) < (20 : Int)) ∧ (∃ x, OutP (rowK L (V (0 : Int) (20 : Int)) (2 : Int) (V (J (J (0 : Int))) (841 : Int))) (G (V (0 : Int) (20 : Int)) (2 : Int)) x ∧ ((2 :
  Int) = (2 : Int) ∧ V (J (J (0 : Int))) (841 : Int) = V (J (J (0 : Int))) (841 : Int) ∧ G (V (0 : Int) (20 : Int)) (2 : Int) = G (V (0 : Int) (20 : Int)) (2 : Int) ∧ (True ∧ L (V (0
  : Int) (20 : Int)) (V (J (J (0 : Int))) (841 : Int)) ((840 : Int) - V (J (J (0 : Int))) (841 : Int)) (0 : Int) = rowK L (V (0 : Int) (20 : Int)) (2 : Int) (V (J (J (0 : Int))) (841
  : Int))) ∧ (0 : Nat) = (0 : Nat) ∧ false = x.snd ∧ (True ∧ L (V (0 : Int) (20 : Int)) (V (J (J (0 : Int))) (841 : Int)) ((840 : Int) - V (J (J (0 : Int))) (841 : Int)) (0 : Int) =
  rowK L (V (0 : Int) (20 : Int)) (2 : Int) (V (J (J (0 : Int))) (841 : Int))) ∧ (↑(L (V (0 : Int) (20 : Int)) (V (J (J (0 : Int))) (841 : Int)) ((840 : Int) - V (J (J (0 : Int)))
  (841 : Int)) (0 : Int)).length : Int) = (↑(rowK L (V (0 : Int) (20 : Int)) (2 : Int) (V (J (J (0 : Int))) (841 : Int))).length : Int) ∧ (0 : Int) = x.fst ∧ True) ∧ (K (V (0 : Int)
  (20 : Int)) (0 : Nat) = K (V (0 : Int) (20 : Int)) (0 : Nat) ∧ K (V (0 : Int) (20 : Int)) (1 : Nat) = K (V (0 : Int) (20 : Int)) (1 : Nat) ∧ K (V (0 : Int) (20 : Int)) (2 : Nat) =
  K (V (0 : Int) (20 : Int)) (2 : Nat) ∧ True) ∧ True) ∧ ∀ (x : Int × Bool), OutP (rowK L (V (0 : Int) (20 : Int)) (2 : Int) (V (J (J (0 : Int))) (841 : Int))) (G (V (0 : Int) (20 :
  Int)) (2 : Int)) x → bif decide (x.fst < (↑(rowK L (V (0 : Int) (20 : Int)) (2 : Int) (V (J (J (0 : Int))) (841 : Int))).length : Int)) then bif decide ((0 : Int) ≤ x.fst ∧ x.fst <
  (↑(rowK L (V (0 : Int) (20 : Int)) (2 : Int) (V (J (J (0 : Int))) (841 : Int))).length : Int)) then ∃ n n_1 n_2 n_3, List.take [AV.int IntKind.i64 n, AV.int IntKind.i64 n_1, AV.int
  IntKind.i64 n_2, AV.int IntKind.i64 n_3].length ((rowK L (V (0 : Int) (20 : Int)) (2 : Int) (V (J (J (0 : Int))) (841 : Int))).getD x.fst.toNat []) = [AV.int IntKind.i64 n, AV.int
  IntKind.i64 n_1, AV.int IntKind.i64 n_2, AV.int IntKind.i64 n_3] ∧ bif decide ¬n = G (V (0 : Int) (20 : Int)) (2 : Int) then bif decide (rng IntKind.i64 (x.fst + (1 : Int))) then ∃
  y, OutP (rowK L (V (0 : Int) (20 : Int)) (2 : Int) (V (J (J (0 : Int))) (841 : Int))) (G (V (0 : Int) (20 : Int)) (2 : Int)) y ∧ (outI L G K (V (0 : Int) (20 : Int)) (V (J (J (0 :
  Int))) (841 : Int)) (2 : Int)).m y < (outI L G K (V (0 : Int) (20 : Int)) (V (J (J (0 : Int))) (841 : Int)) (2 : Int)).m x ∧ ((2 : Int) = (2 : Int) ∧ V (J (J (0 : Int))) (841 :
  Int) = V (J (J (0 : Int))) (841 : Int) ∧ G (V (0 : Int) (20 : Int)) (2 : Int) = G (V (0 : Int) (20 : Int)) (2 : Int) ∧ (True ∧ rowK L (V (0 : Int) (20 : Int)) (2 : Int) (V (J (J (0
  : Int))) (841 : Int)) = rowK L (V (0 : Int) (20 : Int)) (2 : Int) (V (J (J (0 : Int))) (841 : Int))) ∧ (0 : Nat) = (0 : Nat) ∧ x.snd = y.snd ∧ (True ∧ rowK L (V (0 : Int) (20 :
  Int)) (2 : Int) (V (J (J (0 : Int))) (841 : Int)) = rowK L (V (0 : Int) (20 : Int)) (2 : Int) (V (J (J (0 : Int))) (841 : Int))) ∧ (↑(rowK L (V (0 : Int) (20 : Int)) (2 : Int) (V
  (J (J (0 : Int))) (841 : Int))).length : Int) = (↑(rowK L (V (0 : Int) (20 : Int)) (2 : Int) (V (J (J (0 : Int))) (841 : Int))).length : Int) ∧ x.fst + (1 : Int) = y.fst ∧ True) ∧
  (K (V (0 : Int) (20 : Int)) (0 : Nat) = K (V (0 : Int) (20 : Int)) (0 : Nat) ∧ K (V (0 : Int) (20 : Int)) (1 : Nat) = K (V (0 : Int) (20 : Int)) (1 : Nat) ∧ K (V (0 : Int) (20 :
  Int)) (2 : Nat) = K (V (0 : Int) (20 : Int)) (2 : Nat) ∧ True) ∧ True else False else ((0 : Int) ≤ G (V (0 : Int) (20 : Int)) (2 : Int) ∧ G (V (0 : Int) (20 : Int)) (2 : Int) < (20
  : Int)) ∧ (∃ x_1, InnP x_1 ∧ ((2 : Int) = (2 : Int) ∧ V (J (J (0 : Int))) (841 : Int) = V (J (J (0 : Int))) (841 : Int) ∧ G (V (0 : Int) (20 : Int)) (2 : Int) = G (V (0 : Int) (20
  : Int)) (2 : Int) ∧ (True ∧ rowK L (V (0 : Int) (20 : Int)) (2 : Int) (V (J (J (0 : Int))) (841 : Int)) = rowK L (V (0 : Int) (20 : Int)) (2 : Int) (V (J (J (0 : Int))) (841 :
  Int))) ∧ (0 : Nat) = (0 : Nat) ∧ decide ((0 : Int) = (0 : Int)) = true ∧ (0 : Nat) = (0 : Nat) ∧ (0 : Nat) = (0 : Nat) ∧ (0 : Int) = x_1 ∧ (True ∧ rowK L (V (0 : Int) (20 : Int))
  (2 : Int) (V (J (J (0 : Int))) (841 : Int)) = rowK L (V (0 : Int) (20 : Int)) (2 : Int) (V (J (J (0 : Int))) (841 : Int))) ∧ (↑(rowK L (V (0 : Int) (20 : Int)) (2 : Int) (V (J (J
  (0 : Int))) (841 : Int))).length : Int) = (↑(rowK L (V (0 : Int) (20 : Int)) (2 : Int) (V (J (J (0 : Int))) (841 : Int))).length : Int) ∧ x.fst = x.fst ∧ True) ∧ (K (V (0 : Int)
  (20 : Int)) (0 : Nat) = K (V (0 : Int) (20 : Int)) (0 : Nat) ∧ K (V (0 : Int) (20 : Int)) (1 : Nat) = K (V (0 : Int) (20 : Int)) (1 : Nat) ∧ K (V (0 : Int) (20 : Int)) (2 : Nat) =
  K (V (0 : Int) (20 : Int)) (2 : Nat) ∧ True) ∧ (K (G (V (0 : Int) (20 : Int)) (2 : Int)) (0 : Nat) = K (G (V (0 : Int) (20 : Int)) (2 : Int)) (0 : Nat) ∧ K (G (V (0 : Int) (20 :
  Int)) (2 : Int)) (1 : Nat) = K (G (V (0 : Int) (20 : Int)) (2 : Int)) (1 : Nat) ∧ K (G (V (0 : Int) (20 : Int)) (2 : Int)) (2 : Nat) = K (G (V (0 : Int) (20 : Int)) (2 : Int)) (2 :
  Nat) ∧ True) ∧ (n_1 = onK U (V (0 : Int) (20 : Int)) (2 : Int) (V (J (J (0 : Int))) (841 : Int)) (G (V (0 : Int) (20 : Int)) (2 : Int)) (0 : Nat) ∧ n_2 = onK U (V (0 : Int) (20 :
  Int)) (2 : Int) (V (J (J (0 : Int))) (841 : Int)) (G (V (0 : Int) (20 : Int)) (2 : Int)) (1 : Nat) ∧ n_3 = onK U (V (0 : Int) (20 : Int)) (2 : Int) (V (J (J (0 : Int))) (841 :
  Int)) (G (V (0 : Int) (20 : Int)) (2 : Int)) (2 : Nat) ∧ True) ∧ True) ∧ ∀ (x_1 : Int), InnP x_1 → bif decide (x_1 < (3 : Int)) then bif decide ((0 : Int) ≤ x_1 ∧ x_1 < (3 : Int))
  then ∃ n, List.take [AV.int IntKind.i64 n].length (List.drop ((0 : Nat) + x_1.toNat * (1 : Nat)) [AV.int IntKind.i64 (K (G (V (0 : Int) (20 : Int)) (2 : Int)) (0 : Nat)), AV.int
  IntKind.i64 (K (G (V (0 : Int) (20 : Int)) (2 : Int)) (1 : Nat)), AV.int IntKind.i64 (K (G (V (0 : Int) (20 : Int)) (2 : Int)) (2 : Nat))]) = [AV.int IntKind.i64 n] ∧ bif decide (n
  = K (V (0 : Int) (20 : Int)) (0 : Nat)) then bif decide ((0 : Int) ≤ x_1 ∧ x_1 < (3 : Int)) then ∃ n, List.take [AV.int IntKind.i64 n].length (List.drop ((0 : Nat) + x_1.toNat * (1
  : Nat)) [AV.int IntKind.i64 (onK U (V (0 : Int) (20 : Int)) (2 : Int) (V (J (J (0 : Int))) (841 : Int)) (G (V (0 : Int) (20 : Int)) (2 : Int)) (0 : Nat)), AV.int IntKind.i64 (onK U
  (V (0 : Int) (20 : Int)) (2 : Int) (V (J (J (0 : Int))) (841 : Int)) (G (V (0 : Int) (20 : Int)) (2 : Int)) (1 : Nat)), AV.int IntKind.i64 (onK U (V (0 : Int) (20 : Int)) (2 : Int)
  (V (J (J (0 : Int))) (841 : Int)) (G (V (0 : Int) (20 : Int)) (2 : Int)) (2 : Nat))]) = [AV.int IntKind.i64 n] ∧ bif decide (rng IntKind.i64 (x_1 + (1 : Int))) then ∃ y, InnP y ∧
  (innI L G K U (V (0 : Int) (20 : Int)) (V (J (J (0 : Int))) (841 : Int)) (2 : Int) x.fst).m y < (innI L G K U (V (0 : Int) (20 : Int)) (V (J (J (0 : Int))) (841 : Int)) (2 : Int)
  x.fst).m x_1 ∧ ((2 : Int) = (2 : Int) ∧ V (J (J (0 : Int))) (841 : Int) = V (J (J (0 : Int))) (841 : Int) ∧ G (V (0 : Int) (20 : Int)) (2 : Int) = G (V (0 : Int) (20 : Int)) (2 :
  Int) ∧ (True ∧ rowK L (V (0 : Int) (20 : Int)) (2 : Int) (V (J (J (0 : Int))) (841 : Int)) = rowK L (V (0 : Int) (20 : Int)) (2 : Int) (V (J (J (0 : Int))) (841 : Int))) ∧ (0 :
  Nat) = (0 : Nat) ∧ decide (n = V (J (J (0 : Int))) (841 : Int)) = true ∧ (0 : Nat) = (0 : Nat) ∧ (0 : Nat) = (0 : Nat) ∧ x_1 + (1 : Int) = y ∧ (True ∧ rowK L (V (0 : Int) (20 :
  Int)) (2 : Int) (V (J (J (0 : Int))) (841 : Int)) = rowK L (V (0 : Int) (20 : Int)) (2 : Int) (V (J (J (0 : Int))) (841 : Int))) ∧ (↑(rowK L (V (0 : Int) (20 : Int)) (2 : Int) (V
  (J (J (0 : Int))) (841 : Int))).length : Int) = (↑(rowK L (V (0 : Int) (20 : Int)) (2 : Int) (V (J (J (0 : Int))) (841 : Int))).length : Int) ∧ x.fst = x.fst ∧ True) ∧ (K (V (0 :
  Int) (20 : Int)) (0 : Nat) = K (V (0 : Int) (20 : Int)) (0 : Nat) ∧ K (V (0 : Int) (20 : Int)) (1 : Nat) = K (V (0 : Int) (20 : Int)) (1 : Nat) ∧ K (V (0 : Int) (20 : Int)) (2 :
  Nat) = K (V (0 : Int) (20 : Int)) (2 : Nat) ∧ True) ∧ (K (G (V (0 : Int) (20 : Int)) (2 : Int)) (0 : Nat) = K (G (V (0 : Int) (20 : Int)) (2 : Int)) (0 : Nat) ∧ K (G (V (0 : Int)
  (20 : Int)) (2 : Int)) (1 : Nat) = K (G (V (0 : Int) (20 : Int)) (2 : Int)) (1 : Nat) ∧ K (G (V (0 : Int) (20 : Int)) (2 : Int)) (2 : Nat) = K (G (V (0 : Int) (20 : Int)) (2 :
  Int)) (2 : Nat) ∧ True) ∧ (onK U (V (0 : Int) (20 : Int)) (2 : Int) (V (J (J (0 : Int))) (841 : Int)) (G (V (0 : Int) (20 : Int)) (2 : Int)) (0 : Nat) = onK U (V (0 : Int) (20 :
  Int)) (2 : Int) (V (J (J (0 : Int))) (841 : Int)) (G (V (0 : Int) (20 : Int)) (2 : Int)) (0 : Nat) ∧ onK U (V (0 : Int) (20 : Int)) (2 : Int) (V (J (J (0 : Int))) (841 : Int)) (G
  (V (0 : Int) (20 : Int)) (2 : Int)) (1 : Nat) = onK U (V (0 : Int) (20 : Int)) (2 : Int) (V (J (J (0 : Int))) (841 : Int)) (G (V (0 : Int) (20 : Int)) (2 : Int)) (1 : Nat) ∧ onK U
  (V (0 : Int) (20 : Int)) (2 : Int) (V (J (J (0 : Int))) (841 : Int)) (G (V (0 : Int) (20 : Int)) (2 : Int)) (2 : Nat) = onK U (V (0 : Int) (20 : Int)) (2 : Int) (V (J (J (0 :
  Int))) (841 : Int)) (G (V (0 : Int) (20 : Int)) (2 : Int)) (2 : Nat) ∧ True) ∧ True else False else False else bif decide (n = K (V (0 : Int) (20 : Int)) (1 : Nat)) then bif decide
  ((0 : Int) ≤ x_1 ∧ x_1 < (3 : Int)) then ∃ n, List.take [AV.int IntKind.i64 n].length (List.drop ((0 : Nat) + x_1.toNat * (1 : Nat)) [AV.int IntKind.i64 (onK U (V (0 : Int) (20 :
  Int)) (2 : Int) (V (J (J (0 : Int))) (841 : Int)) (G (V (0 : Int) (20 : Int)) (2 : Int)) (0 : Nat)), AV.int IntKind.i64 (onK U (V (0 : Int) (20 : Int)) (2 : Int) (V (J (J (0 :
  Int))) (841 : Int)) (G (V (0 : Int) (20 : Int)) (2 : Int)) (1 : Nat)), AV.int IntKind.i64 (onK U (V (0 : Int) (20 : Int)) (2 : Int) (V (J (J (0 : Int))) (841 : Int)) (G (V (0 :
  Int) (20 : Int)) (2 : Int)) (2 : Nat))]) = [AV.int IntKind.i64 n] ∧ bif decide (rng IntKind.i64 ((840 : Int) - V (J (J (0 : Int))) (841 : Int))) then bif decide (rng IntKind.i64
  (x_1 + (1 : Int))) then ∃ y, InnP y ∧ (innI L G K U (V (0 : Int) (20 : Int)) (V (J (J (0 : Int))) (841 : Int)) (2 : Int) x.fst).m y < (innI L G K U (V (0 : Int) (20 : Int)) (V (J
  (J (0 : Int))) (841 : Int)) (2 : Int) x.fst).m x_1 ∧ ((2 : Int) = (2 : Int) ∧ V (J (J (0 : Int))) (841 : Int) = V (J (J (0 : Int))) (841 : Int) ∧ G (V (0 : Int) (20 : Int)) (2 :
  Int) = G (V (0 : Int) (20 : Int)) (2 : Int) ∧ (True ∧ rowK L (V (0 : Int) (20 : Int)) (2 : Int) (V (J (J (0 : Int))) (841 : Int)) = rowK L (V (0 : Int) (20 : Int)) (2 : Int) (V (J
  (J (0 : Int))) (841 : Int))) ∧ (0 : Nat) = (0 : Nat) ∧ decide (n = (840 : Int) - V (J (J (0 : Int))) (841 : Int)) = true ∧ (0 : Nat) = (0 : Nat) ∧ (0 : Nat) = (0 : Nat) ∧ x_1 + (1
  : Int) = y ∧ (True ∧ rowK L (V (0 : Int) (20 : Int)) (2 : Int) (V (J (J (0 : Int))) (841 : Int)) = rowK L (V (0 : Int) (20 : Int)) (2 : Int) (V (J (J (0 : Int))) (841 : Int))) ∧
  (↑(rowK L (V (0 : Int) (20 : Int)) (2 : Int) (V (J (J (0 : Int))) (841 : Int))).length : Int) = (↑(rowK L (V (0 : Int) (20 : Int)) (2 : Int) (V (J (J (0 : Int))) (841 :
  Int))).length : Int) ∧ x.fst = x.fst ∧ True) ∧ (K (V (0 : Int) (20 : Int)) (0 : Nat) = K (V (0 : Int) (20 : Int)) (0 : Nat) ∧ K (V (0 : Int) (20 : Int)) (1 : Nat) = K (V (0 : Int)
  (20 : Int)) (1 : Nat) ∧ K (V (0 : Int) (20 : Int)) (2 : Nat) = K (V (0 : Int) (20 : Int)) (2 : Nat) ∧ True) ∧ (K (G (V (0 : Int) (20 : Int)) (2 : Int)) (0 : Nat) = K (G (V (0 :
  Int) (20 : Int)) (2 : Int)) (0 : Nat) ∧ K (G (V (0 : Int) (20 : Int)) (2 : Int)) (1 : Nat) = K (G (V (0 : Int) (20 : Int)) (2 : Int)) (1 : Nat) ∧ K (G (V (0 : Int) (20 : Int)) (2 :
  Int)) (2 : Nat) = K (G (V (0 : Int) (20 : Int)) (2 : Int)) (2 : Nat) ∧ True) ∧ (onK U (V (0 : Int) (20 : Int)) (2 : Int) (V (J (J (0 : Int))) (841 : Int)) (G (V (0 : Int) (20 :
  Int)) (2 : Int)) (0 : Nat) = onK U (V (0 : Int) (20 : Int)) (2 : Int) (V (J (J (0 : Int))) (841 : Int)) (G (V (0 : Int) (20 : Int)) (2 : Int)) (0 : Nat) ∧ onK U (V (0 : Int) (20 :
  Int)) (2 : Int) (V (J (J (0 : Int))) (841 : Int)) (G (V (0 : Int) (20 : Int)) (2 : Int)) (1 : Nat) = onK U (V (0 : Int) (20 : Int)) (2 : Int) (V (J (J (0 : Int))) (841 : Int)) (G
  (V (0 : Int) (20 : Int)) (2 : Int)) (1 : Nat) ∧ onK U (V (0 : Int) (20 : Int)) (2 : Int) (V (J (J (0 : Int))) (841 : Int)) (G (V (0 : Int) (20 : Int)) (2 : Int)) (2 : Nat) = onK U
  (V (0 : Int) (20 : Int)) (2 : Int) (V (J (J (0 : Int))) (841 : Int)) (G (V (0 : Int) (20 : Int)) (2 : Int)) (2 : Nat) ∧ True) ∧ True else False else False else False else bif
  decide ((0 : Int) ≤ x_1 ∧ x_1 < (3 : Int)) then ∃ n, List.take [AV.int IntKind.i64 n].length (List.drop ((0 : Nat) + x_1.toNat * (1 : Nat)) [AV.int IntKind.i64 (onK U (V (0 : Int)
  (20 : Int)) (2 : Int) (V (J (J (0 : Int))) (841 : Int)) (G (V (0 : Int) (20 : Int)) (2 : Int)) (0 : Nat)), AV.int IntKind.i64 (onK U (V (0 : Int) (20 : Int)) (2 : Int) (V (J (J (0
  : Int))) (841 : Int)) (G (V (0 : Int) (20 : Int)) (2 : Int)) (1 : Nat)), AV.int IntKind.i64 (onK U (V (0 : Int) (20 : Int)) (2 : Int) (V (J (J (0 : Int))) (841 : Int)) (G (V (0 :
  Int) (20 : Int)) (2 : Int)) (2 : Nat))]) = [AV.int IntKind.i64 n] ∧ bif decide (rng IntKind.i64 (x_1 + (1 : Int))) then ∃ y, InnP y ∧ (innI L G K U (V (0 : Int) (20 : Int)) (V (J
  (J (0 : Int))) (841 : Int)) (2 : Int) x.fst).m y < (innI L G K U (V (0 : Int) (20 : Int)) (V (J (J (0 : Int))) (841 : Int)) (2 : Int) x.fst).m x_1 ∧ ((2 : Int) = (2 : Int) ∧ V (J
  (J (0 : Int))) (841 : Int) = V (J (J (0 : Int))) (841 : Int) ∧ G (V (0 : Int) (20 : Int)) (2 : Int) = G (V (0 : Int) (20 : Int)) (2 : Int) ∧ (True ∧ rowK L (V (0 : Int) (20 : Int))
  (2 : Int) (V (J (J (0 : Int))) (841 : Int)) = rowK L (V (0 : Int) (20 : Int)) (2 : Int) (V (J (J (0 : Int))) (841 : Int))) ∧ (0 : Nat) = (0 : Nat) ∧ decide (n = (0 : Int)) = true ∧
  (0 : Nat) = (0 : Nat) ∧ (0 : Nat) = (0 : Nat) ∧ x_1 + (1 : Int) = y ∧ (True ∧ rowK L (V (0 : Int) (20 : Int)) (2 : Int) (V (J (J (0 : Int))) (841 : Int)) = rowK L (V (0 : Int) (20
  : Int)) (2 : Int) (V (J (J (0 : Int))) (841 : Int))) ∧ (↑(rowK L (V (0 : Int) (20 : Int)) (2 : Int) (V (J (J (0 : Int))) (841 : Int))).length : Int) = (↑(rowK L (V (0 : Int) (20 :
  Int)) (2 : Int) (V (J (J (0 : Int))) (841 : Int))).length : Int) ∧ x.fst = x.fst ∧ True) ∧ (K (V (0 : Int) (20 : Int)) (0 : Nat) = K (V (0 : Int) (20 : Int)) (0 : Nat) ∧ K (V (0 :
  Int) (20 : Int)) (1 : Nat) = K (V (0 : Int) (20 : Int)) (1 : Nat) ∧ K (V (0 : Int) (20 : Int)) (2 : Nat) = K (V (0 : Int) (20 : Int)) (2 : Nat) ∧ True) ∧ (K (G (V (0 : Int) (20 :
  Int)) (2 : Int)) (0 : Nat) = K (G (V (0 : Int) (20 : Int)) (2 : Int)) (0 : Nat) ∧ K (G (V (0 : Int) (20 : Int)) (2 : Int)) (1 : Nat) = K (G (V (0 : Int) (20 : Int)) (2 : Int)) (1 :
  Nat) ∧ K (G (V (0 : Int) (20 : Int)) (2 : Int)) (2 : Nat) = K (G (V (0 : Int) (20 : Int)) (2 : Int)) (2 : Nat) ∧ True) ∧ (onK U (V (0 : Int) (20 : Int)) (2 : Int) (V (J (J (0 :
  Int))) (841 : Int)) (G (V (0 : Int) (20 : Int)) (2 : Int)) (0 : Nat) = onK U (V (0 : Int) (20 : Int)) (2 : Int) (V (J (J (0 : Int))) (841 : Int)) (G (V (0 : Int) (20 : Int)) (2 :
  Int)) (0 : Nat) ∧ onK U (V (0 : Int) (20 : Int)) (2 : Int) (V (J (J (0 : Int))) (841 : Int)) (G (V (0 : Int) (20 : Int)) (2 : Int)) (1 : Nat) = onK U (V (0 : Int) (20 : Int)) (2 :
  Int) (V (J (J (0 : Int))) (841 : Int)) (G (V (0 : Int) (20 : Int)) (2 : Int)) (1 : Nat) ∧ onK U (V (0 : Int) (20 : Int)) (2 : Int) (V (J (J (0 : Int))) (841 : Int)) (G (V (0 : Int)
  (20 : Int)) (2 : Int)) (2 : Nat) = onK U (V (0 : Int) (20 : Int)) (2 : Int) (V (J (J (0 : Int))) (841 : Int)) (G (V (0 : Int) (20 : Int)) (2 : Int)) (2 : Nat) ∧ True) ∧ True else
  False else False else False else bif decide (rng IntKind.i64 (x.fst + (1 : Int))) then ∃ y, OutP (rowK L (V (0 : Int) (20 : Int)) (2 : Int) (V (J (J (0 : Int))) (841 : Int))) (G (V
  (0 : Int) (20 : Int)) (2 : Int)) y ∧ (outI L G K (V (0 : Int) (20 : Int)) (V (J (J (0 : Int))) (841 : Int)) (2 : Int)).m y < (outI L G K (V (0 : Int) (20 : Int)) (V (J (J (0 :
  Int))) (841 : Int)) (2 : Int)).m x ∧ ((2 : Int) = (2 : Int) ∧ V (J (J (0 : Int))) (841 : Int) = V (J (J (0 : Int))) (841 : Int) ∧ G (V (0 : Int) (20 : Int)) (2 : Int) = G (V (0 :
  Int) (20 : Int)) (2 : Int) ∧ (True ∧ rowK L (V (0 : Int) (20 : Int)) (2 : Int) (V (J (J (0 : Int))) (841 : Int)) = rowK L (V (0 : Int) (20 : Int)) (2 : Int) (V (J (J (0 : Int)))
  (841 : Int))) ∧ (0 : Nat) = (0 : Nat) ∧ true = y.snd ∧ (True ∧ rowK L (V (0 : Int) (20 : Int)) (2 : Int) (V (J (J (0 : Int))) (841 : Int)) = rowK L (V (0 : Int) (20 : Int)) (2 :
  Int) (V (J (J (0 : Int))) (841 : Int))) ∧ (↑(rowK L (V (0 : Int) (20 : Int)) (2 : Int) (V (J (J (0 : Int))) (841 : Int))).length : Int) = (↑(rowK L (V (0 : Int) (20 : Int)) (2 :
  Int) (V (J (J (0 : Int))) (841 : Int))).length : Int) ∧ x.fst + (1 : Int) = y.fst ∧ True) ∧ (K (V (0 : Int) (20 : Int)) (0 : Nat) = K (V (0 : Int) (20 : Int)) (0 : Nat) ∧ K (V (0 :
  Int) (20 : Int)) (1 : Nat) = K (V (0 : Int) (20 : Int)) (1 : Nat) ∧ K (V (0 : Int) (20 : Int)) (2 : Nat) = K (V (0 : Int) (20 : Int)) (2 : Nat) ∧ True) ∧ True else False else False
  else bif x.snd then bif decide (V (J (J (0 : Int))) (841 : Int) = (0 : Int)) then True ∧ true = true else bif decide (V (J (J (0 : Int))) (841 : Int) = (840 : Int)) then True ∧
  true = true else bif decide ((↑(rowK L (V (0 : Int) (20 : Int)) (2 : Int) (V (J (J (0 : Int))) (841 : Int))).length : Int) = (2 : Int)) then True ∧ true = true else false = true
  else false = true else False) ∧ True
set_option maxRecDepth 100000 in
theorem placeAcross_P : placeAcross_T := by
  unfold placeAcross_T
  intro zs X V J L G K U ⟨hs, hk⟩ _
  have hF := hs.v 0 20 (by decide)
  have hK := hs.v (J 0) 3 (by decide)
  have hA := hs.v (J (J 0)) 841 (by decide)
  have j1 := hs.jle 0 (by decide)
  have j2 := hs.jle (J 0) j1
  have hA : 0 ≤ V (J (J 0)) 841 ∧ V (J (J 0)) 841 ≤ 840 := by omega
  refine ⟨hs.X, ⟨⟨⟨rfl, by decide⟩, by decide⟩, ⟨⟨rfl, j1⟩, by decide⟩, ⟨⟨rfl, j2⟩, by decide⟩, ⟨V (J 0) 3, ⟨rfl⟩, ⟨rfl, rfl, rfl, rfl, trivial⟩, trivial⟩⟩, ?_, ?_, ?_, ?_, trivial⟩
  · rintro x ⟨e⟩
    omega
  · intro _
    obtain ⟨g0, hrow, hall, c1, c2, c3, hlen, hsm⟩ := hk.f0 (V 0 20) (V (J (J 0)) 841) hF hA
    have hv : Vld (V 0 20) 0 (V (J (J 0)) 841) (840 - (V (J (J 0)) 841)) := ⟨hF, by omega, by omega, by omega, by omega⟩
    generalize V 0 20 = F at *
    generalize V (J (J 0)) 841 = A at *
    generalize hR : rowK L F 0 A = R at hrow hall hlen hsm
    have e : L F 0 A (840 - A) = R := hR
    have el : ((L F 0 A (840 - A)).length : Int) = (R.length : Int) := by rw [e]
    generalize hu : onK U F 0 A = u at hrow c1 c2 c3
    generalize hg : G F 0 = g at *
    simp only [hu]
    refine cdI (by omega) ⟨⟨hF, by decide, by decide⟩, hv, hF, ⟨⟨(0, false), ⟨by simp, by simp, rfl⟩, ?_⟩, ?_⟩⟩
    · repeat' (first | apply And.intro | exact trivial | exact rfl | exact e | exact el)
    rintro ⟨i, fd⟩ ⟨i0, i1, hfd⟩
    simp only at i0 i1 hfd
    refine cs (fun hlt => ?_) (fun hlt => ?_)
    · dsimp only at hlt
      have hst := seen_step (l := R) (g := g) (n := i.toNat) (by omega)
      have e1 : (i + 1).toNat = i.toNat + 1 := by omega
      obtain ⟨n, hr⟩ := hrow i.toNat (by omega)
      refine cd1 (by exact ⟨i0, hlt⟩) ⟨n, _, _, _, by rw [hr]; rfl, cs (fun hn => ?_) (fun hn => ?_)⟩
      · refine cdI (by dsimp only; omega) ⟨(i + 1, fd), ⟨by dsimp only; omega, by dsimp only; omega, ?_⟩, by simp only [outI, hR]; omega, ?_⟩
        · dsimp only; rw [e1, hst, hr, ← hfd]
          have : isF g [AV.int .i64 n, .int .i64 (u n 0), .int .i64 (u n 1), .int .i64 (u n 2)] = false := decide_eq_false hn
          rw [this, Bool.or_false]
        · repeat' (first | apply And.intro | exact trivial | exact rfl)
      · have hn := Decidable.not_not.1 hn
        subst hn
        have hst2 : seen R n (i.toNat + 1) = true := by
          rw [hst, hr]
          have : isF n [AV.int .i64 n, .int .i64 (u n 0), .int .i64 (u n 1), .int .i64 (u n 2)] = true := decide_eq_true rfl
          rw [this, Bool.or_true]
        refine ⟨g0, ⟨⟨0, ⟨by decide, by decide⟩, ?_⟩, ?_⟩⟩
        · repeat' (first | apply And.intro | exact trivial | exact rfl)
        rintro m ⟨m0, m3⟩
        refine cs (fun hm => ?_) (fun hm => ?_)
        · have hk : m.toNat < 3 := by omega
          refine cd1 ⟨m0, hm⟩ ⟨_, pick3 _ _ _ m0 hm, cs (fun q1 => cd1 ⟨m0, hm⟩ ⟨_, pick3 _ _ _ m0 hm, cdI (by omega) ⟨m + 1, ⟨by omega, by omega⟩, by simp only [innI]; omega, ?_⟩⟩) (fun q1 => cs (fun q2 => cd1 ⟨m0, hm⟩ ⟨_, pick3 _ _ _ m0 hm, cdI (by omega) (cdI (by omega) ⟨m + 1, ⟨by omega, by omega⟩, by simp only [innI]; omega, ?_⟩)⟩) (fun q2 => cd1 ⟨m0, hm⟩ ⟨_, pick3 _ _ _ m0 hm, cdI (by omega) ⟨m + 1, ⟨by omega, by omega⟩, by simp only [innI]; omega, ?_⟩⟩))⟩
          · have e := decide_eq_true (c1 _ hk q1)
            repeat' (first | apply And.intro | exact trivial | exact rfl | exact e)
          · have e := decide_eq_true (c2 _ hk q1 q2)
            repeat' (first | apply And.intro | exact trivial | exact rfl | exact e)
          · have e := decide_eq_true (c3 _ hk q1 q2)
            repeat' (first | apply And.intro | exact trivial | exact rfl | exact e)
        · refine cdI (by dsimp only; omega) ⟨(i + 1, true), ⟨by dsimp only; omega, by dsimp only; omega, ?_⟩, by simp only [outI, hR]; omega, ?_⟩
          · dsimp only; rw [e1, hst2]
          · repeat' (first | apply And.intro | exact trivial | exact rfl)
    · dsimp only at hlt ⊢
      rw [show i.toNat = R.length by omega, hall] at hfd
      rw [hfd]
      exact cs (fun _ => ⟨trivial, by trivial⟩) (fun a0 => cs (fun _ => ⟨trivial, by trivial⟩) (fun a1 => cd1 (by exact hlen a0 a1) ⟨trivial, by trivial⟩))
  · intro _
    obtain ⟨g0, hrow, hall, c1, c2, c3, hlen, hsm⟩ := hk.f1 (V 0 20) (V (J (J 0)) 841) hF hA
    have hv : Vld (V 0 20) (840 - (V (J (J 0)) 841)) 0 (V (J (J 0)) 841) := ⟨hF, by omega, by omega, by omega, by omega⟩
    generalize V 0 20 = F at *
    generalize V (J (J 0)) 841 = A at *
    generalize hR : rowK L F 1 A = R at hrow hall hlen hsm
    have e : L F (840 - A) 0 A = R := hR
    have el : ((L F (840 - A) 0 A).length : Int) = (R.length : Int) := by rw [e]
    generalize hu : onK U F 1 A = u at hrow c1 c2 c3
    generalize hg : G F 1 = g at *
    simp only [hu]
    refine cdI (by omega) ⟨⟨hF, by decide, by decide⟩, hv, hF, ⟨⟨(0, false), ⟨by simp, by simp, rfl⟩, ?_⟩, ?_⟩⟩
    · repeat' (first | apply And.intro | exact trivial | exact rfl | exact e | exact el)
    rintro ⟨i, fd⟩ ⟨i0, i1, hfd⟩
    simp only at i0 i1 hfd
    refine cs (fun hlt => ?_) (fun hlt => ?_)
    · dsimp only at hlt
      have hst := seen_step (l := R) (g := g) (n := i.toNat) (by omega)
      have e1 : (i + 1).toNat = i.toNat + 1 := by omega
      obtain ⟨n, hr⟩ := hrow i.toNat (by omega)
      refine cd1 (by exact ⟨i0, hlt⟩) ⟨n, _, _, _, by rw [hr]; rfl, cs (fun hn => ?_) (fun hn => ?_)⟩
      · refine cdI (by dsimp only; omega) ⟨(i + 1, fd), ⟨by dsimp only; omega, by dsimp only; omega, ?_⟩, by simp only [outI, hR]; omega, ?_⟩
        · dsimp only; rw [e1, hst, hr, ← hfd]
          have : isF g [AV.int .i64 n, .int .i64 (u n 0), .int .i64 (u n 1), .int .i64 (u n 2)] = false := decide_eq_false hn
          rw [this, Bool.or_false]
        · repeat' (first | apply And.intro | exact trivial | exact rfl)
      · have hn := Decidable.not_not.1 hn
        subst hn
        have hst2 : seen R n (i.toNat + 1) = true := by
          rw [hst, hr]
          have : isF n [AV.int .i64 n, .int .i64 (u n 0), .int .i64 (u n 1), .int .i64 (u n 2)] = true := decide_eq_true rfl
          rw [this, Bool.or_true]
        refine ⟨g0, ⟨⟨0, ⟨by decide, by decide⟩, ?_⟩, ?_⟩⟩
        · repeat' (first | apply And.intro | exact trivial | exact rfl)
        rintro m ⟨m0, m3⟩
        refine cs (fun hm => ?_) (fun hm => ?_)
        · have hk : m.toNat < 3 := by omega
          refine cd1 ⟨m0, hm⟩ ⟨_, pick3 _ _ _ m0 hm, cs (fun q1 => cd1 ⟨m0, hm⟩ ⟨_, pick3 _ _ _ m0 hm, cdI (by omega) ⟨m + 1, ⟨by omega, by omega⟩, by simp only [innI]; omega, ?_⟩⟩) (fun q1 => cs (fun q2 => cd1 ⟨m0, hm⟩ ⟨_, pick3 _ _ _ m0 hm, cdI (by omega) (cdI (by omega) ⟨m + 1, ⟨by omega, by omega⟩, by simp only [innI]; omega, ?_⟩)⟩) (fun q2 => cd1 ⟨m0, hm⟩ ⟨_, pick3 _ _ _ m0 hm, cdI (by omega) ⟨m + 1, ⟨by omega, by omega⟩, by simp only [innI]; omega, ?_⟩⟩))⟩
          · have e := decide_eq_true (c1 _ hk q1)
            repeat' (first | apply And.intro | exact trivial | exact rfl | exact e)
          · have e := decide_eq_true (c2 _ hk q1 q2)
            repeat' (first | apply And.intro | exact trivial | exact rfl | exact e)
          · have e := decide_eq_true (c3 _ hk q1 q2)
            repeat' (first | apply And.intro | exact trivial | exact rfl | exact e)
        · refine cdI (by dsimp only; omega) ⟨(i + 1, true), ⟨by dsimp only; omega, by dsimp only; omega, ?_⟩, by simp only [outI, hR]; omega, ?_⟩
          · dsimp only; rw [e1, hst2]
          · repeat' (first | apply And.intro | exact trivial | exact rfl)
    · dsimp only at hlt ⊢
      rw [show i.toNat = R.length by omega, hall] at hfd
      rw [hfd]
      exact cs (fun _ => ⟨trivial, by trivial⟩) (fun a0 => cs (fun _ => ⟨trivial, by trivial⟩) (fun a1 => cd1 (by exact hlen a0 a1) ⟨trivial, by trivial⟩))
  · intro _
    obtain ⟨g0, hrow, hall, c1, c2, c3, hlen, hsm⟩ := hk.f2 (V 0 20) (V (J (J 0)) 841) hF hA
    have hv : Vld (V 0 20) (V (J (J 0)) 841) (840 - (V (J (J 0)) 841)) 0 := ⟨hF, by omega, by omega, by omega, by omega⟩
    generalize V 0 20 = F at *
    generalize V (J (J 0)) 841 = A at *
    generalize hR : rowK L F 2 A = R at hrow hall hlen hsm
    have e : L F A (840 - A) 0 = R := hR
    have el : ((L F A (840 - A) 0).length : Int) = (R.length : Int) := by rw [e]
    generalize hu : onK U F 2 A = u at hrow c1 c2 c3
    generalize hg : G F 2 = g at *
    simp only [hu]
    refine cdI (by omega) ⟨⟨hF, by decide, by decide⟩, hv, hF, ⟨⟨(0, false), ⟨by simp, by simp, rfl⟩, ?_⟩, ?_⟩⟩
    · repeat' (first | apply And.intro | exact trivial | exact rfl | exact e | exact el)
    rintro ⟨i, fd⟩ ⟨i0, i1, hfd⟩
    simp only at i0 i1 hfd
    refine cs (fun hlt => ?_) (fun hlt => ?_)
    · dsimp only at hlt
      have hst := seen_step (l := R) (g := g) (n := i.toNat) (by omega)
      have e1 : (i + 1).toNat = i.toNat + 1 := by omega
      obtain ⟨n, hr⟩ := hrow i.toNat (by omega)
      refine cd1 (by exact ⟨i0, hlt⟩) ⟨n, _, _, _, by rw [hr]; rfl, cs (fun hn => ?_) (fun hn => ?_)⟩
      · refine cdI (by dsimp only; omega) ⟨(i + 1, fd), ⟨by dsimp only; omega, by dsimp only; omega, ?_⟩, by simp only [outI, hR]; omega, ?_⟩
        · dsimp only; rw [e1, hst, hr, ← hfd]
          have : isF g [AV.int .i64 n, .int .i64 (u n 0), .int .i64 (u n 1), .int .i64 (u n 2)] = false := decide_eq_false hn
          rw [this, Bool.or_false]
        · repeat' (first | apply And.intro | exact trivial | exact rfl)
      · have hn := Decidable.not_not.1 hn
        subst hn
        have hst2 : seen R n (i.toNat + 1) = true := by
          rw [hst, hr]
          have : isF n [AV.int .i64 n, .int .i64 (u n 0), .int .i64 (u n 1), .int .i64 (u n 2)] = true := decide_eq_true rfl
          rw [this, Bool.or_true]
        refine ⟨g0, ⟨⟨0, ⟨by decide, by decide⟩, ?_⟩, ?_⟩⟩
        · repeat' (first | apply And.intro | exact trivial | exact rfl)
        rintro m ⟨m0, m3⟩
        refine cs (fun hm => ?_) (fun hm => ?_)
        · have hk : m.toNat < 3 := by omega
          refine cd1 ⟨m0, hm⟩ ⟨_, pick3 _ _ _ m0 hm, cs (fun q1 => cd1 ⟨m0, hm⟩ ⟨_, pick3 _ _ _ m0 hm, cdI (by omega) ⟨m + 1, ⟨by omega, by omega⟩, by simp only [innI]; omega, ?_⟩⟩) (fun q1 => cs (fun q2 => cd1 ⟨m0, hm⟩ ⟨_, pick3 _ _ _ m0 hm, cdI (by omega) (cdI (by omega) ⟨m + 1, ⟨by omega, by omega⟩, by simp only [innI]; omega, ?_⟩)⟩) (fun q2 => cd1 ⟨m0, hm⟩ ⟨_, pick3 _ _ _ m0 hm, cdI (by omega) ⟨m + 1, ⟨by omega, by omega⟩, by simp only [innI]; omega, ?_⟩⟩))⟩
          · have e := decide_eq_true (c1 _ hk q1)
            repeat' (first | apply And.intro | exact trivial | exact rfl | exact e)
          · have e := decide_eq_true (c2 _ hk q1 q2)
            repeat' (first | apply And.intro | exact trivial | exact rfl | exact e)
          · have e := decide_eq_true (c3 _ hk q1 q2)
            repeat' (first | apply And.intro | exact trivial | exact rfl | exact e)
        · refine cdI (by dsimp only; omega) ⟨(i + 1, true), ⟨by dsimp only; omega, by dsimp only; omega, ?_⟩, by simp only [outI, hR]; omega, ?_⟩
          · dsimp only; rw [e1, hst2]
          · repeat' (first | apply And.intro | exact trivial | exact rfl)
    · dsimp only at hlt ⊢
      rw [show i.toNat = R.length by omega, hall] at hfd
      rw [hfd]
      exact cs (fun _ => ⟨trivial, by trivial⟩) (fun a0 => cs (fun _ => ⟨trivial, by trivial⟩) (fun a1 => cd1 (by exact hlen a0 a1) ⟨trivial, by trivial⟩))
def placeAcross_S : Prop := ∀ (zs X : List (List AV)) (V : Int → Int → Int) (J : Int → Int) (L : Int → Int → Int → Int → List (List AV)) (G : Int → Int → Int) (K : Int → Nat → Int) (U : Int → Int → Int → Int → Int → Nat → Int), AcrV zs X V J ∧ AcrA L G K U → fnK Tryd.prog { glob := glb, spec := lk [(14, awake_s), (20, acrG_s G), (11, adrG_s L), (16, corG_s K)], specH := lk [(9, newg_s X), (21, nV_s X V J)], shape := [81, 106, 111, 125, 140], nowf := true } { nt := 163, drop := drp [(1, 12582912), (2, 1056964608), (3, 1073741824), (4, 4395899027456), (5, 1121501860331520), (6, 70931694131085312), (7, 2233785415175766016), (8, 71481133285624512512), (9, 37705144886662323503104), (14, 3626777458843887524118528), (15, 33849922949209616891772928), (16, 2398508826115424282617053184), (17, 314436769978486589824377552896), (18, 950737950171172051122527404032), (20, 1267650600228229401496703205376), (21, 15211807202738752817960438464512), (22, 60847228810955011271841753858048), (23, 20606928157310097150730407306592256), (24, 2616917616701553124779370149926928384), (25, 677906277850307095180941600742975733760), (26, 85751156464076492792770401072805589286912), (27, 44514378111129486036424812645794190349828096), (28, 44601490397061246283071436545296723011960832), (29, 11691923895666429223136912518857173563801436422144)] } (fun id st => cond (Nat.beq id 100003) (some (cutK V J)) (cond (Nat.beq id 13) (numK st 5 fun k => some (outI L G K (V 0 20) (V (J (J 0)) 841) k)) (cond (Nat.beq id 20) (numK st 5 fun k => numK st 78 fun i => some (innI L G K U (V 0 20) (V (J (J 0)) 841) k i)) none))) 6 Tryd.f7 [.sl 1 false zs] (.bool true)
set_option maxRecDepth 100000 in
theorem placeAcross_e : placeAcross_T = placeAcross_S := by kernel_rfl
theorem placeAcross_v : placeAcross_S := @Eq.mp (placeAcross_T) (placeAcross_S) (placeAcross_e) placeAcross_P
theorem crn_pos {f : Int} (hf : 0 ≤ f ∧ f < 20) : pos f (crn f 0) = 0 ∧ pos f (crn f 1) = 1 ∧ pos f (crn f 2) = 2 := by
  have h := allF_get okF_all hf hf
  unfold okF at h
  simp only [Bool.and_eq_true, decide_eq_true_eq] at h
  exact ⟨h.1.1.1.1.1.1.1.1, h.1.1.1.1.1.1.1.2, h.1.1.1.1.1.1.2⟩
theorem wt_crn {f x y z : Int} (hf : 0 ≤ f ∧ f < 20) : wt f x y z (crn f 0) = x ∧ wt f x y z (crn f 1) = y ∧ wt f x y z (crn f 2) = z := by
  obtain ⟨h0, h1, h2⟩ := crn_pos hf
  rw [wt_pos, wt_pos, wt_pos, h0, h1, h2]
  exact ⟨rfl, rfl, rfl⟩
theorem sel_wt (f x y z g : Int) {m : Nat} (hm : m < 3) : sel3 (onW f x y z g 0) (onW f x y z g 1) (onW f x y z g 2) m = wt f x y z (sel3 (crn g 0) (crn g 1) (crn g 2) m) := by
  have : m = 0 ∨ m = 1 ∨ m = 2 := by omega
  rcases this with rfl | rfl | rfl <;> rfl
theorem acr_fact {f x y z g a : Int} {p q : Int} (hv : Vld f x y z) (hg : 0 ≤ g ∧ g < 20) (ho : onV f x y z g = true)
    (hp : wt f x y z p = a) (hq : wt f x y z q = 840 - a) (hr : ∀ v, ¬ v = p → ¬ v = q → wt f x y z v = 0) (hl : ¬ a = 0 → ¬ a = 840 → zc x + zc y + zc z = 1) :
    AcrF (adr f x y z) g a p q (crn g 0) (crn g 1) (crn g 2) (fun n m => onW f x y z n m) := by
  have hz := adr_zeros hv
  have hrow : ∀ i, i < (adr f x y z).length → ∃ n ∈ fcsOf f x y z, (adr f x y z).getD i [] = onRow f x y z n := by
    intro i hi
    rw [adr_map hv] at hi ⊢
    rw [List.length_map] at hi
    exact ⟨(fcsOf f x y z)[i], List.getElem_mem hi, by rw [List.getD_eq_getElem?_getD, List.getElem?_map, List.getElem?_eq_getElem hi]; rfl⟩
  refine ⟨hg, fun i hi => ?_, ?_, fun m hm e => ?_, fun m hm e e2 => ?_, fun m hm e e2 => ?_, fun h0 h1 => ?_, ?_⟩
  · obtain ⟨n, _, h⟩ := hrow i hi
    exact ⟨n, h⟩
  · unfold seen
    rw [List.take_length, List.any_eq_true]
    exact ⟨onRow f x y z g, by rw [adr_map hv]; exact List.mem_map.2 ⟨g, fcsOf_mem.2 ⟨hg, ho⟩, rfl⟩, decide_eq_true rfl⟩
  · show sel3 (onW f x y z g 0) (onW f x y z g 1) (onW f x y z g 2) m = a
    rw [sel_wt _ _ _ _ _ hm, e, hp]
  · show sel3 (onW f x y z g 0) (onW f x y z g 1) (onW f x y z g 2) m = 840 - a
    rw [sel_wt _ _ _ _ _ hm, e2, hq]
  · show sel3 (onW f x y z g 0) (onW f x y z g 1) (onW f x y z g 2) m = 0
    rw [sel_wt _ _ _ _ _ hm, hr _ e e2]
  · have := hl h0 h1
    omega
  · omega
theorem acr_ok : (fcs.all fun f => [0, 1, 2].all fun k => decide (0 ≤ acrF f k) && decide (acrF f k < 20) && [true, false].all fun y => [true, false].all fun z =>
    covB f (acrF f k) (if k = 0 then false else if k = 1 then y else z) (if k = 1 then false else if k = 2 then y else z) (if k = 2 then false else if k = 0 then y else z)) = true := by decide +kernel
theorem acr_get {f k : Int} (hf : 0 ≤ f ∧ f < 20) (hk : k ∈ ([0, 1, 2] : List Int)) : (0 ≤ acrF f k ∧ acrF f k < 20) ∧ ∀ y z : Bool, covB f (acrF f k) (if k = 0 then false else if k = 1 then y else z) (if k = 1 then false else if k = 2 then y else z) (if k = 2 then false else if k = 0 then y else z) = true := by
  have h := acr_ok
  rw [List.all_eq_true] at h
  have h := h f (mem_fcs hf)
  rw [List.all_eq_true] at h
  have h := h k hk
  simp only [Bool.and_eq_true, decide_eq_true_eq] at h
  refine ⟨h.1, fun y z => ?_⟩
  have h := h.2
  rw [List.all_eq_true] at h
  have h := h y (mem_tf y)
  rw [List.all_eq_true] at h
  exact h z (mem_tf z)
theorem zero_dec : decide (¬ (0 : Int) = 0) = false := rfl
theorem acr_all : AcrA adr acrF crn onW := by
  refine ⟨fun f a hf ha => ?_, fun f a hf ha => ?_, fun f a hf ha => ?_⟩
  · have hv : Vld f 0 a (840 - a) := ⟨hf, by omega, by omega, by omega, by omega⟩
    obtain ⟨hg, hc⟩ := acr_get hf (k := 0) (by simp)
    obtain ⟨w0, w1, w2⟩ := wt_crn (x := 0) (y := a) (z := 840 - a) hf
    refine acr_fact hv hg ((onV_cov hv hg).trans (hc _ _)) w1 w2 (fun v n1 n2 => ?_) (fun h0 h1 => ?_)
    · unfold wt; rw [if_neg (fun e => n2 e.symm), if_neg (fun e => n1 e.symm)]; split <;> rfl
    · unfold zc; rw [if_pos rfl, if_neg h0, if_neg (by omega)]; rfl
  · have hv : Vld f (840 - a) 0 a := ⟨hf, by omega, by omega, by omega, by omega⟩
    obtain ⟨hg, hc⟩ := acr_get hf (k := 1) (by simp)
    obtain ⟨w0, w1, w2⟩ := wt_crn (x := 840 - a) (y := 0) (z := a) hf
    refine acr_fact hv hg ((onV_cov hv hg).trans (hc _ _)) w2 w0 (fun v n1 n2 => ?_) (fun h0 h1 => ?_)
    · unfold wt; rw [if_neg (fun e => n1 e.symm)]; split
      · rfl
      · rw [if_neg (fun e => n2 e.symm)]
    · unfold zc; rw [if_neg (by omega), if_pos rfl, if_neg h0]; rfl
  · have hv : Vld f a (840 - a) 0 := ⟨hf, by omega, by omega, by omega, by omega⟩
    obtain ⟨hg, hc⟩ := acr_get hf (k := 2) (by simp)
    obtain ⟨w0, w1, w2⟩ := wt_crn (x := a) (y := 840 - a) (z := 0) hf
    refine acr_fact hv hg ((onV_cov hv hg).trans (hc _ _)) w0 w1 (fun v n1 n2 => ?_) (fun h0 h1 => ?_)
    · unfold wt; split
      · rfl
      · rw [if_neg (fun e => n2 e.symm), if_neg (fun e => n1 e.symm)]
    · unfold zc; rw [if_neg h0, if_neg (by omega), if_pos rfl]; rfl
theorem acrG_ok : SOK Tryd.prog glb 20 (acrG_s acrF) := by
  refine ⟨across_ok.1, ?_⟩
  intro xs pre r h hp
  unfold acrG_s at h
  split at h
  · rename_i n c
    simp only [Option.some.injEq, Prod.mk.injEq] at h
    obtain ⟨h1, h2⟩ := h
    subst h1 h2
    have e1 : (fac n && decide (0 ≤ c ∧ c < 3)) = true := by simp [fac, hp]
    have := across_ok.2 [.int .i64 n, .int .i64 c] _ _ rfl trivial
    rw [e1] at this
    simpa using this
  · cases h
theorem adrG_ok : SOK Tryd.prog glb 11 (adrG_s adr) := by
  refine ⟨addresses_ok.1, ?_⟩
  intro xs pre r h hp
  unfold adrG_s at h
  split at h
  · rename_i f a b c
    simp only [Option.some.injEq, Prod.mk.injEq] at h
    obtain ⟨h1, h2⟩ := h
    subst h1 h2
    have := addresses_ok.2 [.agg [.int .i64 f, .int .i64 a, .int .i64 b, .int .i64 c]] _ _ rfl trivial
    rw [vld_t hp] at this
    exact this
  · cases h
theorem corG_ok : SOK Tryd.prog glb 16 (corG_s crn) := by
  refine ⟨corners_ok.1, ?_⟩
  intro xs pre r h hp
  unfold corG_s at h
  split at h
  · rename_i n
    simp only [Option.some.injEq, Prod.mk.injEq] at h
    obtain ⟨h1, h2⟩ := h
    subst h1 h2
    have e1 : fac n = true := by simp [fac, hp]
    have := corners_ok.2 [.int .i64 n] _ _ rfl trivial
    rw [e1] at this
    exact this
  · cases h
theorem nV_ok (gl : Glob) (X : List (List AV)) (hX : SrcI X) : HOK Tryd.prog gl 21 (nV_s X (srcN X) (rawA X)) := by
  refine ⟨(srcn_ok gl).1, ?_⟩
  intro xs bs pre r bs2 h hp
  unfold nV_s at h
  split at h
  · simp only [Option.some.injEq, Prod.mk.injEq] at h
    obtain ⟨h1, h2, h3⟩ := h
    subst h1
    obtain ⟨⟨rfl, h0⟩, _⟩ := hp
    subst h2 h3
    exact (srcn_ok gl).2 _ _ _ _ _ rfl ⟨hX, h0⟩
  · cases h
theorem across_law (zs : List (List AV)) (hz : IntsA zs) : PureC Tryd.prog glb 7 [.sl 1 false zs] (.bool true) :=
  fnK_sound tyNil (by exact specOK rfl rfl ⟨awake_ok, acrG_ok, adrG_ok, corG_ok, trivial⟩ ⟨newg_ok glb _, nV_ok glb _ (SrcI.take hz), trivial⟩) (by kernel_rfl) Tryd.func7 rfl
    (placeAcross_v zs _ _ _ adr acrF crn onW ⟨⟨rfl, fun i n h => srcN_lt h, fun i h => rawA_le h⟩, acr_all⟩)
end Go.Proofs.YtddmmjkhkoencaaDoor
