/- Places: texts read. -/
import Derived.Test.YtddmmjkhkoencaaDoorPlD
import Derived.Test.YtddmmjkhkoencaaDoorDg
namespace Go.Proofs.YtddmmjkhkoencaaDoor
open Go
set_option linter.unusedVariables false
set_option linter.unusedSimpArgs false

theorem num2 {s : ByteArray} {a : Nat} (hs : a + 2 ≤ s.size) : numV (s.extract a (a + 2)) = 10 * (0 + IntKind.u8.wrap (byteI s a - 48)) + IntKind.u8.wrap (byteI s (a + 1) - 48) := by
  have hz : (s.extract a (a + 2)).size = 2 := by rw [ByteArray.size_extract]; omega
  unfold numV
  rw [hz]
  simp only [numR]
  rw [byteI_extract (by omega) hs, byteI_extract (by omega) hs]
  simp only [Nat.add_zero, Int.mul_zero]
theorem num3 {s : ByteArray} {a : Nat} (hs : a + 3 ≤ s.size) : numV (s.extract a (a + 3)) = 10 * (10 * (0 + IntKind.u8.wrap (byteI s a - 48)) + IntKind.u8.wrap (byteI s (a + 1) - 48)) + IntKind.u8.wrap (byteI s (a + 2) - 48) := by
  have hz : (s.extract a (a + 3)).size = 3 := by rw [ByteArray.size_extract]; omega
  unfold numV
  rw [hz]
  simp only [numR]
  rw [byteI_extract (by omega) hs, byteI_extract (by omega) hs, byteI_extract (by omega) hs]
  simp only [Nat.add_zero, Int.mul_zero]
def rF (s : ByteArray) : Int := numV (s.extract 0 2)
def rA (s : ByteArray) : Int := numV (s.extract 2 5)
def rB (s : ByteArray) : Int := numV (s.extract 5 8)
def prs (s : ByteArray) : Bool := decide (s.size = 8) && allD s 8 && vld (rF s) (rA s) (rB s) (840 - rA s - rB s)
def prF (s : ByteArray) : Int := if prs s then rF s else 0
def prA (s : ByteArray) : Int := if prs s then rA s else 0
def prB (s : ByteArray) : Int := if prs s then rB s else 0
def prC (s : ByteArray) : Int := if prs s then 840 - rA s - rB s else 0
def prE (s : ByteArray) : Int := if prs s then 0 else 3
theorem prs_no {s : ByteArray} (h : prs s = false) : (0 = prF s ∧ 0 = prA s ∧ 0 = prB s ∧ 0 = prC s ∧ True) ∧ 3 = prE s ∧ True := by
  unfold prF prA prB prC prE; rw [h]; exact ⟨⟨rfl, rfl, rfl, rfl, trivial⟩, rfl, trivial⟩
theorem prs_sz {s : ByteArray} (h : ¬ s.size = 8) : prs s = false := by unfold prs; rw [decide_eq_false h]; rfl
theorem prs_dig {s : ByteArray} {k : Nat} (hk : k < 8) (h : isD (byteI s k) = false) : prs s = false := by
  unfold prs; rw [allD_bad hk h]; simp
theorem prs_end {s : ByteArray} {T : Prop} {f a b : Int} (hz : s.size = 8) (hd : allD s 8 = true) (ef : f = rF s) (ea : a = rA s) (eb : b = rB s) (hT : T) : T ∧ cond (!vld f a b (840 - a - b)) ((0 = prF s ∧ 0 = prA s ∧ 0 = prB s ∧ 0 = prC s ∧ True) ∧ 3 = prE s ∧ True)
    ((f = prF s ∧ a = prA s ∧ b = prB s ∧ 840 - a - b = prC s ∧ True) ∧ 0 = prE s ∧ True) := by
  have hv : prs s = vld f a b (840 - a - b) := by unfold prs; rw [decide_eq_true hz, hd, ef, ea, eb]; rfl
  refine ⟨hT, ?_⟩
  cases q : vld f a b (840 - a - b) with
  | false => exact prs_no (hv.trans q)
  | true =>
    have q := hv.trans q
    unfold prF prA prB prC prE
    rw [q, ef, ea, eb]
    exact ⟨⟨rfl, rfl, rfl, rfl, trivial⟩, rfl, trivial⟩
def parse_s (prF : ByteArray → Int) (prA : ByteArray → Int) (prB : ByteArray → Int) (prC : ByteArray → Int) (prE : ByteArray → Int) (vld : Int → Int → Int → Int → Bool) : Sp
  | [.str s] => some (True, .tup [.agg [.int .i64 (prF s), .int .i64 (prA s), .int .i64 (prB s), .int .i64 (prC s)], .int .i64 (prE s)])
  | _ => none
set_option maxRecDepth 100000 in
def parse_T (prF : ByteArray → Int) (prA : ByteArray → Int) (prB : ByteArray → Int) (prC : ByteArray → Int) (prE : ByteArray → Int) (vld : Int → Int → Int → Int → Bool) : Prop :=
  ∀ (gl : Glob) (s : ByteArray), s.size.le (9223372036854775807 : Nat) → bif decide ¬(↑s.size : Int) = (8 : Int) then ((0 : Int) = prF s ∧ (0 : Int) = prA s ∧ (0 : Int) = prB s ∧ (0
  : Int) = prC s ∧ True) ∧ (3 : Int) = prE s ∧ True else bif decide ((0 : Int) < (↑s.size : Int)) then bif decide ((0 : Int) ≤ (0 : Int) ∧ (0 : Int) < (↑s.size : Int)) then bif
  decide (byteI s (0 : Nat) < (48 : Int)) then ((0 : Int) = prF s ∧ (0 : Int) = prA s ∧ (0 : Int) = prB s ∧ (0 : Int) = prC s ∧ True) ∧ (3 : Int) = prE s ∧ True else bif decide ((0 :
  Int) ≤ (0 : Int) ∧ (0 : Int) < (↑s.size : Int)) then bif decide ((57 : Int) < byteI s (0 : Nat)) then ((0 : Int) = prF s ∧ (0 : Int) = prA s ∧ (0 : Int) = prB s ∧ (0 : Int) = prC s
  ∧ True) ∧ (3 : Int) = prE s ∧ True else bif decide ((0 : Int) ≤ (0 : Int) ∧ (0 : Int) < (↑s.size : Int)) then bif decide (rng IntKind.i64 ((0 : Int) + IntKind.u8.wrap (byteI s (0 :
  Nat) - (48 : Int)))) then bif decide ((1 : Int) < (↑s.size : Int)) then bif decide ((0 : Int) ≤ (1 : Int) ∧ (1 : Int) < (↑s.size : Int)) then bif decide (byteI s (1 : Nat) < (48 :
  Int)) then ((0 : Int) = prF s ∧ (0 : Int) = prA s ∧ (0 : Int) = prB s ∧ (0 : Int) = prC s ∧ True) ∧ (3 : Int) = prE s ∧ True else bif decide ((0 : Int) ≤ (1 : Int) ∧ (1 : Int) <
  (↑s.size : Int)) then bif decide ((57 : Int) < byteI s (1 : Nat)) then ((0 : Int) = prF s ∧ (0 : Int) = prA s ∧ (0 : Int) = prB s ∧ (0 : Int) = prC s ∧ True) ∧ (3 : Int) = prE s ∧
  True else bif decide (rng IntKind.i64 ((10 : Int) * ((0 : Int) + IntKind.u8.wrap (byteI s (0 : Nat) - (48 : Int))))) then bif decide ((0 : Int) ≤ (1 : Int) ∧ (1 : Int) < (↑s.size :
  Int)) then bif decide (rng IntKind.i64 ((10 : Int) * ((0 : Int) + IntKind.u8.wrap (byteI s (0 : Nat) - (48 : Int))) + IntKind.u8.wrap (byteI s (1 : Nat) - (48 : Int)))) then bif
  decide ((2 : Int) < (↑s.size : Int)) then bif decide ((0 : Int) ≤ (2 : Int) ∧ (2 : Int) < (↑s.size : Int)) then bif decide (byteI s (2 : Nat) < (48 : Int)) then ((0 : Int) = prF s
  ∧ (0 : Int) = prA s ∧ (0 : Int) = prB s ∧ (0 : Int) = prC s ∧ True) ∧ (3 : Int) = prE s ∧ True else bif decide ((0 : Int) ≤ (2 : Int) ∧ (2 : Int) < (↑s.size : Int)) then bif decide
  ((57 : Int) < byteI s (2 : Nat)) then ((0 : Int) = prF s ∧ (0 : Int) = prA s ∧ (0 : Int) = prB s ∧ (0 : Int) = prC s ∧ True) ∧ (3 : Int) = prE s ∧ True else bif decide ((0 : Int) ≤
  (2 : Int) ∧ (2 : Int) < (↑s.size : Int)) then bif decide (rng IntKind.i64 ((0 : Int) + IntKind.u8.wrap (byteI s (2 : Nat) - (48 : Int)))) then bif decide ((3 : Int) < (↑s.size :
  Int)) then bif decide ((0 : Int) ≤ (3 : Int) ∧ (3 : Int) < (↑s.size : Int)) then bif decide (byteI s (3 : Nat) < (48 : Int)) then ((0 : Int) = prF s ∧ (0 : Int) = prA s ∧ (0 : Int)
  = prB s ∧ (0 : Int) = prC s ∧ True) ∧ (3 : Int) = prE s ∧ True else bif decide ((0 : Int) ≤ (3 : Int) ∧ (3 : Int) < (↑s.size : Int)) then bif decide ((57 : Int) < byteI s (3 :
  Nat)) then ((0 : Int) = prF s ∧ (0 : Int) = prA s ∧ (0 : Int) = prB s ∧ (0 : Int) = prC s ∧ True) ∧ (3 : Int) = prE s ∧ True else bif decide (rng IntKind.i64 ((10 : Int) * ((0 :
  Int) + IntKind.u8.wrap (byteI s (2 : Nat) - (48 : Int))))) then bif decide ((0 : Int) ≤ (3 : Int) ∧ (3 : Int) < (↑s.size : Int)) then bif decide (rng IntKind.i64 ((10 : Int) * ((0
  : Int) + IntKind.u8.wrap (byteI s (2 : Nat) - (48 : Int))) + IntKind.u8.wrap (byteI s (3 : Nat) - (48 : Int)))) then bif decide ((4 : Int) < (↑s.size : Int)) then bif decide ((0 :
  Int) ≤ (4 : Int) ∧ (4 : Int) < (↑s.size : Int)) then bif decide (byteI s (4 : Nat) < (48 : Int)) then ((0 : Int) = prF s ∧ (0 : Int) = prA s ∧ (0 : Int) = prB s ∧ (0 : Int) = prC s
  ∧ True) ∧ (3 : Int) = prE s ∧ True else bif decide ((0 : Int) ≤ (4 : Int) ∧ (4 : Int) < (↑s.size : Int)) then bif decide ((57 : Int) < byteI s (4 : Nat)) then ((0 : Int) = prF s ∧
  (0 : Int) = prA s ∧ (0 : Int) = prB s ∧ (0 : Int) = prC s ∧ True) ∧ (3 : Int) = prE s ∧ True else bif decide (rng IntKind.i64 ((10 : Int) * ((10 : Int) * ((0 : Int) +
  IntKind.u8.wrap (byteI s (2 : Nat) - (48 : Int))) + IntKind.u8.wrap (byteI s (3 : Nat) - (48 : Int))))) then bif decide ((0 : Int) ≤ (4 : Int) ∧ (4 : Int) < (↑s.size : Int)) then
  bif decide (rng IntKind.i64 ((10 : Int) * ((10 : Int) * ((0 : Int) + IntKind.u8.wrap (byteI s (2 : Nat) - (48 : Int))) + IntKind.u8.wrap (byteI s (3 : Nat) - (48 : Int))) +
  IntKind.u8.wrap (byteI s (4 : Nat) - (48 : Int)))) then bif decide ((5 : Int) < (↑s.size : Int)) then bif decide ((0 : Int) ≤ (5 : Int) ∧ (5 : Int) < (↑s.size : Int)) then bif
  decide (byteI s (5 : Nat) < (48 : Int)) then ((0 : Int) = prF s ∧ (0 : Int) = prA s ∧ (0 : Int) = prB s ∧ (0 : Int) = prC s ∧ True) ∧ (3 : Int) = prE s ∧ True else bif decide ((0 :
  Int) ≤ (5 : Int) ∧ (5 : Int) < (↑s.size : Int)) then bif decide ((57 : Int) < byteI s (5 : Nat)) then ((0 : Int) = prF s ∧ (0 : Int) = prA s ∧ (0 : Int) = prB s ∧ (0 : Int) = prC s
  ∧ True) ∧ (3 : Int) = prE s ∧ True else bif decide ((0 : Int) ≤ (5 : Int) ∧ (5 : Int) < (↑s.size : Int)) then bif decide (rng IntKind.i64 ((0 : Int) + IntKind.u8.wrap (byteI s (5 :
  Nat) - (48 : Int)))) then bif decide ((6 : Int) < (↑s.size : Int)) then bif decide ((0 : Int) ≤ (6 : Int) ∧ (6 : Int) < (↑s.size : Int)) then bif decide (byteI s (6 : Nat) < (48 :
  Int)) then ((0 : Int) = prF s ∧ (0 : Int) = prA s ∧ (0 : Int) = prB s ∧ (0 : Int) = prC s ∧ True) ∧ (3 : Int) = prE s ∧ True else bif decide ((0 : Int) ≤ (6 : Int) ∧ (6 : Int) <
  (↑s.size : Int)) then bif decide ((57 : Int) < byteI s (6 : Nat)) then ((0 : Int) = prF s ∧ (0 : Int) = prA s ∧ (0 : Int) = prB s ∧ (0 : Int) = prC s ∧ True) ∧ (3 : Int) = prE s ∧
  True else bif decide (rng IntKind.i64 ((10 : Int) * ((0 : Int) + IntKind.u8.wrap (byteI s (5 : Nat) - (48 : Int))))) then bif decide ((0 : Int) ≤ (6 : Int) ∧ (6 : Int) < (↑s.size :
  Int)) then bif decide (rng IntKind.i64 ((10 : Int) * ((0 : Int) + IntKind.u8.wrap (byteI s (5 : Nat) - (48 : Int))) + IntKind.u8.wrap (byteI s (6 : Nat) - (48 : Int)))) then bif
  decide ((7 : Int) < (↑s.size : Int)) then bif decide ((0 : Int) ≤ (7 : Int) ∧ (7 : Int) < (↑s.size : Int)) then bif decide (byteI s (7 : Nat) < (48 : Int)) then ((0 : Int) = prF s
  ∧ (0 : Int) = prA s ∧ (0 : Int) = prB s ∧ (0 : Int) = prC s ∧ True) ∧ (3 : Int) = prE s ∧ True else bif decide ((0 : Int) ≤ (7 : Int) ∧ (7 : Int) < (↑s.size : Int)) then bif decide
  ((57 : Int) < byteI s (7 : Nat)) then ((0 : Int) = prF s ∧ (0 : Int) = prA s ∧ (0 : Int) = prB s ∧ (0 : Int) = prC s ∧ True) ∧ (3 : Int) = prE s ∧ True else bif decide (rng
  IntKind.i64 ((10 : Int) * ((10 : Int) * ((0 : Int) + IntKind.u8.wrap (byteI s (5 : Nat) - (48 : Int))) + IntKind.u8.wrap (byteI s (6 : Nat) - (48 : Int))))) then bif decide ((0 :
  Int) ≤ (7 : Int) ∧ (7 : Int) < (↑s.size : Int)) then bif decide (rng IntKind.i64 ((10 : Int) * ((10 : Int) * ((0 : Int) + IntKind.u8.wrap (byteI s (5 : Nat) - (48 : Int))) +
  IntKind.u8.wrap (byteI s (6 : Nat) - (48 : Int))) + IntKind.u8.wrap (byteI s (7 : Nat) - (48 : Int)))) then bif decide ((8 : Int) < (↑s.size : Int)) then bif decide ((0 : Int) ≤ (8
  : Int) ∧ (8 : Int) < (↑s.size : Int)) then bif decide (byteI s (8 : Nat) < (48 : Int)) then ((0 : Int) = prF s ∧ (0 : Int) = prA s ∧ (0 : Int) = prB s ∧ (0 : Int) = prC s ∧ True) ∧
  (3 : Int) = prE s ∧ True else bif decide ((0 : Int) ≤ (8 : Int) ∧ (8 : Int) < (↑s.size : Int)) then bif decide ((57 : Int) < byteI s (8 : Nat)) then ((0 : Int) = prF s ∧ (0 : Int)
  = prA s ∧ (0 : Int) = prB s ∧ (0 : Int) = prC s ∧ True) ∧ (3 : Int) = prE s ∧ True else False else False else False else bif decide (rng IntKind.i64 ((840 : Int) - ((10 : Int) *
  ((10 : Int) * ((0 : Int) + IntKind.u8.wrap (byteI s (2 : Nat) - (48 : Int))) + IntKind.u8.wrap (byteI s (3 : Nat) - (48 : Int))) + IntKind.u8.wrap (byteI s (4 : Nat) - (48 :
  Int))))) then bif decide (rng IntKind.i64 ((840 : Int) - ((10 : Int) * ((10 : Int) * ((0 : Int) + IntKind.u8.wrap (byteI s (2 : Nat) - (48 : Int))) + IntKind.u8.wrap (byteI s (3 :
  Nat) - (48 : Int))) + IntKind.u8.wrap (byteI s (4 : Nat) - (48 : Int))) - ((10 : Int) * ((10 : Int) * ((0 : Int) + IntKind.u8.wrap (byteI s (5 : Nat) - (48 : Int))) +
  IntKind.u8.wrap (byteI s (6 : Nat) - (48 : Int))) + IntKind.u8.wrap (byteI s (7 : Nat) - (48 : Int))))) then True ∧ bif !YtddmmjkhkoencaaDoor.vld ((10 : Int) * ((0 : Int) +
  IntKind.u8.wrap (byteI s (0 : Nat) - (48 : Int))) + IntKind.u8.wrap (byteI s (1 : Nat) - (48 : Int))) ((10 : Int) * ((10 : Int) * ((0 : Int) + IntKind.u8.wrap (byteI s (2 : Nat) -
  (48 : Int))) + IntKind.u8.wrap (byteI s (3 : Nat) - (48 : Int))) + IntKind.u8.wrap (byteI s (4 : Nat) - (48 : Int))) ((10 : Int) * ((10 : Int) * ((0 : Int) + IntKind.u8.wrap (byteI
  s (5 : Nat) - (48 : Int))) + IntKind.u8.wrap (byteI s (6 : Nat) - (48 : Int))) + IntKind.u8.wrap (byteI s (7 : Nat) - (48 : Int))) ((840 : Int) - ((10 : Int) * ((10 : Int) * ((0 :
  Int) + IntKind.u8.wrap (byteI s (2 : Nat) - (48 : Int))) + IntKind.u8.wrap (byteI s (3 : Nat) - (48 : Int))) + IntKind.u8.wrap (byteI s (4 : Nat) - (48 : Int))) - ((10 : Int) *
  ((10 : Int) * ((0 : Int) + IntKind.u8.wrap (byteI s (5 : Nat) - (48 : Int))) + IntKind.u8.wrap (byteI s (6 : Nat) - (48 : Int))) + IntKind.u8.wrap (byteI s (7 : Nat) - (48 :
  Int)))) then ((0 : Int) = prF s ∧ (0 : Int) = prA s ∧ (0 : Int) = prB s ∧ (0 : Int) = prC s ∧ True) ∧ (3 : Int) = prE s ∧ True else ((10 : Int) * ((0 : Int) + IntKind.u8.wrap
  (byteI s (0 : Nat) - (48 : Int))) + IntKind.u8.wrap (byteI s (1 : Nat) - (48 : Int)) = prF s ∧ (10 : Int) * ((10 : Int) * ((0 : Int) + IntKind.u8.wrap (byteI s (2 : Nat) - (48 :
  Int))) + IntKind.u8.wrap (byteI s (3 : Nat) - (48 : Int))) + IntKind.u8.wrap (byteI s (4 : Nat) - (48 : Int)) = prA s ∧ (10 : Int) * ((10 : Int) * ((0 : Int) + IntKind.u8.wrap
  (byteI s (5 : Nat) - (48 : Int))) + IntKind.u8.wrap (byteI s (6 : Nat) - (48 : Int))) + IntKind.u8.wrap (byteI s (7 : Nat) - (48 : Int)) = prB s ∧ (840 : Int) - ((10 : Int) * ((10
  : Int) * ((0 : Int) + IntKind.u8.wrap (byteI s (2 : Nat) - (48 : Int))) + IntKind.u8.wrap (byteI s (3 : Nat) - (48 : Int))) + IntKind.u8.wrap (byteI s (4 : Nat) - (48 : Int))) -
  ((10 : Int) * ((10 : Int) * ((0 : Int) + IntKind.u8.wrap (byteI s (5 : Nat) - (48 : Int))) + IntKind.u8.wrap (byteI s (6 : Nat) - (48 : Int))) + IntKind.u8.wrap (byteI s (7 : Nat)
  - (48 : Int))) = prC s ∧ True) ∧ (0 : Int) = prE s ∧ True else False else False else False else False else False else False else False else bif decide (rng IntKind.i64 ((840 : Int)
  - ((10 : Int) * ((10 : Int) * ((0 : Int) + IntKind.u8.wrap (byteI s (2 : Nat) - (48 : Int))) + IntKind.u8.wrap (byteI s (3 : Nat) - (48 : Int))) + IntKind.u8.wrap (byteI s (4 :
  Nat) - (48 : Int))))) then bif decide (rng IntKind.i64 ((840 : Int) - ((10 : Int) * ((10 : Int) * ((0 : Int) + IntKind.u8.wrap (byteI s (2 : Nat) - (48 : Int))) + IntKind.u8.wrap
  (byteI s (3 : Nat) - (48 : Int))) + IntKind.u8.wrap (byteI s (4 : Nat) - (48 : Int))) - ((10 : Int) * ((0 : Int) + IntKind.u8.wrap (byteI s (5 : Nat) - (48 : Int))) +
  IntKind.u8.wrap (byteI s (6 : Nat) - (48 : Int))))) then True ∧ bif !YtddmmjkhkoencaaDoor.vld ((10 : Int) * ((0 : Int) + IntKind.u8.wrap (byteI s (0 : Nat) - (48 : Int))) +
  IntKind.u8.wrap (byteI s (1 : Nat) - (48 : Int))) ((10 : Int) * ((10 : Int) * ((0 : Int) + IntKind.u8.wrap (byteI s (2 : Nat) - (48 : Int))) + IntKind.u8.wrap (byteI s (3 : Nat) -
  (48 : Int))) + IntKind.u8.wrap (byteI s (4 : Nat) - (48 : Int))) ((10 : Int) * ((0 : Int) + IntKind.u8.wrap (byteI s (5 : Nat) - (48 : Int))) + IntKind.u8.wrap (byteI s (6 : Nat) -
  (48 : Int))) ((840 : Int) - ((10 : Int) * ((10 : Int) * ((0 : Int) + IntKind.u8.wrap (byteI s (2 : Nat) - (48 : Int))) + IntKind.u8.wrap (byteI s (3 : Nat) - (48 : Int))) +
  IntKind.u8.wrap (byteI s (4 : Nat) - (48 : Int))) - ((10 : Int) * ((0 : Int) + IntKind.u8.wrap (byteI s (5 : Nat) - (48 : Int))) + IntKind.u8.wrap (byteI s (6 : Nat) - (48 :
  Int)))) then ((0 : Int) = prF s ∧ (0 : Int) = prA s ∧ (0 : Int) = prB s ∧ (0 : Int) = prC s ∧ True) ∧ (3 : Int) = prE s ∧ True else ((10 : Int) * ((0 : Int) + IntKind.u8.wrap
  (byteI s (0 : Nat) - (48 : Int))) + IntKind.u8.wrap (byteI s (1 : Nat) - (48 : Int)) = prF s ∧ (10 : Int) * ((10 : Int) * ((0 : Int) + IntKind.u8.wrap (byteI s (2 : Nat) - (48 :
  Int))) + IntKind.u8.wrap (byteI s (3 : Nat) - (48 : Int))) + IntKind.u8.wrap (byteI s (4 : Nat) - (48 : Int)) = prA s ∧ (10 : Int) * ((0 : Int) + IntKind.u8.wrap (byteI s (5 : Nat)
  - (48 : Int))) + IntKind.u8.wrap (byteI s (6 : Nat) - (48 : Int)) = prB s ∧ (840 : Int) - ((10 : Int) * ((10 : Int) * ((0 : Int) + IntKind.u8.wrap (byteI s (2 : Nat) - (48 : Int)))
  + IntKind.u8.wrap (byteI s (3 : Nat) - (48 : Int))) + IntKind.u8.wrap (byteI s (4 : Nat) - (48 : Int))) - ((10 : Int) * ((0 : Int) + IntKind.u8.wrap (byteI s (5 : Nat) - (48 :
  Int))) + IntKind.u8.wrap (byteI s (6 : Nat) - (48 : Int))) = prC s ∧ True) ∧ (0 : Int) = prE s ∧ True else False else False else False else False else False else False else False
  else bif decide (rng IntKind.i64 ((840 : Int) - ((10 : Int) * ((10 : Int) * ((0 : Int) + IntKind.u8.wrap (byteI s (2 : Nat) - (48 : Int))) + IntKind.u8.wrap (byteI s (3 : Nat) -
  (48 : Int))) + IntKind.u8.wrap (byteI s (4 : Nat) - (48 : Int))))) then bif decide (rng IntKind.i64 ((840 : Int) - ((10 : Int) * ((10 : Int) * ((0 : Int) + IntKind.u8.wrap (byteI s
  (2 : Nat) - (48 : Int))) + IntKind.u8.wrap (byteI s (3 : Nat) - (48 : Int))) + IntKind.u8.wrap (byteI s (4 : Nat) - (48 : Int))) - ((0 : Int) + IntKind.u8.wrap (byteI s (5 : Nat) -
  (48 : Int))))) then True ∧ bif !YtddmmjkhkoencaaDoor.vld ((10 : Int) * ((0 : Int) + IntKind.u8.wrap (byteI s (0 : Nat) - (48 : Int))) + IntKind.u8.wrap (byteI s (1 : Nat) - (48 :
  Int))) ((10 : Int) * ((10 : Int) * ((0 : Int) + IntKind.u8.wrap (byteI s (2 : Nat) - (48 : Int))) + IntKind.u8.wrap (byteI s (3 : Nat) - (48 : Int))) + IntKind.u8.wrap (byteI s (4
  : Nat) - (48 : Int))) ((0 : Int) + IntKind.u8.wrap (byteI s (5 : Nat) - (48 : Int))) ((840 : Int) - ((10 : Int) * ((10 : Int) * ((0 : Int) + IntKind.u8.wrap (byteI s (2 : Nat) -
  (48 : Int))) + IntKind.u8.wrap (byteI s (3 : Nat) - (48 : Int))) + IntKind.u8.wrap (byteI s (4 : Nat) - (48 : Int))) - ((0 : Int) + IntKind.u8.wrap (byteI s (5 : Nat) - (48 :
  Int)))) then ((0 : Int) = prF s ∧ (0 : Int) = prA s ∧ (0 : Int) = prB s ∧ (0 : Int) = prC s ∧ True) ∧ (3 : Int) = prE s ∧ True else ((10 : Int) * ((0 : Int) + IntKind.u8.wrap
  (byteI s (0 : Nat) - (48 : Int))) + IntKind.u8.wrap (byteI s (1 : Nat) - (48 : Int)) = prF s ∧ (10 : Int) * ((10 : Int) * ((0 : Int) + IntKind.u8.wrap (byteI s (2 : Nat) - (48 :
  Int))) + IntKind.u8.wrap (byteI s (3 : Nat) - (48 : Int))) + IntKind.u8.wrap (byteI s (4 : Nat) - (48 : Int)) = prA s ∧ (0 : Int) + IntKind.u8.wrap (byteI s (5 : Nat) - (48 : Int))
  = prB s ∧ (840 : Int) - ((10 : Int) * ((10 : Int) * ((0 : Int) + IntKind.u8.wrap (byteI s (2 : Nat) - (48 : Int))) + IntKind.u8.wrap (byteI s (3 : Nat) - (48 : Int))) +
  IntKind.u8.wrap (byteI s (4 : Nat) - (48 : Int))) - ((0 : Int) + IntKind.u8.wrap (byteI s (5 : Nat) - (48 : Int))) = prC s ∧ True) ∧ (0 : Int) = prE s ∧ True else False else False
  else False else False else False else False else bif decide (rng IntKind.i64 ((840 : Int) - ((10 : Int) * ((10 : Int) * ((0 : Int) + IntKind.u8.wrap (byteI s (2 : Nat) - (48 :
  Int))) + IntKind.u8.wrap (byteI s (3 : Nat) - (48 : Int))) + IntKind.u8.wrap (byteI s (4 : Nat) - (48 : Int))))) then bif decide (rng IntKind.i64 ((840 : Int) - ((10 : Int) * ((10
  : Int) * ((0 : Int) + IntKind.u8.wrap (byteI s (2 : Nat) - (48 : Int))) + IntKind.u8.wrap (byteI s (3 : Nat) - (48 : Int))) + IntKind.u8.wrap (byteI s (4 : Nat) - (48 : Int))) - (0
  : Int))) then True ∧ bif !YtddmmjkhkoencaaDoor.vld ((10 : Int) * ((0 : Int) + IntKind.u8.wrap (byteI s (0 : Nat) - (48 : Int))) + IntKind.u8.wrap (byteI s (1 : Nat) - (48 : Int)))
  ((10 : Int) * ((10 : Int) * ((0 : Int) + IntKind.u8.wrap (byteI s (2 : Nat) - (48 : Int))) + IntKind.u8.wrap (byteI s (3 : Nat) - (48 : Int))) + IntKind.u8.wrap (byteI s (4 : Nat)
  - (48 : Int))) (0 : Int) ((840 : Int) - ((10 : Int) * ((10 : Int) * ((0 : Int) + IntKind.u8.wrap (byteI s (2 : Nat) - (48 : Int))) + IntKind.u8.wrap (byteI s (3 : Nat) - (48 :
  Int))) + IntKind.u8.wrap (byteI s (4 : Nat) - (48 : Int))) - (0 : Int)) then ((0 : Int) = prF s ∧ (0 : Int) = prA s ∧ (0 : Int) = prB s ∧ (0 : Int) = prC s ∧ True) ∧ (3 : Int) =
  prE s ∧ True else ((10 : Int) * ((0 : Int) + IntKind.u8.wrap (byteI s (0 : Nat) - (48 : Int))) + IntKind.u8.wrap (byteI s (1 : Nat) - (48 : Int)) = prF s ∧ (10 : Int) * ((10 : Int)
  * ((0 : Int) + IntKind.u8.wrap (byteI s (2 : Nat) - (48 : Int))) + IntKind.u8.wrap (byteI s (3 : Nat) - (48 : Int))) + IntKind.u8.wrap (byteI s (4 : Nat) - (48 : Int)) = prA s ∧ (0
  : Int) = prB s ∧ (840 : Int) - ((10 : Int) * ((10 : Int) * ((0 : Int) + IntKind.u8.wrap (byteI s (2 : Nat) - (48 : Int))) + IntKind.u8.wrap (byteI s (3 : Nat) - (48 : Int))) +
  IntKind.u8.wrap (byteI s (4 : Nat) - (48 : Int))) - (0 : Int) = prC s ∧ True) ∧ (0 : Int) = prE s ∧ True else False else False else False else False else False else False else
  False else bif decide (rng IntKind.i64 ((840 : Int) - ((10 : Int) * ((0 : Int) + IntKind.u8.wrap (byteI s (2 : Nat) - (48 : Int))) + IntKind.u8.wrap (byteI s (3 : Nat) - (48 :
  Int))))) then bif decide (rng IntKind.i64 ((840 : Int) - ((10 : Int) * ((0 : Int) + IntKind.u8.wrap (byteI s (2 : Nat) - (48 : Int))) + IntKind.u8.wrap (byteI s (3 : Nat) - (48 :
  Int))) - (0 : Int))) then True ∧ bif !YtddmmjkhkoencaaDoor.vld ((10 : Int) * ((0 : Int) + IntKind.u8.wrap (byteI s (0 : Nat) - (48 : Int))) + IntKind.u8.wrap (byteI s (1 : Nat) -
  (48 : Int))) ((10 : Int) * ((0 : Int) + IntKind.u8.wrap (byteI s (2 : Nat) - (48 : Int))) + IntKind.u8.wrap (byteI s (3 : Nat) - (48 : Int))) (0 : Int) ((840 : Int) - ((10 : Int) *
  ((0 : Int) + IntKind.u8.wrap (byteI s (2 : Nat) - (48 : Int))) + IntKind.u8.wrap (byteI s (3 : Nat) - (48 : Int))) - (0 : Int)) then ((0 : Int) = prF s ∧ (0 : Int) = prA s ∧ (0 :
  Int) = prB s ∧ (0 : Int) = prC s ∧ True) ∧ (3 : Int) = prE s ∧ True else ((10 : Int) * ((0 : Int) + IntKind.u8.wrap (byteI s (0 : Nat) - (48 : Int))) + IntKind.u8.wrap (byteI s (1
  : Nat) - (48 : Int)) = prF s ∧ (10 : Int) * ((0 : Int) + IntKind.u8.wrap (byteI s (2 : Nat) - (48 : Int))) + IntKind.u8.wrap (byteI s (3 : Nat) - (48 : Int)) = prA s ∧ (0 : Int) =
  prB s ∧ (840 : Int) - ((10 : Int) * ((0 : Int) + IntKind.u8.wrap (byteI s (2 : Nat) - (48 : Int))) + IntKind.u8.wrap (byteI s (3 : Nat) - (48 : Int))) - (0 : Int) = prC s ∧ True) ∧
  (0 : Int) = prE s ∧ True else False else False else False else False else False else False else False else bif decide (rng IntKind.i64 ((840 : Int) - ((0 : Int) + IntKind.u8.wrap
  (byteI s (2 : Nat) - (48 : Int))))) then bif decide (rng IntKind.i64 ((840 : Int) - ((0 : Int) + IntKind.u8.wrap (byteI s (2 : Nat) - (48 : Int))) - (0 : Int))) then True ∧ bif
  !YtddmmjkhkoencaaDoor.vld ((10 : Int) * ((0 : Int) + IntKind.u8.wrap (byteI s (0 : Nat) - (48 : Int))) + IntKind.u8.wrap (byteI s (1 : Nat) - (48 : Int))) ((0 : Int) +
  IntKind.u8.wrap (byteI s (2 : Nat) - (48 : Int))) (0 : Int) ((840 : Int) - ((0 : Int) + IntKind.u8.wrap (byteI s (2 : Nat) - (48 : Int))) - (0 : Int)) then ((0 : Int) = prF s ∧ (0
  : Int) = prA s ∧ (0 : Int) = prB s ∧ (0 : Int) = prC s ∧ True) ∧ (3 : Int) = prE s ∧ True else ((10 : Int) * ((0 : Int) + IntKind.u8.wrap (byteI s (0 : Nat) - (48 : Int))) +
  IntKind.u8.wrap (byteI s (1 : Nat) - (48 : Int)) = prF s ∧ (0 : Int) + IntKind.u8.wrap (byteI s (2 : Nat) - (48 : Int)) = prA s ∧ (0 : Int) = prB s ∧ (840 : Int) - ((0 : Int) +
  IntKind.u8.wrap (byteI s (2 : Nat) - (48 : Int))) - (0 : Int) = prC s ∧ True) ∧ (0 : Int) = prE s ∧ True else False else False else False else False else False else False else True
  ∧ bif !YtddmmjkhkoencaaDoor.vld ((10 : Int) * ((0 : Int) + IntKind.u8.wrap (byteI s (0 : Nat) - (48 : Int))) + IntKind.u8.wrap (byteI s (1 : Nat) - (48 : Int))) (0 : Int) (0 : Int)
  (840 : Int) then ((0 : Int) = prF s ∧ (0 : Int) = prA s ∧ (0 : Int) = prB s ∧ (0 : Int) = prC s ∧ True) ∧ (3 : Int) = prE s ∧ True else ((10 : Int) * ((0 : Int) + IntKind.u8.wrap
  (byteI s (0 : Nat) - (48 : Int))) + IntKind.u8.wrap (byteI s (1 : Nat) - (48 : Int)) = prF s ∧ (0 : Int) = prA s ∧ (0 : Int) = prB s ∧ (840 : Int) = prC s ∧ True) ∧ (0 : Int) = prE
  s ∧ True else False else False else False else False else False else True ∧ bif !YtddmmjkhkoencaaDoor.vld ((0 : Int) + IntKind.u8.wrap (byteI s (0 : Nat) - (48 : Int))) (0 : Int)
  (0 : Int) (840 : Int) then ((0 : Int) = prF s ∧ (0 : Int) = prA s ∧ (0 : Int) = prB s ∧ (0 : Int) = prC s ∧ True) ∧ (3 : Int) = prE s ∧ True else ((0 : Int) + IntKind.u8.wrap
  (byteI s (0 : Nat) - (48 : Int)) = prF s ∧ (0 : Int) = prA s ∧ (0 : Int) = prB s ∧ (840 : Int) = prC s ∧ True) ∧ (0 : Int) = prE s ∧ True else False else False else False else
  False else True ∧ ((0 : Int) = prF s ∧ (0 : Int) = prA s ∧ (0 : Int) = prB s ∧ (840 : Int) = prC s ∧ True) ∧ (0 : Int) = prE s ∧ True
set_option maxRecDepth 100000 in
theorem parse_P : parse_T prF prA prB prC prE vld := by
  unfold parse_T
  intro gl s hs
  have w0 := wrap8 (byteI s 0 - 48)
  have w1 := wrap8 (byteI s 1 - 48)
  have w2 := wrap8 (byteI s 2 - 48)
  have w3 := wrap8 (byteI s 3 - 48)
  have w4 := wrap8 (byteI s 4 - 48)
  have w5 := wrap8 (byteI s 5 - 48)
  have w6 := wrap8 (byteI s 6 - 48)
  have w7 := wrap8 (byteI s 7 - 48)
  refine cs (fun h => prs_no (prs_sz (by omega))) (fun h => ?_)
  have hz : s.size = 8 := by omega
  have hi : (s.size : Int) = 8 := by omega
  repeat (first
    | refine cdI (by omega) ?_
    | refine cd1 (by omega) ?_
    | refine cs (fun q => prs_no (prs_dig (by decide) (isD_lo q))) (fun q => ?_)
    | refine cs (fun q => prs_no (prs_dig (by decide) (isD_hi q))) (fun q => ?_)
    | refine cd0 (by omega) ?_)
  have hd : allD s 8 = true := by
    simp only [allD]
    repeat rw [isD_t (by omega) (by omega)]
    rfl
  refine prs_end hz hd ?_ ?_ ?_ trivial
  · exact (num2 (s := s) (a := 0) (by omega)).symm
  · exact (num3 (s := s) (a := 2) (by omega)).symm
  · exact (num3 (s := s) (a := 5) (by omega)).symm
def parse_S (prF : ByteArray → Int) (prA : ByteArray → Int) (prB : ByteArray → Int) (prC : ByteArray → Int) (prE : ByteArray → Int) (vld : Int → Int → Int → Int → Bool) : Prop := ∀ (gl : Glob) (s : ByteArray), fnK Tryd.prog { glob := gl, spec := lk [(27, (valid_s Go.Proofs.YtddmmjkhkoencaaDoor.vld))], specH := lk [], nowf := true } { nt := 62, drop := drp [(1, 768), (2, 2048), (4, 4096), (6, 65536), (7, 66977792), (8, 134217728), (9, 1879048192), (10, 8793945538560), (11, 8796093022208), (12, 144097595889811456), (13, 432345564227567616), (14, 1152921504606846976), (15, 2305843009213693952)] } (fun _ _ => none) 9 Tryd.f18 [.str s] (.tup [.agg [.int .i64 (prF s), .int .i64 (prA s), .int .i64 (prB s), .int .i64 (prC s)], .int .i64 (prE s)])
set_option maxRecDepth 100000 in
theorem parse_e (prF : ByteArray → Int) (prA : ByteArray → Int) (prB : ByteArray → Int) (prC : ByteArray → Int) (prE : ByteArray → Int) (vld : Int → Int → Int → Int → Bool) : parse_T prF prA prB prC prE vld = parse_S prF prA prB prC prE vld := by kernel_rfl
theorem parse_v : parse_S prF prA prB prC prE vld := @Eq.mp (parse_T prF prA prB prC prE vld) (parse_S prF prA prB prC prE vld) (parse_e prF prA prB prC prE vld) parse_P
theorem parse_ok (gl : Glob) : SOK Tryd.prog gl 18 (parse_s prF prA prB prC prE vld) := by
  refine ⟨fok Tryd.func18 (by kernel_rfl) (by kernel_rfl), ?_⟩
  intro xs pre r h hp
  unfold parse_s at h
  split at h
  · simp only [Option.some.injEq, Prod.mk.injEq] at h
    obtain ⟨h1, h2⟩ := h
    subst h1 h2
    exact fnK_sound tyNil (by exact specOK rfl rfl ⟨valid_ok gl, trivial⟩ trivial) (by kernel_rfl) Tryd.func18 rfl (parse_v gl _)
  · cases h
def rValid_s (vld : Int → Int → Int → Int → Bool) : Sp
  | [.agg [.int .i64 f, .int .i64 a, .int .i64 b, .int .i64 c]] => some (True, .bool (vld f a b c))
  | _ => none
set_option maxRecDepth 100000 in
def rValid_T (vld : Int → Int → Int → Int → Bool) : Prop :=
  ∀ (gl : Glob) (f a b c : Int), ((-9223372036854775808 : Int) ≤ f ∧ f ≤ (9223372036854775807 : Int)) ∧ ((-9223372036854775808 : Int) ≤ a ∧ a ≤ (9223372036854775807 : Int)) ∧
  ((-9223372036854775808 : Int) ≤ b ∧ b ≤ (9223372036854775807 : Int)) ∧ ((-9223372036854775808 : Int) ≤ c ∧ c ≤ (9223372036854775807 : Int)) ∧ True → bif decide ((0 : Int) ≤ f) then
  bif decide (f < (20 : Int)) then bif decide ((0 : Int) ≤ a) then bif decide (a ≤ (840 : Int)) then bif decide ((0 : Int) ≤ b) then bif decide (b ≤ (840 : Int)) then bif decide ((0
  : Int) ≤ c) then bif decide (c ≤ (840 : Int)) then bif decide (rng IntKind.i64 (a + b)) then bif decide (rng IntKind.i64 (a + b + c)) then decide (a + b + c = (840 : Int)) = vld f
  a b c else False else False else false = vld f a b c else false = vld f a b c else false = vld f a b c else false = vld f a b c else false = vld f a b c else false = vld f a b c
  else false = vld f a b c else false = vld f a b c
set_option maxRecDepth 100000 in
theorem rValid_P : rValid_T vld := by
  unfold rValid_T
  intro gl f a b c h
  have hf : ∀ {x : Bool}, (¬ Vld f a b c → x = false) → (x = false → ¬ Vld f a b c) → x = vld f a b c := by
    intro x h1 h2
    unfold vld
    by_cases q : Vld f a b c
    · rw [decide_eq_true q]; cases x with
      | true => rfl
      | false => exact absurd q (h2 rfl)
    · rw [decide_eq_false q]; exact h1 q
  rw [vld_iff] at hf
  repeat (first
    | refine cdI (by omega) ?_
    | refine cs (fun q => ?_) (fun q => hf (fun _ => rfl) (fun _ => by omega)))
  refine hf (fun q => decide_eq_false (by omega)) (fun q => ?_)
  have q := of_decide_eq_false q
  omega
def rValid_S (vld : Int → Int → Int → Int → Bool) : Prop := ∀ (gl : Glob) (f a b c : Int), fnK Tryd.prog { glob := gl, spec := lk [], specH := lk [] } { nt := 52, drop := drp [(1, 4503599627370488)] } (fun _ _ => none) 6 Tryd.f28 [.agg [.int .i64 f, .int .i64 a, .int .i64 b, .int .i64 c]] (.bool (vld f a b c))
set_option maxRecDepth 100000 in
theorem rValid_e (vld : Int → Int → Int → Int → Bool) : rValid_T vld = rValid_S vld := by kernel_rfl
theorem rValid_v : rValid_S vld := @Eq.mp (rValid_T vld) (rValid_S vld) (rValid_e vld) rValid_P
theorem rValid_ok (gl : Glob) : SOK Tryd.prog gl 28 (rValid_s vld) := by
  refine ⟨fok Tryd.func28 (by kernel_rfl) (by kernel_rfl), ?_⟩
  intro xs pre r h hp
  unfold rValid_s at h
  split at h
  · simp only [Option.some.injEq, Prod.mk.injEq] at h
    obtain ⟨h1, h2⟩ := h
    subst h1 h2
    exact fnK_sound tyNil (by exact specOK rfl rfl trivial trivial) (by kernel_rfl) Tryd.func28 rfl (rValid_v gl _ _ _ _)
  · cases h
def rNumber_s (numV : ByteArray → Int) : Sp
  | [.str s] => some (NumS s, .int .i64 (numV s))
  | _ => none
set_option maxRecDepth 100000 in
def rNumber_T (numV : ByteArray → Int) : Prop :=
  ∀ (gl : Glob) (s : ByteArray), NumS s → s.size.le (9223372036854775807 : Nat) → (∃ x, NumP s x ∧ (s = s ∧ (0 : Int) = x.snd ∧ (0 : Int) = x.fst ∧ True) ∧ True) ∧ ∀ (x : Int × Int),
  NumP s x → bif decide (x.fst < (↑s.size : Int)) then bif decide (rng IntKind.i64 (x.snd * (10 : Int))) then bif decide ((0 : Int) ≤ x.fst ∧ x.fst < (↑s.size : Int)) then bif decide
  (rng IntKind.i64 (x.snd * (10 : Int) + IntKind.u8.wrap (byteI s x.fst.toNat - (48 : Int)))) then bif decide (rng IntKind.i64 (x.fst + (1 : Int))) then ∃ y, NumP s y ∧ (numI s).m y
  < (numI s).m x ∧ (s = s ∧ x.snd * (10 : Int) + IntKind.u8.wrap (byteI s x.fst.toNat - (48 : Int)) = y.snd ∧ x.fst + (1 : Int) = y.fst ∧ True) ∧ True else False else False else
  False else False else x.snd = numV s
set_option maxRecDepth 100000 in
theorem rNumber_P : rNumber_T numV := by
  unfold rNumber_T
  intro gl s ⟨hs⟩ _
  refine ⟨⟨(0, 0), ⟨by decide, by simp, rfl⟩, ⟨rfl, rfl, rfl, trivial⟩, trivial⟩, ?_⟩
  rintro ⟨i, v⟩ ⟨h1, h2, h3⟩
  simp only at h1 h2 h3
  have hb := numR_bd s i.toNat
  have hp := p10 (k := i.toNat) (by omega)
  refine cs (fun hlt => ?_) (fun hlt => ?_)
  · have hlt : i < (s.size : Int) := hlt
    have hw := wrap8 (byteI s i.toNat - 48)
    refine cdI (by simp only; omega) (cd1 ⟨h1, hlt⟩ (cdI (by simp only; omega) (cdI (by simp only; omega) ⟨(i + 1, v * 10 + IntKind.u8.wrap (byteI s i.toNat - 48)), ⟨by simp only; omega, by simp only; omega, ?_⟩, by simp only [numI]; omega, ⟨rfl, rfl, rfl, trivial⟩, trivial⟩)))
    simp only
    rw [show (i + 1).toNat = i.toNat + 1 by omega, h3]; simp only [numR]; omega
  · have hlt : ¬ i < (s.size : Int) := hlt
    show v = numV s
    unfold numV
    rw [h3, show i.toNat = s.size by omega]
def rNumber_S (numV : ByteArray → Int) : Prop := ∀ (gl : Glob) (s : ByteArray), NumS s → fnK Tryd.prog { glob := gl, spec := lk [], specH := lk [] } { nt := 20, drop := drp [(3, 224), (4, 1536), (5, 522240), (6, 524288)] } (invs [(3, numI s)]) 6 Tryd.f36 [.str s] (.int .i64 (numV s))
set_option maxRecDepth 100000 in
theorem rNumber_e (numV : ByteArray → Int) : rNumber_T numV = rNumber_S numV := by kernel_rfl
theorem rNumber_v : rNumber_S numV := @Eq.mp (rNumber_T numV) (rNumber_S numV) (rNumber_e numV) rNumber_P
theorem rNumber_ok (gl : Glob) : SOK Tryd.prog gl 36 (rNumber_s numV) := by
  refine ⟨fok Tryd.func36 (by kernel_rfl) (by kernel_rfl), ?_⟩
  intro xs pre r h hp
  unfold rNumber_s at h
  split at h
  · simp only [Option.some.injEq, Prod.mk.injEq] at h
    obtain ⟨h1, h2⟩ := h
    subst h1 h2
    exact fnK_sound tyNil (by exact specOK rfl rfl trivial trivial) (by kernel_rfl) Tryd.func36 rfl (rNumber_v gl _ hp)
  · cases h
def rParse_s (prF : ByteArray → Int) (prA : ByteArray → Int) (prB : ByteArray → Int) (prC : ByteArray → Int) (prE : ByteArray → Int) : Sp
  | [.str s] => some (True, .tup [.agg [.int .i64 (prF s), .int .i64 (prA s), .int .i64 (prB s), .int .i64 (prC s)], .int .i64 (prE s)])
  | _ => none
set_option maxRecDepth 100000 in
def rParse_T (prF : ByteArray → Int) (prA : ByteArray → Int) (prB : ByteArray → Int) (prC : ByteArray → Int) (prE : ByteArray → Int) : Prop :=
  ∀ (gl : Glob) (s : ByteArray), s.size.le (9223372036854775807 : Nat) → bif decide ¬(↑s.size : Int) = (8 : Int) then ((0 : Int) = prF s ∧ (0 : Int) = prA s ∧ (0 : Int) = prB s ∧ (0
  : Int) = prC s ∧ True) ∧ (3 : Int) = prE s ∧ True else bif decide ((0 : Int) ≤ (0 : Int) ∧ (0 : Int) < (↑s.size : Int)) then bif decide (byteI s (0 : Nat) < (48 : Int)) then ((0 :
  Int) = prF s ∧ (0 : Int) = prA s ∧ (0 : Int) = prB s ∧ (0 : Int) = prC s ∧ True) ∧ (3 : Int) = prE s ∧ True else bif decide ((0 : Int) ≤ (0 : Int) ∧ (0 : Int) < (↑s.size : Int))
  then bif decide ((57 : Int) < byteI s (0 : Nat)) then ((0 : Int) = prF s ∧ (0 : Int) = prA s ∧ (0 : Int) = prB s ∧ (0 : Int) = prC s ∧ True) ∧ (3 : Int) = prE s ∧ True else bif
  decide ((0 : Int) ≤ (1 : Int) ∧ (1 : Int) < (↑s.size : Int)) then bif decide (byteI s (1 : Nat) < (48 : Int)) then ((0 : Int) = prF s ∧ (0 : Int) = prA s ∧ (0 : Int) = prB s ∧ (0 :
  Int) = prC s ∧ True) ∧ (3 : Int) = prE s ∧ True else bif decide ((0 : Int) ≤ (1 : Int) ∧ (1 : Int) < (↑s.size : Int)) then bif decide ((57 : Int) < byteI s (1 : Nat)) then ((0 :
  Int) = prF s ∧ (0 : Int) = prA s ∧ (0 : Int) = prB s ∧ (0 : Int) = prC s ∧ True) ∧ (3 : Int) = prE s ∧ True else bif decide ((0 : Int) ≤ (2 : Int) ∧ (2 : Int) < (↑s.size : Int))
  then bif decide (byteI s (2 : Nat) < (48 : Int)) then ((0 : Int) = prF s ∧ (0 : Int) = prA s ∧ (0 : Int) = prB s ∧ (0 : Int) = prC s ∧ True) ∧ (3 : Int) = prE s ∧ True else bif
  decide ((0 : Int) ≤ (2 : Int) ∧ (2 : Int) < (↑s.size : Int)) then bif decide ((57 : Int) < byteI s (2 : Nat)) then ((0 : Int) = prF s ∧ (0 : Int) = prA s ∧ (0 : Int) = prB s ∧ (0 :
  Int) = prC s ∧ True) ∧ (3 : Int) = prE s ∧ True else bif decide ((0 : Int) ≤ (3 : Int) ∧ (3 : Int) < (↑s.size : Int)) then bif decide (byteI s (3 : Nat) < (48 : Int)) then ((0 :
  Int) = prF s ∧ (0 : Int) = prA s ∧ (0 : Int) = prB s ∧ (0 : Int) = prC s ∧ True) ∧ (3 : Int) = prE s ∧ True else bif decide ((0 : Int) ≤ (3 : Int) ∧ (3 : Int) < (↑s.size : Int))
  then bif decide ((57 : Int) < byteI s (3 : Nat)) then ((0 : Int) = prF s ∧ (0 : Int) = prA s ∧ (0 : Int) = prB s ∧ (0 : Int) = prC s ∧ True) ∧ (3 : Int) = prE s ∧ True else bif
  decide ((0 : Int) ≤ (4 : Int) ∧ (4 : Int) < (↑s.size : Int)) then bif decide (byteI s (4 : Nat) < (48 : Int)) then ((0 : Int) = prF s ∧ (0 : Int) = prA s ∧ (0 : Int) = prB s ∧ (0 :
  Int) = prC s ∧ True) ∧ (3 : Int) = prE s ∧ True else bif decide ((0 : Int) ≤ (4 : Int) ∧ (4 : Int) < (↑s.size : Int)) then bif decide ((57 : Int) < byteI s (4 : Nat)) then ((0 :
  Int) = prF s ∧ (0 : Int) = prA s ∧ (0 : Int) = prB s ∧ (0 : Int) = prC s ∧ True) ∧ (3 : Int) = prE s ∧ True else bif decide ((0 : Int) ≤ (5 : Int) ∧ (5 : Int) < (↑s.size : Int))
  then bif decide (byteI s (5 : Nat) < (48 : Int)) then ((0 : Int) = prF s ∧ (0 : Int) = prA s ∧ (0 : Int) = prB s ∧ (0 : Int) = prC s ∧ True) ∧ (3 : Int) = prE s ∧ True else bif
  decide ((0 : Int) ≤ (5 : Int) ∧ (5 : Int) < (↑s.size : Int)) then bif decide ((57 : Int) < byteI s (5 : Nat)) then ((0 : Int) = prF s ∧ (0 : Int) = prA s ∧ (0 : Int) = prB s ∧ (0 :
  Int) = prC s ∧ True) ∧ (3 : Int) = prE s ∧ True else bif decide ((0 : Int) ≤ (6 : Int) ∧ (6 : Int) < (↑s.size : Int)) then bif decide (byteI s (6 : Nat) < (48 : Int)) then ((0 :
  Int) = prF s ∧ (0 : Int) = prA s ∧ (0 : Int) = prB s ∧ (0 : Int) = prC s ∧ True) ∧ (3 : Int) = prE s ∧ True else bif decide ((0 : Int) ≤ (6 : Int) ∧ (6 : Int) < (↑s.size : Int))
  then bif decide ((57 : Int) < byteI s (6 : Nat)) then ((0 : Int) = prF s ∧ (0 : Int) = prA s ∧ (0 : Int) = prB s ∧ (0 : Int) = prC s ∧ True) ∧ (3 : Int) = prE s ∧ True else bif
  decide ((0 : Int) ≤ (7 : Int) ∧ (7 : Int) < (↑s.size : Int)) then bif decide (byteI s (7 : Nat) < (48 : Int)) then ((0 : Int) = prF s ∧ (0 : Int) = prA s ∧ (0 : Int) = prB s ∧ (0 :
  Int) = prC s ∧ True) ∧ (3 : Int) = prE s ∧ True else bif decide ((0 : Int) ≤ (7 : Int) ∧ (7 : Int) < (↑s.size : Int)) then bif decide ((57 : Int) < byteI s (7 : Nat)) then ((0 :
  Int) = prF s ∧ (0 : Int) = prA s ∧ (0 : Int) = prB s ∧ (0 : Int) = prC s ∧ True) ∧ (3 : Int) = prE s ∧ True else bif decide ((0 : Int) ≤ (2 : Int) ∧ (2 : Int) ≤ (↑s.size : Int))
  then NumS (s.extract (0 : Nat) (2 : Nat)) ∧ bif decide ((0 : Int) ≤ (5 : Int) ∧ (5 : Int) ≤ (↑s.size : Int)) then NumS (s.extract (2 : Nat) (5 : Nat)) ∧ bif decide ((0 : Int) ≤
  (↑s.size : Int) ∧ (↑s.size : Int) ≤ (↑s.size : Int)) then bif decide ((0 : Int) ≤ (5 : Int) ∧ (5 : Int) ≤ (↑s.size : Int)) then NumS (s.extract (5 : Nat) (↑s.size : Int).toNat) ∧
  bif decide (rng IntKind.i64 ((840 : Int) - numV (s.extract (2 : Nat) (5 : Nat)))) then bif decide (rng IntKind.i64 ((840 : Int) - numV (s.extract (2 : Nat) (5 : Nat)) - numV
  (s.extract (5 : Nat) (↑s.size : Int).toNat))) then True ∧ bif !vld (numV (s.extract (0 : Nat) (2 : Nat))) (numV (s.extract (2 : Nat) (5 : Nat))) (numV (s.extract (5 : Nat) (↑s.size
  : Int).toNat)) ((840 : Int) - numV (s.extract (2 : Nat) (5 : Nat)) - numV (s.extract (5 : Nat) (↑s.size : Int).toNat)) then ((0 : Int) = prF s ∧ (0 : Int) = prA s ∧ (0 : Int) = prB
  s ∧ (0 : Int) = prC s ∧ True) ∧ (3 : Int) = prE s ∧ True else (numV (s.extract (0 : Nat) (2 : Nat)) = prF s ∧ numV (s.extract (2 : Nat) (5 : Nat)) = prA s ∧ numV (s.extract (5 :
  Nat) (↑s.size : Int).toNat) = prB s ∧ (840 : Int) - numV (s.extract (2 : Nat) (5 : Nat)) - numV (s.extract (5 : Nat) (↑s.size : Int).toNat) = prC s ∧ True) ∧ (0 : Int) = prE s ∧
  True else False else False else False else False else False else False else False else False else False else False else False else False else False else False else False else False
  else False else False else False else False else False else False
set_option maxRecDepth 100000 in
theorem rParse_P : rParse_T prF prA prB prC prE := by
  unfold rParse_T
  intro gl s hs
  refine cs (fun h => prs_no (prs_sz (by omega))) (fun h => ?_)
  have hz : s.size = 8 := by omega
  have hi : (s.size : Int) = 8 := by omega
  repeat (first
    | refine cd1 (by omega) ?_
    | refine cs (fun q => prs_no (prs_dig (by decide) (isD_lo q))) (fun q => ?_)
    | refine cs (fun q => prs_no (prs_dig (by decide) (isD_hi q))) (fun q => ?_))
  have hd : allD s 8 = true := by
    simp only [allD]
    repeat rw [isD_t (by omega) (by omega)]
    rfl
  have e8 : (s.size : Int).toNat = 8 := by omega
  rw [e8]
  have z1 := numR_bd (s.extract 2 5) (s.extract 2 5).size
  have z2 := numR_bd (s.extract 5 8) (s.extract 5 8).size
  have g1 := p10 (k := (s.extract 2 5).size) (by rw [ByteArray.size_extract]; omega)
  have g2 := p10 (k := (s.extract 5 8).size) (by rw [ByteArray.size_extract]; omega)
  change 0 ≤ numV (s.extract 2 5) ∧ numV (s.extract 2 5) + 29 ≤ _ at z1
  change 0 ≤ numV (s.extract 5 8) ∧ numV (s.extract 5 8) + 29 ≤ _ at z2
  refine ⟨numS_of (by decide), cd1 (by omega) ⟨numS_of (by decide), cd1 (by omega) (cd1 (by omega) ⟨numS_of (by decide), cdI (by omega) (cdI (by omega) ?_)⟩)⟩⟩
  exact prs_end hz hd rfl rfl rfl trivial
def rParse_S (prF : ByteArray → Int) (prA : ByteArray → Int) (prB : ByteArray → Int) (prC : ByteArray → Int) (prE : ByteArray → Int) : Prop := ∀ (gl : Glob) (s : ByteArray), fnK Tryd.prog { glob := gl, spec := lk [(36, (rNumber_s Go.Proofs.YtddmmjkhkoencaaDoor.numV)), (28, (rValid_s Go.Proofs.YtddmmjkhkoencaaDoor.vld))], specH := lk [], nowf := true } { nt := 47, drop := drp [(1, 192), (2, 512), (4, 1024), (5, 12288), (6, 8372224), (7, 16777216), (8, 34326183936), (9, 4363686772736), (10, 13194139533312), (11, 35184372088832), (12, 70368744177664)] } (fun _ _ => none) 9 Tryd.f19 [.str s] (.tup [.agg [.int .i64 (prF s), .int .i64 (prA s), .int .i64 (prB s), .int .i64 (prC s)], .int .i64 (prE s)])
set_option maxRecDepth 100000 in
theorem rParse_e (prF : ByteArray → Int) (prA : ByteArray → Int) (prB : ByteArray → Int) (prC : ByteArray → Int) (prE : ByteArray → Int) : rParse_T prF prA prB prC prE = rParse_S prF prA prB prC prE := by kernel_rfl
theorem rParse_v : rParse_S prF prA prB prC prE := @Eq.mp (rParse_T prF prA prB prC prE) (rParse_S prF prA prB prC prE) (rParse_e prF prA prB prC prE) rParse_P
theorem rParse_ok (gl : Glob) : SOK Tryd.prog gl 19 (rParse_s prF prA prB prC prE) := by
  refine ⟨fok Tryd.func19 (by kernel_rfl) (by kernel_rfl), ?_⟩
  intro xs pre r h hp
  unfold rParse_s at h
  split at h
  · simp only [Option.some.injEq, Prod.mk.injEq] at h
    obtain ⟨h1, h2⟩ := h
    subst h1 h2
    exact fnK_sound tyNil (by exact specOK rfl rfl ⟨rNumber_ok gl, rValid_ok gl, trivial⟩ trivial) (by kernel_rfl) Tryd.func19 rfl (rParse_v gl _)
  · cases h
end Go.Proofs.YtddmmjkhkoencaaDoor
