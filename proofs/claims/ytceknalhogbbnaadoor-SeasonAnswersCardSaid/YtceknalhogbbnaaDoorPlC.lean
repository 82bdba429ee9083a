/- Places: Addresses. -/
import Derived.Test.YtceknalhogbbnaaDoorPlB
namespace Go.Proofs.YtceknalhogbbnaaDoor
open Go
set_option linter.unusedVariables false
set_option linter.unusedSimpArgs false
--KIND of S synoptic/place.of glob
--KIND on S synoptic/place.on glob

def onRow (f a b c n : Int) : List AV := [.int .i64 n, .int .i64 (onW f a b c n 0), .int .i64 (onW f a b c n 1), .int .i64 (onW f a b c n 2)]
/-- The addresses on the first n faces. -/
def adrR (f a b c : Int) : Nat → List (List AV)
  | 0 => []
  | n + 1 => if onV f a b c n then adrR f a b c n ++ [onRow f a b c n] else adrR f a b c n
def adr (f a b c : Int) : List (List AV) := if vld f a b c then adrR f a b c 20 else []
structure AdrP (f a b c : Int) (x : Int × List (List AV)) : Prop where
  lo : 0 ≤ x.1
  hi : x.1 ≤ 20
  row : x.2 = adrR f a b c x.1.toNat
def adrI (f a b c : Int) : LInv := ⟨Int × List (List AV), fun x => ⟨[(4, .ptr 4 0), (5, .rw 500 4 x.2.length), (14, .int .i64 x.1)], [(4, .cells [.int .i64 (wt f a b c 0), .int .i64 (wt f a b c 1), .int .i64 (wt f a b c 2), .int .i64 (wt f a b c 3), .int .i64 (wt f a b c 4), .int .i64 (wt f a b c 5), .int .i64 (wt f a b c 6), .int .i64 (wt f a b c 7), .int .i64 (wt f a b c 8), .int .i64 (wt f a b c 9), .int .i64 (wt f a b c 10), .int .i64 (wt f a b c 11)]), (500, .row 26 4 x.2)]⟩,
  AdrP f a b c, fun x => (20 - x.1).toNat, none⟩
theorem adr_len (f a b c : Int) : ∀ n, (adrR f a b c n).length ≤ n
  | 0 => by simp [adrR]
  | n + 1 => by
    have := adr_len f a b c n
    simp only [adrR]
    split
    · simp; omega
    · omega

theorem adr_step {f a b c n : Int} (h : 0 ≤ n) : adrR f a b c (n + 1).toNat = if onV f a b c n then adrR f a b c n.toNat ++ [onRow f a b c n] else adrR f a b c n.toNat := by
  rw [show (n + 1).toNat = n.toNat + 1 by omega]
  simp only [adrR]
  rw [show ((n.toNat : Nat) : Int) = n by omega]


end Go.Proofs.YtceknalhogbbnaaDoor
