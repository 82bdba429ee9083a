/- Across, face by face; the law PlaceSolid. -/
import Derived.Test.YtddmmjkhkoencaaDoorPlE
namespace Go.Proofs.YtddmmjkhkoencaaDoor
open Go
set_option linter.unusedVariables false
set_option linter.unusedSimpArgs false

def acrT : List Int := [5, 1, 4, 6, 2, 0, 7, 3, 1, 8, 4, 2, 9, 0, 3, 10, 0, 14, 11, 1, 10, 12, 2, 11, 13, 3, 12, 14, 4, 13, 6, 5, 15, 7, 6, 16, 8, 7, 17, 9, 8, 18, 5, 9, 19, 10, 19, 16, 11, 15, 17, 12, 16, 18, 13, 17, 19, 14, 18, 15]
def acrF (n c : Int) : Int := acrT.getD (3 * n.toNat + c.toNat) 0
set_option maxRecDepth 100000 in
def across60_T : Prop :=
  (((-9223372036854775808 : Int) ≤ (0 : Int) ∧ (0 : Int) ≤ (9223372036854775807 : Int) → (-9223372036854775808 : Int) ≤ (0 : Int) ∧ (0 : Int) ≤ (9223372036854775807 : Int) → True ∧
  True ∧ (5 : Int) = (5 : Int) ∧ (0 : Int) = (0 : Int) ∧ True) ∧ ((-9223372036854775808 : Int) ≤ (0 : Int) ∧ (0 : Int) ≤ (9223372036854775807 : Int) → (-9223372036854775808 : Int) ≤
  (1 : Int) ∧ (1 : Int) ≤ (9223372036854775807 : Int) → True ∧ True ∧ (1 : Int) = (1 : Int) ∧ (0 : Int) = (0 : Int) ∧ True) ∧ ((-9223372036854775808 : Int) ≤ (0 : Int) ∧ (0 : Int) ≤
  (9223372036854775807 : Int) → (-9223372036854775808 : Int) ≤ (2 : Int) ∧ (2 : Int) ≤ (9223372036854775807 : Int) → True ∧ True ∧ (4 : Int) = (4 : Int) ∧ (0 : Int) = (0 : Int) ∧
  True) ∧ True) ∧ (((-9223372036854775808 : Int) ≤ (1 : Int) ∧ (1 : Int) ≤ (9223372036854775807 : Int) → (-9223372036854775808 : Int) ≤ (0 : Int) ∧ (0 : Int) ≤ (9223372036854775807 :
  Int) → True ∧ True ∧ (6 : Int) = (6 : Int) ∧ (0 : Int) = (0 : Int) ∧ True) ∧ ((-9223372036854775808 : Int) ≤ (1 : Int) ∧ (1 : Int) ≤ (9223372036854775807 : Int) →
  (-9223372036854775808 : Int) ≤ (1 : Int) ∧ (1 : Int) ≤ (9223372036854775807 : Int) → True ∧ True ∧ (2 : Int) = (2 : Int) ∧ (0 : Int) = (0 : Int) ∧ True) ∧ ((-9223372036854775808 :
  Int) ≤ (1 : Int) ∧ (1 : Int) ≤ (9223372036854775807 : Int) → (-9223372036854775808 : Int) ≤ (2 : Int) ∧ (2 : Int) ≤ (9223372036854775807 : Int) → True ∧ True ∧ (0 : Int) = (0 :
  Int) ∧ (0 : Int) = (0 : Int) ∧ True) ∧ True) ∧ (((-9223372036854775808 : Int) ≤ (2 : Int) ∧ (2 : Int) ≤ (9223372036854775807 : Int) → (-9223372036854775808 : Int) ≤ (0 : Int) ∧ (0
  : Int) ≤ (9223372036854775807 : Int) → True ∧ True ∧ (7 : Int) = (7 : Int) ∧ (0 : Int) = (0 : Int) ∧ True) ∧ ((-9223372036854775808 : Int) ≤ (2 : Int) ∧ (2 : Int) ≤
  (9223372036854775807 : Int) → (-9223372036854775808 : Int) ≤ (1 : Int) ∧ (1 : Int) ≤ (9223372036854775807 : Int) → True ∧ True ∧ (3 : Int) = (3 : Int) ∧ (0 : Int) = (0 : Int) ∧
  True) ∧ ((-9223372036854775808 : Int) ≤ (2 : Int) ∧ (2 : Int) ≤ (9223372036854775807 : Int) → (-9223372036854775808 : Int) ≤ (2 : Int) ∧ (2 : Int) ≤ (9223372036854775807 : Int) →
  True ∧ True ∧ (1 : Int) = (1 : Int) ∧ (0 : Int) = (0 : Int) ∧ True) ∧ True) ∧ (((-9223372036854775808 : Int) ≤ (3 : Int) ∧ (3 : Int) ≤ (9223372036854775807 : Int) →
  (-9223372036854775808 : Int) ≤ (0 : Int) ∧ (0 : Int) ≤ (9223372036854775807 : Int) → True ∧ True ∧ (8 : Int) = (8 : Int) ∧ (0 : Int) = (0 : Int) ∧ True) ∧ ((-9223372036854775808 :
  Int) ≤ (3 : Int) ∧ (3 : Int) ≤ (9223372036854775807 : Int) → (-9223372036854775808 : Int) ≤ (1 : Int) ∧ (1 : Int) ≤ (9223372036854775807 : Int) → True ∧ True ∧ (4 : Int) = (4 :
  Int) ∧ (0 : Int) = (0 : Int) ∧ True) ∧ ((-9223372036854775808 : Int) ≤ (3 : Int) ∧ (3 : Int) ≤ (9223372036854775807 : Int) → (-9223372036854775808 : Int) ≤ (2 : Int) ∧ (2 : Int) ≤
  (9223372036854775807 : Int) → True ∧ True ∧ (2 : Int) = (2 : Int) ∧ (0 : Int) = (0 : Int) ∧ True) ∧ True) ∧ (((-9223372036854775808 : Int) ≤ (4 : Int) ∧ (4 : Int) ≤
  (9223372036854775807 : Int) → (-9223372036854775808 : Int) ≤ (0 : Int) ∧ (0 : Int) ≤ (9223372036854775807 : Int) → True ∧ True ∧ (9 : Int) = (9 : Int) ∧ (0 : Int) = (0 : Int) ∧
  True) ∧ ((-9223372036854775808 : Int) ≤ (4 : Int) ∧ (4 : Int) ≤ (9223372036854775807 : Int) → (-9223372036854775808 : Int) ≤ (1 : Int) ∧ (1 : Int) ≤ (9223372036854775807 : Int) →
  True ∧ True ∧ (0 : Int) = (0 : Int) ∧ (0 : Int) = (0 : Int) ∧ True) ∧ ((-9223372036854775808 : Int) ≤ (4 : Int) ∧ (4 : Int) ≤ (9223372036854775807 : Int) → (-9223372036854775808 :
  Int) ≤ (2 : Int) ∧ (2 : Int) ≤ (9223372036854775807 : Int) → True ∧ True ∧ (3 : Int) = (3 : Int) ∧ (0 : Int) = (0 : Int) ∧ True) ∧ True) ∧ (((-9223372036854775808 : Int) ≤ (5 :
  Int) ∧ (5 : Int) ≤ (9223372036854775807 : Int) → (-9223372036854775808 : Int) ≤ (0 : Int) ∧ (0 : Int) ≤ (9223372036854775807 : Int) → True ∧ True ∧ (10 : Int) = (10 : Int) ∧ (0 :
  Int) = (0 : Int) ∧ True) ∧ ((-9223372036854775808 : Int) ≤ (5 : Int) ∧ (5 : Int) ≤ (9223372036854775807 : Int) → (-9223372036854775808 : Int) ≤ (1 : Int) ∧ (1 : Int) ≤
  (9223372036854775807 : Int) → True ∧ True ∧ (0 : Int) = (0 : Int) ∧ (0 : Int) = (0 : Int) ∧ True) ∧ ((-9223372036854775808 : Int) ≤ (5 : Int) ∧ (5 : Int) ≤ (9223372036854775807 :
  Int) → (-9223372036854775808 : Int) ≤ (2 : Int) ∧ (2 : Int) ≤ (9223372036854775807 : Int) → True ∧ True ∧ (14 : Int) = (14 : Int) ∧ (0 : Int) = (0 : Int) ∧ True) ∧ True) ∧
  (((-9223372036854775808 : Int) ≤ (6 : Int) ∧ (6 : Int) ≤ (9223372036854775807 : Int) → (-9223372036854775808 : Int) ≤ (0 : Int) ∧ (0 : Int) ≤ (9223372036854775807 : Int) → True ∧
  True ∧ (11 : Int) = (11 : Int) ∧ (0 : Int) = (0 : Int) ∧ True) ∧ ((-9223372036854775808 : Int) ≤ (6 : Int) ∧ (6 : Int) ≤ (9223372036854775807 : Int) → (-9223372036854775808 : Int)
  ≤ (1 : Int) ∧ (1 : Int) ≤ (9223372036854775807 : Int) → True ∧ True ∧ (1 : Int) = (1 : Int) ∧ (0 : Int) = (0 : Int) ∧ True) ∧ ((-9223372036854775808 : Int) ≤ (6 : Int) ∧ (6 : Int)
  ≤ (9223372036854775807 : Int) → (-9223372036854775808 : Int) ≤ (2 : Int) ∧ (2 : Int) ≤ (9223372036854775807 : Int) → True ∧ True ∧ (10 : Int) = (10 : Int) ∧ (0 : Int) = (0 : Int) ∧
  True) ∧ True) ∧ (((-9223372036854775808 : Int) ≤ (7 : Int) ∧ (7 : Int) ≤ (9223372036854775807 : Int) → (-9223372036854775808 : Int) ≤ (0 : Int) ∧ (0 : Int) ≤ (9223372036854775807 :
  Int) → True ∧ True ∧ (12 : Int) = (12 : Int) ∧ (0 : Int) = (0 : Int) ∧ True) ∧ ((-9223372036854775808 : Int) ≤ (7 : Int) ∧ (7 : Int) ≤ (9223372036854775807 : Int) →
  (-9223372036854775808 : Int) ≤ (1 : Int) ∧ (1 : Int) ≤ (9223372036854775807 : Int) → True ∧ True ∧ (2 : Int) = (2 : Int) ∧ (0 : Int) = (0 : Int) ∧ True) ∧ ((-9223372036854775808 :
  Int) ≤ (7 : Int) ∧ (7 : Int) ≤ (9223372036854775807 : Int) → (-9223372036854775808 : Int) ≤ (2 : Int) ∧ (2 : Int) ≤ (9223372036854775807 : Int) → True ∧ True ∧ (11 : Int) = (11 :
  Int) ∧ (0 : Int) = (0 : Int) ∧ True) ∧ True) ∧ (((-9223372036854775808 : Int) ≤ (8 : Int) ∧ (8 : Int) ≤ (9223372036854775807 : Int) → (-9223372036854775808 : Int) ≤ (0 : Int) ∧ (0
  : Int) ≤ (9223372036854775807 : Int) → True ∧ True ∧ (13 : Int) = (13 : Int) ∧ (0 : Int) = (0 : Int) ∧ True) ∧ ((-9223372036854775808 : Int) ≤ (8 : Int) ∧ (8 : Int) ≤
  (9223372036854775807 : Int) → (-9223372036854775808 : Int) ≤ (1 : Int) ∧ (1 : Int) ≤ (9223372036854775807 : Int) → True ∧ True ∧ (3 : Int) = (3 : Int) ∧ (0 : Int) = (0 : Int) ∧
  True) ∧ ((-9223372036854775808 : Int) ≤ (8 : Int) ∧ (8 : Int) ≤ (9223372036854775807 : Int) → (-9223372036854775808 : Int) ≤ (2 : Int) ∧ (2 : Int) ≤ (9223372036854775807 : Int) →
  True ∧ True ∧ (12 : Int) = (12 : Int) ∧ (0 : Int) = (0 : Int) ∧ True) ∧ True) ∧ (((-9223372036854775808 : Int) ≤ (9 : Int) ∧ (9 : Int) ≤ (9223372036854775807 : Int) →
  (-9223372036854775808 : Int) ≤ (0 : Int) ∧ (0 : Int) ≤ (9223372036854775807 : Int) → True ∧ True ∧ (14 : Int) = (14 : Int) ∧ (0 : Int) = (0 : Int) ∧ True) ∧ ((-9223372036854775808
  : Int) ≤ (9 : Int) ∧ (9 : Int) ≤ (9223372036854775807 : Int) → (-9223372036854775808 : Int) ≤ (1 : Int) ∧ (1 : Int) ≤ (9223372036854775807 : Int) → True ∧ True ∧ (4 : Int) = (4 :
  Int) ∧ (0 : Int) = (0 : Int) ∧ True) ∧ ((-9223372036854775808 : Int) ≤ (9 : Int) ∧ (9 : Int) ≤ (9223372036854775807 : Int) → (-9223372036854775808 : Int) ≤ (2 : Int) ∧ (2 : Int) ≤
  (9223372036854775807 : Int) → True ∧ True ∧ (13 : Int) = (13 : Int) ∧ (0 : Int) = (0 : Int) ∧ True) ∧ True) ∧ (((-9223372036854775808 : Int) ≤ (10 : Int) ∧ (10 : Int) ≤
  (9223372036854775807 : Int) → (-9223372036854775808 : Int) ≤ (0 : Int) ∧ (0 : Int) ≤ (9223372036854775807 : Int) → True ∧ True ∧ (6 : Int) = (6 : Int) ∧ (0 : Int) = (0 : Int) ∧
  True) ∧ ((-9223372036854775808 : Int) ≤ (10 : Int) ∧ (10 : Int) ≤ (9223372036854775807 : Int) → (-9223372036854775808 : Int) ≤ (1 : Int) ∧ (1 : Int) ≤ (9223372036854775807 : Int) →
  True ∧ True ∧ (5 : Int) = (5 : Int) ∧ (0 : Int) = (0 : Int) ∧ True) ∧ ((-9223372036854775808 : Int) ≤ (10 : Int) ∧ (10 : Int) ≤ (9223372036854775807 : Int) → (-9223372036854775808
  : Int) ≤ (2 : Int) ∧ (2 : Int) ≤ (9223372036854775807 : Int) → True ∧ True ∧ (15 : Int) = (15 : Int) ∧ (0 : Int) = (0 : Int) ∧ True) ∧ True) ∧ (((-9223372036854775808 : Int) ≤ (11
  : Int) ∧ (11 : Int) ≤ (9223372036854775807 : Int) → (-9223372036854775808 : Int) ≤ (0 : Int) ∧ (0 : Int) ≤ (9223372036854775807 : Int) → True ∧ True ∧ (7 : Int) = (7 : Int) ∧ (0 :
  Int) = (0 : Int) ∧ True) ∧ ((-9223372036854775808 : Int) ≤ (11 : Int) ∧ (11 : Int) ≤ (9223372036854775807 : Int) → (-9223372036854775808 : Int) ≤ (1 : Int) ∧ (1 : Int) ≤
  (9223372036854775807 : Int) → True ∧ True ∧ (6 : Int) = (6 : Int) ∧ (0 : Int) = (0 : Int) ∧ True) ∧ ((-9223372036854775808 : Int) ≤ (11 : Int) ∧ (11 : Int) ≤ (9223372036854775807 :
  Int) → (-9223372036854775808 : Int) ≤ (2 : Int) ∧ (2 : Int) ≤ (9223372036854775807 : Int) → True ∧ True ∧ (16 : Int) = (16 : Int) ∧ (0 : Int) = (0 : Int) ∧ True) ∧ True) ∧
  (((-9223372036854775808 : Int) ≤ (12 : Int) ∧ (12 : Int) ≤ (9223372036854775807 : Int) → (-9223372036854775808 : Int) ≤ (0 : Int) ∧ (0 : Int) ≤ (9223372036854775807 : Int) → True ∧
  True ∧ (8 : Int) = (8 : Int) ∧ (0 : Int) = (0 : Int) ∧ True) ∧ ((-9223372036854775808 : Int) ≤ (12 : Int) ∧ (12 : Int) ≤ (9223372036854775807 : Int) → (-9223372036854775808 : Int)
  ≤ (1 : Int) ∧ (1 : Int) ≤ (9223372036854775807 : Int) → True ∧ True ∧ (7 : Int) = (7 : Int) ∧ (0 : Int) = (0 : Int) ∧ True) ∧ ((-9223372036854775808 : Int) ≤ (12 : Int) ∧ (12 :
  Int) ≤ (9223372036854775807 : Int) → (-9223372036854775808 : Int) ≤ (2 : Int) ∧ (2 : Int) ≤ (9223372036854775807 : Int) → True ∧ True ∧ (17 : Int) = (17 : Int) ∧ (0 : Int) = (0 :
  Int) ∧ True) ∧ True) ∧ (((-9223372036854775808 : Int) ≤ (13 : Int) ∧ (13 : Int) ≤ (9223372036854775807 : Int) → (-9223372036854775808 : Int) ≤ (0 : Int) ∧ (0 : Int) ≤
  (9223372036854775807 : Int) → True ∧ True ∧ (9 : Int) = (9 : Int) ∧ (0 : Int) = (0 : Int) ∧ True) ∧ ((-9223372036854775808 : Int) ≤ (13 : Int) ∧ (13 : Int) ≤ (9223372036854775807 :
  Int) → (-9223372036854775808 : Int) ≤ (1 : Int) ∧ (1 : Int) ≤ (9223372036854775807 : Int) → True ∧ True ∧ (8 : Int) = (8 : Int) ∧ (0 : Int) = (0 : Int) ∧ True) ∧
  ((-9223372036854775808 : Int) ≤ (13 : Int) ∧ (13 : Int) ≤ (9223372036854775807 : Int) → (-9223372036854775808 : Int) ≤ (2 : Int) ∧ (2 : Int) ≤ (9223372036854775807 : Int) → True ∧
  True ∧ (18 : Int) = (18 : Int) ∧ (0 : Int) = (0 : Int) ∧ True) ∧ True) ∧ (((-9223372036854775808 : Int) ≤ (14 : Int) ∧ (14 : Int) ≤ (9223372036854775807 : Int) →
  (-9223372036854775808 : Int) ≤ (0 : Int) ∧ (0 : Int) ≤ (9223372036854775807 : Int) → True ∧ True ∧ (5 : Int) = (5 : Int) ∧ (0 : Int) = (0 : Int) ∧ True) ∧ ((-9223372036854775808 :
  Int) ≤ (14 : Int) ∧ (14 : Int) ≤ (9223372036854775807 : Int) → (-9223372036854775808 : Int) ≤ (1 : Int) ∧ (1 : Int) ≤ (9223372036854775807 : Int) → True ∧ True ∧ (9 : Int) = (9 :
  Int) ∧ (0 : Int) = (0 : Int) ∧ True) ∧ ((-9223372036854775808 : Int) ≤ (14 : Int) ∧ (14 : Int) ≤ (9223372036854775807 : Int) → (-9223372036854775808 : Int) ≤ (2 : Int) ∧ (2 : Int)
  ≤ (9223372036854775807 : Int) → True ∧ True ∧ (19 : Int) = (19 : Int) ∧ (0 : Int) = (0 : Int) ∧ True) ∧ True) ∧ (((-9223372036854775808 : Int) ≤ (15 : Int) ∧ (15 : Int) ≤
  (9223372036854775807 : Int) → (-9223372036854775808 : Int) ≤ (0 : Int) ∧ (0 : Int) ≤ (9223372036854775807 : Int) → True ∧ True ∧ (10 : Int) = (10 : Int) ∧ (0 : Int) = (0 : Int) ∧
  True) ∧ ((-9223372036854775808 : Int) ≤ (15 : Int) ∧ (15 : Int) ≤ (9223372036854775807 : Int) → (-9223372036854775808 : Int) ≤ (1 : Int) ∧ (1 : Int) ≤ (9223372036854775807 : Int) →
  True ∧ True ∧ (19 : Int) = (19 : Int) ∧ (0 : Int) = (0 : Int) ∧ True) ∧ ((-9223372036854775808 : Int) ≤ (15 : Int) ∧ (15 : Int) ≤ (9223372036854775807 : Int) →
  (-9223372036854775808 : Int) ≤ (2 : Int) ∧ (2 : Int) ≤ (9223372036854775807 : Int) → True ∧ True ∧ (16 : Int) = (16 : Int) ∧ (0 : Int) = (0 : Int) ∧ True) ∧ True) ∧
  (((-9223372036854775808 : Int) ≤ (16 : Int) ∧ (16 : Int) ≤ (9223372036854775807 : Int) → (-9223372036854775808 : Int) ≤ (0 : Int) ∧ (0 : Int) ≤ (9223372036854775807 : Int) → True ∧
  True ∧ (11 : Int) = (11 : Int) ∧ (0 : Int) = (0 : Int) ∧ True) ∧ ((-9223372036854775808 : Int) ≤ (16 : Int) ∧ (16 : Int) ≤ (9223372036854775807 : Int) → (-9223372036854775808 :
  Int) ≤ (1 : Int) ∧ (1 : Int) ≤ (9223372036854775807 : Int) → True ∧ True ∧ (15 : Int) = (15 : Int) ∧ (0 : Int) = (0 : Int) ∧ True) ∧ ((-9223372036854775808 : Int) ≤ (16 : Int) ∧
  (16 : Int) ≤ (9223372036854775807 : Int) → (-9223372036854775808 : Int) ≤ (2 : Int) ∧ (2 : Int) ≤ (9223372036854775807 : Int) → True ∧ True ∧ (17 : Int) = (17 : Int) ∧ (0 : Int) =
  (0 : Int) ∧ True) ∧ True) ∧ (((-9223372036854775808 : Int) ≤ (17 : Int) ∧ (17 : Int) ≤ (9223372036854775807 : Int) → (-9223372036854775808 : Int) ≤ (0 : Int) ∧ (0 : Int) ≤
  (9223372036854775807 : Int) → True ∧ True ∧ (12 : Int) = (12 : Int) ∧ (0 : Int) = (0 : Int) ∧ True) ∧ ((-9223372036854775808 : Int) ≤ (17 : Int) ∧ (17 : Int) ≤ (9223372036854775807
  : Int) → (-9223372036854775808 : Int) ≤ (1 : Int) ∧ (1 : Int) ≤ (9223372036854775807 : Int) → True ∧ True ∧ (16 : Int) = (16 : Int) ∧ (0 : Int) = (0 : Int) ∧ True) ∧
  ((-9223372036854775808 : Int) ≤ (17 : Int) ∧ (17 : Int) ≤ (9223372036854775807 : Int) → (-9223372036854775808 : Int) ≤ (2 : Int) ∧ (2 : Int) ≤ (9223372036854775807 : Int) → True ∧
  True ∧ (18 : Int) = (18 : Int) ∧ (0 : Int) = (0 : Int) ∧ True) ∧ True) ∧ (((-9223372036854775808 : Int) ≤ (18 : Int) ∧ (18 : Int) ≤ (9223372036854775807 : Int) →
  (-9223372036854775808 : Int) ≤ (0 : Int) ∧ (0 : Int) ≤ (9223372036854775807 : Int) → True ∧ True ∧ (13 : Int) = (13 : Int) ∧ (0 : Int) = (0 : Int) ∧ True) ∧ ((-9223372036854775808
  : Int) ≤ (18 : Int) ∧ (18 : Int) ≤ (9223372036854775807 : Int) → (-9223372036854775808 : Int) ≤ (1 : Int) ∧ (1 : Int) ≤ (9223372036854775807 : Int) → True ∧ True ∧ (17 : Int) = (17
  : Int) ∧ (0 : Int) = (0 : Int) ∧ True) ∧ ((-9223372036854775808 : Int) ≤ (18 : Int) ∧ (18 : Int) ≤ (9223372036854775807 : Int) → (-9223372036854775808 : Int) ≤ (2 : Int) ∧ (2 :
  Int) ≤ (9223372036854775807 : Int) → True ∧ True ∧ (19 : Int) = (19 : Int) ∧ (0 : Int) = (0 : Int) ∧ True) ∧ True) ∧ (((-9223372036854775808 : Int) ≤ (19 : Int) ∧ (19 : Int) ≤
  (9223372036854775807 : Int) → (-9223372036854775808 : Int) ≤ (0 : Int) ∧ (0 : Int) ≤ (9223372036854775807 : Int) → True ∧ True ∧ (14 : Int) = (14 : Int) ∧ (0 : Int) = (0 : Int) ∧
  True) ∧ ((-9223372036854775808 : Int) ≤ (19 : Int) ∧ (19 : Int) ≤ (9223372036854775807 : Int) → (-9223372036854775808 : Int) ≤ (1 : Int) ∧ (1 : Int) ≤ (9223372036854775807 : Int) →
  True ∧ True ∧ (18 : Int) = (18 : Int) ∧ (0 : Int) = (0 : Int) ∧ True) ∧ ((-9223372036854775808 : Int) ≤ (19 : Int) ∧ (19 : Int) ≤ (9223372036854775807 : Int) →
  (-9223372036854775808 : Int) ≤ (2 : Int) ∧ (2 : Int) ≤ (9223372036854775807 : Int) → True ∧ True ∧ (15 : Int) = (15 : Int) ∧ (0 : Int) = (0 : Int) ∧ True) ∧ True) ∧ True
set_option maxRecDepth 100000 in
theorem across60_P : across60_T := by
  unfold across60_T
  repeat' (first | exact trivial | intro _ | rfl | apply And.intro)
def across60_S : Prop := allN fcs fun n => allN [0, 1, 2] fun c => fnK Tryd.prog { glob := glb, spec := lk [(34, face_s), (11, addresses_s vld adr)], nowf := true } { nt := 51 } (fun _ _ => none) 7 Tryd.f20 [.int .i64 n, .int .i64 c] (.tup [.int .i64 (acrF n c), .int .i64 0])
set_option maxRecDepth 100000 in
theorem across60_e : across60_T = across60_S := by kernel_rfl
theorem across60 : across60_S := @Eq.mp (across60_T) (across60_S) (across60_e) across60_P
def across_s : Sp
  | [.int .i64 n, .int .i64 c] => some (True, .tup [.int .i64 (if fac n && decide (0 ≤ c ∧ c < 3) then acrF n c else 0), .int .i64 (if fac n && decide (0 ≤ c ∧ c < 3) then 0 else 1)])
  | _ => none
/-- No way leads here. -/
structure NoP (u : Unit) : Prop where
  f : False
def noI : LInv := ⟨Unit, fun _ => ⟨[], []⟩, NoP, fun _ => 0, none⟩
def acrossX_s : Sp
  | [.int .i64 n, .int .i64 c] => some (¬ ((0 ≤ n ∧ n < 20) ∧ 0 ≤ c ∧ c < 3), .tup [.int .i64 0, .int .i64 1])
  | _ => none
set_option maxRecDepth 100000 in
def acrossX_T (vld : Int → Int → Int → Int → Bool) (adr : Int → Int → Int → Int → List (List AV)) : Prop :=
  ∀ (n c : Int), ¬(((0 : Int) ≤ n ∧ n < (20 : Int)) ∧ (0 : Int) ≤ c ∧ c < (3 : Int)) → (-9223372036854775808 : Int) ≤ n ∧ n ≤ (9223372036854775807 : Int) → (-9223372036854775808 :
  Int) ≤ c ∧ c ≤ (9223372036854775807 : Int) → (True ∧ bif !fac n then (0 : Int) = (0 : Int) ∧ (1 : Int) = (1 : Int) ∧ True else bif decide (c < (0 : Int)) then (0 : Int) = (0 : Int)
  ∧ (1 : Int) = (1 : Int) ∧ True else bif decide ((2 : Int) < c) then (0 : Int) = (0 : Int) ∧ (1 : Int) = (1 : Int) ∧ True else ∃ x, NoP x ∧ True ∧ True) ∧ ∀ (x : PUnit), NoP x →
  False
set_option maxRecDepth 100000 in
theorem acrossX_P : acrossX_T vld adr := by
  unfold acrossX_T
  intro n c hv hn hc
  refine ⟨⟨trivial, ?_⟩, fun _ h => h.f.elim⟩
  cases hf : fac n with
  | false => exact ⟨rfl, rfl, trivial⟩
  | true =>
    have hf : 0 ≤ n ∧ n < 20 := by simpa [fac] using hf
    simp only [Bool.not_true, cond_false, cdec]
    exact ⟨fun _ => ⟨trivial, trivial, trivial⟩, fun h1 => ⟨fun _ => ⟨trivial, trivial, trivial⟩, fun h2 => absurd ⟨hf, by omega, by omega⟩ hv⟩⟩
def acrossX_S (vld : Int → Int → Int → Int → Bool) (adr : Int → Int → Int → Int → List (List AV)) : Prop := ∀ (n c : Int), ¬ ((0 ≤ n ∧ n < 20) ∧ 0 ≤ c ∧ c < 3) → fnK Tryd.prog { glob := glb, spec := lk [(34, face_s), (11, (addresses_s vld adr))], specH := lk [], nowf := true } { nt := 51, drop := drp [(1, 2095104), (3, 12582912), (5, 33554432), (6, 134217728), (7, 268435456), (8, 1073741824), (9, 2147483648), (10, 133143986176), (13, 6597069766656), (14, 61572651155456), (15, 985162418487296), (16, 1125899906842624)] } (invs [(100003, noI)]) 7 Tryd.f20 [.int .i64 n, .int .i64 c] (.tup [.int .i64 0, .int .i64 1])
set_option maxRecDepth 100000 in
theorem acrossX_e (vld : Int → Int → Int → Int → Bool) (adr : Int → Int → Int → Int → List (List AV)) : acrossX_T vld adr = acrossX_S vld adr := by kernel_rfl
theorem acrossX_v : acrossX_S vld adr := @Eq.mp (acrossX_T vld adr) (acrossX_S vld adr) (acrossX_e vld adr) acrossX_P
theorem acrossX_ok : SOK Tryd.prog glb 20 acrossX_s := by
  refine ⟨fok Tryd.func20 (by kernel_rfl) (by kernel_rfl), ?_⟩
  intro xs pre r h hp
  unfold acrossX_s at h
  split at h
  · simp only [Option.some.injEq, Prod.mk.injEq] at h
    obtain ⟨h1, h2⟩ := h
    subst h1 h2
    exact fnK_sound tyNil (by exact specOK rfl rfl ⟨face_ok glb, addresses_ok, trivial⟩ trivial) (by kernel_rfl) Tryd.func20 rfl (acrossX_v  _ _ hp)
  · cases h
theorem across_ok : SOK Tryd.prog glb 20 across_s := by
  refine ⟨acrossX_ok.1, ?_⟩
  intro xs pre r h hp
  unfold across_s at h
  split at h
  · rename_i n c
    simp only [Option.some.injEq, Prod.mk.injEq] at h
    obtain ⟨h1, h2⟩ := h
    subst h2
    by_cases hv : (0 ≤ n ∧ n < 20) ∧ 0 ≤ c ∧ c < 3
    · have e1 : (fac n && decide (0 ≤ c ∧ c < 3)) = true := by simp [fac, hv]
      rw [e1]
      simp only [if_true]
      exact fnK_sound tyNil (by exact specOK (l' := []) rfl rfl ⟨face_ok glb, addresses_ok, trivial⟩ trivial) (by kernel_rfl) Tryd.func20 rfl (allN_get (allN_get across60 (mem_fcs hv.1)) (show c ∈ [0, 1, 2] by simp only [List.mem_cons, List.not_mem_nil, or_false]; omega))
    · have e1 : (fac n && decide (0 ≤ c ∧ c < 3)) = false := by
        rw [Bool.eq_false_iff]
        intro h
        simp only [fac, Bool.and_eq_true, decide_eq_true_eq] at h
        exact hv h
      rw [e1]
      exact acrossX_ok.2 _ _ _ rfl hv
  · cases h
def modc_s (x v : Int) : Sp
  | [.int .i64 y, .int .i64 n] => some (y = x ∧ n = 12, .int .i64 v)
  | _ => none
structure VerP (v v' : Int) : Prop where
  e : v' = v
def pairT : List Int := [0, 2, 2, 2, 2, 2, 0, 0, 0, 0, 0, 0, 2, 0, 2, 0, 0, 2, 2, 0, 0, 0, 2, 0, 2, 2, 0, 2, 0, 0, 2, 2, 0, 0, 0, 0, 2, 0, 2, 0, 2, 0, 0, 2, 2, 0, 0, 0, 2, 0, 0, 2, 0, 2, 0, 0, 2, 2, 0, 0, 2, 2, 0, 0, 2, 0, 0, 0, 0, 2, 2, 0, 0, 2, 2, 0, 0, 0, 0, 2, 0, 0, 2, 2, 0, 0, 2, 2, 0, 0, 2, 0, 2, 0, 0, 2, 0, 0, 0, 2, 2, 0, 0, 2, 0, 2, 0, 2, 0, 0, 0, 0, 2, 2, 0, 0, 2, 0, 2, 2, 0, 2, 0, 0, 0, 2, 2, 0, 0, 2, 0, 2, 0, 0, 0, 0, 0, 0, 2, 2, 2, 2, 2, 0]
def meetT : List Int := [5, 5, 5, 5, 5, 5, 5, 5, 5, 5, 5, 5]
def solI (v : Int) (pairs meet : List Int) : LInv := ⟨Int, fun v' => ⟨[(3, .ptr 3 0), (4, .ptr 4 0), (17, .int .i64 v')], [(3, .cells (pairs.map (AV.int .i64))), (4, .cells (meet.map (AV.int .i64)))]⟩, VerP v, fun _ => 0, some [0, 1, 2, 3, 4, 5, 6, 7, 8, 9, 10, 11]⟩
set_option maxRecDepth 100000 in
def solid_T : Prop :=
  ∀ (x v : Int), (0 : Int) ≤ v ∧ v < (12 : Int) → (-9223372036854775808 : Int) ≤ x ∧ x ≤ (9223372036854775807 : Int) → True ∧ True ∧ True ∧ True ∧ True ∧ True ∧ True ∧ True ∧ True ∧
  True ∧ True ∧ True ∧ True ∧ True ∧ True ∧ True ∧ True ∧ True ∧ True ∧ True ∧ True ∧ True ∧ True ∧ True ∧ True ∧ True ∧ True ∧ True ∧ True ∧ True ∧ True ∧ True ∧ True ∧ True ∧ True
  ∧ True ∧ True ∧ True ∧ True ∧ True ∧ True ∧ True ∧ True ∧ True ∧ True ∧ True ∧ True ∧ True ∧ True ∧ True ∧ True ∧ True ∧ True ∧ True ∧ True ∧ True ∧ True ∧ True ∧ True ∧ True ∧
  True ∧ True ∧ True ∧ True ∧ True ∧ True ∧ True ∧ True ∧ True ∧ True ∧ True ∧ True ∧ True ∧ True ∧ True ∧ True ∧ True ∧ True ∧ True ∧ True ∧ True ∧ True ∧ True ∧ True ∧ True ∧ True
  ∧ True ∧ True ∧ True ∧ True ∧ True ∧ True ∧ True ∧ True ∧ True ∧ True ∧ True ∧ True ∧ True ∧ True ∧ True ∧ True ∧ True ∧ True ∧ True ∧ True ∧ True ∧ True ∧ True ∧ True ∧ True ∧
  True ∧ True ∧ True ∧ True ∧ True ∧ True ∧ True ∧ True ∧ True ∧ True ∧ True ∧ True ∧ True ∧ True ∧ True ∧ True ∧ True ∧ True ∧ True ∧ True ∧ True ∧ True ∧ True ∧ True ∧ True ∧ True
  ∧ True ∧ True ∧ True ∧ True ∧ True ∧ True ∧ True ∧ True ∧ True ∧ True ∧ True ∧ True ∧ True ∧ True ∧ True ∧ True ∧ True ∧ True ∧ True ∧ True ∧ True ∧ True ∧ True ∧ True ∧ True ∧
  True ∧ True ∧ True ∧ True ∧ True ∧ True ∧ True ∧ True ∧ True ∧ True ∧ True ∧ True ∧ True ∧ True ∧ True ∧ True ∧ True ∧ True ∧ True ∧ True ∧ True ∧ True ∧ True ∧ True ∧ True ∧ True
  ∧ True ∧ True ∧ True ∧ True ∧ True ∧ True ∧ True ∧ True ∧ True ∧ True ∧ True ∧ True ∧ True ∧ True ∧ True ∧ True ∧ True ∧ True ∧ True ∧ True ∧ True ∧ True ∧ True ∧ True ∧ True ∧
  True ∧ True ∧ True ∧ True ∧ True ∧ True ∧ True ∧ True ∧ True ∧ True ∧ True ∧ True ∧ True ∧ True ∧ True ∧ True ∧ True ∧ True ∧ True ∧ True ∧ True ∧ True ∧ True ∧ True ∧ True ∧ True
  ∧ True ∧ True ∧ True ∧ True ∧ True ∧ True ∧ True ∧ True ∧ True ∧ True ∧ True ∧ True ∧ True ∧ True ∧ True ∧ True ∧ True ∧ True ∧ True ∧ True ∧ True ∧ ((x = x ∧ (12 : Int) = (12 :
  Int)) ∧ ∃ x, VerP v x ∧ ((0 : Nat) = (0 : Nat) ∧ (0 : Nat) = (0 : Nat) ∧ v = x ∧ True) ∧ ((0 : Int) = (0 : Int) ∧ (2 : Int) = (2 : Int) ∧ (2 : Int) = (2 : Int) ∧ (2 : Int) = (2 :
  Int) ∧ (2 : Int) = (2 : Int) ∧ (2 : Int) = (2 : Int) ∧ (0 : Int) = (0 : Int) ∧ (0 : Int) = (0 : Int) ∧ (0 : Int) = (0 : Int) ∧ (0 : Int) = (0 : Int) ∧ (0 : Int) = (0 : Int) ∧ (0 :
  Int) = (0 : Int) ∧ (2 : Int) = (2 : Int) ∧ (0 : Int) = (0 : Int) ∧ (2 : Int) = (2 : Int) ∧ (0 : Int) = (0 : Int) ∧ (0 : Int) = (0 : Int) ∧ (2 : Int) = (2 : Int) ∧ (2 : Int) = (2 :
  Int) ∧ (0 : Int) = (0 : Int) ∧ (0 : Int) = (0 : Int) ∧ (0 : Int) = (0 : Int) ∧ (2 : Int) = (2 : Int) ∧ (0 : Int) = (0 : Int) ∧ (2 : Int) = (2 : Int) ∧ (2 : Int) = (2 : Int) ∧ (0 :
  Int) = (0 : Int) ∧ (2 : Int) = (2 : Int) ∧ (0 : Int) = (0 : Int) ∧ (0 : Int) = (0 : Int) ∧ (2 : Int) = (2 : Int) ∧ (2 : Int) = (2 : Int) ∧ (0 : Int) = (0 : Int) ∧ (0 : Int) = (0 :
  Int) ∧ (0 : Int) = (0 : Int) ∧ (0 : Int) = (0 : Int) ∧ (2 : Int) = (2 : Int) ∧ (0 : Int) = (0 : Int) ∧ (2 : Int) = (2 : Int) ∧ (0 : Int) = (0 : Int) ∧ (2 : Int) = (2 : Int) ∧ (0 :
  Int) = (0 : Int) ∧ (0 : Int) = (0 : Int) ∧ (2 : Int) = (2 : Int) ∧ (2 : Int) = (2 : Int) ∧ (0 : Int) = (0 : Int) ∧ (0 : Int) = (0 : Int) ∧ (0 : Int) = (0 : Int) ∧ (2 : Int) = (2 :
  Int) ∧ (0 : Int) = (0 : Int) ∧ (0 : Int) = (0 : Int) ∧ (2 : Int) = (2 : Int) ∧ (0 : Int) = (0 : Int) ∧ (2 : Int) = (2 : Int) ∧ (0 : Int) = (0 : Int) ∧ (0 : Int) = (0 : Int) ∧ (2 :
  Int) = (2 : Int) ∧ (2 : Int) = (2 : Int) ∧ (0 : Int) = (0 : Int) ∧ (0 : Int) = (0 : Int) ∧ (2 : Int) = (2 : Int) ∧ (2 : Int) = (2 : Int) ∧ (0 : Int) = (0 : Int) ∧ (0 : Int) = (0 :
  Int) ∧ (2 : Int) = (2 : Int) ∧ (0 : Int) = (0 : Int) ∧ (0 : Int) = (0 : Int) ∧ (0 : Int) = (0 : Int) ∧ (0 : Int) = (0 : Int) ∧ (2 : Int) = (2 : Int) ∧ (2 : Int) = (2 : Int) ∧ (0 :
  Int) = (0 : Int) ∧ (0 : Int) = (0 : Int) ∧ (2 : Int) = (2 : Int) ∧ (2 : Int) = (2 : Int) ∧ (0 : Int) = (0 : Int) ∧ (0 : Int) = (0 : Int) ∧ (0 : Int) = (0 : Int) ∧ (0 : Int) = (0 :
  Int) ∧ (2 : Int) = (2 : Int) ∧ (0 : Int) = (0 : Int) ∧ (0 : Int) = (0 : Int) ∧ (2 : Int) = (2 : Int) ∧ (2 : Int) = (2 : Int) ∧ (0 : Int) = (0 : Int) ∧ (0 : Int) = (0 : Int) ∧ (2 :
  Int) = (2 : Int) ∧ (2 : Int) = (2 : Int) ∧ (0 : Int) = (0 : Int) ∧ (0 : Int) = (0 : Int) ∧ (2 : Int) = (2 : Int) ∧ (0 : Int) = (0 : Int) ∧ (2 : Int) = (2 : Int) ∧ (0 : Int) = (0 :
  Int) ∧ (0 : Int) = (0 : Int) ∧ (2 : Int) = (2 : Int) ∧ (0 : Int) = (0 : Int) ∧ (0 : Int) = (0 : Int) ∧ (0 : Int) = (0 : Int) ∧ (2 : Int) = (2 : Int) ∧ (2 : Int) = (2 : Int) ∧ (0 :
  Int) = (0 : Int) ∧ (0 : Int) = (0 : Int) ∧ (2 : Int) = (2 : Int) ∧ (0 : Int) = (0 : Int) ∧ (2 : Int) = (2 : Int) ∧ (0 : Int) = (0 : Int) ∧ (2 : Int) = (2 : Int) ∧ (0 : Int) = (0 :
  Int) ∧ (0 : Int) = (0 : Int) ∧ (0 : Int) = (0 : Int) ∧ (0 : Int) = (0 : Int) ∧ (2 : Int) = (2 : Int) ∧ (2 : Int) = (2 : Int) ∧ (0 : Int) = (0 : Int) ∧ (0 : Int) = (0 : Int) ∧ (2 :
  Int) = (2 : Int) ∧ (0 : Int) = (0 : Int) ∧ (2 : Int) = (2 : Int) ∧ (2 : Int) = (2 : Int) ∧ (0 : Int) = (0 : Int) ∧ (2 : Int) = (2 : Int) ∧ (0 : Int) = (0 : Int) ∧ (0 : Int) = (0 :
  Int) ∧ (0 : Int) = (0 : Int) ∧ (2 : Int) = (2 : Int) ∧ (2 : Int) = (2 : Int) ∧ (0 : Int) = (0 : Int) ∧ (0 : Int) = (0 : Int) ∧ (2 : Int) = (2 : Int) ∧ (0 : Int) = (0 : Int) ∧ (2 :
  Int) = (2 : Int) ∧ (0 : Int) = (0 : Int) ∧ (0 : Int) = (0 : Int) ∧ (0 : Int) = (0 : Int) ∧ (0 : Int) = (0 : Int) ∧ (0 : Int) = (0 : Int) ∧ (0 : Int) = (0 : Int) ∧ (2 : Int) = (2 :
  Int) ∧ (2 : Int) = (2 : Int) ∧ (2 : Int) = (2 : Int) ∧ (2 : Int) = (2 : Int) ∧ (2 : Int) = (2 : Int) ∧ (0 : Int) = (0 : Int) ∧ True) ∧ ((5 : Int) = (5 : Int) ∧ (5 : Int) = (5 :
  Int) ∧ (5 : Int) = (5 : Int) ∧ (5 : Int) = (5 : Int) ∧ (5 : Int) = (5 : Int) ∧ (5 : Int) = (5 : Int) ∧ (5 : Int) = (5 : Int) ∧ (5 : Int) = (5 : Int) ∧ (5 : Int) = (5 : Int) ∧ (5 :
  Int) = (5 : Int) ∧ (5 : Int) = (5 : Int) ∧ (5 : Int) = (5 : Int) ∧ True) ∧ True) ∧ (∀ (x : Int), VerP v x → x = (0 : Int) ∨ x = (1 : Int) ∨ x = (2 : Int) ∨ x = (3 : Int) ∨ x = (4 :
  Int) ∨ x = (5 : Int) ∨ x = (6 : Int) ∨ x = (7 : Int) ∨ x = (8 : Int) ∨ x = (9 : Int) ∨ x = (10 : Int) ∨ x = (11 : Int) ∨ False) ∧ (VerP v (0 : Int) → True ∧ true = true) ∧ (VerP v
  (1 : Int) → True ∧ true = true) ∧ (VerP v (2 : Int) → True ∧ true = true) ∧ (VerP v (3 : Int) → True ∧ true = true) ∧ (VerP v (4 : Int) → True ∧ true = true) ∧ (VerP v (5 : Int) →
  True ∧ true = true) ∧ (VerP v (6 : Int) → True ∧ true = true) ∧ (VerP v (7 : Int) → True ∧ true = true) ∧ (VerP v (8 : Int) → True ∧ true = true) ∧ (VerP v (9 : Int) → True ∧ true
  = true) ∧ (VerP v (10 : Int) → True ∧ true = true) ∧ (VerP v (11 : Int) → True ∧ true = true) ∧ True
set_option maxRecDepth 100000 in
theorem solid_P : solid_T := by
  unfold solid_T
  intro x v hv _
  repeat' (first | exact trivial | rfl | apply And.intro | (refine ⟨v, ⟨rfl⟩, ?_⟩) | intro _ | (have := ‹VerP _ _›.e; omega))
def solid_S : Prop := ∀ x v : Int, 0 ≤ v ∧ v < 12 → fnK Tryd.prog { glob := glb, spec := lk [(16, corners_s), (20, across_s), (15, modc_s x v), (14, awake_s)], nowf := true, eager := true } { nt := 151, drop := drp [(4, 1048576), (5, 12582912), (6, 520093696), (7, 536870912), (10, 2147483648), (11, 25769803776), (12, 8761733283840), (13, 2305834213120671744), (15, 1175979934698983915520), (16, 301050863282939882373120), (17, 9369175102013376103972864), (18, 609298613085773104051912704), (21, 618970019642690137449562112), (22, 7427640235712281649394745344), (23, 623921779799831658549158608896), (24, 648403282016739338865563689549824), (25, 663964960785141082998337218099019776), (27, 3987683987354747618711421180841033728), (30, 5316911983139663491615228241121378304), (31, 63802943797675961899382738893456539648), (32, 2637188343637273091841153207596203638784), (33, 16333553612205046246241981156724874149888), (34, 675120215971141911511335221144628131528704), (36, 2853101588837011598170225956506949750171369472)] } (invs [(100028, solI v pairT meetT)]) 22 Tryd.f6 [.int .i64 x] (.bool true)
set_option maxRecDepth 100000 in
theorem solid_e : solid_T = solid_S := by kernel_rfl
theorem solid : solid_S := @Eq.mp (solid_T) (solid_S) (solid_e) solid_P
theorem modc_ok (gl : Glob) (x : Int) : SOK Tryd.prog gl 15 (modc_s x (modZ x 12)) := by
  refine ⟨(mod_ok gl).1, ?_⟩
  intro xs pre r h hp
  unfold modc_s at h
  split at h
  · simp only [Option.some.injEq, Prod.mk.injEq] at h
    obtain ⟨h1, h2⟩ := h
    subst h1
    obtain ⟨rfl, rfl⟩ := hp
    subst h2
    exact (mod_ok gl).2 _ _ _ rfl trivial
  · cases h
theorem solid_law (x : Int) : PureC Tryd.prog glb 6 [.int .i64 x] (.bool true) :=
  fnK_sound tyNil (by exact specOK (l' := []) rfl rfl ⟨corners_ok, across_ok, modc_ok glb x, awake_ok, trivial⟩ trivial) (by kernel_rfl) Tryd.func6 rfl (solid x (modZ x 12) (by unfold modZ; rw [if_neg (by omega)]; omega))
end Go.Proofs.YtddmmjkhkoencaaDoor
