/- The package variables that the seat's laws read. -/
import Derived.Test.YtceknalhogbbnaaDoorVq
import Derived.Test.YtceknalhogbbnaaDoorProg
namespace Go.Proofs.YtceknalhogbbnaaDoor
open Go
def crnT : List Int := [0, 1, 2, 0, 2, 3, 0, 3, 4, 0, 4, 5, 0, 5, 1,
  1, 6, 2, 2, 7, 3, 3, 8, 4, 4, 9, 5, 5, 10, 1,
  6, 7, 2, 7, 8, 3, 8, 9, 4, 9, 10, 5, 10, 6, 1,
  11, 7, 6, 11, 8, 7, 11, 9, 8, 11, 10, 9, 11, 6, 10]
def bndT : List Int := [8000, 11000, 1800, 3300, 1800, 3300, -1000, 1000, -1000, 1000, 900, 1700, 2000, 3200, 2400, 3400, 2000, 3000, 4400, 6200, 2000, 2900]
def glb : Glob := fun g => cond (Nat.beq g 0) (some (crnT.map (AV.int .i64))) (cond (Nat.beq g 1) (some (bndT.map (AV.int .i64))) none)
end Go.Proofs.YtceknalhogbbnaaDoor
