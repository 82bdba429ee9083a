/- The package variables that the seat's laws read. -/
import Derived.Test.YthdfkiopppkfcaaDoorVq
import Derived.Test.YthdfkiopppkfcaaDoorProg
namespace Go.Proofs.YthdfkiopppkfcaaDoor
open Go
def bndT : List Int := [8000, 11000, 1800, 3300, 1800, 3300, -1000, 1000, -1000, 1000, 900, 1700, 2000, 3200, 2400, 3400, 2000, 3000, 4400, 6200, 2000, 2900]
def glb : Glob := fun g => cond (Nat.beq g 0) (some (bndT.map (AV.int .i64))) none
end Go.Proofs.YthdfkiopppkfcaaDoor
