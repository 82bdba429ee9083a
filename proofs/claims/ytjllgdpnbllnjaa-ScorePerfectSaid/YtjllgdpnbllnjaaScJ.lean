/- Walks: the law's awake. -/
import Derived.Test.YtjllgdpnbllnjaaScI
namespace Go.Proofs.Ytjllgdpnbllnjaa
open Go.RowKit

set_option maxHeartbeats 1000000 in
theorem awake_any (w : World) :
    Calls Try.prog 9 #[] w fun e w' => e = .returned (.bool true) ∧ Below w.heap.size w w' := by
  go_enter Try.func9, Try.ntmps9
  go_wp2_with fail
  refine (ofp_any (some ⟨w.heap.size, 0, none⟩) [(3, 1), (1, 2)] 2 _ (Rd.lit w 40 #[.int .i64 3, .int .i64 1, .int .i64 1, .int .i64 2] rfl) (by simp)).mono ?_
  rw [show ofP [(3, 1), (1, 2)] = (0, 2, 1, 3, 5) by decide]
  rintro e w1 ⟨rfl, hb⟩
  have X := Lib.hid (ext_next (below_box w (.cells #[.int .i64 3, .int .i64 1, .int .i64 1, .int .i64 2] 40)) hb)
  clear hb
  go_wp2
  go_ret
  exact ⟨rfl, ext_alloc X.out _⟩
end Go.Proofs.Ytjllgdpnbllnjaa
