/- Walks: score.of, the reference's ratio, and the eight scores. -/
import Derived.Test.YtjllgdpnbllnjaaScB
import Derived.Deep.RegionHeld3
import Derived.Laws.EntriesVeiled
namespace Go.Proofs.Ytjllgdpnbllnjaa
open Go.RowKit
set_option linter.unusedSectionVars false

set_option maxHeartbeats 400000 in
theorem scores_any (w : World) : Calls Try.prog 58 #[] w fun e w' => e = .returned (.slice (some ⟨w.heap.size, 0, none⟩) 4 4) ∧ w' = w.alloc (.cells #[.func (.func 65) #[] #[], .func (.func 66) #[] #[], .func (.func 67) #[] #[], .func (.func 68) #[] #[]] 82) := by
  go_enter Try.func58, Try.ntmps58
  go_wp2
  go_ret
  exact ⟨rfl, rfl⟩
theorem mul_bd (x y p q : Int) (h1 : 0 ≤ x ∧ x ≤ p) (h2 : 0 ≤ y ∧ y ≤ q) : 0 ≤ x * y ∧ x * y ≤ p * q :=
  ⟨Int.mul_nonneg h1.1 h2.1, Int.mul_le_mul h1.2 h2.2 h2.1 (by omega)⟩
section
variable (h a m o : Int) (w : World) (b1 : 0 ≤ h ∧ h ≤ 10000) (b2 : 0 ≤ a ∧ a ≤ 10000) (b3 : 0 ≤ m ∧ m ≤ 10000) (b4 : 0 ≤ o ∧ o ≤ 10000)
include b1 b2 b3 b4
set_option maxHeartbeats 400000 in
theorem sc4_any :
    Calls Try.prog 68 #[.agg #[.int .i64 h, .int .i64 a, .int .i64 m, .int .i64 o]] w fun e w' => e = .returned (.tuple #[.int .i64 (2 * (h * o - a * m)), .int .i64 ((h + m) * (m + o) + (h + a) * (a + o))]) ∧ Below w.heap.size w w' := by
  have p1 := mul_bd h o 10000 10000 b1 b4
  have p2 := mul_bd a m 10000 10000 b2 b3
  have p3 := mul_bd (h + m) (m + o) 20000 20000 (by omega) (by omega)
  have p4 := mul_bd (h + a) (a + o) 20000 20000 (by omega) (by omega)
  obtain ⟨b1, b1'⟩ := b1
  obtain ⟨b2, b2'⟩ := b2
  obtain ⟨b3, b3'⟩ := b3
  obtain ⟨b4, b4'⟩ := b4
  have e1 : IntKind.i64.wrap (h * o) = h * o := IntWalk.i64_in _ (by omega)
  have e2 : IntKind.i64.wrap (a * m) = a * m := IntWalk.i64_in _ (by omega)
  have e3 : IntKind.i64.wrap (h * o - a * m) = h * o - a * m := IntWalk.i64_in _ (by omega)
  have e4 : IntKind.i64.wrap (2 * (h * o - a * m)) = 2 * (h * o - a * m) := IntWalk.i64_in _ (by omega)
  have e5 : IntKind.i64.wrap (h + m) = h + m := IntWalk.i64_in _ (by omega)
  have e6 : IntKind.i64.wrap (m + o) = m + o := IntWalk.i64_in _ (by omega)
  have e7 : IntKind.i64.wrap (h + a) = h + a := IntWalk.i64_in _ (by omega)
  have e8 : IntKind.i64.wrap (a + o) = a + o := IntWalk.i64_in _ (by omega)
  have e9 : IntKind.i64.wrap ((h + m) * (m + o)) = (h + m) * (m + o) := IntWalk.i64_in _ (by omega)
  have e10 : IntKind.i64.wrap ((h + a) * (a + o)) = (h + a) * (a + o) := IntWalk.i64_in _ (by omega)
  have e11 : IntKind.i64.wrap ((h + m) * (m + o) + (h + a) * (a + o)) = (h + m) * (m + o) + (h + a) * (a + o) := IntWalk.i64_in _ (by omega)
  clear p1 p2 p3 p4
  go_enter Try.func68, Try.ntmps68
  go_wp2
  go_quiet (fail)
  go_wp2
  go_ret2
  exact ⟨rfl, ext_drewN (below_box _ _) _⟩
set_option maxHeartbeats 400000 in
theorem sc3_any :
    Calls Try.prog 67 #[.agg #[.int .i64 h, .int .i64 a, .int .i64 m, .int .i64 o]] w fun e w' => e = .returned (.tuple #[.int .i64 h, .int .i64 (h + a + m)]) ∧ Below w.heap.size w w' := by
  obtain ⟨b1, b1'⟩ := b1
  obtain ⟨b2, b2'⟩ := b2
  obtain ⟨b3, b3'⟩ := b3
  have e7 : IntKind.i64.wrap (h + a) = h + a := IntWalk.i64_in _ (by omega)
  have e8 : IntKind.i64.wrap (h + a + m) = h + a + m := IntWalk.i64_in _ (by omega)
  clear b4
  go_enter Try.func67, Try.ntmps67
  go_wp2
  go_quiet (fail)
  go_wp2
  go_ret2
  exact ⟨rfl, ext_drewN (below_box _ _) _⟩
set_option maxHeartbeats 400000 in
theorem sc2_any :
    Calls Try.prog 66 #[.agg #[.int .i64 h, .int .i64 a, .int .i64 m, .int .i64 o]] w fun e w' => e = .returned (.tuple #[.int .i64 a, .int .i64 (h + a)]) ∧ Below w.heap.size w w' := by
  obtain ⟨b1, b1'⟩ := b1
  obtain ⟨b2, b2'⟩ := b2
  have e7 : IntKind.i64.wrap (h + a) = h + a := IntWalk.i64_in _ (by omega)
  clear b3 b4
  go_enter Try.func66, Try.ntmps66
  go_wp2
  go_quiet (fail)
  go_wp2
  go_ret2
  exact ⟨rfl, ext_drewN (below_box _ _) _⟩
set_option maxHeartbeats 400000 in
theorem sc1_any :
    Calls Try.prog 65 #[.agg #[.int .i64 h, .int .i64 a, .int .i64 m, .int .i64 o]] w fun e w' => e = .returned (.tuple #[.int .i64 h, .int .i64 (h + m)]) ∧ Below w.heap.size w w' := by
  obtain ⟨b1, b1'⟩ := b1
  obtain ⟨b3, b3'⟩ := b3
  have e7 : IntKind.i64.wrap (h + m) = h + m := IntWalk.i64_in _ (by omega)
  clear b2 b4
  go_enter Try.func65, Try.ntmps65
  go_wp2
  go_quiet (fail)
  go_wp2
  go_ret2
  exact ⟨rfl, ext_drewN (below_box _ _) _⟩
end
end Go.Proofs.Ytjllgdpnbllnjaa
