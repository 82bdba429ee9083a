/- The walks of awake and of the law BitsPads. -/
import Derived.Test.YtkbfldgebcpigaaBitsG
namespace Go.Proofs.Ytkbfldgebcpigaa
open Go.RowKit

theorem aw1 : appS [] 0 5 3 = (0, [1, 0, 1]) := by decide +kernel
theorem aw2 : appS [160] 3 1 6 = (0, [1, 0, 1, 0, 0, 0, 0, 0, 1]) := by decide +kernel
theorem aw3 : pack [1, 0, 1] = [160] := by decide +kernel
theorem aw4 : pack [1, 0, 1, 0, 0, 0, 0, 0, 1] = [160, 128] := by decide +kernel
theorem byt1 : Bytes [160] := fun i => by
  rcases i with _ | i <;> simp
theorem byt2 : Bytes [160, 128] := fun i => by
  rcases i with _ | _ | i <;> simp
theorem byt0 : Bytes [] := fun i => by simp
theorem i64_of {v : Int} (h1 : -9223372036854775808 ≤ v) (h2 : v ≤ 9223372036854775807) : I64 v := ⟨h1, h2⟩
theorem sm1 : sameB 3 3 [160] [160] = true := by decide +kernel
theorem sm2 : sameB 9 9 [160, 128] [160, 128] = true := by decide +kernel

set_option maxHeartbeats 1000000 in
theorem awake_any (w : World) : Calls Try.prog 15 #[] w fun e w' => e = .returned (.bool true) ∧ Below w.heap.size w w' := by
  go_enter Try.func15, Try.ntmps15
  go_wp2_with fail
  refine (append_any none 0 0 0 [] 5 3 w Rd.nil_ rfl (by omega) byt0 (i64_of (by omega) (by omega)) (i64_of (by omega) (by omega)) (i64_of (by omega) (by omega))).mono ?_
  rintro e w1 hres
  rw [aw1] at hres
  obtain ⟨A1, n1, c1, rfl, hn1, -, -, -, hr1, hb1⟩ := hres
  rw [aw3] at hn1 hr1
  obtain rfl : n1 = 1 := hn1
  have X1 := Lib.hid (ext_alloc hb1 (.cells #[.slice A1 1 c1, .int .i64 3] 28))
  have R1 := Lib.hid (rd_alloc hr1 (.cells #[.slice A1 1 c1, .int .i64 3] 28))
  have K1 := Lib.hid (Blk.new w1 28 #[.slice A1 1 c1, .int .i64 3])
  clear hb1 hr1
  go_wp2_with fail
  refine (append_any A1 1 c1 3 [160] 1 6 _ R1.out rfl (by omega) byt1 (i64_of (by omega) (by omega)) (i64_of (by omega) (by omega)) (i64_of (by omega) (by omega))).mono ?_
  rintro e w2 hres
  rw [aw2] at hres
  obtain ⟨A2, n2, c2, rfl, hn2, -, -, -, hr2, hb2⟩ := hres
  rw [aw4] at hn2 hr2
  obtain rfl : n2 = 2 := hn2
  have X2 := Lib.hid (ext_alloc (ext_alloc (ext_next X1.out hb2) (.cells #[.slice A2 2 c2, .int .i64 9] 28)) (.cells #[.int .u8 160] 5))
  have R1 := Lib.hid (rd_alloc (rd_alloc (rd_next R1.out hb2) (.cells #[.slice A2 2 c2, .int .i64 9] 28)) (.cells #[.int .u8 160] 5))
  have R2 := Lib.hid (rd_alloc (rd_alloc hr2 (.cells #[.slice A2 2 c2, .int .i64 9] 28)) (.cells #[.int .u8 160] 5))
  have k1 := blk_next K1.out hb2
  have K2 := Lib.hid ((Blk.new w2 28 #[.slice A2 2 c2, .int .i64 9]).alloc (.cells #[.int .u8 160] 5))
  have h0 : w2.cell? ⟨w1.heap.size, 0, none⟩ = some (.slice A1 1 c1) := by rw [k1.cell]; rfl
  have h1 : w2.cell? ⟨w1.heap.size, 1, none⟩ = some (.int .i64 3) := by rw [k1.cell]; rfl
  have hlt := k1.lt
  clear hb2 hr2 k1
  go_wp2_with fail
  refine (rsame_any A1 _ 1 c1 1 1 3 3 [160] [160] _ R1.out ?h2 rfl rfl byt1 byt1).mono ?_
  case h2 => exact Rd.lit _ _ #[.int .u8 160] (by simp)
  rintro e w3 ⟨rfl, hb3⟩
  rw [sm1]
  have X3 := Lib.hid (ext_alloc (ext_next X2.out hb3) (.cells #[.int .u8 160, .int .u8 128] 5))
  have R2 := Lib.hid (rd_alloc (rd_next R2.out hb3) (.cells #[.int .u8 160, .int .u8 128] 5))
  have k2 := blk_next K2.out hb3
  have j0 : w3.cell? ⟨w2.heap.size, 0, none⟩ = some (.slice A2 2 c2) := by rw [k2.cell]; rfl
  have j1 : w3.cell? ⟨w2.heap.size, 1, none⟩ = some (.int .i64 9) := by rw [k2.cell]; rfl
  clear hb3 k2
  go_wp2_with fail
  refine (rsame_any A2 _ 2 c2 2 2 9 9 [160, 128] [160, 128] _ R2.out ?h4 rfl rfl byt2 byt2).mono ?_
  case h4 => exact Rd.lit _ _ #[.int .u8 160, .int .u8 128] rfl
  rintro e w4 ⟨rfl, hb4⟩
  rw [sm2]
  have X4 := Lib.hid (ext_next X3.out hb4)
  clear hb4
  go_wp2
  go_ret
  exact ⟨rfl, X4.out⟩
end Go.Proofs.Ytkbfldgebcpigaa
