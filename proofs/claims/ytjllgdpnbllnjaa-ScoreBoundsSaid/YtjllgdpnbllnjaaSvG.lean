/- Scores: numbers of 128 bits: products and their order. -/
import Derived.Test.YtjllgdpnbllnjaaSvE
import Derived.Lib.Mul64
import Derived.Laws.Bits64b
namespace Go.Proofs.Ytjllgdpnbllnjaa
open Go
set_option linter.unusedVariables false
set_option linter.unusedSimpArgs false

def cmpI (a b : Int) : Int := if a < b then -1 else if b < a then 1 else 0
def nanI_s : Sp
  | [.int .i64 a] => some (True, .bool false)
  | _ => none
set_option maxRecDepth 100000 in
def nanI_T : Prop :=
  ∀ (gl : Glob) (a : Int), (-9223372036854775808 : Int) ≤ a ∧ a ≤ (9223372036854775807 : Int) → (decide ¬a = a) = false
set_option maxRecDepth 100000 in
theorem nanI_P : nanI_T := by
  unfold nanI_T
  intro gl a _
  exact decide_eq_false (fun h => h rfl)
def nanI_S : Prop := ∀ (gl : Glob) (a : Int), fnK Try.prog { glob := gl, spec := lk [], specH := lk [] } { nt := 6, drop := drp [(1, 56)] } (fun _ _ => none) 6 Try.f61 [.int .i64 a] (.bool false)
set_option maxRecDepth 100000 in
theorem nanI_e : nanI_T = nanI_S := by kernel_rfl
theorem nanI_v : nanI_S := @Eq.mp (nanI_T) (nanI_S) (nanI_e) nanI_P
theorem nanI_ok (gl : Glob) : SOK Try.prog gl 61 nanI_s := by
  refine ⟨fok Try.func61 (by kernel_rfl) (by kernel_rfl), ?_⟩
  intro xs pre r h hp
  unfold nanI_s at h
  split at h
  · simp only [Option.some.injEq, Prod.mk.injEq] at h
    obtain ⟨h1, h2⟩ := h
    subst h1 h2
    exact fnK_sound tyNil (by exact specOK rfl rfl trivial trivial) (by kernel_rfl) Try.func61 rfl (nanI_v gl _)
  · cases h
def nanU_s : Sp
  | [.int .u64 a] => some (True, .bool false)
  | _ => none
set_option maxRecDepth 100000 in
def nanU_T : Prop :=
  ∀ (gl : Glob) (a : Int), (0 : Int) ≤ a ∧ a ≤ (18446744073709551615 : Int) → (decide ¬a = a) = false
set_option maxRecDepth 100000 in
theorem nanU_P : nanU_T := by
  unfold nanU_T
  intro gl a _
  exact decide_eq_false (fun h => h rfl)
def nanU_S : Prop := ∀ (gl : Glob) (a : Int), fnK Try.prog { glob := gl, spec := lk [], specH := lk [] } { nt := 6, drop := drp [(1, 56)] } (fun _ _ => none) 6 Try.f62 [.int .u64 a] (.bool false)
set_option maxRecDepth 100000 in
theorem nanU_e : nanU_T = nanU_S := by kernel_rfl
theorem nanU_v : nanU_S := @Eq.mp (nanU_T) (nanU_S) (nanU_e) nanU_P
theorem nanU_ok (gl : Glob) : SOK Try.prog gl 62 nanU_s := by
  refine ⟨fok Try.func62 (by kernel_rfl) (by kernel_rfl), ?_⟩
  intro xs pre r h hp
  unfold nanU_s at h
  split at h
  · simp only [Option.some.injEq, Prod.mk.injEq] at h
    obtain ⟨h1, h2⟩ := h
    subst h1 h2
    exact fnK_sound tyNil (by exact specOK rfl rfl trivial trivial) (by kernel_rfl) Try.func62 rfl (nanU_v gl _)
  · cases h
def fcmpI_s (cmpI : Int → Int → Int) : Sp
  | [.int .i64 a, .int .i64 b] => some (True, .int .i64 (cmpI a b))
  | _ => none
set_option maxRecDepth 100000 in
def fcmpI_T (cmpI : Int → Int → Int) : Prop :=
  ∀ (gl : Glob) (a b : Int), (-9223372036854775808 : Int) ≤ a ∧ a ≤ (9223372036854775807 : Int) → (-9223372036854775808 : Int) ≤ b ∧ b ≤ (9223372036854775807 : Int) → True ∧ True ∧
  bif decide (a < b) then (-1 : Int) = cmpI a b else bif decide (b < a) then (1 : Int) = cmpI a b else (0 : Int) = cmpI a b
set_option maxRecDepth 100000 in
theorem fcmpI_P : fcmpI_T cmpI := by
  unfold fcmpI_T
  intro gl a b _ _
  unfold cmpI
  refine ⟨trivial, trivial, cs (fun h => ?_) (fun h => cs (fun k => ?_) (fun k => ?_))⟩
  · rw [if_pos h]
  · rw [if_neg h, if_pos k]
  · rw [if_neg h, if_neg k]
def fcmpI_S (cmpI : Int → Int → Int) : Prop := ∀ (gl : Glob) (a b : Int), fnK Try.prog { glob := gl, spec := lk [(61, nanI_s)], specH := lk [], nowf := true } { nt := 20, drop := drp [(1, 384), (2, 1536), (9, 49152), (11, 393216)] } (fun _ _ => none) 6 Try.f52 [.int .i64 a, .int .i64 b] (.int .i64 (cmpI a b))
set_option maxRecDepth 100000 in
theorem fcmpI_e (cmpI : Int → Int → Int) : fcmpI_T cmpI = fcmpI_S cmpI := by kernel_rfl
theorem fcmpI_v : fcmpI_S cmpI := @Eq.mp (fcmpI_T cmpI) (fcmpI_S cmpI) (fcmpI_e cmpI) fcmpI_P
theorem fcmpI_ok (gl : Glob) : SOK Try.prog gl 52 (fcmpI_s cmpI) := by
  refine ⟨fok Try.func52 (by kernel_rfl) (by kernel_rfl), ?_⟩
  intro xs pre r h hp
  unfold fcmpI_s at h
  split at h
  · simp only [Option.some.injEq, Prod.mk.injEq] at h
    obtain ⟨h1, h2⟩ := h
    subst h1 h2
    exact fnK_sound tyNil (by exact specOK rfl rfl ⟨nanI_ok gl, trivial⟩ trivial) (by kernel_rfl) Try.func52 rfl (fcmpI_v gl _ _)
  · cases h
def fcmpU_s (cmpI : Int → Int → Int) : Sp
  | [.int .u64 a, .int .u64 b] => some (True, .int .i64 (cmpI a b))
  | _ => none
set_option maxRecDepth 100000 in
def fcmpU_T (cmpI : Int → Int → Int) : Prop :=
  ∀ (gl : Glob) (a b : Int), (0 : Int) ≤ a ∧ a ≤ (18446744073709551615 : Int) → (0 : Int) ≤ b ∧ b ≤ (18446744073709551615 : Int) → True ∧ True ∧ bif decide (a < b) then (-1 : Int) =
  cmpI a b else bif decide (b < a) then (1 : Int) = cmpI a b else (0 : Int) = cmpI a b
set_option maxRecDepth 100000 in
theorem fcmpU_P : fcmpU_T cmpI := by
  unfold fcmpU_T
  intro gl a b _ _
  unfold cmpI
  refine ⟨trivial, trivial, cs (fun h => ?_) (fun h => cs (fun k => ?_) (fun k => ?_))⟩
  · rw [if_pos h]
  · rw [if_neg h, if_pos k]
  · rw [if_neg h, if_neg k]
def fcmpU_S (cmpI : Int → Int → Int) : Prop := ∀ (gl : Glob) (a b : Int), fnK Try.prog { glob := gl, spec := lk [(62, nanU_s)], specH := lk [], nowf := true } { nt := 20, drop := drp [(1, 384), (2, 1536), (9, 49152), (11, 393216)] } (fun _ _ => none) 6 Try.f53 [.int .u64 a, .int .u64 b] (.int .i64 (cmpI a b))
set_option maxRecDepth 100000 in
theorem fcmpU_e (cmpI : Int → Int → Int) : fcmpU_T cmpI = fcmpU_S cmpI := by kernel_rfl
theorem fcmpU_v : fcmpU_S cmpI := @Eq.mp (fcmpU_T cmpI) (fcmpU_S cmpI) (fcmpU_e cmpI) fcmpU_P
theorem fcmpU_ok (gl : Glob) : SOK Try.prog gl 53 (fcmpU_s cmpI) := by
  refine ⟨fok Try.func53 (by kernel_rfl) (by kernel_rfl), ?_⟩
  intro xs pre r h hp
  unfold fcmpU_s at h
  split at h
  · simp only [Option.some.injEq, Prod.mk.injEq] at h
    obtain ⟨h1, h2⟩ := h
    subst h1 h2
    exact fnK_sound tyNil (by exact specOK rfl rfl ⟨nanU_ok gl, trivial⟩ trivial) (by kernel_rfl) Try.func53 rfl (fcmpU_v gl _ _)
  · cases h
def orI (a b : Int) : Int := if a = 0 then b else a
def fcor_s (orI : Int → Int → Int) : SpH
  | [.rw 0 1 2], [.row 3 1 [[.int .i64 a], [.int .i64 b]]] => some (True, .int .i64 (orI a b), [.row 3 1 [[.int .i64 a], [.int .i64 b]]])
  | _, _ => none
set_option maxRecDepth 100000 in
def fcor_T (orI : Int → Int → Int) : Prop :=
  ∀ (gl : Glob) (a b : Int), True → bif decide ¬a = (0 : Int) then a = orI a b ∧ [[AV.int IntKind.i64 a], [AV.int IntKind.i64 b]] = [[AV.int IntKind.i64 a], [AV.int IntKind.i64 b]] ∧
  True else bif decide ¬b = (0 : Int) then b = orI a b ∧ [[AV.int IntKind.i64 a], [AV.int IntKind.i64 b]] = [[AV.int IntKind.i64 a], [AV.int IntKind.i64 b]] ∧ True else (0 : Int) =
  orI a b ∧ [[AV.int IntKind.i64 a], [AV.int IntKind.i64 b]] = [[AV.int IntKind.i64 a], [AV.int IntKind.i64 b]] ∧ True
set_option maxRecDepth 100000 in
theorem fcor_P : fcor_T orI := by
  unfold fcor_T
  intro gl a b _
  unfold orI
  refine cs (fun h => ?_) (fun h => cs (fun k => ?_) (fun k => ?_))
  · rw [if_neg h]; exact ⟨rfl, rfl, trivial⟩
  · rw [if_pos (Decidable.not_not.1 h)]; exact ⟨rfl, rfl, trivial⟩
  · rw [if_pos (Decidable.not_not.1 h)]; exact ⟨(Decidable.not_not.1 k).symm, rfl, trivial⟩
def fcor_S (orI : Int → Int → Int) : Prop := ∀ (gl : Glob) (a b : Int), fnH Try.prog { glob := gl, spec := lk [], specH := lk [], nowf := true } { nt := 18, drop := drp [(4, 3072), (5, 12288), (6, 32768), (7, 65536), (8, 131072)], fr := 1000, kp := [0] } (fun _ _ => none) 6 Try.f51 [.rw 0 1 2] [.row 3 1 [[.int .i64 a], [.int .i64 b]]] (.int .i64 (orI a b)) [.row 3 1 [[.int .i64 a], [.int .i64 b]]]
set_option maxRecDepth 100000 in
theorem fcor_e (orI : Int → Int → Int) : fcor_T orI = fcor_S orI := by kernel_rfl
theorem fcor_v : fcor_S orI := @Eq.mp (fcor_T orI) (fcor_S orI) (fcor_e orI) fcor_P
theorem fcor_ok (gl : Glob) : HOK Try.prog gl 51 (fcor_s orI) := by
  refine ⟨fok Try.func51 (by kernel_rfl) (by kernel_rfl), ?_⟩
  intro xs bs pre r bs2 h hp
  unfold fcor_s at h
  split at h
  · simp only [Option.some.injEq, Prod.mk.injEq] at h
    obtain ⟨h1, h2, h3⟩ := h
    subst h1 h2 h3
    exact fnH_sound tyNil (by exact specOK rfl rfl trivial trivial) (by kernel_rfl) Try.func51 (fcor_v gl _ _)
  · cases h
def mlH (x y : Int) : Int := x * y / 18446744073709551616
def mlL (x y : Int) : Int := x * y % 18446744073709551616
theorem and32 {n : Int} (h : 0 ≤ n ∧ n ≤ 18446744073709551615) : bits .and .u64 n 4294967295 = n % 4294967296 := by
  obtain ⟨m, rfl⟩ := Int.eq_ofNat_of_zero_le h.1
  have e := bits_and_u64_nat m 4294967295 (by omega) (by decide)
  have e2 : m &&& 4294967295 = m % 4294967296 := Nat.and_two_pow_sub_one_eq_mod m 32
  rw [e2] at e
  exact e.trans (by omega)
theorem mul_u64 {x y : Int} (hx : 0 ≤ x ∧ x ≤ 18446744073709551615) (hy : 0 ≤ y ∧ y ≤ 18446744073709551615) :
    (((x / 4294967296 * (y / 4294967296)) % 18446744073709551616 + ((x / 4294967296 * (y % 4294967296)) % 18446744073709551616 + (x % 4294967296 * (y % 4294967296)) % 18446744073709551616 / 4294967296) % 18446744073709551616 / 4294967296) % 18446744073709551616 +
      (((x / 4294967296 * (y % 4294967296)) % 18446744073709551616 + (x % 4294967296 * (y % 4294967296)) % 18446744073709551616 / 4294967296) % 18446744073709551616 % 4294967296 + (x % 4294967296 * (y / 4294967296)) % 18446744073709551616) % 18446744073709551616 / 4294967296) % 18446744073709551616 = mlH x y := by
  obtain ⟨X, rfl⟩ := Int.eq_ofNat_of_zero_le hx.1
  obtain ⟨Y, rfl⟩ := Int.eq_ofNat_of_zero_le hy.1
  have e1 : (X : Int) / 4294967296 = ((X / 4294967296 : Nat) : Int) := by omega
  have e2 : (X : Int) % 4294967296 = ((X % 4294967296 : Nat) : Int) := by omega
  have e3 : (Y : Int) / 4294967296 = ((Y / 4294967296 : Nat) : Int) := by omega
  have e4 : (Y : Int) % 4294967296 = ((Y % 4294967296 : Nat) : Int) := by omega
  unfold mlH
  rw [e1, e2, e3, e4, ← Int.natCast_mul, ← Int.natCast_mul, ← Int.natCast_mul, ← Int.natCast_mul, ← Int.natCast_mul]
  obtain ⟨h1, h2, h3, h4⟩ := Lib.mul64_hi X Y (by omega) (by omega)
  have ha := Lib.half_mul_le (a := X / 4294967296) (b := Y / 4294967296) (by omega) (by omega)
  have hb := Lib.half_mul_le (a := X / 4294967296) (b := Y % 4294967296) (by omega) (by omega)
  have hc := Lib.half_mul_le (a := X % 4294967296) (b := Y / 4294967296) (by omega) (by omega)
  have hd := Lib.half_mul_le (a := X % 4294967296) (b := Y % 4294967296) (by omega) (by omega)
  generalize (X / 4294967296) * (Y / 4294967296) = A at *
  generalize (X / 4294967296) * (Y % 4294967296) = B at *
  generalize (X % 4294967296) * (Y / 4294967296) = C at *
  generalize (X % 4294967296) * (Y % 4294967296) = D at *
  generalize X * Y = P at *
  omega
theorem mul_bd63 {a b : Int} (ha : -9223372036854775808 ≤ a ∧ a ≤ 9223372036854775807) (hb : -9223372036854775808 ≤ b ∧ b ≤ 9223372036854775807) : (a * b).natAbs ≤ 85070591730234615865843651857942052864 := by
  rw [Int.natAbs_mul]
  exact Nat.mul_le_mul (show a.natAbs ≤ 9223372036854775808 by omega) (show b.natAbs ≤ 9223372036854775808 by omega)
theorem u64_neg {a : Int} (h : -9223372036854775808 ≤ a) (k : a < 0) : IntKind.u64.wrap a = a + 18446744073709551616 := by rw [IntKind.wrap_u64]; omega
theorem u64_pos {a : Int} (h : 0 ≤ a) (k : a ≤ 18446744073709551615) : IntKind.u64.wrap a = a := wrap_eq (k := .u64) ⟨h, k⟩
theorem i64_u64 {n : Int} (h : -9223372036854775808 ≤ n ∧ n ≤ 9223372036854775807) {m : Int} (e : ∃ k : Int, m = n + k * 18446744073709551616) : IntKind.i64.wrap (IntKind.u64.wrap m) = n := by
  obtain ⟨k, rfl⟩ := e
  rw [IntKind.wrap_u64]
  have : IntKind.i64.wrap ((n + k * 18446744073709551616) % 18446744073709551616) = n := by
    rw [IntKind.wrap_i64]
    omega
  exact this
def fmul64_s (mlH : Int → Int → Int) (mlL : Int → Int → Int) : Sp
  | [.int .u64 x, .int .u64 y] => some (True, .tup [.int .u64 (mlH x y), .int .u64 (mlL x y)])
  | _ => none
set_option maxRecDepth 100000 in
def fmul64_T (mlH : Int → Int → Int) (mlL : Int → Int → Int) : Prop :=
  ∀ (gl : Glob) (x y : Int), (0 : Int) ≤ x ∧ x ≤ (18446744073709551615 : Int) → (0 : Int) ≤ y ∧ y ≤ (18446744073709551615 : Int) → IntKind.u64.wrap (IntKind.u64.wrap
  (IntKind.u64.wrap (x / (4294967296 : Int) * (y / (4294967296 : Int))) + IntKind.u64.wrap (IntKind.u64.wrap (x / (4294967296 : Int) * bits BinOp.and IntKind.u64 y (4294967295 :
  Int)) + IntKind.u64.wrap (bits BinOp.and IntKind.u64 x (4294967295 : Int) * bits BinOp.and IntKind.u64 y (4294967295 : Int)) / (4294967296 : Int)) / (4294967296 : Int)) +
  IntKind.u64.wrap (bits BinOp.and IntKind.u64 (IntKind.u64.wrap (IntKind.u64.wrap (x / (4294967296 : Int) * bits BinOp.and IntKind.u64 y (4294967295 : Int)) + IntKind.u64.wrap (bits
  BinOp.and IntKind.u64 x (4294967295 : Int) * bits BinOp.and IntKind.u64 y (4294967295 : Int)) / (4294967296 : Int))) (4294967295 : Int) + IntKind.u64.wrap (bits BinOp.and
  IntKind.u64 x (4294967295 : Int) * (y / (4294967296 : Int)))) / (4294967296 : Int)) = mlH x y ∧ IntKind.u64.wrap (x * y) = mlL x y ∧ True
set_option maxRecDepth 100000 in
theorem fmul64_P : fmul64_T mlH mlL := by
  unfold fmul64_T
  intro gl x y hx hy
  rw [and32 hx, and32 hy, and32 (wrap_rng .u64 _)]
  simp only [IntKind.wrap_u64]
  exact ⟨mul_u64 hx hy, rfl, trivial⟩
def fmul64_S (mlH : Int → Int → Int) (mlL : Int → Int → Int) : Prop := ∀ (gl : Glob) (x y : Int), fnK Try.prog { glob := gl, spec := lk [], specH := lk [], nowf := true } { nt := 51, drop := drp [(1, 49152), (2, 196608), (3, 786432), (4, 3145728), (5, 29360128), (6, 2113929216), (7, 6442450944), (8, 25769803776), (9, 1065151889408), (10, 280375465082880), (11, 1970324836974592)] } (fun _ _ => none) 6 Try.f54 [.int .u64 x, .int .u64 y] (.tup [.int .u64 (mlH x y), .int .u64 (mlL x y)])
set_option maxRecDepth 100000 in
theorem fmul64_e (mlH : Int → Int → Int) (mlL : Int → Int → Int) : fmul64_T mlH mlL = fmul64_S mlH mlL := by kernel_rfl
theorem fmul64_v : fmul64_S mlH mlL := @Eq.mp (fmul64_T mlH mlL) (fmul64_S mlH mlL) (fmul64_e mlH mlL) fmul64_P
theorem fmul64_ok (gl : Glob) : SOK Try.prog gl 54 (fmul64_s mlH mlL) := by
  refine ⟨fok Try.func54 (by kernel_rfl) (by kernel_rfl), ?_⟩
  intro xs pre r h hp
  unfold fmul64_s at h
  split at h
  · simp only [Option.some.injEq, Prod.mk.injEq] at h
    obtain ⟨h1, h2⟩ := h
    subst h1 h2
    exact fnK_sound tyNil (by exact specOK rfl rfl trivial trivial) (by kernel_rfl) Try.func54 rfl (fmul64_v gl _ _)
  · cases h
def pprod_s : Sp
  | [.int .i64 a, .int .i64 b] => some (True, .agg [.int .i64 (mlH a b), .int .u64 (mlL a b)])
  | _ => none
set_option maxRecDepth 100000 in
def pprod_T : Prop :=
  ∀ (gl : Glob) (a b : Int), (-9223372036854775808 : Int) ≤ a ∧ a ≤ (9223372036854775807 : Int) → (-9223372036854775808 : Int) ≤ b ∧ b ≤ (9223372036854775807 : Int) → True ∧ bif
  decide (a < (0 : Int)) then bif decide (b < (0 : Int)) then IntKind.i64.wrap (IntKind.u64.wrap (IntKind.u64.wrap (mlH (IntKind.u64.wrap a) (IntKind.u64.wrap b) - IntKind.u64.wrap
  b) - IntKind.u64.wrap a)) = mlH a b ∧ mlL (IntKind.u64.wrap a) (IntKind.u64.wrap b) = mlL a b ∧ True else IntKind.i64.wrap (IntKind.u64.wrap (mlH (IntKind.u64.wrap a)
  (IntKind.u64.wrap b) - IntKind.u64.wrap b)) = mlH a b ∧ mlL (IntKind.u64.wrap a) (IntKind.u64.wrap b) = mlL a b ∧ True else bif decide (b < (0 : Int)) then IntKind.i64.wrap
  (IntKind.u64.wrap (mlH (IntKind.u64.wrap a) (IntKind.u64.wrap b) - IntKind.u64.wrap a)) = mlH a b ∧ mlL (IntKind.u64.wrap a) (IntKind.u64.wrap b) = mlL a b ∧ True else
  IntKind.i64.wrap (mlH (IntKind.u64.wrap a) (IntKind.u64.wrap b)) = mlH a b ∧ mlL (IntKind.u64.wrap a) (IntKind.u64.wrap b) = mlL a b ∧ True
set_option maxRecDepth 100000 in
theorem pprod_P : pprod_T := by
  unfold pprod_T
  intro gl a b ha hb
  have hP := mul_bd63 ha hb
  have hR : -9223372036854775808 ≤ mlH a b ∧ mlH a b ≤ 9223372036854775807 := by unfold mlH; omega
  refine ⟨trivial, cs (fun h1 => cs (fun h2 => ?_) (fun h2 => ?_)) (fun h1 => cs (fun h2 => ?_) (fun h2 => ?_))⟩
  · rw [u64_neg ha.1 h1, u64_neg hb.1 h2]
    have e : (a + 18446744073709551616) * (b + 18446744073709551616) = a * b + (a + b + 18446744073709551616) * 18446744073709551616 := by rw [Int.add_mul, Int.mul_add, Int.mul_add]; omega
    have e1 : mlH (a + 18446744073709551616) (b + 18446744073709551616) = mlH a b + (a + b + 18446744073709551616) := by unfold mlH; rw [e]; omega
    have e2 : mlL (a + 18446744073709551616) (b + 18446744073709551616) = mlL a b := by unfold mlL; rw [e]; omega
    rw [e1, e2]
    refine ⟨i64_u64 hR ?_, rfl, trivial⟩
    rw [IntKind.wrap_u64]
    generalize mlH a b = m at *
    exact ⟨((m + (a + b + 18446744073709551616) - (b + 18446744073709551616)) % 18446744073709551616 - (a + 18446744073709551616) - m) / 18446744073709551616, by omega⟩
  · rw [u64_neg ha.1 h1, u64_pos (a := b) (by omega) (by omega)]
    have e : (a + 18446744073709551616) * b = a * b + b * 18446744073709551616 := by rw [Int.add_mul]; omega
    have e1 : mlH (a + 18446744073709551616) b = mlH a b + b := by unfold mlH; rw [e]; omega
    have e2 : mlL (a + 18446744073709551616) b = mlL a b := by unfold mlL; rw [e]; omega
    rw [e1, e2]
    exact ⟨i64_u64 hR ⟨0, by omega⟩, rfl, trivial⟩
  · rw [u64_neg hb.1 h2, u64_pos (a := a) (by omega) (by omega)]
    have e : a * (b + 18446744073709551616) = a * b + a * 18446744073709551616 := by rw [Int.mul_add]
    have e1 : mlH a (b + 18446744073709551616) = mlH a b + a := by unfold mlH; rw [e]; omega
    have e2 : mlL a (b + 18446744073709551616) = mlL a b := by unfold mlL; rw [e]; omega
    rw [e1, e2]
    exact ⟨i64_u64 hR ⟨0, by omega⟩, rfl, trivial⟩
  · rw [u64_pos (a := b) (by omega) (by omega), u64_pos (a := a) (by omega) (by omega)]
    exact ⟨wrap_eq (k := .i64) hR, rfl, trivial⟩
def pprod_S : Prop := ∀ (gl : Glob) (a b : Int), fnK Try.prog { glob := gl, spec := lk [(54, (fmul64_s Go.Proofs.Ytjllgdpnbllnjaa.mlH Go.Proofs.Ytjllgdpnbllnjaa.mlL))], specH := lk [], nowf := true } { nt := 31, drop := drp [(1, 32640), (2, 32768), (3, 1966080), (4, 2097152), (5, 125829120), (6, 2013265920)] } (fun _ _ => none) 6 Try.f35 [.int .i64 a, .int .i64 b] (.agg [.int .i64 (mlH a b), .int .u64 (mlL a b)])
set_option maxRecDepth 100000 in
theorem pprod_e : pprod_T = pprod_S := by kernel_rfl
theorem pprod_v : pprod_S := @Eq.mp (pprod_T) (pprod_S) (pprod_e) pprod_P
theorem pprod_ok (gl : Glob) : SOK Try.prog gl 35 pprod_s := by
  refine ⟨fok Try.func35 (by kernel_rfl) (by kernel_rfl), ?_⟩
  intro xs pre r h hp
  unfold pprod_s at h
  split at h
  · simp only [Option.some.injEq, Prod.mk.injEq] at h
    obtain ⟨h1, h2⟩ := h
    subst h1 h2
    exact fnK_sound tyNil (by exact specOK rfl rfl ⟨fmul64_ok gl, trivial⟩ trivial) (by kernel_rfl) Try.func35 rfl (pprod_v gl _ _)
  · cases h
def pcmp_s (cmpI : Int → Int → Int) (orI : Int → Int → Int) : Sp
  | [.agg [.int .i64 a, .int .u64 b], .agg [.int .i64 c, .int .u64 d]] => some (True, .int .i64 (orI (cmpI a c) (cmpI b d)))
  | _ => none
set_option maxRecDepth 100000 in
def pcmp_T (cmpI : Int → Int → Int) (orI : Int → Int → Int) : Prop :=
  ∀ (gl : Glob) (a b c d : Int), ((-9223372036854775808 : Int) ≤ a ∧ a ≤ (9223372036854775807 : Int)) ∧ ((0 : Int) ≤ b ∧ b ≤ (18446744073709551615 : Int)) ∧ True →
  ((-9223372036854775808 : Int) ≤ c ∧ c ≤ (9223372036854775807 : Int)) ∧ ((0 : Int) ≤ d ∧ d ≤ (18446744073709551615 : Int)) ∧ True → True ∧ True ∧ True ∧ orI (cmpI a c) (cmpI b d) =
  orI (cmpI a c) (cmpI b d)
set_option maxRecDepth 100000 in
theorem pcmp_P : pcmp_T cmpI orI := by
  unfold pcmp_T
  intro gl a b c d _ _
  exact ⟨trivial, trivial, trivial, rfl⟩
def pcmp_S (cmpI : Int → Int → Int) (orI : Int → Int → Int) : Prop := ∀ (gl : Glob) (a b c d : Int), fnK Try.prog { glob := gl, spec := lk [(52, (fcmpI_s cmpI)), (53, (fcmpU_s cmpI))], specH := lk [(51, (fcor_s orI))], nowf := true } { nt := 17, drop := drp [(1, 131040)] } (fun _ _ => none) 6 Try.f34 [.agg [.int .i64 a, .int .u64 b], .agg [.int .i64 c, .int .u64 d]] (.int .i64 (orI (cmpI a c) (cmpI b d)))
set_option maxRecDepth 100000 in
theorem pcmp_e (cmpI : Int → Int → Int) (orI : Int → Int → Int) : pcmp_T cmpI orI = pcmp_S cmpI orI := by kernel_rfl
theorem pcmp_v : pcmp_S cmpI orI := @Eq.mp (pcmp_T cmpI orI) (pcmp_S cmpI orI) (pcmp_e cmpI orI) pcmp_P
theorem pcmp_ok (gl : Glob) : SOK Try.prog gl 34 (pcmp_s cmpI orI) := by
  refine ⟨fok Try.func34 (by kernel_rfl) (by kernel_rfl), ?_⟩
  intro xs pre r h hp
  unfold pcmp_s at h
  split at h
  · simp only [Option.some.injEq, Prod.mk.injEq] at h
    obtain ⟨h1, h2⟩ := h
    subst h1 h2
    exact fnK_sound tyNil (by exact specOK rfl rfl ⟨fcmpI_ok gl, fcmpU_ok gl, trivial⟩ ⟨fcor_ok gl, trivial⟩) (by kernel_rfl) Try.func34 rfl (pcmp_v gl _ _ _ _)
  · cases h
theorem cmp_lt {a b : Int} (h : a < b) : cmpI a b = -1 := by unfold cmpI; rw [if_pos h]
theorem cmp_eq {a b : Int} (h : a = b) : cmpI a b = 0 := by unfold cmpI; rw [if_neg (by omega), if_neg (by omega)]
theorem cmp_gt {a b : Int} (h : b < a) : cmpI a b = 1 := by unfold cmpI; rw [if_neg (by omega), if_pos h]
theorem wide_cmp (p q : Int) : orI (cmpI (p / 18446744073709551616) (q / 18446744073709551616)) (cmpI (p % 18446744073709551616) (q % 18446744073709551616)) = cmpI p q := by
  have d1 : p < q → p / 18446744073709551616 < q / 18446744073709551616 ∨ (p / 18446744073709551616 = q / 18446744073709551616 ∧ p % 18446744073709551616 < q % 18446744073709551616) := by omega
  have d2 : q < p → q / 18446744073709551616 < p / 18446744073709551616 ∨ (p / 18446744073709551616 = q / 18446744073709551616 ∧ q % 18446744073709551616 < p % 18446744073709551616) := by omega
  have d3 : p = q → p / 18446744073709551616 = q / 18446744073709551616 ∧ p % 18446744073709551616 = q % 18446744073709551616 := by omega
  generalize p / 18446744073709551616 = a at *
  generalize q / 18446744073709551616 = b at *
  generalize p % 18446744073709551616 = c at *
  generalize q % 18446744073709551616 = d at *
  rcases Int.lt_trichotomy p q with h | h | h
  · rw [cmp_lt h]
    rcases d1 h with k | ⟨k, k2⟩
    · rw [cmp_lt k]; rfl
    · rw [cmp_eq k, cmp_lt k2]; rfl
  · obtain ⟨k, k2⟩ := d3 h
    rw [cmp_eq h, cmp_eq k, cmp_eq k2]; rfl
  · rw [cmp_gt h]
    rcases d2 h with k | ⟨k, k2⟩
    · rw [cmp_gt k]; rfl
    · rw [cmp_eq k, cmp_gt k2]; rfl
end Go.Proofs.Ytjllgdpnbllnjaa
