/- Places: the reference. -/
import Derived.Test.YtddmmjkhkoencaaDoorPlX
import Derived.Test.YtddmmjkhkoencaaDoorPlP
namespace Go.Proofs.YtddmmjkhkoencaaDoor
open Go
set_option linter.unusedVariables false
set_option linter.unusedSimpArgs false
--KIND rWeights S synoptic/synopticref02.Weights
--KIND rOn S synoptic/synopticref02.On

def w64 (x : Int) : Int := IntKind.i64.wrap x
theorem w64_id {x : Int} (h : -9223372036854775808 ≤ x ∧ x ≤ 9223372036854775807) : w64 x = x := wrap_eq (k := .i64) h
theorem fcs_cases {n : Int} (h : 0 ≤ n ∧ n < 20) : n = 0 ∨ n = 1 ∨ n = 2 ∨ n = 3 ∨ n = 4 ∨ n = 5 ∨ n = 6 ∨ n = 7 ∨ n = 8 ∨ n = 9 ∨ n = 10 ∨ n = 11 ∨ n = 12 ∨ n = 13 ∨ n = 14 ∨ n = 15 ∨ n = 16 ∨ n = 17 ∨ n = 18 ∨ n = 19 := by omega
def rCorners_s (fac : Int → Bool) (crn : Int → Nat → Int) : Sp
  | [.int .i64 n] => some (True, .tup [.agg [.int .i64 (if fac n then crn n 0 else 0), .int .i64 (if fac n then crn n 1 else 0), .int .i64 (if fac n then crn n 2 else 0)], .int .i64 (if fac n then 0 else 1)])
  | _ => none
set_option maxRecDepth 100000 in
def rCorners_T (fac : Int → Bool) (crn : Int → Nat → Int) : Prop :=
  ∀ (gl : Glob) (n : Int), (-9223372036854775808 : Int) ≤ n ∧ n ≤ (9223372036854775807 : Int) → bif decide (n < (0 : Int)) then (((0 : Int) = if fac n = true then crn n (0 : Nat)
  else (0 : Int)) ∧ ((0 : Int) = if fac n = true then crn n (1 : Nat) else (0 : Int)) ∧ ((0 : Int) = if fac n = true then crn n (2 : Nat) else (0 : Int)) ∧ True) ∧ ((1 : Int) = if
  fac n = true then (0 : Int) else (1 : Int)) ∧ True else bif decide ((20 : Int) ≤ n) then (((0 : Int) = if fac n = true then crn n (0 : Nat) else (0 : Int)) ∧ ((0 : Int) = if fac n
  = true then crn n (1 : Nat) else (0 : Int)) ∧ ((0 : Int) = if fac n = true then crn n (2 : Nat) else (0 : Int)) ∧ True) ∧ ((1 : Int) = if fac n = true then (0 : Int) else (1 :
  Int)) ∧ True else bif decide (rng IntKind.i64 (n.tmod (5 : Int) + (1 : Int))) then bif decide (rng IntKind.i64 (n.tdiv (5 : Int))) then bif decide (n.tdiv (5 : Int) = (0 : Int))
  then bif decide (rng IntKind.i64 ((1 : Int) + n.tmod (5 : Int))) then bif decide (rng IntKind.i64 ((1 : Int) + (n.tmod (5 : Int) + (1 : Int)).tmod (5 : Int))) then (((0 : Int) = if
  fac n = true then crn n (0 : Nat) else (0 : Int)) ∧ ((1 : Int) + n.tmod (5 : Int) = if fac n = true then crn n (1 : Nat) else (0 : Int)) ∧ ((1 : Int) + (n.tmod (5 : Int) + (1 :
  Int)).tmod (5 : Int) = if fac n = true then crn n (2 : Nat) else (0 : Int)) ∧ True) ∧ ((0 : Int) = if fac n = true then (0 : Int) else (1 : Int)) ∧ True else False else False else
  bif decide (n.tdiv (5 : Int) = (1 : Int)) then bif decide (rng IntKind.i64 ((1 : Int) + n.tmod (5 : Int))) then bif decide (rng IntKind.i64 ((6 : Int) + n.tmod (5 : Int))) then bif
  decide (rng IntKind.i64 ((1 : Int) + (n.tmod (5 : Int) + (1 : Int)).tmod (5 : Int))) then (((1 : Int) + n.tmod (5 : Int) = if fac n = true then crn n (0 : Nat) else (0 : Int)) ∧
  ((6 : Int) + n.tmod (5 : Int) = if fac n = true then crn n (1 : Nat) else (0 : Int)) ∧ ((1 : Int) + (n.tmod (5 : Int) + (1 : Int)).tmod (5 : Int) = if fac n = true then crn n (2 :
  Nat) else (0 : Int)) ∧ True) ∧ ((0 : Int) = if fac n = true then (0 : Int) else (1 : Int)) ∧ True else False else False else False else bif decide (n.tdiv (5 : Int) = (2 : Int))
  then bif decide (rng IntKind.i64 ((6 : Int) + n.tmod (5 : Int))) then bif decide (rng IntKind.i64 ((6 : Int) + (n.tmod (5 : Int) + (1 : Int)).tmod (5 : Int))) then bif decide (rng
  IntKind.i64 ((1 : Int) + (n.tmod (5 : Int) + (1 : Int)).tmod (5 : Int))) then (((6 : Int) + n.tmod (5 : Int) = if fac n = true then crn n (0 : Nat) else (0 : Int)) ∧ ((6 : Int) +
  (n.tmod (5 : Int) + (1 : Int)).tmod (5 : Int) = if fac n = true then crn n (1 : Nat) else (0 : Int)) ∧ ((1 : Int) + (n.tmod (5 : Int) + (1 : Int)).tmod (5 : Int) = if fac n = true
  then crn n (2 : Nat) else (0 : Int)) ∧ True) ∧ ((0 : Int) = if fac n = true then (0 : Int) else (1 : Int)) ∧ True else False else False else False else bif decide (rng IntKind.i64
  ((6 : Int) + (n.tmod (5 : Int) + (1 : Int)).tmod (5 : Int))) then bif decide (rng IntKind.i64 ((6 : Int) + n.tmod (5 : Int))) then (((11 : Int) = if fac n = true then crn n (0 :
  Nat) else (0 : Int)) ∧ ((6 : Int) + (n.tmod (5 : Int) + (1 : Int)).tmod (5 : Int) = if fac n = true then crn n (1 : Nat) else (0 : Int)) ∧ ((6 : Int) + n.tmod (5 : Int) = if fac n
  = true then crn n (2 : Nat) else (0 : Int)) ∧ True) ∧ ((0 : Int) = if fac n = true then (0 : Int) else (1 : Int)) ∧ True else False else False else False else False
set_option maxRecDepth 100000 in
theorem rCorners_P : rCorners_T fac crn := by
  unfold rCorners_T
  intro gl n hn
  refine cs (fun h => ?_) (fun h1 => cs (fun h => ?_) (fun h2 => ?_))
  · have : fac n = false := decide_eq_false (by omega)
    rw [this]; exact ⟨⟨rfl, rfl, rfl, trivial⟩, rfl, trivial⟩
  · have : fac n = false := decide_eq_false (by omega)
    rw [this]; exact ⟨⟨rfl, rfl, rfl, trivial⟩, rfl, trivial⟩
  have : fac n = true := decide_eq_true (by omega)
  rw [this]
  rcases fcs_cases (n := n) (by omega) with rfl | rfl | rfl | rfl | rfl | rfl | rfl | rfl | rfl | rfl | rfl | rfl | rfl | rfl | rfl | rfl | rfl | rfl | rfl | rfl
  all_goals
    repeat (first | refine cdI (by decide) ?_ | refine cd1 (by decide) ?_ | refine cd0 (by decide) ?_)
    exact ⟨⟨by decide, by decide, by decide, trivial⟩, rfl, trivial⟩
def rCorners_S (fac : Int → Bool) (crn : Int → Nat → Int) : Prop := ∀ (gl : Glob) (n : Int), fnK Tryd.prog { glob := gl, spec := lk [], specH := lk [], nowf := true } { nt := 50, drop := drp [(1, 1984), (2, 4096), (3, 24576), (4, 229376), (5, 262144), (6, 2097152), (7, 130023424), (8, 268435456), (9, 68182605824), (10, 137438953472), (11, 34909494181888), (12, 1090715534753792)] } (fun _ _ => none) 6 Tryd.f30 [.int .i64 n] (.tup [.agg [.int .i64 (if fac n then crn n 0 else 0), .int .i64 (if fac n then crn n 1 else 0), .int .i64 (if fac n then crn n 2 else 0)], .int .i64 (if fac n then 0 else 1)])
set_option maxRecDepth 100000 in
theorem rCorners_e (fac : Int → Bool) (crn : Int → Nat → Int) : rCorners_T fac crn = rCorners_S fac crn := by kernel_rfl
theorem rCorners_v : rCorners_S fac crn := @Eq.mp (rCorners_T fac crn) (rCorners_S fac crn) (rCorners_e fac crn) rCorners_P
theorem rCorners_ok (gl : Glob) : SOK Tryd.prog gl 30 (rCorners_s fac crn) := by
  refine ⟨fok Tryd.func30 (by kernel_rfl) (by kernel_rfl), ?_⟩
  intro xs pre r h hp
  unfold rCorners_s at h
  split at h
  · simp only [Option.some.injEq, Prod.mk.injEq] at h
    obtain ⟨h1, h2⟩ := h
    subst h1 h2
    exact fnK_sound tyNil (by exact specOK rfl rfl trivial trivial) (by kernel_rfl) Tryd.func30 rfl (rCorners_v gl _)
  · cases h
set_option maxRecDepth 100000 in
def rWeights20_T : Prop :=
  ∀ (gl : Glob) (a b c : Int), (((-9223372036854775808 : Int) ≤ (0 : Int) ∧ (0 : Int) ≤ (9223372036854775807 : Int)) ∧ ((-9223372036854775808 : Int) ≤ a ∧ a ≤ (9223372036854775807 :
  Int)) ∧ ((-9223372036854775808 : Int) ≤ b ∧ b ≤ (9223372036854775807 : Int)) ∧ ((-9223372036854775808 : Int) ≤ c ∧ c ≤ (9223372036854775807 : Int)) ∧ True → True ∧ a = wt (0 : Int)
  a b c (0 : Int) ∧ b = wt (0 : Int) a b c (1 : Int) ∧ c = wt (0 : Int) a b c (2 : Int) ∧ (0 : Int) = wt (0 : Int) a b c (3 : Int) ∧ (0 : Int) = wt (0 : Int) a b c (4 : Int) ∧ (0 :
  Int) = wt (0 : Int) a b c (5 : Int) ∧ (0 : Int) = wt (0 : Int) a b c (6 : Int) ∧ (0 : Int) = wt (0 : Int) a b c (7 : Int) ∧ (0 : Int) = wt (0 : Int) a b c (8 : Int) ∧ (0 : Int) =
  wt (0 : Int) a b c (9 : Int) ∧ (0 : Int) = wt (0 : Int) a b c (10 : Int) ∧ (0 : Int) = wt (0 : Int) a b c (11 : Int) ∧ True) ∧ (((-9223372036854775808 : Int) ≤ (1 : Int) ∧ (1 :
  Int) ≤ (9223372036854775807 : Int)) ∧ ((-9223372036854775808 : Int) ≤ a ∧ a ≤ (9223372036854775807 : Int)) ∧ ((-9223372036854775808 : Int) ≤ b ∧ b ≤ (9223372036854775807 : Int)) ∧
  ((-9223372036854775808 : Int) ≤ c ∧ c ≤ (9223372036854775807 : Int)) ∧ True → True ∧ a = wt (1 : Int) a b c (0 : Int) ∧ (0 : Int) = wt (1 : Int) a b c (1 : Int) ∧ b = wt (1 : Int)
  a b c (2 : Int) ∧ c = wt (1 : Int) a b c (3 : Int) ∧ (0 : Int) = wt (1 : Int) a b c (4 : Int) ∧ (0 : Int) = wt (1 : Int) a b c (5 : Int) ∧ (0 : Int) = wt (1 : Int) a b c (6 : Int)
  ∧ (0 : Int) = wt (1 : Int) a b c (7 : Int) ∧ (0 : Int) = wt (1 : Int) a b c (8 : Int) ∧ (0 : Int) = wt (1 : Int) a b c (9 : Int) ∧ (0 : Int) = wt (1 : Int) a b c (10 : Int) ∧ (0 :
  Int) = wt (1 : Int) a b c (11 : Int) ∧ True) ∧ (((-9223372036854775808 : Int) ≤ (2 : Int) ∧ (2 : Int) ≤ (9223372036854775807 : Int)) ∧ ((-9223372036854775808 : Int) ≤ a ∧ a ≤
  (9223372036854775807 : Int)) ∧ ((-9223372036854775808 : Int) ≤ b ∧ b ≤ (9223372036854775807 : Int)) ∧ ((-9223372036854775808 : Int) ≤ c ∧ c ≤ (9223372036854775807 : Int)) ∧ True →
  True ∧ a = wt (2 : Int) a b c (0 : Int) ∧ (0 : Int) = wt (2 : Int) a b c (1 : Int) ∧ (0 : Int) = wt (2 : Int) a b c (2 : Int) ∧ b = wt (2 : Int) a b c (3 : Int) ∧ c = wt (2 : Int)
  a b c (4 : Int) ∧ (0 : Int) = wt (2 : Int) a b c (5 : Int) ∧ (0 : Int) = wt (2 : Int) a b c (6 : Int) ∧ (0 : Int) = wt (2 : Int) a b c (7 : Int) ∧ (0 : Int) = wt (2 : Int) a b c (8
  : Int) ∧ (0 : Int) = wt (2 : Int) a b c (9 : Int) ∧ (0 : Int) = wt (2 : Int) a b c (10 : Int) ∧ (0 : Int) = wt (2 : Int) a b c (11 : Int) ∧ True) ∧ (((-9223372036854775808 : Int) ≤
  (3 : Int) ∧ (3 : Int) ≤ (9223372036854775807 : Int)) ∧ ((-9223372036854775808 : Int) ≤ a ∧ a ≤ (9223372036854775807 : Int)) ∧ ((-9223372036854775808 : Int) ≤ b ∧ b ≤
  (9223372036854775807 : Int)) ∧ ((-9223372036854775808 : Int) ≤ c ∧ c ≤ (9223372036854775807 : Int)) ∧ True → True ∧ a = wt (3 : Int) a b c (0 : Int) ∧ (0 : Int) = wt (3 : Int) a b
  c (1 : Int) ∧ (0 : Int) = wt (3 : Int) a b c (2 : Int) ∧ (0 : Int) = wt (3 : Int) a b c (3 : Int) ∧ b = wt (3 : Int) a b c (4 : Int) ∧ c = wt (3 : Int) a b c (5 : Int) ∧ (0 : Int)
  = wt (3 : Int) a b c (6 : Int) ∧ (0 : Int) = wt (3 : Int) a b c (7 : Int) ∧ (0 : Int) = wt (3 : Int) a b c (8 : Int) ∧ (0 : Int) = wt (3 : Int) a b c (9 : Int) ∧ (0 : Int) = wt (3
  : Int) a b c (10 : Int) ∧ (0 : Int) = wt (3 : Int) a b c (11 : Int) ∧ True) ∧ (((-9223372036854775808 : Int) ≤ (4 : Int) ∧ (4 : Int) ≤ (9223372036854775807 : Int)) ∧
  ((-9223372036854775808 : Int) ≤ a ∧ a ≤ (9223372036854775807 : Int)) ∧ ((-9223372036854775808 : Int) ≤ b ∧ b ≤ (9223372036854775807 : Int)) ∧ ((-9223372036854775808 : Int) ≤ c ∧ c
  ≤ (9223372036854775807 : Int)) ∧ True → True ∧ a = wt (4 : Int) a b c (0 : Int) ∧ c = wt (4 : Int) a b c (1 : Int) ∧ (0 : Int) = wt (4 : Int) a b c (2 : Int) ∧ (0 : Int) = wt (4 :
  Int) a b c (3 : Int) ∧ (0 : Int) = wt (4 : Int) a b c (4 : Int) ∧ b = wt (4 : Int) a b c (5 : Int) ∧ (0 : Int) = wt (4 : Int) a b c (6 : Int) ∧ (0 : Int) = wt (4 : Int) a b c (7 :
  Int) ∧ (0 : Int) = wt (4 : Int) a b c (8 : Int) ∧ (0 : Int) = wt (4 : Int) a b c (9 : Int) ∧ (0 : Int) = wt (4 : Int) a b c (10 : Int) ∧ (0 : Int) = wt (4 : Int) a b c (11 : Int) ∧
  True) ∧ (((-9223372036854775808 : Int) ≤ (5 : Int) ∧ (5 : Int) ≤ (9223372036854775807 : Int)) ∧ ((-9223372036854775808 : Int) ≤ a ∧ a ≤ (9223372036854775807 : Int)) ∧
  ((-9223372036854775808 : Int) ≤ b ∧ b ≤ (9223372036854775807 : Int)) ∧ ((-9223372036854775808 : Int) ≤ c ∧ c ≤ (9223372036854775807 : Int)) ∧ True → True ∧ (0 : Int) = wt (5 : Int)
  a b c (0 : Int) ∧ a = wt (5 : Int) a b c (1 : Int) ∧ c = wt (5 : Int) a b c (2 : Int) ∧ (0 : Int) = wt (5 : Int) a b c (3 : Int) ∧ (0 : Int) = wt (5 : Int) a b c (4 : Int) ∧ (0 :
  Int) = wt (5 : Int) a b c (5 : Int) ∧ b = wt (5 : Int) a b c (6 : Int) ∧ (0 : Int) = wt (5 : Int) a b c (7 : Int) ∧ (0 : Int) = wt (5 : Int) a b c (8 : Int) ∧ (0 : Int) = wt (5 :
  Int) a b c (9 : Int) ∧ (0 : Int) = wt (5 : Int) a b c (10 : Int) ∧ (0 : Int) = wt (5 : Int) a b c (11 : Int) ∧ True) ∧ (((-9223372036854775808 : Int) ≤ (6 : Int) ∧ (6 : Int) ≤
  (9223372036854775807 : Int)) ∧ ((-9223372036854775808 : Int) ≤ a ∧ a ≤ (9223372036854775807 : Int)) ∧ ((-9223372036854775808 : Int) ≤ b ∧ b ≤ (9223372036854775807 : Int)) ∧
  ((-9223372036854775808 : Int) ≤ c ∧ c ≤ (9223372036854775807 : Int)) ∧ True → True ∧ (0 : Int) = wt (6 : Int) a b c (0 : Int) ∧ (0 : Int) = wt (6 : Int) a b c (1 : Int) ∧ a = wt (6
  : Int) a b c (2 : Int) ∧ c = wt (6 : Int) a b c (3 : Int) ∧ (0 : Int) = wt (6 : Int) a b c (4 : Int) ∧ (0 : Int) = wt (6 : Int) a b c (5 : Int) ∧ (0 : Int) = wt (6 : Int) a b c (6
  : Int) ∧ b = wt (6 : Int) a b c (7 : Int) ∧ (0 : Int) = wt (6 : Int) a b c (8 : Int) ∧ (0 : Int) = wt (6 : Int) a b c (9 : Int) ∧ (0 : Int) = wt (6 : Int) a b c (10 : Int) ∧ (0 :
  Int) = wt (6 : Int) a b c (11 : Int) ∧ True) ∧ (((-9223372036854775808 : Int) ≤ (7 : Int) ∧ (7 : Int) ≤ (9223372036854775807 : Int)) ∧ ((-9223372036854775808 : Int) ≤ a ∧ a ≤
  (9223372036854775807 : Int)) ∧ ((-9223372036854775808 : Int) ≤ b ∧ b ≤ (9223372036854775807 : Int)) ∧ ((-9223372036854775808 : Int) ≤ c ∧ c ≤ (9223372036854775807 : Int)) ∧ True →
  True ∧ (0 : Int) = wt (7 : Int) a b c (0 : Int) ∧ (0 : Int) = wt (7 : Int) a b c (1 : Int) ∧ (0 : Int) = wt (7 : Int) a b c (2 : Int) ∧ a = wt (7 : Int) a b c (3 : Int) ∧ c = wt (7
  : Int) a b c (4 : Int) ∧ (0 : Int) = wt (7 : Int) a b c (5 : Int) ∧ (0 : Int) = wt (7 : Int) a b c (6 : Int) ∧ (0 : Int) = wt (7 : Int) a b c (7 : Int) ∧ b = wt (7 : Int) a b c (8
  : Int) ∧ (0 : Int) = wt (7 : Int) a b c (9 : Int) ∧ (0 : Int) = wt (7 : Int) a b c (10 : Int) ∧ (0 : Int) = wt (7 : Int) a b c (11 : Int) ∧ True) ∧ (((-9223372036854775808 : Int) ≤
  (8 : Int) ∧ (8 : Int) ≤ (9223372036854775807 : Int)) ∧ ((-9223372036854775808 : Int) ≤ a ∧ a ≤ (9223372036854775807 : Int)) ∧ ((-9223372036854775808 : Int) ≤ b ∧ b ≤
  (9223372036854775807 : Int)) ∧ ((-9223372036854775808 : Int) ≤ c ∧ c ≤ (9223372036854775807 : Int)) ∧ True → True ∧ (0 : Int) = wt (8 : Int) a b c (0 : Int) ∧ (0 : Int) = wt (8 :
  Int) a b c (1 : Int) ∧ (0 : Int) = wt (8 : Int) a b c (2 : Int) ∧ (0 : Int) = wt (8 : Int) a b c (3 : Int) ∧ a = wt (8 : Int) a b c (4 : Int) ∧ c = wt (8 : Int) a b c (5 : Int) ∧
  (0 : Int) = wt (8 : Int) a b c (6 : Int) ∧ (0 : Int) = wt (8 : Int) a b c (7 : Int) ∧ (0 : Int) = wt (8 : Int) a b c (8 : Int) ∧ b = wt (8 : Int) a b c (9 : Int) ∧ (0 : Int) = wt
  (8 : Int) a b c (10 : Int) ∧ (0 : Int) = wt (8 : Int) a b c (11 : Int) ∧ True) ∧ (((-9223372036854775808 : Int) ≤ (9 : Int) ∧ (9 : Int) ≤ (9223372036854775807 : Int)) ∧
  ((-9223372036854775808 : Int) ≤ a ∧ a ≤ (9223372036854775807 : Int)) ∧ ((-9223372036854775808 : Int) ≤ b ∧ b ≤ (9223372036854775807 : Int)) ∧ ((-9223372036854775808 : Int) ≤ c ∧ c
  ≤ (9223372036854775807 : Int)) ∧ True → True ∧ (0 : Int) = wt (9 : Int) a b c (0 : Int) ∧ c = wt (9 : Int) a b c (1 : Int) ∧ (0 : Int) = wt (9 : Int) a b c (2 : Int) ∧ (0 : Int) =
  wt (9 : Int) a b c (3 : Int) ∧ (0 : Int) = wt (9 : Int) a b c (4 : Int) ∧ a = wt (9 : Int) a b c (5 : Int) ∧ (0 : Int) = wt (9 : Int) a b c (6 : Int) ∧ (0 : Int) = wt (9 : Int) a b
  c (7 : Int) ∧ (0 : Int) = wt (9 : Int) a b c (8 : Int) ∧ (0 : Int) = wt (9 : Int) a b c (9 : Int) ∧ b = wt (9 : Int) a b c (10 : Int) ∧ (0 : Int) = wt (9 : Int) a b c (11 : Int) ∧
  True) ∧ (((-9223372036854775808 : Int) ≤ (10 : Int) ∧ (10 : Int) ≤ (9223372036854775807 : Int)) ∧ ((-9223372036854775808 : Int) ≤ a ∧ a ≤ (9223372036854775807 : Int)) ∧
  ((-9223372036854775808 : Int) ≤ b ∧ b ≤ (9223372036854775807 : Int)) ∧ ((-9223372036854775808 : Int) ≤ c ∧ c ≤ (9223372036854775807 : Int)) ∧ True → True ∧ (0 : Int) = wt (10 :
  Int) a b c (0 : Int) ∧ (0 : Int) = wt (10 : Int) a b c (1 : Int) ∧ c = wt (10 : Int) a b c (2 : Int) ∧ (0 : Int) = wt (10 : Int) a b c (3 : Int) ∧ (0 : Int) = wt (10 : Int) a b c
  (4 : Int) ∧ (0 : Int) = wt (10 : Int) a b c (5 : Int) ∧ a = wt (10 : Int) a b c (6 : Int) ∧ b = wt (10 : Int) a b c (7 : Int) ∧ (0 : Int) = wt (10 : Int) a b c (8 : Int) ∧ (0 :
  Int) = wt (10 : Int) a b c (9 : Int) ∧ (0 : Int) = wt (10 : Int) a b c (10 : Int) ∧ (0 : Int) = wt (10 : Int) a b c (11 : Int) ∧ True) ∧ (((-9223372036854775808 : Int) ≤ (11 : Int)
  ∧ (11 : Int) ≤ (9223372036854775807 : Int)) ∧ ((-9223372036854775808 : Int) ≤ a ∧ a ≤ (9223372036854775807 : Int)) ∧ ((-9223372036854775808 : Int) ≤ b ∧ b ≤ (9223372036854775807 :
  Int)) ∧ ((-9223372036854775808 : Int) ≤ c ∧ c ≤ (9223372036854775807 : Int)) ∧ True → True ∧ (0 : Int) = wt (11 : Int) a b c (0 : Int) ∧ (0 : Int) = wt (11 : Int) a b c (1 : Int) ∧
  (0 : Int) = wt (11 : Int) a b c (2 : Int) ∧ c = wt (11 : Int) a b c (3 : Int) ∧ (0 : Int) = wt (11 : Int) a b c (4 : Int) ∧ (0 : Int) = wt (11 : Int) a b c (5 : Int) ∧ (0 : Int) =
  wt (11 : Int) a b c (6 : Int) ∧ a = wt (11 : Int) a b c (7 : Int) ∧ b = wt (11 : Int) a b c (8 : Int) ∧ (0 : Int) = wt (11 : Int) a b c (9 : Int) ∧ (0 : Int) = wt (11 : Int) a b c
  (10 : Int) ∧ (0 : Int) = wt (11 : Int) a b c (11 : Int) ∧ True) ∧ (((-9223372036854775808 : Int) ≤ (12 : Int) ∧ (12 : Int) ≤ (9223372036854775807 : Int)) ∧ ((-9223372036854775808 :
  Int) ≤ a ∧ a ≤ (9223372036854775807 : Int)) ∧ ((-9223372036854775808 : Int) ≤ b ∧ b ≤ (9223372036854775807 : Int)) ∧ ((-9223372036854775808 : Int) ≤ c ∧ c ≤ (9223372036854775807 :
  Int)) ∧ True → True ∧ (0 : Int) = wt (12 : Int) a b c (0 : Int) ∧ (0 : Int) = wt (12 : Int) a b c (1 : Int) ∧ (0 : Int) = wt (12 : Int) a b c (2 : Int) ∧ (0 : Int) = wt (12 : Int)
  a b c (3 : Int) ∧ c = wt (12 : Int) a b c (4 : Int) ∧ (0 : Int) = wt (12 : Int) a b c (5 : Int) ∧ (0 : Int) = wt (12 : Int) a b c (6 : Int) ∧ (0 : Int) = wt (12 : Int) a b c (7 :
  Int) ∧ a = wt (12 : Int) a b c (8 : Int) ∧ b = wt (12 : Int) a b c (9 : Int) ∧ (0 : Int) = wt (12 : Int) a b c (10 : Int) ∧ (0 : Int) = wt (12 : Int) a b c (11 : Int) ∧ True) ∧
  (((-9223372036854775808 : Int) ≤ (13 : Int) ∧ (13 : Int) ≤ (9223372036854775807 : Int)) ∧ ((-9223372036854775808 : Int) ≤ a ∧ a ≤ (9223372036854775807 : Int)) ∧
  ((-9223372036854775808 : Int) ≤ b ∧ b ≤ (9223372036854775807 : Int)) ∧ ((-9223372036854775808 : Int) ≤ c ∧ c ≤ (9223372036854775807 : Int)) ∧ True → True ∧ (0 : Int) = wt (13 :
  Int) a b c (0 : Int) ∧ (0 : Int) = wt (13 : Int) a b c (1 : Int) ∧ (0 : Int) = wt (13 : Int) a b c (2 : Int) ∧ (0 : Int) = wt (13 : Int) a b c (3 : Int) ∧ (0 : Int) = wt (13 : Int)
  a b c (4 : Int) ∧ c = wt (13 : Int) a b c (5 : Int) ∧ (0 : Int) = wt (13 : Int) a b c (6 : Int) ∧ (0 : Int) = wt (13 : Int) a b c (7 : Int) ∧ (0 : Int) = wt (13 : Int) a b c (8 :
  Int) ∧ a = wt (13 : Int) a b c (9 : Int) ∧ b = wt (13 : Int) a b c (10 : Int) ∧ (0 : Int) = wt (13 : Int) a b c (11 : Int) ∧ True) ∧ (((-9223372036854775808 : Int) ≤ (14 : Int) ∧
  (14 : Int) ≤ (9223372036854775807 : Int)) ∧ ((-9223372036854775808 : Int) ≤ a ∧ a ≤ (9223372036854775807 : Int)) ∧ ((-9223372036854775808 : Int) ≤ b ∧ b ≤ (9223372036854775807 :
  Int)) ∧ ((-9223372036854775808 : Int) ≤ c ∧ c ≤ (9223372036854775807 : Int)) ∧ True → True ∧ (0 : Int) = wt (14 : Int) a b c (0 : Int) ∧ c = wt (14 : Int) a b c (1 : Int) ∧ (0 :
  Int) = wt (14 : Int) a b c (2 : Int) ∧ (0 : Int) = wt (14 : Int) a b c (3 : Int) ∧ (0 : Int) = wt (14 : Int) a b c (4 : Int) ∧ (0 : Int) = wt (14 : Int) a b c (5 : Int) ∧ b = wt
  (14 : Int) a b c (6 : Int) ∧ (0 : Int) = wt (14 : Int) a b c (7 : Int) ∧ (0 : Int) = wt (14 : Int) a b c (8 : Int) ∧ (0 : Int) = wt (14 : Int) a b c (9 : Int) ∧ a = wt (14 : Int) a
  b c (10 : Int) ∧ (0 : Int) = wt (14 : Int) a b c (11 : Int) ∧ True) ∧ (((-9223372036854775808 : Int) ≤ (15 : Int) ∧ (15 : Int) ≤ (9223372036854775807 : Int)) ∧
  ((-9223372036854775808 : Int) ≤ a ∧ a ≤ (9223372036854775807 : Int)) ∧ ((-9223372036854775808 : Int) ≤ b ∧ b ≤ (9223372036854775807 : Int)) ∧ ((-9223372036854775808 : Int) ≤ c ∧ c
  ≤ (9223372036854775807 : Int)) ∧ True → True ∧ (0 : Int) = wt (15 : Int) a b c (0 : Int) ∧ (0 : Int) = wt (15 : Int) a b c (1 : Int) ∧ (0 : Int) = wt (15 : Int) a b c (2 : Int) ∧
  (0 : Int) = wt (15 : Int) a b c (3 : Int) ∧ (0 : Int) = wt (15 : Int) a b c (4 : Int) ∧ (0 : Int) = wt (15 : Int) a b c (5 : Int) ∧ c = wt (15 : Int) a b c (6 : Int) ∧ b = wt (15 :
  Int) a b c (7 : Int) ∧ (0 : Int) = wt (15 : Int) a b c (8 : Int) ∧ (0 : Int) = wt (15 : Int) a b c (9 : Int) ∧ (0 : Int) = wt (15 : Int) a b c (10 : Int) ∧ a = wt (15 : Int) a b c
  (11 : Int) ∧ True) ∧ (((-9223372036854775808 : Int) ≤ (16 : Int) ∧ (16 : Int) ≤ (9223372036854775807 : Int)) ∧ ((-9223372036854775808 : Int) ≤ a ∧ a ≤ (9223372036854775807 : Int))
  ∧ ((-9223372036854775808 : Int) ≤ b ∧ b ≤ (9223372036854775807 : Int)) ∧ ((-9223372036854775808 : Int) ≤ c ∧ c ≤ (9223372036854775807 : Int)) ∧ True → True ∧ (0 : Int) = wt (16 :
  Int) a b c (0 : Int) ∧ (0 : Int) = wt (16 : Int) a b c (1 : Int) ∧ (0 : Int) = wt (16 : Int) a b c (2 : Int) ∧ (0 : Int) = wt (16 : Int) a b c (3 : Int) ∧ (0 : Int) = wt (16 : Int)
  a b c (4 : Int) ∧ (0 : Int) = wt (16 : Int) a b c (5 : Int) ∧ (0 : Int) = wt (16 : Int) a b c (6 : Int) ∧ c = wt (16 : Int) a b c (7 : Int) ∧ b = wt (16 : Int) a b c (8 : Int) ∧ (0
  : Int) = wt (16 : Int) a b c (9 : Int) ∧ (0 : Int) = wt (16 : Int) a b c (10 : Int) ∧ a = wt (16 : Int) a b c (11 : Int) ∧ True) ∧ (((-9223372036854775808 : Int) ≤ (17 : Int) ∧ (17
  : Int) ≤ (9223372036854775807 : Int)) ∧ ((-9223372036854775808 : Int) ≤ a ∧ a ≤ (9223372036854775807 : Int)) ∧ ((-9223372036854775808 : Int) ≤ b ∧ b ≤ (9223372036854775807 : Int))
  ∧ ((-9223372036854775808 : Int) ≤ c ∧ c ≤ (9223372036854775807 : Int)) ∧ True → True ∧ (0 : Int) = wt (17 : Int) a b c (0 : Int) ∧ (0 : Int) = wt (17 : Int) a b c (1 : Int) ∧ (0 :
  Int) = wt (17 : Int) a b c (2 : Int) ∧ (0 : Int) = wt (17 : Int) a b c (3 : Int) ∧ (0 : Int) = wt (17 : Int) a b c (4 : Int) ∧ (0 : Int) = wt (17 : Int) a b c (5 : Int) ∧ (0 : Int)
  = wt (17 : Int) a b c (6 : Int) ∧ (0 : Int) = wt (17 : Int) a b c (7 : Int) ∧ c = wt (17 : Int) a b c (8 : Int) ∧ b = wt (17 : Int) a b c (9 : Int) ∧ (0 : Int) = wt (17 : Int) a b
  c (10 : Int) ∧ a = wt (17 : Int) a b c (11 : Int) ∧ True) ∧ (((-9223372036854775808 : Int) ≤ (18 : Int) ∧ (18 : Int) ≤ (9223372036854775807 : Int)) ∧ ((-9223372036854775808 : Int)
  ≤ a ∧ a ≤ (9223372036854775807 : Int)) ∧ ((-9223372036854775808 : Int) ≤ b ∧ b ≤ (9223372036854775807 : Int)) ∧ ((-9223372036854775808 : Int) ≤ c ∧ c ≤ (9223372036854775807 : Int))
  ∧ True → True ∧ (0 : Int) = wt (18 : Int) a b c (0 : Int) ∧ (0 : Int) = wt (18 : Int) a b c (1 : Int) ∧ (0 : Int) = wt (18 : Int) a b c (2 : Int) ∧ (0 : Int) = wt (18 : Int) a b c
  (3 : Int) ∧ (0 : Int) = wt (18 : Int) a b c (4 : Int) ∧ (0 : Int) = wt (18 : Int) a b c (5 : Int) ∧ (0 : Int) = wt (18 : Int) a b c (6 : Int) ∧ (0 : Int) = wt (18 : Int) a b c (7 :
  Int) ∧ (0 : Int) = wt (18 : Int) a b c (8 : Int) ∧ c = wt (18 : Int) a b c (9 : Int) ∧ b = wt (18 : Int) a b c (10 : Int) ∧ a = wt (18 : Int) a b c (11 : Int) ∧ True) ∧
  (((-9223372036854775808 : Int) ≤ (19 : Int) ∧ (19 : Int) ≤ (9223372036854775807 : Int)) ∧ ((-9223372036854775808 : Int) ≤ a ∧ a ≤ (9223372036854775807 : Int)) ∧
  ((-9223372036854775808 : Int) ≤ b ∧ b ≤ (9223372036854775807 : Int)) ∧ ((-9223372036854775808 : Int) ≤ c ∧ c ≤ (9223372036854775807 : Int)) ∧ True → True ∧ (0 : Int) = wt (19 :
  Int) a b c (0 : Int) ∧ (0 : Int) = wt (19 : Int) a b c (1 : Int) ∧ (0 : Int) = wt (19 : Int) a b c (2 : Int) ∧ (0 : Int) = wt (19 : Int) a b c (3 : Int) ∧ (0 : Int) = wt (19 : Int)
  a b c (4 : Int) ∧ (0 : Int) = wt (19 : Int) a b c (5 : Int) ∧ b = wt (19 : Int) a b c (6 : Int) ∧ (0 : Int) = wt (19 : Int) a b c (7 : Int) ∧ (0 : Int) = wt (19 : Int) a b c (8 :
  Int) ∧ (0 : Int) = wt (19 : Int) a b c (9 : Int) ∧ c = wt (19 : Int) a b c (10 : Int) ∧ a = wt (19 : Int) a b c (11 : Int) ∧ True) ∧ True
set_option maxRecDepth 100000 in
theorem rWeights20_P : rWeights20_T := by
  unfold rWeights20_T
  intro gl a b c
  repeat' (first | exact trivial | intro _ | rfl | apply And.intro)
def rWeights20_S : Prop := ∀ (gl : Glob) (a b c : Int), allN fcs fun f => fnK Tryd.prog { glob := gl, spec := lk [(30, rCorners_s fac crn)], nowf := true } { nt := 28 } (fun _ _ => none) 6 Tryd.f38 [.agg [.int .i64 f, .int .i64 a, .int .i64 b, .int .i64 c]] (.agg [.int .i64 (wt f a b c 0), .int .i64 (wt f a b c 1), .int .i64 (wt f a b c 2), .int .i64 (wt f a b c 3), .int .i64 (wt f a b c 4), .int .i64 (wt f a b c 5), .int .i64 (wt f a b c 6), .int .i64 (wt f a b c 7), .int .i64 (wt f a b c 8), .int .i64 (wt f a b c 9), .int .i64 (wt f a b c 10), .int .i64 (wt f a b c 11)])
set_option maxRecDepth 100000 in
theorem rWeights20_e : rWeights20_T = rWeights20_S := by kernel_rfl
theorem rWeights20 : rWeights20_S := @Eq.mp (rWeights20_T) (rWeights20_S) (rWeights20_e) rWeights20_P
set_option maxRecDepth 100000 in
def rOn20_T : Prop :=
  ∀ (gl : Glob) (w0 w1 w2 w3 w4 w5 w6 w7 w8 w9 w10 w11 : Int), ((-9223372036854775808 : Int) ≤ (0 : Int) ∧ (0 : Int) ≤ (9223372036854775807 : Int) → ((-9223372036854775808 : Int) ≤
  w0 ∧ w0 ≤ (9223372036854775807 : Int)) ∧ ((-9223372036854775808 : Int) ≤ w1 ∧ w1 ≤ (9223372036854775807 : Int)) ∧ ((-9223372036854775808 : Int) ≤ w2 ∧ w2 ≤ (9223372036854775807 :
  Int)) ∧ ((-9223372036854775808 : Int) ≤ w3 ∧ w3 ≤ (9223372036854775807 : Int)) ∧ ((-9223372036854775808 : Int) ≤ w4 ∧ w4 ≤ (9223372036854775807 : Int)) ∧ ((-9223372036854775808 :
  Int) ≤ w5 ∧ w5 ≤ (9223372036854775807 : Int)) ∧ ((-9223372036854775808 : Int) ≤ w6 ∧ w6 ≤ (9223372036854775807 : Int)) ∧ ((-9223372036854775808 : Int) ≤ w7 ∧ w7 ≤
  (9223372036854775807 : Int)) ∧ ((-9223372036854775808 : Int) ≤ w8 ∧ w8 ≤ (9223372036854775807 : Int)) ∧ ((-9223372036854775808 : Int) ≤ w9 ∧ w9 ≤ (9223372036854775807 : Int)) ∧
  ((-9223372036854775808 : Int) ≤ w10 ∧ w10 ≤ (9223372036854775807 : Int)) ∧ ((-9223372036854775808 : Int) ≤ w11 ∧ w11 ≤ (9223372036854775807 : Int)) ∧ True → True ∧ ((0 : Int) = (0
  : Int) ∧ w0 = sel [w0, w1, w2, w3, w4, w5, w6, w7, w8, w9, w10, w11] (0 : Int) ∧ w1 = sel [w0, w1, w2, w3, w4, w5, w6, w7, w8, w9, w10, w11] (1 : Int) ∧ w2 = sel [w0, w1, w2, w3,
  w4, w5, w6, w7, w8, w9, w10, w11] (2 : Int) ∧ True) ∧ decide (IntKind.i64.wrap (IntKind.i64.wrap (w0 + w1) + w2) = (840 : Int)) = decide (w64 (w64 (sel [w0, w1, w2, w3, w4, w5, w6,
  w7, w8, w9, w10, w11] (0 : Int) + sel [w0, w1, w2, w3, w4, w5, w6, w7, w8, w9, w10, w11] (1 : Int)) + sel [w0, w1, w2, w3, w4, w5, w6, w7, w8, w9, w10, w11] (2 : Int)) = (840 :
  Int)) ∧ True) ∧ ((-9223372036854775808 : Int) ≤ (1 : Int) ∧ (1 : Int) ≤ (9223372036854775807 : Int) → ((-9223372036854775808 : Int) ≤ w0 ∧ w0 ≤ (9223372036854775807 : Int)) ∧
  ((-9223372036854775808 : Int) ≤ w1 ∧ w1 ≤ (9223372036854775807 : Int)) ∧ ((-9223372036854775808 : Int) ≤ w2 ∧ w2 ≤ (9223372036854775807 : Int)) ∧ ((-9223372036854775808 : Int) ≤ w3
  ∧ w3 ≤ (9223372036854775807 : Int)) ∧ ((-9223372036854775808 : Int) ≤ w4 ∧ w4 ≤ (9223372036854775807 : Int)) ∧ ((-9223372036854775808 : Int) ≤ w5 ∧ w5 ≤ (9223372036854775807 :
  Int)) ∧ ((-9223372036854775808 : Int) ≤ w6 ∧ w6 ≤ (9223372036854775807 : Int)) ∧ ((-9223372036854775808 : Int) ≤ w7 ∧ w7 ≤ (9223372036854775807 : Int)) ∧ ((-9223372036854775808 :
  Int) ≤ w8 ∧ w8 ≤ (9223372036854775807 : Int)) ∧ ((-9223372036854775808 : Int) ≤ w9 ∧ w9 ≤ (9223372036854775807 : Int)) ∧ ((-9223372036854775808 : Int) ≤ w10 ∧ w10 ≤
  (9223372036854775807 : Int)) ∧ ((-9223372036854775808 : Int) ≤ w11 ∧ w11 ≤ (9223372036854775807 : Int)) ∧ True → True ∧ ((1 : Int) = (1 : Int) ∧ w0 = sel [w0, w1, w2, w3, w4, w5,
  w6, w7, w8, w9, w10, w11] (0 : Int) ∧ w2 = sel [w0, w1, w2, w3, w4, w5, w6, w7, w8, w9, w10, w11] (2 : Int) ∧ w3 = sel [w0, w1, w2, w3, w4, w5, w6, w7, w8, w9, w10, w11] (3 : Int)
  ∧ True) ∧ decide (IntKind.i64.wrap (IntKind.i64.wrap (w0 + w2) + w3) = (840 : Int)) = decide (w64 (w64 (sel [w0, w1, w2, w3, w4, w5, w6, w7, w8, w9, w10, w11] (0 : Int) + sel [w0,
  w1, w2, w3, w4, w5, w6, w7, w8, w9, w10, w11] (2 : Int)) + sel [w0, w1, w2, w3, w4, w5, w6, w7, w8, w9, w10, w11] (3 : Int)) = (840 : Int)) ∧ True) ∧ ((-9223372036854775808 : Int)
  ≤ (2 : Int) ∧ (2 : Int) ≤ (9223372036854775807 : Int) → ((-9223372036854775808 : Int) ≤ w0 ∧ w0 ≤ (9223372036854775807 : Int)) ∧ ((-9223372036854775808 : Int) ≤ w1 ∧ w1 ≤
  (9223372036854775807 : Int)) ∧ ((-9223372036854775808 : Int) ≤ w2 ∧ w2 ≤ (9223372036854775807 : Int)) ∧ ((-9223372036854775808 : Int) ≤ w3 ∧ w3 ≤ (9223372036854775807 : Int)) ∧
  ((-9223372036854775808 : Int) ≤ w4 ∧ w4 ≤ (9223372036854775807 : Int)) ∧ ((-9223372036854775808 : Int) ≤ w5 ∧ w5 ≤ (9223372036854775807 : Int)) ∧ ((-9223372036854775808 : Int) ≤ w6
  ∧ w6 ≤ (9223372036854775807 : Int)) ∧ ((-9223372036854775808 : Int) ≤ w7 ∧ w7 ≤ (9223372036854775807 : Int)) ∧ ((-9223372036854775808 : Int) ≤ w8 ∧ w8 ≤ (9223372036854775807 :
  Int)) ∧ ((-9223372036854775808 : Int) ≤ w9 ∧ w9 ≤ (9223372036854775807 : Int)) ∧ ((-9223372036854775808 : Int) ≤ w10 ∧ w10 ≤ (9223372036854775807 : Int)) ∧ ((-9223372036854775808 :
  Int) ≤ w11 ∧ w11 ≤ (9223372036854775807 : Int)) ∧ True → True ∧ ((2 : Int) = (2 : Int) ∧ w0 = sel [w0, w1, w2, w3, w4, w5, w6, w7, w8, w9, w10, w11] (0 : Int) ∧ w3 = sel [w0, w1,
  w2, w3, w4, w5, w6, w7, w8, w9, w10, w11] (3 : Int) ∧ w4 = sel [w0, w1, w2, w3, w4, w5, w6, w7, w8, w9, w10, w11] (4 : Int) ∧ True) ∧ decide (IntKind.i64.wrap (IntKind.i64.wrap (w0
  + w3) + w4) = (840 : Int)) = decide (w64 (w64 (sel [w0, w1, w2, w3, w4, w5, w6, w7, w8, w9, w10, w11] (0 : Int) + sel [w0, w1, w2, w3, w4, w5, w6, w7, w8, w9, w10, w11] (3 : Int))
  + sel [w0, w1, w2, w3, w4, w5, w6, w7, w8, w9, w10, w11] (4 : Int)) = (840 : Int)) ∧ True) ∧ ((-9223372036854775808 : Int) ≤ (3 : Int) ∧ (3 : Int) ≤ (9223372036854775807 : Int) →
  ((-9223372036854775808 : Int) ≤ w0 ∧ w0 ≤ (9223372036854775807 : Int)) ∧ ((-9223372036854775808 : Int) ≤ w1 ∧ w1 ≤ (9223372036854775807 : Int)) ∧ ((-9223372036854775808 : Int) ≤ w2
  ∧ w2 ≤ (9223372036854775807 : Int)) ∧ ((-9223372036854775808 : Int) ≤ w3 ∧ w3 ≤ (9223372036854775807 : Int)) ∧ ((-9223372036854775808 : Int) ≤ w4 ∧ w4 ≤ (9223372036854775807 :
  Int)) ∧ ((-9223372036854775808 : Int) ≤ w5 ∧ w5 ≤ (9223372036854775807 : Int)) ∧ ((-9223372036854775808 : Int) ≤ w6 ∧ w6 ≤ (9223372036854775807 : Int)) ∧ ((-9223372036854775808 :
  Int) ≤ w7 ∧ w7 ≤ (9223372036854775807 : Int)) ∧ ((-9223372036854775808 : Int) ≤ w8 ∧ w8 ≤ (9223372036854775807 : Int)) ∧ ((-9223372036854775808 : Int) ≤ w9 ∧ w9 ≤
  (9223372036854775807 : Int)) ∧ ((-9223372036854775808 : Int) ≤ w10 ∧ w10 ≤ (9223372036854775807 : Int)) ∧ ((-9223372036854775808 : Int) ≤ w11 ∧ w11 ≤ (9223372036854775807 : Int)) ∧
  True → True ∧ ((3 : Int) = (3 : Int) ∧ w0 = sel [w0, w1, w2, w3, w4, w5, w6, w7, w8, w9, w10, w11] (0 : Int) ∧ w4 = sel [w0, w1, w2, w3, w4, w5, w6, w7, w8, w9, w10, w11] (4 : Int)
  ∧ w5 = sel [w0, w1, w2, w3, w4, w5, w6, w7, w8, w9, w10, w11] (5 : Int) ∧ True) ∧ decide (IntKind.i64.wrap (IntKind.i64.wrap (w0 + w4) + w5) = (840 : Int)) = decide (w64 (w64 (sel
  [w0, w1, w2, w3, w4, w5, w6, w7, w8, w9, w10, w11] (0 : Int) + sel [w0, w1, w2, w3, w4, w5, w6, w7, w8, w9, w10, w11] (4 : Int)) + sel [w0, w1, w2, w3, w4, w5, w6, w7, w8, w9, w10,
  w11] (5 : Int)) = (840 : Int)) ∧ True) ∧ ((-9223372036854775808 : Int) ≤ (4 : Int) ∧ (4 : Int) ≤ (9223372036854775807 : Int) → ((-9223372036854775808 : Int) ≤ w0 ∧ w0 ≤
  (9223372036854775807 : Int)) ∧ ((-9223372036854775808 : Int) ≤ w1 ∧ w1 ≤ (9223372036854775807 : Int)) ∧ ((-9223372036854775808 : Int) ≤ w2 ∧ w2 ≤ (9223372036854775807 : Int)) ∧
  ((-9223372036854775808 : Int) ≤ w3 ∧ w3 ≤ (9223372036854775807 : Int)) ∧ ((-9223372036854775808 : Int) ≤ w4 ∧ w4 ≤ (9223372036854775807 : Int)) ∧ ((-9223372036854775808 : Int) ≤ w5
  ∧ w5 ≤ (9223372036854775807 : Int)) ∧ ((-9223372036854775808 : Int) ≤ w6 ∧ w6 ≤ (9223372036854775807 : Int)) ∧ ((-9223372036854775808 : Int) ≤ w7 ∧ w7 ≤ (9223372036854775807 :
  Int)) ∧ ((-9223372036854775808 : Int) ≤ w8 ∧ w8 ≤ (9223372036854775807 : Int)) ∧ ((-9223372036854775808 : Int) ≤ w9 ∧ w9 ≤ (9223372036854775807 : Int)) ∧ ((-9223372036854775808 :
  Int) ≤ w10 ∧ w10 ≤ (9223372036854775807 : Int)) ∧ ((-9223372036854775808 : Int) ≤ w11 ∧ w11 ≤ (9223372036854775807 : Int)) ∧ True → True ∧ ((4 : Int) = (4 : Int) ∧ w0 = sel [w0,
  w1, w2, w3, w4, w5, w6, w7, w8, w9, w10, w11] (0 : Int) ∧ w5 = sel [w0, w1, w2, w3, w4, w5, w6, w7, w8, w9, w10, w11] (5 : Int) ∧ w1 = sel [w0, w1, w2, w3, w4, w5, w6, w7, w8, w9,
  w10, w11] (1 : Int) ∧ True) ∧ decide (IntKind.i64.wrap (IntKind.i64.wrap (w0 + w5) + w1) = (840 : Int)) = decide (w64 (w64 (sel [w0, w1, w2, w3, w4, w5, w6, w7, w8, w9, w10, w11]
  (0 : Int) + sel [w0, w1, w2, w3, w4, w5, w6, w7, w8, w9, w10, w11] (5 : Int)) + sel [w0, w1, w2, w3, w4, w5, w6, w7, w8, w9, w10, w11] (1 : Int)) = (840 : Int)) ∧ True) ∧
  ((-9223372036854775808 : Int) ≤ (5 : Int) ∧ (5 : Int) ≤ (9223372036854775807 : Int) → ((-9223372036854775808 : Int) ≤ w0 ∧ w0 ≤ (9223372036854775807 : Int)) ∧
  ((-9223372036854775808 : Int) ≤ w1 ∧ w1 ≤ (9223372036854775807 : Int)) ∧ ((-9223372036854775808 : Int) ≤ w2 ∧ w2 ≤ (9223372036854775807 : Int)) ∧ ((-9223372036854775808 : Int) ≤ w3
  ∧ w3 ≤ (9223372036854775807 : Int)) ∧ ((-9223372036854775808 : Int) ≤ w4 ∧ w4 ≤ (9223372036854775807 : Int)) ∧ ((-9223372036854775808 : Int) ≤ w5 ∧ w5 ≤ (9223372036854775807 :
  Int)) ∧ ((-9223372036854775808 : Int) ≤ w6 ∧ w6 ≤ (9223372036854775807 : Int)) ∧ ((-9223372036854775808 : Int) ≤ w7 ∧ w7 ≤ (9223372036854775807 : Int)) ∧ ((-9223372036854775808 :
  Int) ≤ w8 ∧ w8 ≤ (9223372036854775807 : Int)) ∧ ((-9223372036854775808 : Int) ≤ w9 ∧ w9 ≤ (9223372036854775807 : Int)) ∧ ((-9223372036854775808 : Int) ≤ w10 ∧ w10 ≤
  (9223372036854775807 : Int)) ∧ ((-9223372036854775808 : Int) ≤ w11 ∧ w11 ≤ (9223372036854775807 : Int)) ∧ True → True ∧ ((5 : Int) = (5 : Int) ∧ w1 = sel [w0, w1, w2, w3, w4, w5,
  w6, w7, w8, w9, w10, w11] (1 : Int) ∧ w6 = sel [w0, w1, w2, w3, w4, w5, w6, w7, w8, w9, w10, w11] (6 : Int) ∧ w2 = sel [w0, w1, w2, w3, w4, w5, w6, w7, w8, w9, w10, w11] (2 : Int)
  ∧ True) ∧ decide (IntKind.i64.wrap (IntKind.i64.wrap (w1 + w6) + w2) = (840 : Int)) = decide (w64 (w64 (sel [w0, w1, w2, w3, w4, w5, w6, w7, w8, w9, w10, w11] (1 : Int) + sel [w0,
  w1, w2, w3, w4, w5, w6, w7, w8, w9, w10, w11] (6 : Int)) + sel [w0, w1, w2, w3, w4, w5, w6, w7, w8, w9, w10, w11] (2 : Int)) = (840 : Int)) ∧ True) ∧ ((-9223372036854775808 : Int)
  ≤ (6 : Int) ∧ (6 : Int) ≤ (9223372036854775807 : Int) → ((-9223372036854775808 : Int) ≤ w0 ∧ w0 ≤ (9223372036854775807 : Int)) ∧ ((-9223372036854775808 : Int) ≤ w1 ∧ w1 ≤
  (9223372036854775807 : Int)) ∧ ((-9223372036854775808 : Int) ≤ w2 ∧ w2 ≤ (9223372036854775807 : Int)) ∧ ((-9223372036854775808 : Int) ≤ w3 ∧ w3 ≤ (9223372036854775807 : Int)) ∧
  ((-9223372036854775808 : Int) ≤ w4 ∧ w4 ≤ (9223372036854775807 : Int)) ∧ ((-9223372036854775808 : Int) ≤ w5 ∧ w5 ≤ (9223372036854775807 : Int)) ∧ ((-9223372036854775808 : Int) ≤ w6
  ∧ w6 ≤ (9223372036854775807 : Int)) ∧ ((-9223372036854775808 : Int) ≤ w7 ∧ w7 ≤ (9223372036854775807 : Int)) ∧ ((-9223372036854775808 : Int) ≤ w8 ∧ w8 ≤ (9223372036854775807 :
  Int)) ∧ ((-9223372036854775808 : Int) ≤ w9 ∧ w9 ≤ (9223372036854775807 : Int)) ∧ ((-9223372036854775808 : Int) ≤ w10 ∧ w10 ≤ (9223372036854775807 : Int)) ∧ ((-9223372036854775808 :
  Int) ≤ w11 ∧ w11 ≤ (9223372036854775807 : Int)) ∧ True → True ∧ ((6 : Int) = (6 : Int) ∧ w2 = sel [w0, w1, w2, w3, w4, w5, w6, w7, w8, w9, w10, w11] (2 : Int) ∧ w7 = sel [w0, w1,
  w2, w3, w4, w5, w6, w7, w8, w9, w10, w11] (7 : Int) ∧ w3 = sel [w0, w1, w2, w3, w4, w5, w6, w7, w8, w9, w10, w11] (3 : Int) ∧ True) ∧ decide (IntKind.i64.wrap (IntKind.i64.wrap (w2
  + w7) + w3) = (840 : Int)) = decide (w64 (w64 (sel [w0, w1, w2, w3, w4, w5, w6, w7, w8, w9, w10, w11] (2 : Int) + sel [w0, w1, w2, w3, w4, w5, w6, w7, w8, w9, w10, w11] (7 : Int))
  + sel [w0, w1, w2, w3, w4, w5, w6, w7, w8, w9, w10, w11] (3 : Int)) = (840 : Int)) ∧ True) ∧ ((-9223372036854775808 : Int) ≤ (7 : Int) ∧ (7 : Int) ≤ (9223372036854775807 : Int) →
  ((-9223372036854775808 : Int) ≤ w0 ∧ w0 ≤ (9223372036854775807 : Int)) ∧ ((-9223372036854775808 : Int) ≤ w1 ∧ w1 ≤ (9223372036854775807 : Int)) ∧ ((-9223372036854775808 : Int) ≤ w2
  ∧ w2 ≤ (9223372036854775807 : Int)) ∧ ((-9223372036854775808 : Int) ≤ w3 ∧ w3 ≤ (9223372036854775807 : Int)) ∧ ((-9223372036854775808 : Int) ≤ w4 ∧ w4 ≤ (9223372036854775807 :
  Int)) ∧ ((-9223372036854775808 : Int) ≤ w5 ∧ w5 ≤ (9223372036854775807 : Int)) ∧ ((-9223372036854775808 : Int) ≤ w6 ∧ w6 ≤ (9223372036854775807 : Int)) ∧ ((-9223372036854775808 :
  Int) ≤ w7 ∧ w7 ≤ (9223372036854775807 : Int)) ∧ ((-9223372036854775808 : Int) ≤ w8 ∧ w8 ≤ (9223372036854775807 : Int)) ∧ ((-9223372036854775808 : Int) ≤ w9 ∧ w9 ≤
  (9223372036854775807 : Int)) ∧ ((-9223372036854775808 : Int) ≤ w10 ∧ w10 ≤ (9223372036854775807 : Int)) ∧ ((-9223372036854775808 : Int) ≤ w11 ∧ w11 ≤ (9223372036854775807 : Int)) ∧
  True → True ∧ ((7 : Int) = (7 : Int) ∧ w3 = sel [w0, w1, w2, w3, w4, w5, w6, w7, w8, w9, w10, w11] (3 : Int) ∧ w8 = sel [w0, w1, w2, w3, w4, w5, w6, w7, w8, w9, w10, w11] (8 : Int)
  ∧ w4 = sel [w0, w1, w2, w3, w4, w5, w6, w7, w8, w9, w10, w11] (4 : Int) ∧ True) ∧ decide (IntKind.i64.wrap (IntKind.i64.wrap (w3 + w8) + w4) = (840 : Int)) = decide (w64 (w64 (sel
  [w0, w1, w2, w3, w4, w5, w6, w7, w8, w9, w10, w11] (3 : Int) + sel [w0, w1, w2, w3, w4, w5, w6, w7, w8, w9, w10, w11] (8 : Int)) + sel [w0, w1, w2, w3, w4, w5, w6, w7, w8, w9, w10,
  w11] (4 : Int)) = (840 : Int)) ∧ True) ∧ ((-9223372036854775808 : Int) ≤ (8 : Int) ∧ (8 : Int) ≤ (9223372036854775807 : Int) → ((-9223372036854775808 : Int) ≤ w0 ∧ w0 ≤
  (9223372036854775807 : Int)) ∧ ((-9223372036854775808 : Int) ≤ w1 ∧ w1 ≤ (9223372036854775807 : Int)) ∧ ((-9223372036854775808 : Int) ≤ w2 ∧ w2 ≤ (9223372036854775807 : Int)) ∧
  ((-9223372036854775808 : Int) ≤ w3 ∧ w3 ≤ (9223372036854775807 : Int)) ∧ ((-9223372036854775808 : Int) ≤ w4 ∧ w4 ≤ (9223372036854775807 : Int)) ∧ ((-9223372036854775808 : Int) ≤ w5
  ∧ w5 ≤ (9223372036854775807 : Int)) ∧ ((-9223372036854775808 : Int) ≤ w6 ∧ w6 ≤ (9223372036854775807 : Int)) ∧ ((-9223372036854775808 : Int) ≤ w7 ∧ w7 ≤ (9223372036854775807 :
  Int)) ∧ ((-9223372036854775808 : Int) ≤ w8 ∧ w8 ≤ (9223372036854775807 : Int)) ∧ ((-9223372036854775808 : Int) ≤ w9 ∧ w9 ≤ (9223372036854775807 : Int)) ∧ ((-9223372036854775808 :
  Int) ≤ w10 ∧ w10 ≤ (9223372036854775807 : Int)) ∧ ((-9223372036854775808 : Int) ≤ w11 ∧ w11 ≤ (9223372036854775807 : Int)) ∧ True → True ∧ ((8 : Int) = (8 : Int) ∧ w4 = sel [w0,
  w1, w2, w3, w4, w5, w6, w7, w8, w9, w10, w11] (4 : Int) ∧ w9 = sel [w0, w1, w2, w3, w4, w5, w6, w7, w8, w9, w10, w11] (9 : Int) ∧ w5 = sel [w0, w1, w2, w3, w4, w5, w6, w7, w8, w9,
  w10, w11] (5 : Int) ∧ True) ∧ decide (IntKind.i64.wrap (IntKind.i64.wrap (w4 + w9) + w5) = (840 : Int)) = decide (w64 (w64 (sel [w0, w1, w2, w3, w4, w5, w6, w7, w8, w9, w10, w11]
  (4 : Int) + sel [w0, w1, w2, w3, w4, w5, w6, w7, w8, w9, w10, w11] (9 : Int)) + sel [w0, w1, w2, w3, w4, w5, w6, w7, w8, w9, w10, w11] (5 : Int)) = (840 : Int)) ∧ True) ∧
  ((-9223372036854775808 : Int) ≤ (9 : Int) ∧ (9 : Int) ≤ (9223372036854775807 : Int) → ((-9223372036854775808 : Int) ≤ w0 ∧ w0 ≤ (9223372036854775807 : Int)) ∧
  ((-9223372036854775808 : Int) ≤ w1 ∧ w1 ≤ (9223372036854775807 : Int)) ∧ ((-9223372036854775808 : Int) ≤ w2 ∧ w2 ≤ (9223372036854775807 : Int)) ∧ ((-9223372036854775808 : Int) ≤ w3
  ∧ w3 ≤ (9223372036854775807 : Int)) ∧ ((-9223372036854775808 : Int) ≤ w4 ∧ w4 ≤ (9223372036854775807 : Int)) ∧ ((-9223372036854775808 : Int) ≤ w5 ∧ w5 ≤ (9223372036854775807 :
  Int)) ∧ ((-9223372036854775808 : Int) ≤ w6 ∧ w6 ≤ (9223372036854775807 : Int)) ∧ ((-9223372036854775808 : Int) ≤ w7 ∧ w7 ≤ (9223372036854775807 : Int)) ∧ ((-9223372036854775808 :
  Int) ≤ w8 ∧ w8 ≤ (9223372036854775807 : Int)) ∧ ((-9223372036854775808 : Int) ≤ w9 ∧ w9 ≤ (9223372036854775807 : Int)) ∧ ((-9223372036854775808 : Int) ≤ w10 ∧ w10 ≤
  (9223372036854775807 : Int)) ∧ ((-9223372036854775808 : Int) ≤ w11 ∧ w11 ≤ (9223372036854775807 : Int)) ∧ True → True ∧ ((9 : Int) = (9 : Int) ∧ w5 = sel [w0, w1, w2, w3, w4, w5,
  w6, w7, w8, w9, w10, w11] (5 : Int) ∧ w10 = sel [w0, w1, w2, w3, w4, w5, w6, w7, w8, w9, w10, w11] (10 : Int) ∧ w1 = sel [w0, w1, w2, w3, w4, w5, w6, w7, w8, w9, w10, w11] (1 :
  Int) ∧ True) ∧ decide (IntKind.i64.wrap (IntKind.i64.wrap (w5 + w10) + w1) = (840 : Int)) = decide (w64 (w64 (sel [w0, w1, w2, w3, w4, w5, w6, w7, w8, w9, w10, w11] (5 : Int) + sel
  [w0, w1, w2, w3, w4, w5, w6, w7, w8, w9, w10, w11] (10 : Int)) + sel [w0, w1, w2, w3, w4, w5, w6, w7, w8, w9, w10, w11] (1 : Int)) = (840 : Int)) ∧ True) ∧ ((-9223372036854775808 :
  Int) ≤ (10 : Int) ∧ (10 : Int) ≤ (9223372036854775807 : Int) → ((-9223372036854775808 : Int) ≤ w0 ∧ w0 ≤ (9223372036854775807 : Int)) ∧ ((-9223372036854775808 : Int) ≤ w1 ∧ w1 ≤
  (9223372036854775807 : Int)) ∧ ((-9223372036854775808 : Int) ≤ w2 ∧ w2 ≤ (9223372036854775807 : Int)) ∧ ((-9223372036854775808 : Int) ≤ w3 ∧ w3 ≤ (9223372036854775807 : Int)) ∧
  ((-9223372036854775808 : Int) ≤ w4 ∧ w4 ≤ (9223372036854775807 : Int)) ∧ ((-9223372036854775808 : Int) ≤ w5 ∧ w5 ≤ (9223372036854775807 : Int)) ∧ ((-9223372036854775808 : Int) ≤ w6
  ∧ w6 ≤ (9223372036854775807 : Int)) ∧ ((-9223372036854775808 : Int) ≤ w7 ∧ w7 ≤ (9223372036854775807 : Int)) ∧ ((-9223372036854775808 : Int) ≤ w8 ∧ w8 ≤ (9223372036854775807 :
  Int)) ∧ ((-9223372036854775808 : Int) ≤ w9 ∧ w9 ≤ (9223372036854775807 : Int)) ∧ ((-9223372036854775808 : Int) ≤ w10 ∧ w10 ≤ (9223372036854775807 : Int)) ∧ ((-9223372036854775808 :
  Int) ≤ w11 ∧ w11 ≤ (9223372036854775807 : Int)) ∧ True → True ∧ ((10 : Int) = (10 : Int) ∧ w6 = sel [w0, w1, w2, w3, w4, w5, w6, w7, w8, w9, w10, w11] (6 : Int) ∧ w7 = sel [w0, w1,
  w2, w3, w4, w5, w6, w7, w8, w9, w10, w11] (7 : Int) ∧ w2 = sel [w0, w1, w2, w3, w4, w5, w6, w7, w8, w9, w10, w11] (2 : Int) ∧ True) ∧ decide (IntKind.i64.wrap (IntKind.i64.wrap (w6
  + w7) + w2) = (840 : Int)) = decide (w64 (w64 (sel [w0, w1, w2, w3, w4, w5, w6, w7, w8, w9, w10, w11] (6 : Int) + sel [w0, w1, w2, w3, w4, w5, w6, w7, w8, w9, w10, w11] (7 : Int))
  + sel [w0, w1, w2, w3, w4, w5, w6, w7, w8, w9, w10, w11] (2 : Int)) = (840 : Int)) ∧ True) ∧ ((-9223372036854775808 : Int) ≤ (11 : Int) ∧ (11 : Int) ≤ (9223372036854775807 : Int) →
  ((-9223372036854775808 : Int) ≤ w0 ∧ w0 ≤ (9223372036854775807 : Int)) ∧ ((-9223372036854775808 : Int) ≤ w1 ∧ w1 ≤ (9223372036854775807 : Int)) ∧ ((-9223372036854775808 : Int) ≤ w2
  ∧ w2 ≤ (9223372036854775807 : Int)) ∧ ((-9223372036854775808 : Int) ≤ w3 ∧ w3 ≤ (9223372036854775807 : Int)) ∧ ((-9223372036854775808 : Int) ≤ w4 ∧ w4 ≤ (9223372036854775807 :
  Int)) ∧ ((-9223372036854775808 : Int) ≤ w5 ∧ w5 ≤ (9223372036854775807 : Int)) ∧ ((-9223372036854775808 : Int) ≤ w6 ∧ w6 ≤ (9223372036854775807 : Int)) ∧ ((-9223372036854775808 :
  Int) ≤ w7 ∧ w7 ≤ (9223372036854775807 : Int)) ∧ ((-9223372036854775808 : Int) ≤ w8 ∧ w8 ≤ (9223372036854775807 : Int)) ∧ ((-9223372036854775808 : Int) ≤ w9 ∧ w9 ≤
  (9223372036854775807 : Int)) ∧ ((-9223372036854775808 : Int) ≤ w10 ∧ w10 ≤ (9223372036854775807 : Int)) ∧ ((-9223372036854775808 : Int) ≤ w11 ∧ w11 ≤ (9223372036854775807 : Int)) ∧
  True → True ∧ ((11 : Int) = (11 : Int) ∧ w7 = sel [w0, w1, w2, w3, w4, w5, w6, w7, w8, w9, w10, w11] (7 : Int) ∧ w8 = sel [w0, w1, w2, w3, w4, w5, w6, w7, w8, w9, w10, w11] (8 :
  Int) ∧ w3 = sel [w0, w1, w2, w3, w4, w5, w6, w7, w8, w9, w10, w11] (3 : Int) ∧ True) ∧ decide (IntKind.i64.wrap (IntKind.i64.wrap (w7 + w8) + w3) = (840 : Int)) = decide (w64 (w64
  (sel [w0, w1, w2, w3, w4, w5, w6, w7, w8, w9, w10, w11] (7 : Int) + sel [w0, w1, w2, w3, w4, w5, w6, w7, w8, w9, w10, w11] (8 : Int)) + sel [w0, w1, w2, w3, w4, w5, w6, w7, w8, w9,
  w10, w11] (3 : Int)) = (840 : Int)) ∧ True) ∧ ((-9223372036854775808 : Int) ≤ (12 : Int) ∧ (12 : Int) ≤ (9223372036854775807 : Int) → ((-9223372036854775808 : Int) ≤ w0 ∧ w0 ≤
  (9223372036854775807 : Int)) ∧ ((-9223372036854775808 : Int) ≤ w1 ∧ w1 ≤ (9223372036854775807 : Int)) ∧ ((-9223372036854775808 : Int) ≤ w2 ∧ w2 ≤ (9223372036854775807 : Int)) ∧
  ((-9223372036854775808 : Int) ≤ w3 ∧ w3 ≤ (9223372036854775807 : Int)) ∧ ((-9223372036854775808 : Int) ≤ w4 ∧ w4 ≤ (9223372036854775807 : Int)) ∧ ((-9223372036854775808 : Int) ≤ w5
  ∧ w5 ≤ (9223372036854775807 : Int)) ∧ ((-9223372036854775808 : Int) ≤ w6 ∧ w6 ≤ (9223372036854775807 : Int)) ∧ ((-9223372036854775808 : Int) ≤ w7 ∧ w7 ≤ (9223372036854775807 :
  Int)) ∧ ((-9223372036854775808 : Int) ≤ w8 ∧ w8 ≤ (9223372036854775807 : Int)) ∧ ((-9223372036854775808 : Int) ≤ w9 ∧ w9 ≤ (9223372036854775807 : Int)) ∧ ((-9223372036854775808 :
  Int) ≤ w10 ∧ w10 ≤ (9223372036854775807 : Int)) ∧ ((-9223372036854775808 : Int) ≤ w11 ∧ w11 ≤ (9223372036854775807 : Int)) ∧ True → True ∧ ((12 : Int) = (12 : Int) ∧ w8 = sel [w0,
  w1, w2, w3, w4, w5, w6, w7, w8, w9, w10, w11] (8 : Int) ∧ w9 = sel [w0, w1, w2, w3, w4, w5, w6, w7, w8, w9, w10, w11] (9 : Int) ∧ w4 = sel [w0, w1, w2, w3, w4, w5, w6, w7, w8, w9,
  w10, w11] (4 : Int) ∧ True) ∧ decide (IntKind.i64.wrap (IntKind.i64.wrap (w8 + w9) + w4) = (840 : Int)) = decide (w64 (w64 (sel [w0, w1, w2, w3, w4, w5, w6, w7, w8, w9, w10, w11]
  (8 : Int) + sel [w0, w1, w2, w3, w4, w5, w6, w7, w8, w9, w10, w11] (9 : Int)) + sel [w0, w1, w2, w3, w4, w5, w6, w7, w8, w9, w10, w11] (4 : Int)) = (840 : Int)) ∧ True) ∧
  ((-9223372036854775808 : Int) ≤ (13 : Int) ∧ (13 : Int) ≤ (9223372036854775807 : Int) → ((-9223372036854775808 : Int) ≤ w0 ∧ w0 ≤ (9223372036854775807 : Int)) ∧
  ((-9223372036854775808 : Int) ≤ w1 ∧ w1 ≤ (9223372036854775807 : Int)) ∧ ((-9223372036854775808 : Int) ≤ w2 ∧ w2 ≤ (9223372036854775807 : Int)) ∧ ((-9223372036854775808 : Int) ≤ w3
  ∧ w3 ≤ (9223372036854775807 : Int)) ∧ ((-9223372036854775808 : Int) ≤ w4 ∧ w4 ≤ (9223372036854775807 : Int)) ∧ ((-9223372036854775808 : Int) ≤ w5 ∧ w5 ≤ (9223372036854775807 :
  Int)) ∧ ((-9223372036854775808 : Int) ≤ w6 ∧ w6 ≤ (9223372036854775807 : Int)) ∧ ((-9223372036854775808 : Int) ≤ w7 ∧ w7 ≤ (9223372036854775807 : Int)) ∧ ((-9223372036854775808 :
  Int) ≤ w8 ∧ w8 ≤ (9223372036854775807 : Int)) ∧ ((-9223372036854775808 : Int) ≤ w9 ∧ w9 ≤ (9223372036854775807 : Int)) ∧ ((-9223372036854775808 : Int) ≤ w10 ∧ w10 ≤
  (9223372036854775807 : Int)) ∧ ((-9223372036854775808 : Int) ≤ w11 ∧ w11 ≤ (9223372036854775807 : Int)) ∧ True → True ∧ ((13 : Int) = (13 : Int) ∧ w9 = sel [w0, w1, w2, w3, w4, w5,
  w6, w7, w8, w9, w10, w11] (9 : Int) ∧ w10 = sel [w0, w1, w2, w3, w4, w5, w6, w7, w8, w9, w10, w11] (10 : Int) ∧ w5 = sel [w0, w1, w2, w3, w4, w5, w6, w7, w8, w9, w10, w11] (5 :
  Int) ∧ True) ∧ decide (IntKind.i64.wrap (IntKind.i64.wrap (w9 + w10) + w5) = (840 : Int)) = decide (w64 (w64 (sel [w0, w1, w2, w3, w4, w5, w6, w7, w8, w9, w10, w11] (9 : Int) + sel
  [w0, w1, w2, w3, w4, w5, w6, w7, w8, w9, w10, w11] (10 : Int)) + sel [w0, w1, w2, w3, w4, w5, w6, w7, w8, w9, w10, w11] (5 : Int)) = (840 : Int)) ∧ True) ∧ ((-9223372036854775808 :
  Int) ≤ (14 : Int) ∧ (14 : Int) ≤ (9223372036854775807 : Int) → ((-9223372036854775808 : Int) ≤ w0 ∧ w0 ≤ (9223372036854775807 : Int)) ∧ ((-9223372036854775808 : Int) ≤ w1 ∧ w1 ≤
  (9223372036854775807 : Int)) ∧ ((-9223372036854775808 : Int) ≤ w2 ∧ w2 ≤ (9223372036854775807 : Int)) ∧ ((-9223372036854775808 : Int) ≤ w3 ∧ w3 ≤ (9223372036854775807 : Int)) ∧
  ((-9223372036854775808 : Int) ≤ w4 ∧ w4 ≤ (9223372036854775807 : Int)) ∧ ((-9223372036854775808 : Int) ≤ w5 ∧ w5 ≤ (9223372036854775807 : Int)) ∧ ((-9223372036854775808 : Int) ≤ w6
  ∧ w6 ≤ (9223372036854775807 : Int)) ∧ ((-9223372036854775808 : Int) ≤ w7 ∧ w7 ≤ (9223372036854775807 : Int)) ∧ ((-9223372036854775808 : Int) ≤ w8 ∧ w8 ≤ (9223372036854775807 :
  Int)) ∧ ((-9223372036854775808 : Int) ≤ w9 ∧ w9 ≤ (9223372036854775807 : Int)) ∧ ((-9223372036854775808 : Int) ≤ w10 ∧ w10 ≤ (9223372036854775807 : Int)) ∧ ((-9223372036854775808 :
  Int) ≤ w11 ∧ w11 ≤ (9223372036854775807 : Int)) ∧ True → True ∧ ((14 : Int) = (14 : Int) ∧ w10 = sel [w0, w1, w2, w3, w4, w5, w6, w7, w8, w9, w10, w11] (10 : Int) ∧ w6 = sel [w0,
  w1, w2, w3, w4, w5, w6, w7, w8, w9, w10, w11] (6 : Int) ∧ w1 = sel [w0, w1, w2, w3, w4, w5, w6, w7, w8, w9, w10, w11] (1 : Int) ∧ True) ∧ decide (IntKind.i64.wrap (IntKind.i64.wrap
  (w10 + w6) + w1) = (840 : Int)) = decide (w64 (w64 (sel [w0, w1, w2, w3, w4, w5, w6, w7, w8, w9, w10, w11] (10 : Int) + sel [w0, w1, w2, w3, w4, w5, w6, w7, w8, w9, w10, w11] (6 :
  Int)) + sel [w0, w1, w2, w3, w4, w5, w6, w7, w8, w9, w10, w11] (1 : Int)) = (840 : Int)) ∧ True) ∧ ((-9223372036854775808 : Int) ≤ (15 : Int) ∧ (15 : Int) ≤ (9223372036854775807 :
  Int) → ((-9223372036854775808 : Int) ≤ w0 ∧ w0 ≤ (9223372036854775807 : Int)) ∧ ((-9223372036854775808 : Int) ≤ w1 ∧ w1 ≤ (9223372036854775807 : Int)) ∧ ((-9223372036854775808 :
  Int) ≤ w2 ∧ w2 ≤ (9223372036854775807 : Int)) ∧ ((-9223372036854775808 : Int) ≤ w3 ∧ w3 ≤ (9223372036854775807 : Int)) ∧ ((-9223372036854775808 : Int) ≤ w4 ∧ w4 ≤
  (9223372036854775807 : Int)) ∧ ((-9223372036854775808 : Int) ≤ w5 ∧ w5 ≤ (9223372036854775807 : Int)) ∧ ((-9223372036854775808 : Int) ≤ w6 ∧ w6 ≤ (9223372036854775807 : Int)) ∧
  ((-9223372036854775808 : Int) ≤ w7 ∧ w7 ≤ (9223372036854775807 : Int)) ∧ ((-9223372036854775808 : Int) ≤ w8 ∧ w8 ≤ (9223372036854775807 : Int)) ∧ ((-9223372036854775808 : Int) ≤ w9
  ∧ w9 ≤ (9223372036854775807 : Int)) ∧ ((-9223372036854775808 : Int) ≤ w10 ∧ w10 ≤ (9223372036854775807 : Int)) ∧ ((-9223372036854775808 : Int) ≤ w11 ∧ w11 ≤ (9223372036854775807 :
  Int)) ∧ True → True ∧ ((15 : Int) = (15 : Int) ∧ w11 = sel [w0, w1, w2, w3, w4, w5, w6, w7, w8, w9, w10, w11] (11 : Int) ∧ w7 = sel [w0, w1, w2, w3, w4, w5, w6, w7, w8, w9, w10,
  w11] (7 : Int) ∧ w6 = sel [w0, w1, w2, w3, w4, w5, w6, w7, w8, w9, w10, w11] (6 : Int) ∧ True) ∧ decide (IntKind.i64.wrap (IntKind.i64.wrap (w11 + w7) + w6) = (840 : Int)) = decide
  (w64 (w64 (sel [w0, w1, w2, w3, w4, w5, w6, w7, w8, w9, w10, w11] (11 : Int) + sel [w0, w1, w2, w3, w4, w5, w6, w7, w8, w9, w10, w11] (7 : Int)) + sel [w0, w1, w2, w3, w4, w5, w6,
  w7, w8, w9, w10, w11] (6 : Int)) = (840 : Int)) ∧ True) ∧ ((-9223372036854775808 : Int) ≤ (16 : Int) ∧ (16 : Int) ≤ (9223372036854775807 : Int) → ((-9223372036854775808 : Int) ≤ w0
  ∧ w0 ≤ (9223372036854775807 : Int)) ∧ ((-9223372036854775808 : Int) ≤ w1 ∧ w1 ≤ (9223372036854775807 : Int)) ∧ ((-9223372036854775808 : Int) ≤ w2 ∧ w2 ≤ (9223372036854775807 :
  Int)) ∧ ((-9223372036854775808 : Int) ≤ w3 ∧ w3 ≤ (9223372036854775807 : Int)) ∧ ((-9223372036854775808 : Int) ≤ w4 ∧ w4 ≤ (9223372036854775807 : Int)) ∧ ((-9223372036854775808 :
  Int) ≤ w5 ∧ w5 ≤ (9223372036854775807 : Int)) ∧ ((-9223372036854775808 : Int) ≤ w6 ∧ w6 ≤ (9223372036854775807 : Int)) ∧ ((-9223372036854775808 : Int) ≤ w7 ∧ w7 ≤
  (9223372036854775807 : Int)) ∧ ((-9223372036854775808 : Int) ≤ w8 ∧ w8 ≤ (9223372036854775807 : Int)) ∧ ((-9223372036854775808 : Int) ≤ w9 ∧ w9 ≤ (9223372036854775807 : Int)) ∧
  ((-9223372036854775808 : Int) ≤ w10 ∧ w10 ≤ (9223372036854775807 : Int)) ∧ ((-9223372036854775808 : Int) ≤ w11 ∧ w11 ≤ (9223372036854775807 : Int)) ∧ True → True ∧ ((16 : Int) =
  (16 : Int) ∧ w11 = sel [w0, w1, w2, w3, w4, w5, w6, w7, w8, w9, w10, w11] (11 : Int) ∧ w8 = sel [w0, w1, w2, w3, w4, w5, w6, w7, w8, w9, w10, w11] (8 : Int) ∧ w7 = sel [w0, w1, w2,
  w3, w4, w5, w6, w7, w8, w9, w10, w11] (7 : Int) ∧ True) ∧ decide (IntKind.i64.wrap (IntKind.i64.wrap (w11 + w8) + w7) = (840 : Int)) = decide (w64 (w64 (sel [w0, w1, w2, w3, w4,
  w5, w6, w7, w8, w9, w10, w11] (11 : Int) + sel [w0, w1, w2, w3, w4, w5, w6, w7, w8, w9, w10, w11] (8 : Int)) + sel [w0, w1, w2, w3, w4, w5, w6, w7, w8, w9, w10, w11] (7 : Int)) =
  (840 : Int)) ∧ True) ∧ ((-9223372036854775808 : Int) ≤ (17 : Int) ∧ (17 : Int) ≤ (9223372036854775807 : Int) → ((-9223372036854775808 : Int) ≤ w0 ∧ w0 ≤ (9223372036854775807 :
  Int)) ∧ ((-9223372036854775808 : Int) ≤ w1 ∧ w1 ≤ (9223372036854775807 : Int)) ∧ ((-9223372036854775808 : Int) ≤ w2 ∧ w2 ≤ (9223372036854775807 : Int)) ∧ ((-9223372036854775808 :
  Int) ≤ w3 ∧ w3 ≤ (9223372036854775807 : Int)) ∧ ((-9223372036854775808 : Int) ≤ w4 ∧ w4 ≤ (9223372036854775807 : Int)) ∧ ((-9223372036854775808 : Int) ≤ w5 ∧ w5 ≤
  (9223372036854775807 : Int)) ∧ ((-9223372036854775808 : Int) ≤ w6 ∧ w6 ≤ (9223372036854775807 : Int)) ∧ ((-9223372036854775808 : Int) ≤ w7 ∧ w7 ≤ (9223372036854775807 : Int)) ∧
  ((-9223372036854775808 : Int) ≤ w8 ∧ w8 ≤ (9223372036854775807 : Int)) ∧ ((-9223372036854775808 : Int) ≤ w9 ∧ w9 ≤ (9223372036854775807 : Int)) ∧ ((-9223372036854775808 : Int) ≤
  w10 ∧ w10 ≤ (9223372036854775807 : Int)) ∧ ((-9223372036854775808 : Int) ≤ w11 ∧ w11 ≤ (9223372036854775807 : Int)) ∧ True → True ∧ ((17 : Int) = (17 : Int) ∧ w11 = sel [w0, w1,
  w2, w3, w4, w5, w6, w7, w8, w9, w10, w11] (11 : Int) ∧ w9 = sel [w0, w1, w2, w3, w4, w5, w6, w7, w8, w9, w10, w11] (9 : Int) ∧ w8 = sel [w0, w1, w2, w3, w4, w5, w6, w7, w8, w9,
  w10, w11] (8 : Int) ∧ True) ∧ decide (IntKind.i64.wrap (IntKind.i64.wrap (w11 + w9) + w8) = (840 : Int)) = decide (w64 (w64 (sel [w0, w1, w2, w3, w4, w5, w6, w7, w8, w9, w10, w11]
  (11 : Int) + sel [w0, w1, w2, w3, w4, w5, w6, w7, w8, w9, w10, w11] (9 : Int)) + sel [w0, w1, w2, w3, w4, w5, w6, w7, w8, w9, w10, w11] (8 : Int)) = (840 : Int)) ∧ True) ∧
  ((-9223372036854775808 : Int) ≤ (18 : Int) ∧ (18 : Int) ≤ (9223372036854775807 : Int) → ((-9223372036854775808 : Int) ≤ w0 ∧ w0 ≤ (9223372036854775807 : Int)) ∧
  ((-9223372036854775808 : Int) ≤ w1 ∧ w1 ≤ (9223372036854775807 : Int)) ∧ ((-9223372036854775808 : Int) ≤ w2 ∧ w2 ≤ (9223372036854775807 : Int)) ∧ ((-9223372036854775808 : Int) ≤ w3
  ∧ w3 ≤ (9223372036854775807 : Int)) ∧ ((-9223372036854775808 : Int) ≤ w4 ∧ w4 ≤ (9223372036854775807 : Int)) ∧ ((-9223372036854775808 : Int) ≤ w5 ∧ w5 ≤ (9223372036854775807 :
  Int)) ∧ ((-9223372036854775808 : Int) ≤ w6 ∧ w6 ≤ (9223372036854775807 : Int)) ∧ ((-9223372036854775808 : Int) ≤ w7 ∧ w7 ≤ (9223372036854775807 : Int)) ∧ ((-9223372036854775808 :
  Int) ≤ w8 ∧ w8 ≤ (9223372036854775807 : Int)) ∧ ((-9223372036854775808 : Int) ≤ w9 ∧ w9 ≤ (9223372036854775807 : Int)) ∧ ((-9223372036854775808 : Int) ≤ w10 ∧ w10 ≤
  (9223372036854775807 : Int)) ∧ ((-9223372036854775808 : Int) ≤ w11 ∧ w11 ≤ (9223372036854775807 : Int)) ∧ True → True ∧ ((18 : Int) = (18 : Int) ∧ w11 = sel [w0, w1, w2, w3, w4,
  w5, w6, w7, w8, w9, w10, w11] (11 : Int) ∧ w10 = sel [w0, w1, w2, w3, w4, w5, w6, w7, w8, w9, w10, w11] (10 : Int) ∧ w9 = sel [w0, w1, w2, w3, w4, w5, w6, w7, w8, w9, w10, w11] (9
  : Int) ∧ True) ∧ decide (IntKind.i64.wrap (IntKind.i64.wrap (w11 + w10) + w9) = (840 : Int)) = decide (w64 (w64 (sel [w0, w1, w2, w3, w4, w5, w6, w7, w8, w9, w10, w11] (11 : Int) +
  sel [w0, w1, w2, w3, w4, w5, w6, w7, w8, w9, w10, w11] (10 : Int)) + sel [w0, w1, w2, w3, w4, w5, w6, w7, w8, w9, w10, w11] (9 : Int)) = (840 : Int)) ∧ True) ∧
  ((-9223372036854775808 : Int) ≤ (19 : Int) ∧ (19 : Int) ≤ (9223372036854775807 : Int) → ((-9223372036854775808 : Int) ≤ w0 ∧ w0 ≤ (9223372036854775807 : Int)) ∧
  ((-9223372036854775808 : Int) ≤ w1 ∧ w1 ≤ (9223372036854775807 : Int)) ∧ ((-9223372036854775808 : Int) ≤ w2 ∧ w2 ≤ (9223372036854775807 : Int)) ∧ ((-9223372036854775808 : Int) ≤ w3
  ∧ w3 ≤ (9223372036854775807 : Int)) ∧ ((-9223372036854775808 : Int) ≤ w4 ∧ w4 ≤ (9223372036854775807 : Int)) ∧ ((-9223372036854775808 : Int) ≤ w5 ∧ w5 ≤ (9223372036854775807 :
  Int)) ∧ ((-9223372036854775808 : Int) ≤ w6 ∧ w6 ≤ (9223372036854775807 : Int)) ∧ ((-9223372036854775808 : Int) ≤ w7 ∧ w7 ≤ (9223372036854775807 : Int)) ∧ ((-9223372036854775808 :
  Int) ≤ w8 ∧ w8 ≤ (9223372036854775807 : Int)) ∧ ((-9223372036854775808 : Int) ≤ w9 ∧ w9 ≤ (9223372036854775807 : Int)) ∧ ((-9223372036854775808 : Int) ≤ w10 ∧ w10 ≤
  (9223372036854775807 : Int)) ∧ ((-9223372036854775808 : Int) ≤ w11 ∧ w11 ≤ (9223372036854775807 : Int)) ∧ True → True ∧ ((19 : Int) = (19 : Int) ∧ w11 = sel [w0, w1, w2, w3, w4,
  w5, w6, w7, w8, w9, w10, w11] (11 : Int) ∧ w6 = sel [w0, w1, w2, w3, w4, w5, w6, w7, w8, w9, w10, w11] (6 : Int) ∧ w10 = sel [w0, w1, w2, w3, w4, w5, w6, w7, w8, w9, w10, w11] (10
  : Int) ∧ True) ∧ decide (IntKind.i64.wrap (IntKind.i64.wrap (w11 + w6) + w10) = (840 : Int)) = decide (w64 (w64 (sel [w0, w1, w2, w3, w4, w5, w6, w7, w8, w9, w10, w11] (11 : Int) +
  sel [w0, w1, w2, w3, w4, w5, w6, w7, w8, w9, w10, w11] (6 : Int)) + sel [w0, w1, w2, w3, w4, w5, w6, w7, w8, w9, w10, w11] (10 : Int)) = (840 : Int)) ∧ True) ∧ True
set_option maxRecDepth 100000 in
theorem rOn20_P : rOn20_T := by
  unfold rOn20_T
  intro gl w0 w1 w2 w3 w4 w5 w6 w7 w8 w9 w10 w11
  repeat' (first | exact trivial | intro _ | rfl | apply And.intro)
def rOn20_S : Prop := ∀ (gl : Glob) (w0 w1 w2 w3 w4 w5 w6 w7 w8 w9 w10 w11 : Int), allN fcs fun n => fnK Tryd.prog { glob := gl, spec := lk [(30, rCorners_s fac crn)], nowf := true, wrap := true } { nt := 38 } (fun _ _ => none) 6 Tryd.f39 [.int .i64 n, .agg [.int .i64 w0, .int .i64 w1, .int .i64 w2, .int .i64 w3, .int .i64 w4, .int .i64 w5, .int .i64 w6, .int .i64 w7, .int .i64 w8, .int .i64 w9, .int .i64 w10, .int .i64 w11]] (.tup [.agg [.int .i64 n, .int .i64 (sel [w0, w1, w2, w3, w4, w5, w6, w7, w8, w9, w10, w11] (crn n 0)), .int .i64 (sel [w0, w1, w2, w3, w4, w5, w6, w7, w8, w9, w10, w11] (crn n 1)), .int .i64 (sel [w0, w1, w2, w3, w4, w5, w6, w7, w8, w9, w10, w11] (crn n 2))], .bool (decide (w64 (w64 ((sel [w0, w1, w2, w3, w4, w5, w6, w7, w8, w9, w10, w11] (crn n 0)) + (sel [w0, w1, w2, w3, w4, w5, w6, w7, w8, w9, w10, w11] (crn n 1))) + (sel [w0, w1, w2, w3, w4, w5, w6, w7, w8, w9, w10, w11] (crn n 2))) = 840))])
set_option maxRecDepth 100000 in
theorem rOn20_e : rOn20_T = rOn20_S := by kernel_rfl
theorem rOn20 : rOn20_S := @Eq.mp (rOn20_T) (rOn20_S) (rOn20_e) rOn20_P
def rWeights_s : Sp
  | [.agg [.int .i64 f, .int .i64 a, .int .i64 b, .int .i64 c]] => some (0 ≤ f ∧ f < 20, .agg [.int .i64 (wt f a b c 0), .int .i64 (wt f a b c 1), .int .i64 (wt f a b c 2), .int .i64 (wt f a b c 3), .int .i64 (wt f a b c 4), .int .i64 (wt f a b c 5), .int .i64 (wt f a b c 6), .int .i64 (wt f a b c 7), .int .i64 (wt f a b c 8), .int .i64 (wt f a b c 9), .int .i64 (wt f a b c 10), .int .i64 (wt f a b c 11)])
  | _ => none
def rOn_s : Sp
  | [.int .i64 n, .agg [.int .i64 w0, .int .i64 w1, .int .i64 w2, .int .i64 w3, .int .i64 w4, .int .i64 w5, .int .i64 w6, .int .i64 w7, .int .i64 w8, .int .i64 w9, .int .i64 w10, .int .i64 w11]] => some (0 ≤ n ∧ n < 20, .tup [.agg [.int .i64 n, .int .i64 (sel [w0, w1, w2, w3, w4, w5, w6, w7, w8, w9, w10, w11] (crn n 0)), .int .i64 (sel [w0, w1, w2, w3, w4, w5, w6, w7, w8, w9, w10, w11] (crn n 1)), .int .i64 (sel [w0, w1, w2, w3, w4, w5, w6, w7, w8, w9, w10, w11] (crn n 2))], .bool (decide (w64 (w64 ((sel [w0, w1, w2, w3, w4, w5, w6, w7, w8, w9, w10, w11] (crn n 0)) + (sel [w0, w1, w2, w3, w4, w5, w6, w7, w8, w9, w10, w11] (crn n 1))) + (sel [w0, w1, w2, w3, w4, w5, w6, w7, w8, w9, w10, w11] (crn n 2))) = 840))])
  | _ => none
theorem rWeights_ok (gl : Glob) : SOK Tryd.prog gl 38 rWeights_s := by
  refine ⟨fok Tryd.func38 (by kernel_rfl) (by kernel_rfl), ?_⟩
  intro xs pre r h hp
  unfold rWeights_s at h
  split at h
  · simp only [Option.some.injEq, Prod.mk.injEq] at h
    obtain ⟨h1, h2⟩ := h
    subst h1 h2
    exact fnK_sound tyNil (by exact specOK (l' := []) rfl rfl ⟨rCorners_ok gl, trivial⟩ trivial) (by kernel_rfl) Tryd.func38 rfl (allN_get (rWeights20 _ _ _ _) (mem_fcs hp))
  · cases h
theorem rOn_ok (gl : Glob) : SOK Tryd.prog gl 39 rOn_s := by
  refine ⟨fok Tryd.func39 (by kernel_rfl) (by kernel_rfl), ?_⟩
  intro xs pre r h hp
  unfold rOn_s at h
  split at h
  · simp only [Option.some.injEq, Prod.mk.injEq] at h
    obtain ⟨h1, h2⟩ := h
    subst h1 h2
    exact fnK_sound tyNil (by exact specOK (l' := []) rfl rfl ⟨rCorners_ok gl, trivial⟩ trivial) (by kernel_rfl) Tryd.func39 rfl (allN_get (rOn20 _ _ _ _ _ _ _ _ _ _ _ _ _) (mem_fcs hp))
  · cases h

/-- The faces with all weights of a place. -/
theorem onS_eq {f a b c n : Int} (hv : Vld f a b c) (hn : 0 ≤ n ∧ n < 20) : decide (w64 (w64 (onW f a b c n 0 + onW f a b c n 1) + onW f a b c n 2) = 840) = onV f a b c n := by
  have hb : ∀ v, 0 ≤ wt f a b c v ∧ wt f a b c v ≤ 840 := by
    intro v
    obtain ⟨_, ha, hb, hc, _⟩ := hv
    unfold wt
    split
    · exact hc
    · split
      · exact hb
      · split
        · exact ha
        · omega
  have h0 : 0 ≤ onW f a b c n 0 ∧ onW f a b c n 0 ≤ 840 := hb _
  have h1 : 0 ≤ onW f a b c n 1 ∧ onW f a b c n 1 ≤ 840 := hb _
  have h2 : 0 ≤ onW f a b c n 2 ∧ onW f a b c n 2 ≤ 840 := hb _
  unfold onV vld
  rw [w64_id (x := onW f a b c n 0 + onW f a b c n 1) (by omega), w64_id (by omega)]
  refine decide_eq_decide.2 ?_
  rw [vld_iff]
  exact ⟨fun h => ⟨hn, h0, h1, h2, h⟩, fun h => h.2.2.2.2⟩
def adrJ (f a b c : Int) : LInv := ⟨Int × List (List AV), fun x => ⟨[(4, .ptr 4 0), (5, .rw 500 4 x.2.length), (6, .int .i64 x.1)], [(4, .cells [.int .i64 (wt f a b c 0), .int .i64 (wt f a b c 1), .int .i64 (wt f a b c 2), .int .i64 (wt f a b c 3), .int .i64 (wt f a b c 4), .int .i64 (wt f a b c 5), .int .i64 (wt f a b c 6), .int .i64 (wt f a b c 7), .int .i64 (wt f a b c 8), .int .i64 (wt f a b c 9), .int .i64 (wt f a b c 10), .int .i64 (wt f a b c 11)]), (500, .row 26 4 x.2)]⟩,
  AdrP f a b c, fun x => (20 - x.1).toNat, none⟩
def rAddresses_s (vld : Int → Int → Int → Int → Bool) (adr : Int → Int → Int → Int → List (List AV)) : Sp
  | [.agg [.int .i64 f, .int .i64 a, .int .i64 b, .int .i64 c]] => some (True, .tup [.sl 4 false (adr f a b c), .int .i64 (err (vld f a b c))])
  | _ => none
set_option maxRecDepth 100000 in
def rAddresses_T (vld : Int → Int → Int → Int → Bool) (adr : Int → Int → Int → Int → List (List AV)) : Prop :=
  ∀ (gl : Glob) (f a b c : Int), ((-9223372036854775808 : Int) ≤ f ∧ f ≤ (9223372036854775807 : Int)) ∧ ((-9223372036854775808 : Int) ≤ a ∧ a ≤ (9223372036854775807 : Int)) ∧
  ((-9223372036854775808 : Int) ≤ b ∧ b ≤ (9223372036854775807 : Int)) ∧ ((-9223372036854775808 : Int) ≤ c ∧ c ≤ (9223372036854775807 : Int)) ∧ True → True ∧ bif
  !YtddmmjkhkoencaaDoor.vld f a b c then adr f a b c = [] ∧ (1 : Int) = err (vld f a b c) ∧ True else ((0 : Int) ≤ f ∧ f < (20 : Int)) ∧ (∃ x, AdrP f a b c x ∧ ((0 : Nat) = (0 : Nat)
  ∧ (0 : Nat) = x.snd.length ∧ (0 : Int) = x.fst ∧ True) ∧ (wt f a b c (0 : Int) = wt f a b c (0 : Int) ∧ wt f a b c (1 : Int) = wt f a b c (1 : Int) ∧ wt f a b c (2 : Int) = wt f a
  b c (2 : Int) ∧ wt f a b c (3 : Int) = wt f a b c (3 : Int) ∧ wt f a b c (4 : Int) = wt f a b c (4 : Int) ∧ wt f a b c (5 : Int) = wt f a b c (5 : Int) ∧ wt f a b c (6 : Int) = wt
  f a b c (6 : Int) ∧ wt f a b c (7 : Int) = wt f a b c (7 : Int) ∧ wt f a b c (8 : Int) = wt f a b c (8 : Int) ∧ wt f a b c (9 : Int) = wt f a b c (9 : Int) ∧ wt f a b c (10 : Int)
  = wt f a b c (10 : Int) ∧ wt f a b c (11 : Int) = wt f a b c (11 : Int) ∧ True) ∧ [] = x.snd ∧ True) ∧ ∀ (x : Int × List (List AV)), AdrP f a b c x → bif decide (x.fst < (20 :
  Int)) then ((0 : Int) ≤ x.fst ∧ x.fst < (20 : Int)) ∧ bif decide (w64 (w64 (sel [wt f a b c (0 : Int), wt f a b c (1 : Int), wt f a b c (2 : Int), wt f a b c (3 : Int), wt f a b c
  (4 : Int), wt f a b c (5 : Int), wt f a b c (6 : Int), wt f a b c (7 : Int), wt f a b c (8 : Int), wt f a b c (9 : Int), wt f a b c (10 : Int), wt f a b c (11 : Int)] (crn x.fst (0
  : Nat)) + sel [wt f a b c (0 : Int), wt f a b c (1 : Int), wt f a b c (2 : Int), wt f a b c (3 : Int), wt f a b c (4 : Int), wt f a b c (5 : Int), wt f a b c (6 : Int), wt f a b c
  (7 : Int), wt f a b c (8 : Int), wt f a b c (9 : Int), wt f a b c (10 : Int), wt f a b c (11 : Int)] (crn x.fst (1 : Nat))) + sel [wt f a b c (0 : Int), wt f a b c (1 : Int), wt f
  a b c (2 : Int), wt f a b c (3 : Int), wt f a b c (4 : Int), wt f a b c (5 : Int), wt f a b c (6 : Int), wt f a b c (7 : Int), wt f a b c (8 : Int), wt f a b c (9 : Int), wt f a b
  c (10 : Int), wt f a b c (11 : Int)] (crn x.fst (2 : Nat))) = (840 : Int)) then bif decide (x.snd.length = x.snd.length ∧ x.snd.length + [[AV.int IntKind.i64 x.fst, AV.int
  IntKind.i64 (sel [wt f a b c (0 : Int), wt f a b c (1 : Int), wt f a b c (2 : Int), wt f a b c (3 : Int), wt f a b c (4 : Int), wt f a b c (5 : Int), wt f a b c (6 : Int), wt f a b
  c (7 : Int), wt f a b c (8 : Int), wt f a b c (9 : Int), wt f a b c (10 : Int), wt f a b c (11 : Int)] (crn x.fst (0 : Nat))), AV.int IntKind.i64 (sel [wt f a b c (0 : Int), wt f a
  b c (1 : Int), wt f a b c (2 : Int), wt f a b c (3 : Int), wt f a b c (4 : Int), wt f a b c (5 : Int), wt f a b c (6 : Int), wt f a b c (7 : Int), wt f a b c (8 : Int), wt f a b c
  (9 : Int), wt f a b c (10 : Int), wt f a b c (11 : Int)] (crn x.fst (1 : Nat))), AV.int IntKind.i64 (sel [wt f a b c (0 : Int), wt f a b c (1 : Int), wt f a b c (2 : Int), wt f a b
  c (3 : Int), wt f a b c (4 : Int), wt f a b c (5 : Int), wt f a b c (6 : Int), wt f a b c (7 : Int), wt f a b c (8 : Int), wt f a b c (9 : Int), wt f a b c (10 : Int), wt f a b c
  (11 : Int)] (crn x.fst (2 : Nat)))]].length ≤ (9223372036854775807 : Nat) ∧ (x.snd.length + [[AV.int IntKind.i64 x.fst, AV.int IntKind.i64 (sel [wt f a b c (0 : Int), wt f a b c (1
  : Int), wt f a b c (2 : Int), wt f a b c (3 : Int), wt f a b c (4 : Int), wt f a b c (5 : Int), wt f a b c (6 : Int), wt f a b c (7 : Int), wt f a b c (8 : Int), wt f a b c (9 :
  Int), wt f a b c (10 : Int), wt f a b c (11 : Int)] (crn x.fst (0 : Nat))), AV.int IntKind.i64 (sel [wt f a b c (0 : Int), wt f a b c (1 : Int), wt f a b c (2 : Int), wt f a b c (3
  : Int), wt f a b c (4 : Int), wt f a b c (5 : Int), wt f a b c (6 : Int), wt f a b c (7 : Int), wt f a b c (8 : Int), wt f a b c (9 : Int), wt f a b c (10 : Int), wt f a b c (11 :
  Int)] (crn x.fst (1 : Nat))), AV.int IntKind.i64 (sel [wt f a b c (0 : Int), wt f a b c (1 : Int), wt f a b c (2 : Int), wt f a b c (3 : Int), wt f a b c (4 : Int), wt f a b c (5 :
  Int), wt f a b c (6 : Int), wt f a b c (7 : Int), wt f a b c (8 : Int), wt f a b c (9 : Int), wt f a b c (10 : Int), wt f a b c (11 : Int)] (crn x.fst (2 : Nat)))]].length) * (32 :
  Nat) ≤ (140737488355328 : Nat)) then bif decide (rng IntKind.i64 (x.fst + (1 : Int))) then ∃ y, AdrP f a b c y ∧ (adrJ f a b c).m y < (adrJ f a b c).m x ∧ ((0 : Nat) = (0 : Nat) ∧
  (x.snd ++ [[AV.int IntKind.i64 x.fst, AV.int IntKind.i64 (sel [wt f a b c (0 : Int), wt f a b c (1 : Int), wt f a b c (2 : Int), wt f a b c (3 : Int), wt f a b c (4 : Int), wt f a
  b c (5 : Int), wt f a b c (6 : Int), wt f a b c (7 : Int), wt f a b c (8 : Int), wt f a b c (9 : Int), wt f a b c (10 : Int), wt f a b c (11 : Int)] (crn x.fst (0 : Nat))), AV.int
  IntKind.i64 (sel [wt f a b c (0 : Int), wt f a b c (1 : Int), wt f a b c (2 : Int), wt f a b c (3 : Int), wt f a b c (4 : Int), wt f a b c (5 : Int), wt f a b c (6 : Int), wt f a b
  c (7 : Int), wt f a b c (8 : Int), wt f a b c (9 : Int), wt f a b c (10 : Int), wt f a b c (11 : Int)] (crn x.fst (1 : Nat))), AV.int IntKind.i64 (sel [wt f a b c (0 : Int), wt f a
  b c (1 : Int), wt f a b c (2 : Int), wt f a b c (3 : Int), wt f a b c (4 : Int), wt f a b c (5 : Int), wt f a b c (6 : Int), wt f a b c (7 : Int), wt f a b c (8 : Int), wt f a b c
  (9 : Int), wt f a b c (10 : Int), wt f a b c (11 : Int)] (crn x.fst (2 : Nat)))]]).length = y.snd.length ∧ x.fst + (1 : Int) = y.fst ∧ True) ∧ (wt f a b c (0 : Int) = wt f a b c (0
  : Int) ∧ wt f a b c (1 : Int) = wt f a b c (1 : Int) ∧ wt f a b c (2 : Int) = wt f a b c (2 : Int) ∧ wt f a b c (3 : Int) = wt f a b c (3 : Int) ∧ wt f a b c (4 : Int) = wt f a b c
  (4 : Int) ∧ wt f a b c (5 : Int) = wt f a b c (5 : Int) ∧ wt f a b c (6 : Int) = wt f a b c (6 : Int) ∧ wt f a b c (7 : Int) = wt f a b c (7 : Int) ∧ wt f a b c (8 : Int) = wt f a
  b c (8 : Int) ∧ wt f a b c (9 : Int) = wt f a b c (9 : Int) ∧ wt f a b c (10 : Int) = wt f a b c (10 : Int) ∧ wt f a b c (11 : Int) = wt f a b c (11 : Int) ∧ True) ∧ x.snd ++
  [[AV.int IntKind.i64 x.fst, AV.int IntKind.i64 (sel [wt f a b c (0 : Int), wt f a b c (1 : Int), wt f a b c (2 : Int), wt f a b c (3 : Int), wt f a b c (4 : Int), wt f a b c (5 :
  Int), wt f a b c (6 : Int), wt f a b c (7 : Int), wt f a b c (8 : Int), wt f a b c (9 : Int), wt f a b c (10 : Int), wt f a b c (11 : Int)] (crn x.fst (0 : Nat))), AV.int
  IntKind.i64 (sel [wt f a b c (0 : Int), wt f a b c (1 : Int), wt f a b c (2 : Int), wt f a b c (3 : Int), wt f a b c (4 : Int), wt f a b c (5 : Int), wt f a b c (6 : Int), wt f a b
  c (7 : Int), wt f a b c (8 : Int), wt f a b c (9 : Int), wt f a b c (10 : Int), wt f a b c (11 : Int)] (crn x.fst (1 : Nat))), AV.int IntKind.i64 (sel [wt f a b c (0 : Int), wt f a
  b c (1 : Int), wt f a b c (2 : Int), wt f a b c (3 : Int), wt f a b c (4 : Int), wt f a b c (5 : Int), wt f a b c (6 : Int), wt f a b c (7 : Int), wt f a b c (8 : Int), wt f a b c
  (9 : Int), wt f a b c (10 : Int), wt f a b c (11 : Int)] (crn x.fst (2 : Nat)))]] = y.snd ∧ True else False else False else bif decide (rng IntKind.i64 (x.fst + (1 : Int))) then ∃
  y, AdrP f a b c y ∧ (adrJ f a b c).m y < (adrJ f a b c).m x ∧ ((0 : Nat) = (0 : Nat) ∧ x.snd.length = y.snd.length ∧ x.fst + (1 : Int) = y.fst ∧ True) ∧ (wt f a b c (0 : Int) = wt
  f a b c (0 : Int) ∧ wt f a b c (1 : Int) = wt f a b c (1 : Int) ∧ wt f a b c (2 : Int) = wt f a b c (2 : Int) ∧ wt f a b c (3 : Int) = wt f a b c (3 : Int) ∧ wt f a b c (4 : Int) =
  wt f a b c (4 : Int) ∧ wt f a b c (5 : Int) = wt f a b c (5 : Int) ∧ wt f a b c (6 : Int) = wt f a b c (6 : Int) ∧ wt f a b c (7 : Int) = wt f a b c (7 : Int) ∧ wt f a b c (8 :
  Int) = wt f a b c (8 : Int) ∧ wt f a b c (9 : Int) = wt f a b c (9 : Int) ∧ wt f a b c (10 : Int) = wt f a b c (10 : Int) ∧ wt f a b c (11 : Int) = wt f a b c (11 : Int) ∧ True) ∧
  x.snd = y.snd ∧ True else False else bif decide (x.snd.length = x.snd.length) then (True ∧ x.snd = adr f a b c) ∧ (0 : Int) = err (vld f a b c) ∧ True else False
set_option maxRecDepth 100000 in
theorem rAddresses_P : rAddresses_T vld adr := by
  unfold rAddresses_T
  intro gl f a b c h
  refine ⟨trivial, ?_⟩
  unfold adr err
  cases hv : vld f a b c with
  | false => exact ⟨rfl, rfl, trivial⟩
  | true =>
    have v : Vld f a b c := of_decide_eq_true hv
    refine ⟨v.face, ⟨(0, []), ⟨by decide, by decide, rfl⟩, ⟨rfl, rfl, rfl, trivial⟩, ⟨rfl, rfl, rfl, rfl, rfl, rfl, rfl, rfl, rfl, rfl, rfl, rfl, trivial⟩, rfl, trivial⟩, ?_⟩
    rintro ⟨n, xs⟩ ⟨h0, h1, hx⟩
    simp only at h0 h1 hx
    have hlen := adr_len f a b c n.toNat
    rw [← hx] at hlen
    refine csplit (fun hn => ?_) (fun hn => ?_)
    · have hn : n < 20 := of_decide_eq_true hn
      obtain ⟨e0, e1, e2⟩ := sel_wts f a b c ⟨h0, hn⟩
      unfold wts at e0 e1 e2
      simp only [e0, e1, e2]
      refine ⟨⟨h0, hn⟩, ?_⟩
      rw [onS_eq v ⟨h0, hn⟩]
      refine csplit (fun hv => ?_) (fun hv => ?_)
      · have hv : onV f a b c n = true := hv
        simp only [↓cdecF, rng, List.length_singleton]
        refine ⟨⟨by trivial, by omega, by omega⟩, by omega, (n + 1, xs ++ [onRow f a b c n]), ⟨by simp only; omega, by simp only; omega, ?_⟩, by simp only [adrJ]; omega, ⟨by trivial, rfl, rfl, trivial⟩, ?_, rfl, trivial⟩
        · simp only; rw [adr_step h0, if_pos hv, hx]
        · repeat' (first | exact trivial | rfl | apply And.intro)
      · have hv : onV f a b c n = false := hv
        simp only [↓cdecF, rng]
        refine ⟨by omega, (n + 1, xs), ⟨by simp only; omega, by simp only; omega, ?_⟩, by simp only [adrJ]; omega, ⟨by trivial, by trivial, rfl, trivial⟩, ?_, rfl, trivial⟩
        · simp only; rw [adr_step h0, if_neg (by rw [hv]; simp), hx]
        · repeat' (first | exact trivial | rfl | apply And.intro)
    · have hn : ¬ n < 20 := of_decide_eq_false hn
      have : n = 20 := by omega
      subst this
      simp only [↓cdecF]
      exact ⟨by trivial, ⟨trivial, by rw [hx]; rfl⟩, rfl, trivial⟩
def rAddresses_S (vld : Int → Int → Int → Int → Bool) (adr : Int → Int → Int → Int → List (List AV)) : Prop := ∀ (gl : Glob) (f a b c : Int), fnK Tryd.prog { glob := gl, spec := lk [(28, (rValid_s Go.Proofs.YtddmmjkhkoencaaDoor.vld)), (38, rWeights_s), (39, rOn_s)], specH := lk [], nowf := true } { nt := 30, drop := drp [(1, 1536), (3, 12288), (6, 16384), (7, 196608), (8, 16515072), (10, 503316480), (11, 536870912)], emp := fun id => cond (Nat.beq id 5) [(5, 500, 26, 4)] [] } (invs [(6, adrJ f a b c)]) 6 Tryd.f24 [.agg [.int .i64 f, .int .i64 a, .int .i64 b, .int .i64 c]] (.tup [.sl 4 false (adr f a b c), .int .i64 (err (vld f a b c))])
set_option maxRecDepth 100000 in
theorem rAddresses_e (vld : Int → Int → Int → Int → Bool) (adr : Int → Int → Int → Int → List (List AV)) : rAddresses_T vld adr = rAddresses_S vld adr := by kernel_rfl
theorem rAddresses_v : rAddresses_S vld adr := @Eq.mp (rAddresses_T vld adr) (rAddresses_S vld adr) (rAddresses_e vld adr) rAddresses_P
theorem rAddresses_ok (gl : Glob) : SOK Tryd.prog gl 24 (rAddresses_s vld adr) := by
  refine ⟨fok Tryd.func24 (by kernel_rfl) (by kernel_rfl), ?_⟩
  intro xs pre r h hp
  unfold rAddresses_s at h
  split at h
  · simp only [Option.some.injEq, Prod.mk.injEq] at h
    obtain ⟨h1, h2⟩ := h
    subst h1 h2
    exact fnK_sound tyNil (by exact specOK rfl rfl ⟨rValid_ok gl, rWeights_ok gl, rOn_ok gl, trivial⟩ trivial) (by kernel_rfl) Tryd.func24 rfl (rAddresses_v gl _ _ _ _)
  · cases h
def rNormal_s (vld : Int → Int → Int → Int → Bool) (adr : Int → Int → Int → Int → List (List AV)) (nrm : Int → Int → Int → Int → Int × Int × Int × Int) : Sp
  | [.agg [.int .i64 f, .int .i64 a, .int .i64 b, .int .i64 c]] => some (True, .tup [.agg [.int .i64 (nrm f a b c).1, .int .i64 (nrm f a b c).2.1, .int .i64 (nrm f a b c).2.2.1, .int .i64 (nrm f a b c).2.2.2], .int .i64 (err (vld f a b c))])
  | _ => none
set_option maxRecDepth 100000 in
def rNormal_T (vld : Int → Int → Int → Int → Bool) (adr : Int → Int → Int → Int → List (List AV)) (nrm : Int → Int → Int → Int → Int × Int × Int × Int) : Prop :=
  ∀ (gl : Glob) (f a b c : Int), ((-9223372036854775808 : Int) ≤ f ∧ f ≤ (9223372036854775807 : Int)) ∧ ((-9223372036854775808 : Int) ≤ a ∧ a ≤ (9223372036854775807 : Int)) ∧
  ((-9223372036854775808 : Int) ≤ b ∧ b ≤ (9223372036854775807 : Int)) ∧ ((-9223372036854775808 : Int) ≤ c ∧ c ≤ (9223372036854775807 : Int)) ∧ True → True ∧ bif decide ¬err (vld f a
  b c) = (0 : Int) then ((0 : Int) = (nrm f a b c).fst ∧ (0 : Int) = (nrm f a b c).snd.fst ∧ (0 : Int) = (nrm f a b c).snd.snd.fst ∧ (0 : Int) = (nrm f a b c).snd.snd.snd ∧ True) ∧
  err (vld f a b c) = err (vld f a b c) ∧ True else bif decide ((0 : Int) ≤ (0 : Int) ∧ (0 : Int) < (↑(adr f a b c).length : Int)) then ∃ n n_1 n_2 n_3, List.take [AV.int IntKind.i64
  n, AV.int IntKind.i64 n_1, AV.int IntKind.i64 n_2, AV.int IntKind.i64 n_3].length ((adr f a b c).getD (0 : Nat) []) = [AV.int IntKind.i64 n, AV.int IntKind.i64 n_1, AV.int
  IntKind.i64 n_2, AV.int IntKind.i64 n_3] ∧ (n = (nrm f a b c).fst ∧ n_1 = (nrm f a b c).snd.fst ∧ n_2 = (nrm f a b c).snd.snd.fst ∧ n_3 = (nrm f a b c).snd.snd.snd ∧ True) ∧ (0 :
  Int) = err (vld f a b c) ∧ True else False
set_option maxRecDepth 100000 in
theorem rNormal_P : rNormal_T vld adr nrm := by
  unfold rNormal_T
  intro gl f a b c h
  refine ⟨trivial, ?_⟩
  cases hv : vld f a b c with
  | false =>
    have e : nrm f a b c = (0, 0, 0, 0) := by unfold nrm; rw [hv]; rfl
    rw [e]
    exact cd1 (by decide) ⟨⟨rfl, rfl, rfl, rfl, trivial⟩, rfl, trivial⟩
  | true =>
    have v : Vld f a b c := of_decide_eq_true hv
    obtain ⟨l, hl⟩ := adr_rows v
    have hh := hl.head
    have hp : 0 < l.length := by
      cases l with
      | nil => cases hh
      | cons x l => simp
    have e0 : (adr f a b c).getD 0 [] = encP (nrm f a b c) := by
      rw [hl.adr, List.getD_eq_getElem?_getD, List.getElem?_map, hh]; rfl
    refine cd0 (by decide) (cd1 ⟨by decide, by rw [hl.adr, List.length_map]; omega⟩ ⟨_, _, _, _, by rw [e0]; rfl, ⟨rfl, rfl, rfl, rfl, trivial⟩, rfl, trivial⟩)
def rNormal_S (vld : Int → Int → Int → Int → Bool) (adr : Int → Int → Int → Int → List (List AV)) (nrm : Int → Int → Int → Int → Int × Int × Int × Int) : Prop := ∀ (gl : Glob) (f a b c : Int), fnK Tryd.prog { glob := gl, spec := lk [(24, (rAddresses_s vld adr))], specH := lk [], shape := [17], nowf := true } { nt := 18, drop := drp [(1, 1984), (2, 2048), (3, 24576), (4, 229376)] } (fun _ _ => none) 6 Tryd.f23 [.agg [.int .i64 f, .int .i64 a, .int .i64 b, .int .i64 c]] (.tup [.agg [.int .i64 (nrm f a b c).1, .int .i64 (nrm f a b c).2.1, .int .i64 (nrm f a b c).2.2.1, .int .i64 (nrm f a b c).2.2.2], .int .i64 (err (vld f a b c))])
set_option maxRecDepth 100000 in
theorem rNormal_e (vld : Int → Int → Int → Int → Bool) (adr : Int → Int → Int → Int → List (List AV)) (nrm : Int → Int → Int → Int → Int × Int × Int × Int) : rNormal_T vld adr nrm = rNormal_S vld adr nrm := by kernel_rfl
theorem rNormal_v : rNormal_S vld adr nrm := @Eq.mp (rNormal_T vld adr nrm) (rNormal_S vld adr nrm) (rNormal_e vld adr nrm) rNormal_P
theorem rNormal_ok (gl : Glob) : SOK Tryd.prog gl 23 (rNormal_s vld adr nrm) := by
  refine ⟨fok Tryd.func23 (by kernel_rfl) (by kernel_rfl), ?_⟩
  intro xs pre r h hp
  unfold rNormal_s at h
  split at h
  · simp only [Option.some.injEq, Prod.mk.injEq] at h
    obtain ⟨h1, h2⟩ := h
    subst h1 h2
    exact fnK_sound tyNil (by exact specOK rfl rfl ⟨rAddresses_ok gl, trivial⟩ trivial) (by kernel_rfl) Tryd.func23 rfl (rNormal_v gl _ _ _ _)
  · cases h
def rSame_s (vld : Int → Int → Int → Int → Bool) (sameW : Int → Int → Int → Int → Int → Int → Int → Int → Bool) : Sp
  | [.agg [.int .i64 f, .int .i64 a, .int .i64 b, .int .i64 c], .agg [.int .i64 f', .int .i64 a', .int .i64 b', .int .i64 c']] => some (True, .bool (vld f a b c && vld f' a' b' c' && sameW f a b c f' a' b' c'))
  | _ => none
set_option maxRecDepth 100000 in
def rSame_T (vld : Int → Int → Int → Int → Bool) (sameW : Int → Int → Int → Int → Int → Int → Int → Int → Bool) : Prop :=
  ∀ (gl : Glob) (f a b c f' a' b' c' : Int), ((-9223372036854775808 : Int) ≤ f ∧ f ≤ (9223372036854775807 : Int)) ∧ ((-9223372036854775808 : Int) ≤ a ∧ a ≤ (9223372036854775807 :
  Int)) ∧ ((-9223372036854775808 : Int) ≤ b ∧ b ≤ (9223372036854775807 : Int)) ∧ ((-9223372036854775808 : Int) ≤ c ∧ c ≤ (9223372036854775807 : Int)) ∧ True → ((-9223372036854775808
  : Int) ≤ f' ∧ f' ≤ (9223372036854775807 : Int)) ∧ ((-9223372036854775808 : Int) ≤ a' ∧ a' ≤ (9223372036854775807 : Int)) ∧ ((-9223372036854775808 : Int) ≤ b' ∧ b' ≤
  (9223372036854775807 : Int)) ∧ ((-9223372036854775808 : Int) ≤ c' ∧ c' ≤ (9223372036854775807 : Int)) ∧ True → True ∧ bif YtddmmjkhkoencaaDoor.vld f a b c then True ∧ bif
  YtddmmjkhkoencaaDoor.vld f' a' b' c' then ((0 : Int) ≤ f ∧ f < (20 : Int)) ∧ ((0 : Int) ≤ f' ∧ f' < (20 : Int)) ∧ (decide (wt f a b c (0 : Int) = wt f' a' b' c' (0 : Int)) &&
  (decide (wt f a b c (1 : Int) = wt f' a' b' c' (1 : Int)) && (decide (wt f a b c (2 : Int) = wt f' a' b' c' (2 : Int)) && (decide (wt f a b c (3 : Int) = wt f' a' b' c' (3 : Int))
  && (decide (wt f a b c (4 : Int) = wt f' a' b' c' (4 : Int)) && (decide (wt f a b c (5 : Int) = wt f' a' b' c' (5 : Int)) && (decide (wt f a b c (6 : Int) = wt f' a' b' c' (6 :
  Int)) && (decide (wt f a b c (7 : Int) = wt f' a' b' c' (7 : Int)) && (decide (wt f a b c (8 : Int) = wt f' a' b' c' (8 : Int)) && (decide (wt f a b c (9 : Int) = wt f' a' b' c' (9
  : Int)) && (decide (wt f a b c (10 : Int) = wt f' a' b' c' (10 : Int)) && (decide (wt f a b c (11 : Int) = wt f' a' b' c' (11 : Int)) && true)))))))))))) = (vld f a b c && vld f'
  a' b' c' && sameW f a b c f' a' b' c') else false = (vld f a b c && vld f' a' b' c' && sameW f a b c f' a' b' c') else false = (vld f a b c && vld f' a' b' c' && sameW f a b c f'
  a' b' c')
set_option maxRecDepth 100000 in
theorem rSame_P : rSame_T vld sameW := by
  unfold rSame_T
  intro gl f a b c f' a' b' c' h h'
  refine ⟨trivial, ?_⟩
  cases h1 : vld f a b c with
  | false => simp only [cond_true, cond_false, Bool.false_and]; repeat' (first | exact trivial | rfl | apply And.intro)
  | true =>
    cases h2 : vld f' a' b' c' with
    | false => simp only [cond_true, cond_false, Bool.false_and, Bool.and_false]; repeat' (first | exact trivial | rfl | apply And.intro)
    | true =>
      have v1 : Vld f a b c := of_decide_eq_true h1
      have v2 : Vld f' a' b' c' := of_decide_eq_true h2
      simp only [cond_true, cond_false, Bool.true_and]
      refine ⟨trivial, v1.face, v2.face, ?_⟩
      unfold sameW wts
      rw [Bool.eq_iff_iff]
      simp only [Bool.and_eq_true, decide_eq_true_eq, List.cons.injEq, and_true]
def rSame_S (vld : Int → Int → Int → Int → Bool) (sameW : Int → Int → Int → Int → Int → Int → Int → Int → Bool) : Prop := ∀ (gl : Glob) (f a b c f' a' b' c' : Int), fnK Tryd.prog { glob := gl, spec := lk [(28, (rValid_s Go.Proofs.YtddmmjkhkoencaaDoor.vld)), (38, rWeights_s)], specH := lk [] } { nt := 18, drop := drp [(1, 262112)], tys := [48] } (fun _ _ => none) 6 Tryd.f29 [.agg [.int .i64 f, .int .i64 a, .int .i64 b, .int .i64 c], .agg [.int .i64 f', .int .i64 a', .int .i64 b', .int .i64 c']] (.bool (vld f a b c && vld f' a' b' c' && sameW f a b c f' a' b' c'))
set_option maxRecDepth 100000 in
theorem rSame_e (vld : Int → Int → Int → Int → Bool) (sameW : Int → Int → Int → Int → Int → Int → Int → Int → Bool) : rSame_T vld sameW = rSame_S vld sameW := by kernel_rfl
theorem rSame_v : rSame_S vld sameW := @Eq.mp (rSame_T vld sameW) (rSame_S vld sameW) (rSame_e vld sameW) rSame_P
theorem rSame_ok (gl : Glob) : SOK Tryd.prog gl 29 (rSame_s vld sameW) := by
  refine ⟨fok Tryd.func29 (by kernel_rfl) (by kernel_rfl), ?_⟩
  intro xs pre r h hp
  unfold rSame_s at h
  split at h
  · simp only [Option.some.injEq, Prod.mk.injEq] at h
    obtain ⟨h1, h2⟩ := h
    subst h1 h2
    exact fnK_sound (tyOf (by kernel_rfl)) (by exact specOK rfl rfl ⟨rValid_ok gl, rWeights_ok gl, trivial⟩ trivial) (by kernel_rfl) Tryd.func29 rfl (rSame_v gl _ _ _ _ _ _ _ _)
  · cases h
def hasN (f v : Int) : Nat → Bool
  | 0 => false
  | 1 => decide (crn f 0 = v)
  | 2 => decide (crn f 0 = v) || decide (crn f 1 = v)
  | _ => decide (crn f 0 = v) || decide (crn f 1 = v) || decide (crn f 2 = v)
theorem has_step (f v : Int) {m : Nat} (h : m < 3) : hasN f v (m + 1) = (hasN f v m || decide (sel3 (crn f 0) (crn f 1) (crn f 2) m = v)) := by
  have : m = 0 ∨ m = 1 ∨ m = 2 := by omega
  rcases this with rfl | rfl | rfl <;> rfl
def hit (n A B f : Int) : Bool := hasN f A 3 && hasN f B 3 && decide (¬ f = n)
def acA (n c : Int) : Int := sel3 (crn n 0) (crn n 1) (crn n 2) ((c + 1).tmod 3).toNat
def acB (n c : Int) : Int := sel3 (crn n 0) (crn n 1) (crn n 2) ((c + 2).tmod 3).toNat
theorem acr_find : (fcs.all fun n => [0, 1, 2].all fun c => decide (0 ≤ acrF n c) && decide (acrF n c < 20) && hit n (acA n c) (acB n c) (acrF n c) && fcs.all fun f => decide (acrF n c ≤ f) || !hit n (acA n c) (acB n c) f) = true := by decide +kernel
structure AcrW (n c : Int) : Prop where
  rg : 0 ≤ acrF n c ∧ acrF n c < 20
  ht : hit n (acA n c) (acB n c) (acrF n c) = true
  fst : ∀ f, 0 ≤ f → f < acrF n c → hit n (acA n c) (acB n c) f = false
theorem acr_w {n c : Int} (hn : 0 ≤ n ∧ n < 20) (hc : 0 ≤ c ∧ c < 3) : AcrW n c := by
  have h := acr_find
  rw [List.all_eq_true] at h
  have h := h n (mem_fcs hn)
  rw [List.all_eq_true] at h
  have h := h c (by simp only [List.mem_cons, List.not_mem_nil, or_false]; omega)
  simp only [Bool.and_eq_true, decide_eq_true_eq] at h
  refine ⟨h.1.1, h.1.2, fun f h0 h1 => ?_⟩
  have h2 := h.2
  rw [List.all_eq_true] at h2
  have h2 := h2 f (mem_fcs ⟨h0, by omega⟩)
  simp only [Bool.or_eq_true, decide_eq_true_eq, Bool.not_eq_true'] at h2
  rcases h2 with h2 | h2
  · omega
  · exact h2
structure RaoP (n A B f : Int) : Prop where
  lo : 0 ≤ f
  hi : f ≤ 20
  no : ∀ g, 0 ≤ g → g < f → hit n A B g = false
structure RaiP (A B f : Int) (x : Int × Bool × Bool) : Prop where
  lo : 0 ≤ x.1
  hi : x.1 ≤ 3
  a : x.2.1 = hasN f A x.1.toNat
  b : x.2.2 = hasN f B x.1.toNat
structure OneP (x : Unit) : Prop where
  t : True
def racC (n A B : Int) : LInv := ⟨Unit, fun _ => ⟨[(0, .int .i64 n), (8, .int .i64 A), (9, .int .i64 B)], []⟩, OneP, fun _ => 0, none⟩
def racO (n A B : Int) : LInv := ⟨Int, fun f => ⟨[(0, .int .i64 n), (8, .int .i64 A), (9, .int .i64 B), (10, .int .i64 f)], []⟩, RaoP n A B, fun f => (20 - f).toNat, none⟩
def racI (crn : Int → Nat → Int) (n A B f : Int) : LInv := ⟨Int × Bool × Bool, fun x => ⟨[(0, .int .i64 n), (8, .int .i64 A), (9, .int .i64 B), (10, .int .i64 f), (11, .ptr 11 0), (13, .bool x.2.1), (14, .bool x.2.2), (15, .int .i64 x.1)], [(11, .cells [.int .i64 (crn f 0), .int .i64 (crn f 1), .int .i64 (crn f 2)])]⟩, RaiP A B f, fun x => (3 - x.1).toNat, none⟩
def rAcrossV_s (fac : Int → Bool) (crn : Int → Nat → Int) (acrF : Int → Int → Int) (acA : Int → Int → Int) (acB : Int → Int → Int) : Sp
  | [.int .i64 n, .int .i64 c] => some ((0 ≤ n ∧ n < 20) ∧ 0 ≤ c ∧ c < 3, .tup [.int .i64 (acrF n c), .int .i64 0])
  | _ => none
set_option maxRecDepth 100000 in
def rAcrossV_T (fac : Int → Bool) (crn : Int → Nat → Int) (acrF : Int → Int → Int) (acA : Int → Int → Int) (acB : Int → Int → Int) : Prop :=
  ∀ (gl : Glob) (n c : Int), ((0 : Int) ≤ n ∧ n < (20 : Int)) ∧ (0 : Int) ≤ c ∧ c < (3 : Int) → (-9223372036854775808 : Int) ≤ n ∧ n ≤ (9223372036854775807 : Int) →
  (-9223372036854775808 : Int) ≤ c ∧ c ≤ (9223372036854775807 : Int) → True ∧ bif decide ¬(if fac n = true then (0 : Int) else (1 : Int)) = (0 : Int) then (0 : Int) = acrF n c ∧ (1 :
  Int) = (0 : Int) ∧ True else bif decide (c < (0 : Int)) then (0 : Int) = acrF n c ∧ (1 : Int) = (0 : Int) ∧ True else bif decide ((2 : Int) < c) then (0 : Int) = acrF n c ∧ (1 :
  Int) = (0 : Int) ∧ True else (bif decide (rng IntKind.i64 (c + (1 : Int))) then bif decide ((0 : Int) ≤ (c + (1 : Int)).tmod (3 : Int) ∧ (c + (1 : Int)).tmod (3 : Int) < (3 : Int))
  then ∃ n_1, List.take [AV.int IntKind.i64 n_1].length (List.drop ((0 : Nat) + ((c + (1 : Int)).tmod (3 : Int)).toNat * (1 : Nat)) [AV.int IntKind.i64 (if fac n = true then crn n (0
  : Nat) else (0 : Int)), AV.int IntKind.i64 (if fac n = true then crn n (1 : Nat) else (0 : Int)), AV.int IntKind.i64 (if fac n = true then crn n (2 : Nat) else (0 : Int))]) =
  [AV.int IntKind.i64 n_1] ∧ bif decide (rng IntKind.i64 (c + (2 : Int))) then bif decide ((0 : Int) ≤ (c + (2 : Int)).tmod (3 : Int) ∧ (c + (2 : Int)).tmod (3 : Int) < (3 : Int))
  then ∃ n_2, List.take [AV.int IntKind.i64 n_2].length (List.drop ((0 : Nat) + ((c + (2 : Int)).tmod (3 : Int)).toNat * (1 : Nat)) [AV.int IntKind.i64 (if fac n = true then crn n (0
  : Nat) else (0 : Int)), AV.int IntKind.i64 (if fac n = true then crn n (1 : Nat) else (0 : Int)), AV.int IntKind.i64 (if fac n = true then crn n (2 : Nat) else (0 : Int))]) =
  [AV.int IntKind.i64 n_2] ∧ ∃ x, OneP x ∧ (n = n ∧ n_1 = acA n c ∧ n_2 = acB n c ∧ True) ∧ True else False else False else False else False) ∧ ∀ (x : PUnit), OneP x → (∃ x, RaoP n
  (acA n c) (acB n c) x ∧ (n = n ∧ acA n c = acA n c ∧ acB n c = acB n c ∧ (0 : Int) = x ∧ True) ∧ True) ∧ ∀ (x : Int), RaoP n (acA n c) (acB n c) x → bif decide (x < (20 : Int))
  then True ∧ (∃ x_1, RaiP (acA n c) (acB n c) x x_1 ∧ (n = n ∧ acA n c = acA n c ∧ acB n c = acB n c ∧ x = x ∧ (0 : Nat) = (0 : Nat) ∧ false = x_1.snd.fst ∧ false = x_1.snd.snd ∧ (0
  : Int) = x_1.fst ∧ True) ∧ ((if fac x = true then crn x (0 : Nat) else (0 : Int)) = crn x (0 : Nat) ∧ (if fac x = true then crn x (1 : Nat) else (0 : Int)) = crn x (1 : Nat) ∧ (if
  fac x = true then crn x (2 : Nat) else (0 : Int)) = crn x (2 : Nat) ∧ True) ∧ True) ∧ ∀ (x_1 : Int × Bool × Bool), RaiP (acA n c) (acB n c) x x_1 → bif decide (x_1.fst < (3 : Int))
  then bif x_1.snd.fst then bif x_1.snd.snd then bif decide (rng IntKind.i64 (x_1.fst + (1 : Int))) then ∃ y, RaiP (acA n c) (acB n c) x y ∧ ((fun f => racI crn n (acA n c) (acB n c)
  f) x).m y < ((fun f => racI crn n (acA n c) (acB n c) f) x).m x_1 ∧ (n = n ∧ acA n c = acA n c ∧ acB n c = acB n c ∧ x = x ∧ (0 : Nat) = (0 : Nat) ∧ true = y.snd.fst ∧ true =
  y.snd.snd ∧ x_1.fst + (1 : Int) = y.fst ∧ True) ∧ (crn x (0 : Nat) = crn x (0 : Nat) ∧ crn x (1 : Nat) = crn x (1 : Nat) ∧ crn x (2 : Nat) = crn x (2 : Nat) ∧ True) ∧ True else
  False else bif decide ((0 : Int) ≤ x_1.fst ∧ x_1.fst < (3 : Int)) then ∃ n_1, List.take [AV.int IntKind.i64 n_1].length (List.drop ((0 : Nat) + x_1.fst.toNat * (1 : Nat)) [AV.int
  IntKind.i64 (crn x (0 : Nat)), AV.int IntKind.i64 (crn x (1 : Nat)), AV.int IntKind.i64 (crn x (2 : Nat))]) = [AV.int IntKind.i64 n_1] ∧ bif decide (rng IntKind.i64 (x_1.fst + (1 :
  Int))) then ∃ y, RaiP (acA n c) (acB n c) x y ∧ ((fun f => racI crn n (acA n c) (acB n c) f) x).m y < ((fun f => racI crn n (acA n c) (acB n c) f) x).m x_1 ∧ (n = n ∧ acA n c = acA
  n c ∧ acB n c = acB n c ∧ x = x ∧ (0 : Nat) = (0 : Nat) ∧ true = y.snd.fst ∧ decide (n_1 = acB n c) = y.snd.snd ∧ x_1.fst + (1 : Int) = y.fst ∧ True) ∧ (crn x (0 : Nat) = crn x (0
  : Nat) ∧ crn x (1 : Nat) = crn x (1 : Nat) ∧ crn x (2 : Nat) = crn x (2 : Nat) ∧ True) ∧ True else False else False else bif decide ((0 : Int) ≤ x_1.fst ∧ x_1.fst < (3 : Int)) then
  ∃ n_1, List.take [AV.int IntKind.i64 n_1].length (List.drop ((0 : Nat) + x_1.fst.toNat * (1 : Nat)) [AV.int IntKind.i64 (crn x (0 : Nat)), AV.int IntKind.i64 (crn x (1 : Nat)),
  AV.int IntKind.i64 (crn x (2 : Nat))]) = [AV.int IntKind.i64 n_1] ∧ bif x_1.snd.snd then bif decide (rng IntKind.i64 (x_1.fst + (1 : Int))) then ∃ y, RaiP (acA n c) (acB n c) x y ∧
  ((fun f => racI crn n (acA n c) (acB n c) f) x).m y < ((fun f => racI crn n (acA n c) (acB n c) f) x).m x_1 ∧ (n = n ∧ acA n c = acA n c ∧ acB n c = acB n c ∧ x = x ∧ (0 : Nat) =
  (0 : Nat) ∧ decide (n_1 = acA n c) = y.snd.fst ∧ true = y.snd.snd ∧ x_1.fst + (1 : Int) = y.fst ∧ True) ∧ (crn x (0 : Nat) = crn x (0 : Nat) ∧ crn x (1 : Nat) = crn x (1 : Nat) ∧
  crn x (2 : Nat) = crn x (2 : Nat) ∧ True) ∧ True else False else bif decide ((0 : Int) ≤ x_1.fst ∧ x_1.fst < (3 : Int)) then ∃ n_2, List.take [AV.int IntKind.i64 n_2].length
  (List.drop ((0 : Nat) + x_1.fst.toNat * (1 : Nat)) [AV.int IntKind.i64 (crn x (0 : Nat)), AV.int IntKind.i64 (crn x (1 : Nat)), AV.int IntKind.i64 (crn x (2 : Nat))]) = [AV.int
  IntKind.i64 n_2] ∧ bif decide (rng IntKind.i64 (x_1.fst + (1 : Int))) then ∃ y, RaiP (acA n c) (acB n c) x y ∧ ((fun f => racI crn n (acA n c) (acB n c) f) x).m y < ((fun f => racI
  crn n (acA n c) (acB n c) f) x).m x_1 ∧ (n = n ∧ acA n c = acA n c ∧ acB n c = acB n c ∧ x = x ∧ (0 : Nat) = (0 : Nat) ∧ decide (n_1 = acA n c) = y.snd.fst ∧ decide (n_2 = acB n c)
  = y.snd.snd ∧ x_1.fst + (1 : Int) = y.fst ∧ True) ∧ (crn x (0 : Nat) = crn x (0 : Nat) ∧ crn x (1 : Nat) = crn x (1 : Nat) ∧ crn x (2 : Nat) = crn x (2 : Nat) ∧ True) ∧ True else
  False else False else False else bif x_1.snd.fst then bif x_1.snd.snd then bif decide ¬x = n then x = acrF n c ∧ (0 : Int) = (0 : Int) ∧ True else bif decide (rng IntKind.i64 (x +
  (1 : Int))) then ∃ y, RaoP n (acA n c) (acB n c) y ∧ (racO n (acA n c) (acB n c)).m y < (racO n (acA n c) (acB n c)).m x ∧ (n = n ∧ acA n c = acA n c ∧ acB n c = acB n c ∧ x + (1 :
  Int) = y ∧ True) ∧ True else False else bif decide (rng IntKind.i64 (x + (1 : Int))) then ∃ y, RaoP n (acA n c) (acB n c) y ∧ (racO n (acA n c) (acB n c)).m y < (racO n (acA n c)
  (acB n c)).m x ∧ (n = n ∧ acA n c = acA n c ∧ acB n c = acB n c ∧ x + (1 : Int) = y ∧ True) ∧ True else False else bif decide (rng IntKind.i64 (x + (1 : Int))) then ∃ y, RaoP n
  (acA n c) (acB n c) y ∧ (racO n (acA n c) (acB n c)).m y < (racO n (acA n c) (acB n c)).m x ∧ (n = n ∧ acA n c = acA n c ∧ acB n c = acB n c ∧ x + (1 : Int) = y ∧ True) ∧ True else
  False else (0 : Int) = acrF n c ∧ (0 : Int) = (0 : Int) ∧ True
set_option maxRecDepth 100000 in
theorem rAcrossV_P : rAcrossV_T fac crn acrF acA acB := by
  unfold rAcrossV_T
  intro gl n c ⟨hn0, hc0⟩ hn hc
  have hw := acr_w hn0 hc0
  have fT : ∀ f : Int, 0 ≤ f ∧ f < 20 → fac f = true := fun f h => decide_eq_true h
  have hA : acA n c = sel3 (crn n 0) (crn n 1) (crn n 2) ((c + 1).tmod 3).toNat := rfl
  have hB : acB n c = sel3 (crn n 0) (crn n 1) (crn n 2) ((c + 2).tmod 3).toNat := rfl
  obtain ⟨w1, w2, w3⟩ := hw
  generalize acA n c = A at *
  generalize acB n c = B at *
  have t1 : 0 ≤ (c + 1).tmod 3 ∧ (c + 1).tmod 3 < 3 := by rw [Int.tmod_eq_emod_of_nonneg (by omega)]; omega
  have t2 : 0 ≤ (c + 2).tmod 3 ∧ (c + 2).tmod 3 < 3 := by rw [Int.tmod_eq_emod_of_nonneg (by omega)]; omega
  rw [fT n hn0]
  simp only [if_true]
  refine ⟨trivial, cd0 (by decide) (cd0 (by omega) (cd0 (by omega) ⟨cdI (by omega) (cd1 t1 ⟨_, pick3 _ _ _ t1.1 t1.2, cdI (by omega) (cd1 t2 ⟨_, pick3 _ _ _ t2.1 t2.2, (), ⟨trivial⟩, ⟨trivial, hA.symm, hB.symm, trivial⟩, trivial⟩)⟩), ?_⟩))⟩
  rintro u _
  refine ⟨⟨0, ⟨by decide, by decide, fun g h0 h1 => by omega⟩, ⟨trivial, trivial, trivial, rfl, trivial⟩, trivial⟩, ?_⟩
  rintro f ⟨f0, f1, fno⟩
  refine cs (fun hf => ?_) (fun hf => ?_)
  · rw [fT f ⟨f0, hf⟩]
    simp only [if_true]
    refine ⟨trivial, ⟨(0, false, false), ⟨by decide, by decide, rfl, rfl⟩, ?_, ?_, trivial⟩, ?_⟩
    · repeat' (first | apply And.intro | exact trivial | exact rfl)
    · repeat' (first | apply And.intro | exact trivial | exact rfl)
    rintro ⟨m, x, y⟩ ⟨m0, m1, ha, hb⟩
    simp only at m0 m1 ha hb
    have em : (m + 1).toNat = m.toNat + 1 := by omega
    refine cs (fun hm => ?_) (fun hm => ?_)
    · have hm : m < 3 := hm
      have hk : m.toNat < 3 := by omega
      have sa := has_step f A hk
      have sb := has_step f B hk
      rw [← em] at sa sb
      rw [← ha] at sa
      rw [← hb] at sb
      dsimp only
      have nxt : ∀ x' y', x' = hasN f A (m + 1).toNat → y' = hasN f B (m + 1).toNat → RaiP A B f (m + 1, x', y') := fun x' y' e1 e2 => ⟨by dsimp only; omega, by dsimp only; omega, e1, e2⟩
      have hmm : ∀ x' y', (racI crn n A B f).m (m + 1, x', y') < (racI crn n A B f).m (m, x, y) := fun x' y' => by simp only [racI]; omega
      cases x with
      | true =>
        rw [Bool.true_or] at sa
        cases y with
        | true =>
          rw [Bool.true_or] at sb
          exact cdI (by omega) ⟨(m + 1, true, true), nxt _ _ sa.symm sb.symm, hmm _ _, by repeat' (first | apply And.intro | exact trivial | exact rfl)⟩
        | false =>
          rw [Bool.false_or] at sb
          exact cd1 ⟨m0, hm⟩ ⟨_, pick3 _ _ _ m0 hm, cdI (by omega) ⟨(m + 1, true, _), nxt _ _ sa.symm sb.symm, hmm _ _, by repeat' (first | apply And.intro | exact trivial | exact rfl)⟩⟩
      | false =>
        rw [Bool.false_or] at sa
        refine cd1 ⟨m0, hm⟩ ⟨_, pick3 _ _ _ m0 hm, ?_⟩
        cases y with
        | true =>
          rw [Bool.true_or] at sb
          exact cdI (by omega) ⟨(m + 1, _, true), nxt _ _ sa.symm sb.symm, hmm _ _, by repeat' (first | apply And.intro | exact trivial | exact rfl)⟩
        | false =>
          rw [Bool.false_or] at sb
          exact cd1 ⟨m0, hm⟩ ⟨_, pick3 _ _ _ m0 hm, cdI (by omega) ⟨(m + 1, _, _), nxt _ _ sa.symm sb.symm, hmm _ _, by repeat' (first | apply And.intro | exact trivial | exact rfl)⟩⟩
    · have hm : m.toNat = 3 := by have : ¬ m < 3 := hm; omega
      rw [hm] at ha hb
      have hh : hit n A B f = (x && y && decide (¬ f = n)) := by unfold hit; rw [ha, hb]
      have nx : hit n A B f = false → RaoP n A B (f + 1) := fun e => ⟨by omega, by omega, fun g h0 h1 => by
        rcases Int.lt_or_le g f with q | q
        · exact fno g h0 q
        · have : g = f := by omega
          rw [this]; exact e⟩
      have hmo : (racO n A B).m (f + 1) < (racO n A B).m f := by simp only [racO]; omega
      dsimp only
      cases x with
      | true =>
        cases y with
        | true =>
          refine cs (fun q => ⟨?_, by trivial, trivial⟩) (fun q => cdI (by omega) ⟨f + 1, nx (by rw [hh, decide_eq_false q]; rfl), hmo, by repeat' (first | apply And.intro | exact trivial | exact rfl)⟩)
          have ht : hit n A B f = true := by rw [hh, decide_eq_true q]; rfl
          rcases Int.lt_trichotomy f (acrF n c) with k | k | k
          · rw [w3 f f0 k] at ht; cases ht
          · exact k
          · rw [fno _ w1.1 k] at w2; cases w2
        | false => exact cdI (by omega) ⟨f + 1, nx (by rw [hh]; rfl), hmo, by repeat' (first | apply And.intro | exact trivial | exact rfl)⟩
      | false => exact cdI (by omega) ⟨f + 1, nx (by rw [hh]; rfl), hmo, by repeat' (first | apply And.intro | exact trivial | exact rfl)⟩
  · rw [fno _ w1.1 (by omega)] at w2; cases w2
def rAcrossV_S (fac : Int → Bool) (crn : Int → Nat → Int) (acrF : Int → Int → Int) (acA : Int → Int → Int) (acB : Int → Int → Int) : Prop := ∀ (gl : Glob) (n c : Int), (0 ≤ n ∧ n < 20) ∧ 0 ≤ c ∧ c < 3 → fnK Tryd.prog { glob := gl, spec := lk [(30, (rCorners_s fac crn))], specH := lk [], shape := [35, 40, 58, 66], nowf := true } { nt := 80, drop := drp [(1, 2031616), (2, 1071644672), (4, 2196875771904), (6, 2199023255552), (7, 26388279066624), (8, 1090715534753792), (11, 1125899906842624), (12, 13510798882111488), (13, 1180573606318901821440), (14, 301050863282939882373120), (15, 604462909807314587353088)] } (fun id st => cond (Nat.beq id 100005) (some (racC n (acA n c) (acB n c))) (cond (Nat.beq id 6) (some (racO n (acA n c) (acB n c))) (invsN [(11, 10, fun f => racI crn n (acA n c) (acB n c) f)] id st))) 6 Tryd.f31 [.int .i64 n, .int .i64 c] (.tup [.int .i64 (acrF n c), .int .i64 0])
set_option maxRecDepth 100000 in
theorem rAcrossV_e (fac : Int → Bool) (crn : Int → Nat → Int) (acrF : Int → Int → Int) (acA : Int → Int → Int) (acB : Int → Int → Int) : rAcrossV_T fac crn acrF acA acB = rAcrossV_S fac crn acrF acA acB := by kernel_rfl
theorem rAcrossV_v : rAcrossV_S fac crn acrF acA acB := @Eq.mp (rAcrossV_T fac crn acrF acA acB) (rAcrossV_S fac crn acrF acA acB) (rAcrossV_e fac crn acrF acA acB) rAcrossV_P
theorem rAcrossV_ok (gl : Glob) : SOK Tryd.prog gl 31 (rAcrossV_s fac crn acrF acA acB) := by
  refine ⟨fok Tryd.func31 (by kernel_rfl) (by kernel_rfl), ?_⟩
  intro xs pre r h hp
  unfold rAcrossV_s at h
  split at h
  · simp only [Option.some.injEq, Prod.mk.injEq] at h
    obtain ⟨h1, h2⟩ := h
    subst h1 h2
    exact fnK_sound tyNil (by exact specOK rfl rfl ⟨rCorners_ok gl, trivial⟩ trivial) (by kernel_rfl) Tryd.func31 rfl (rAcrossV_v gl _ _ hp)
  · cases h
def rAcrossX_s (fac : Int → Bool) (crn : Int → Nat → Int) : Sp
  | [.int .i64 n, .int .i64 c] => some (¬ ((0 ≤ n ∧ n < 20) ∧ 0 ≤ c ∧ c < 3), .tup [.int .i64 0, .int .i64 1])
  | _ => none
set_option maxRecDepth 100000 in
def rAcrossX_T (fac : Int → Bool) (crn : Int → Nat → Int) : Prop :=
  ∀ (gl : Glob) (n c : Int), ¬(((0 : Int) ≤ n ∧ n < (20 : Int)) ∧ (0 : Int) ≤ c ∧ c < (3 : Int)) → (-9223372036854775808 : Int) ≤ n ∧ n ≤ (9223372036854775807 : Int) →
  (-9223372036854775808 : Int) ≤ c ∧ c ≤ (9223372036854775807 : Int) → True ∧ (bif decide ¬(if fac n = true then (0 : Int) else (1 : Int)) = (0 : Int) then (0 : Int) = (0 : Int) ∧ (1
  : Int) = (1 : Int) ∧ True else bif decide (c < (0 : Int)) then (0 : Int) = (0 : Int) ∧ (1 : Int) = (1 : Int) ∧ True else bif decide ((2 : Int) < c) then (0 : Int) = (0 : Int) ∧ (1
  : Int) = (1 : Int) ∧ True else ∃ x, NoP x ∧ True ∧ True) ∧ ∀ (x : PUnit), NoP x → False
set_option maxRecDepth 100000 in
theorem rAcrossX_P : rAcrossX_T fac crn := by
  unfold rAcrossX_T
  intro gl n c hv hn hc
  refine ⟨trivial, ?_, fun _ h => h.f.elim⟩
  cases hf : fac n with
  | false => exact cd1 (by decide) ⟨rfl, rfl, trivial⟩
  | true =>
    have hf : 0 ≤ n ∧ n < 20 := of_decide_eq_true hf
    exact cd0 (by decide) (cs (fun _ => ⟨rfl, rfl, trivial⟩) (fun h1 => cs (fun _ => ⟨rfl, rfl, trivial⟩) (fun h2 => absurd ⟨hf, by omega, by omega⟩ hv)))
def rAcrossX_S (fac : Int → Bool) (crn : Int → Nat → Int) : Prop := ∀ (gl : Glob) (n c : Int), ¬ ((0 ≤ n ∧ n < 20) ∧ 0 ≤ c ∧ c < 3) → fnK Tryd.prog { glob := gl, spec := lk [(30, (rCorners_s fac crn))], specH := lk [], nowf := true } { nt := 80, drop := drp [(1, 2031616), (2, 1071644672), (4, 2196875771904), (6, 2199023255552), (7, 26388279066624), (8, 1090715534753792), (11, 1125899906842624), (12, 13510798882111488), (13, 1180573606318901821440), (14, 301050863282939882373120), (15, 604462909807314587353088)] } (invs [(100004, noI)]) 7 Tryd.f31 [.int .i64 n, .int .i64 c] (.tup [.int .i64 0, .int .i64 1])
set_option maxRecDepth 100000 in
theorem rAcrossX_e (fac : Int → Bool) (crn : Int → Nat → Int) : rAcrossX_T fac crn = rAcrossX_S fac crn := by kernel_rfl
theorem rAcrossX_v : rAcrossX_S fac crn := @Eq.mp (rAcrossX_T fac crn) (rAcrossX_S fac crn) (rAcrossX_e fac crn) rAcrossX_P
theorem rAcrossX_ok (gl : Glob) : SOK Tryd.prog gl 31 (rAcrossX_s fac crn) := by
  refine ⟨fok Tryd.func31 (by kernel_rfl) (by kernel_rfl), ?_⟩
  intro xs pre r h hp
  unfold rAcrossX_s at h
  split at h
  · simp only [Option.some.injEq, Prod.mk.injEq] at h
    obtain ⟨h1, h2⟩ := h
    subst h1 h2
    exact fnK_sound tyNil (by exact specOK rfl rfl ⟨rCorners_ok gl, trivial⟩ trivial) (by kernel_rfl) Tryd.func31 rfl (rAcrossX_v gl _ _ hp)
  · cases h
def rDigits_s (dgS : Int → Nat → ByteArray) : Sp
  | [.int .i64 n, .int .i64 w] => some ((0 ≤ n ∧ n ≤ 9999) ∧ 0 ≤ w ∧ w ≤ 8, .str (dgS n w.toNat))
  | _ => none
set_option maxRecDepth 100000 in
def rDigits_T (dgS : Int → Nat → ByteArray) : Prop :=
  ∀ (gl : Glob) (n w : Int), ((0 : Int) ≤ n ∧ n ≤ (9999 : Int)) ∧ (0 : Int) ≤ w ∧ w ≤ (8 : Int) → (-9223372036854775808 : Int) ≤ n ∧ n ≤ (9223372036854775807 : Int) →
  (-9223372036854775808 : Int) ≤ w ∧ w ≤ (9223372036854775807 : Int) → (∃ x, RdgP n w.toNat x ∧ (n = x.snd.fst ∧ w = (↑w.toNat : Int) ∧ { data := #[] } = x.snd.snd ∧ (0 : Int) =
  x.fst ∧ True) ∧ True) ∧ ∀ (x : Int × Int × ByteArray), RdgP n w.toNat x → bif decide (x.fst < (↑w.toNat : Int)) then bif decide (rng IntKind.i64 ((48 : Int) + x.snd.fst.tmod (10 :
  Int))) then bif decide ((strOfNums [IntKind.u8.wrap ((48 : Int) + x.snd.fst.tmod (10 : Int))]).size + x.snd.snd.size ≤ (9223372036854775807 : Nat)) then bif decide (rng IntKind.i64
  (x.snd.fst.tdiv (10 : Int))) then bif decide (rng IntKind.i64 (x.fst + (1 : Int))) then ∃ y, RdgP n w.toNat y ∧ (rdgI n w.toNat).m y < (rdgI n w.toNat).m x ∧ (x.snd.fst.tdiv (10 :
  Int) = y.snd.fst ∧ (↑w.toNat : Int) = (↑w.toNat : Int) ∧ strOfNums [IntKind.u8.wrap ((48 : Int) + x.snd.fst.tmod (10 : Int))] ++ x.snd.snd = y.snd.snd ∧ x.fst + (1 : Int) = y.fst ∧
  True) ∧ True else False else False else False else False else x.snd.snd = dgS n w.toNat
set_option maxRecDepth 100000 in
theorem rDigits_P : rDigits_T dgS := by
  unfold rDigits_T
  intro gl n w ⟨⟨n0, n1⟩, w0, w1⟩ _ _
  have ew : (w.toNat : Int) = w := by omega
  refine ⟨⟨(0, n, ⟨#[]⟩), ⟨by simp only; omega, by simp only; omega, n0, n1, ?_, rfl⟩, ?_⟩, ?_⟩
  · simp only [Int.toNat_zero, Nat.sub_zero]; rw [ba_nil]; rfl
  · have e := ew.symm
    repeat' (first | apply And.intro | exact trivial | exact rfl | exact e)
  · rintro ⟨i, x, s⟩ ⟨i0, i1, x0, x1, he, hz⟩
    simp only at i0 i1 x0 x1 he hz
    refine csplit (fun hlt => ?_) (fun hlt => ?_)
    · have hlt : i < (w.toNat : Int) := of_decide_eq_true hlt
      dsimp only
      have q1 : x.tmod 10 = x % 10 := Int.tmod_eq_emod_of_nonneg x0
      have q2 : x.tdiv 10 = x / 10 := Int.tdiv_eq_ediv_of_nonneg x0
      have q3 : IntKind.u8.wrap (48 + x % 10) = 48 + x % 10 := wrap_eq (k := .u8) (by show _ ∧ _; omega)
      rw [q1, q2, q3]
      have hs1 : (strOfNums [48 + x % 10]).size = 1 := rfl
      refine cdI (by omega) (cd1 (by rw [hs1]; omega) (cdI (by omega) (cdI (by omega) ⟨(i + 1, x / 10, strOfNums [48 + x % 10] ++ s), ⟨by simp only; omega, by simp only; omega, by simp only; omega, by simp only; omega, ?_, ?_⟩, by simp only [rdgI]; omega, ?_⟩)))
      · have ek : w.toNat - i.toNat = (w.toNat - (i + 1).toNat) + 1 := by omega
        rw [he, ek]
        simp only [dgL]
        rw [strOf_app, ba_assoc]
      · simp only [ByteArray.size_append]; rw [hs1, hz]; omega
      · repeat' (first | apply And.intro | exact trivial | exact rfl)
    · have hlt : ¬ i < (w.toNat : Int) := of_decide_eq_false hlt
      have ek : w.toNat - i.toNat = 0 := by omega
      rw [he, ek]
      exact (nil_ba s).symm
def rDigits_S (dgS : Int → Nat → ByteArray) : Prop := ∀ (gl : Glob) (n w : Int), (0 ≤ n ∧ n ≤ 9999) ∧ 0 ≤ w ∧ w ≤ 8 → fnK Tryd.prog { glob := gl, spec := lk [], specH := lk [], nowf := true } { nt := 23, drop := drp [(3, 384), (4, 3072), (5, 1044480), (6, 3145728), (7, 4194304)] } (invs [(3, rdgI n w.toNat)]) 6 Tryd.f40 [.int .i64 n, .int .i64 w] (.str (dgS n w.toNat))
set_option maxRecDepth 100000 in
theorem rDigits_e (dgS : Int → Nat → ByteArray) : rDigits_T dgS = rDigits_S dgS := by kernel_rfl
theorem rDigits_v : rDigits_S dgS := @Eq.mp (rDigits_T dgS) (rDigits_S dgS) (rDigits_e dgS) rDigits_P
theorem rDigits_ok (gl : Glob) : SOK Tryd.prog gl 40 (rDigits_s dgS) := by
  refine ⟨fok Tryd.func40 (by kernel_rfl) (by kernel_rfl), ?_⟩
  intro xs pre r h hp
  unfold rDigits_s at h
  split at h
  · simp only [Option.some.injEq, Prod.mk.injEq] at h
    obtain ⟨h1, h2⟩ := h
    subst h1 h2
    exact fnK_sound tyNil (by exact specOK rfl rfl trivial trivial) (by kernel_rfl) Tryd.func40 rfl (rDigits_v gl _ _ hp)
  · cases h
def rFormat_s (vld : Int → Int → Int → Int → Bool) (fmt : Int → Int → Int → Int → ByteArray) : Sp
  | [.agg [.int .i64 f, .int .i64 a, .int .i64 b, .int .i64 c]] => some (True, .tup [.str (fmt f a b c), .int .i64 (err (vld f a b c))])
  | _ => none
set_option maxRecDepth 100000 in
def rFormat_T (vld : Int → Int → Int → Int → Bool) (fmt : Int → Int → Int → Int → ByteArray) : Prop :=
  ∀ (gl : Glob) (f a b c : Int), ((-9223372036854775808 : Int) ≤ f ∧ f ≤ (9223372036854775807 : Int)) ∧ ((-9223372036854775808 : Int) ≤ a ∧ a ≤ (9223372036854775807 : Int)) ∧
  ((-9223372036854775808 : Int) ≤ b ∧ b ≤ (9223372036854775807 : Int)) ∧ ((-9223372036854775808 : Int) ≤ c ∧ c ≤ (9223372036854775807 : Int)) ∧ True → True ∧ bif
  !YtddmmjkhkoencaaDoor.vld f a b c then { data := #[] } = fmt f a b c ∧ (1 : Int) = err (vld f a b c) ∧ True else (((0 : Int) ≤ f ∧ f ≤ (9999 : Int)) ∧ (0 : Int) ≤ (2 : Int) ∧ (2 :
  Int) ≤ (8 : Int)) ∧ (((0 : Int) ≤ a ∧ a ≤ (9999 : Int)) ∧ (0 : Int) ≤ (3 : Int) ∧ (3 : Int) ≤ (8 : Int)) ∧ (((0 : Int) ≤ b ∧ b ≤ (9999 : Int)) ∧ (0 : Int) ≤ (3 : Int) ∧ (3 : Int) ≤
  (8 : Int)) ∧ dgS f (2 : Nat) ++ dgS a (3 : Nat) ++ dgS b (3 : Nat) = fmt f a b c ∧ (0 : Int) = err (vld f a b c) ∧ True
set_option maxRecDepth 100000 in
theorem rFormat_P : rFormat_T vld fmt := by
  unfold rFormat_T
  intro gl f a b c h
  refine ⟨trivial, ?_⟩
  unfold fmt err
  cases hv : vld f a b c with
  | false => exact ⟨rfl, rfl, trivial⟩
  | true =>
    obtain ⟨hf, ha, hb, hc, hs⟩ : Vld f a b c := of_decide_eq_true hv
    have e : dgS f 2 ++ dgS a 3 ++ dgS b 3 = fmtS f a b := by
      unfold dgS fmtS
      rw [← strOf_app, ← strOf_app, dgt0, dgt0, dgt0, dgt1, dgt1, dgt1, dgt2, dgt2]
      rfl
    refine ⟨⟨by omega, by omega⟩, ⟨by omega, by omega⟩, ⟨by omega, by omega⟩, e, rfl, trivial⟩
def rFormat_S (vld : Int → Int → Int → Int → Bool) (fmt : Int → Int → Int → Int → ByteArray) : Prop := ∀ (gl : Glob) (f a b c : Int), fnK Tryd.prog { glob := gl, spec := lk [(28, (rValid_s Go.Proofs.YtddmmjkhkoencaaDoor.vld)), (40, (rDigits_s Go.Proofs.YtddmmjkhkoencaaDoor.dgS))], specH := lk [], nowf := true } { nt := 18, drop := drp [(1, 48), (3, 262016)] } (fun _ _ => none) 6 Tryd.f25 [.agg [.int .i64 f, .int .i64 a, .int .i64 b, .int .i64 c]] (.tup [.str (fmt f a b c), .int .i64 (err (vld f a b c))])
set_option maxRecDepth 100000 in
theorem rFormat_e (vld : Int → Int → Int → Int → Bool) (fmt : Int → Int → Int → Int → ByteArray) : rFormat_T vld fmt = rFormat_S vld fmt := by kernel_rfl
theorem rFormat_v : rFormat_S vld fmt := @Eq.mp (rFormat_T vld fmt) (rFormat_S vld fmt) (rFormat_e vld fmt) rFormat_P
theorem rFormat_ok (gl : Glob) : SOK Tryd.prog gl 25 (rFormat_s vld fmt) := by
  refine ⟨fok Tryd.func25 (by kernel_rfl) (by kernel_rfl), ?_⟩
  intro xs pre r h hp
  unfold rFormat_s at h
  split at h
  · simp only [Option.some.injEq, Prod.mk.injEq] at h
    obtain ⟨h1, h2⟩ := h
    subst h1 h2
    exact fnK_sound tyNil (by exact specOK rfl rfl ⟨rValid_ok gl, rDigits_ok gl, trivial⟩ trivial) (by kernel_rfl) Tryd.func25 rfl (rFormat_v gl _ _ _ _)
  · cases h
theorem rAcross_ok (gl : Glob) : SOK Tryd.prog gl 31 across_s := by
  refine ⟨(rAcrossX_ok gl).1, ?_⟩
  intro xs pre r h hp
  unfold across_s at h
  split at h
  · rename_i n c
    simp only [Option.some.injEq, Prod.mk.injEq] at h
    obtain ⟨h1, h2⟩ := h
    subst h2
    by_cases hv : (0 ≤ n ∧ n < 20) ∧ 0 ≤ c ∧ c < 3
    · have e1 : (fac n && decide (0 ≤ c ∧ c < 3)) = true := by simp [fac, hv]
      rw [e1]
      exact (rAcrossV_ok gl).2 _ _ _ rfl hv
    · have e1 : (fac n && decide (0 ≤ c ∧ c < 3)) = false := by
        rw [Bool.eq_false_iff]
        intro h
        simp only [fac, Bool.and_eq_true, decide_eq_true_eq] at h
        exact hv h
      rw [e1]
      exact (rAcrossX_ok gl).2 _ _ _ rfl hv
  · cases h
end Go.Proofs.YtddmmjkhkoencaaDoor
