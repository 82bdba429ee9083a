/- Places: the reference's Valid, Addresses, Normal, IsNormal. -/
import Derived.Test.YtceknalhogbbnaaDoorPlL
import Derived.Test.YtceknalhogbbnaaDoorDg
namespace Go.Proofs.YtceknalhogbbnaaDoor
open Go
set_option linter.unusedVariables false
set_option linter.unusedSimpArgs false
--KIND rWeights S synoptic/synopticref02.Weights
--KIND rOn S synoptic/synopticref02.On

def rValid_s (vld : Int → Int → Int → Int → Bool) : Sp
  | [.agg [.int .i64 f, .int .i64 a, .int .i64 b, .int .i64 c]] => some (True, .bool (vld f a b c))
  | _ => none
set_option maxRecDepth 100000 in
def rValid_T (vld : Int → Int → Int → Int → Bool) : Prop :=
  ∀ (gl : Glob) (f a b c : Int), ((-9223372036854775808 : Int) ≤ f ∧ f ≤ (9223372036854775807 : Int)) ∧ ((-9223372036854775808 : Int) ≤ a ∧ a ≤ (9223372036854775807 : Int)) ∧
  ((-9223372036854775808 : Int) ≤ b ∧ b ≤ (9223372036854775807 : Int)) ∧ ((-9223372036854775808 : Int) ≤ c ∧ c ≤ (9223372036854775807 : Int)) ∧ True → bif decide ((0 : Int) ≤ f) then
  bif decide (f < (20 : Int)) then bif decide ((0 : Int) ≤ a) then bif decide (a ≤ (840 : Int)) then bif decide ((0 : Int) ≤ b) then bif decide (b ≤ (840 : Int)) then bif decide ((0
  : Int) ≤ c) then bif decide (c ≤ (840 : Int)) then bif decide (rng IntKind.i64 (a + b)) then bif decide (rng IntKind.i64 (a + b + c)) then decide (a + b + c = (840 : Int)) = vld f
  a b c else False else False else false = vld f a b c else false = vld f a b c else false = vld f a b c else false = vld f a b c else false = vld f a b c else false = vld f a b c
  else false = vld f a b c else false = vld f a b c
set_option maxRecDepth 100000 in
theorem rValid_P : rValid_T vld := by
  unfold rValid_T
  intro gl f a b c h
  have hf : ∀ {x : Bool}, (¬ Vld f a b c → x = false) → (x = false → ¬ Vld f a b c) → x = vld f a b c := by
    intro x h1 h2
    unfold vld
    by_cases q : Vld f a b c
    · rw [decide_eq_true q]; cases x with
      | true => rfl
      | false => exact absurd q (h2 rfl)
    · rw [decide_eq_false q]; exact h1 q
  rw [vld_iff] at hf
  repeat (first
    | refine cdI (by omega) ?_
    | refine cs (fun q => ?_) (fun q => hf (fun _ => rfl) (fun _ => by omega)))
  refine hf (fun q => decide_eq_false (by omega)) (fun q => ?_)
  have q := of_decide_eq_false q
  omega
def rValid_S (vld : Int → Int → Int → Int → Bool) : Prop := ∀ (gl : Glob) (f a b c : Int), fnK Tryd.prog { glob := gl, spec := lk [], specH := lk [] } { nt := 52, drop := drp [(1, 4503599627370488)] } (fun _ _ => none) 6 Tryd.f41 [.agg [.int .i64 f, .int .i64 a, .int .i64 b, .int .i64 c]] (.bool (vld f a b c))
set_option maxRecDepth 100000 in
theorem rValid_e (vld : Int → Int → Int → Int → Bool) : rValid_T vld = rValid_S vld := by kernel_rfl
theorem rValid_v : rValid_S vld := @Eq.mp (rValid_T vld) (rValid_S vld) (rValid_e vld) rValid_P
theorem rValid_ok (gl : Glob) : SOK Tryd.prog gl 41 (rValid_s vld) := by
  refine ⟨fok Tryd.func41 (by kernel_rfl) (by kernel_rfl), ?_⟩
  intro xs pre r h hp
  unfold rValid_s at h
  split at h
  · simp only [Option.some.injEq, Prod.mk.injEq] at h
    obtain ⟨h1, h2⟩ := h
    subst h1 h2
    exact fnK_sound tyNil (by exact specOK rfl rfl trivial trivial) (by kernel_rfl) Tryd.func41 rfl (rValid_v gl _ _ _ _)
  · cases h
def w64 (x : Int) : Int := IntKind.i64.wrap x
theorem w64_id {x : Int} (h : -9223372036854775808 ≤ x ∧ x ≤ 9223372036854775807) : w64 x = x := wrap_eq (k := .i64) h
theorem fcs_cases {n : Int} (h : 0 ≤ n ∧ n < 20) : n = 0 ∨ n = 1 ∨ n = 2 ∨ n = 3 ∨ n = 4 ∨ n = 5 ∨ n = 6 ∨ n = 7 ∨ n = 8 ∨ n = 9 ∨ n = 10 ∨ n = 11 ∨ n = 12 ∨ n = 13 ∨ n = 14 ∨ n = 15 ∨ n = 16 ∨ n = 17 ∨ n = 18 ∨ n = 19 := by omega
def rCorners_s (fac : Int → Bool) (crn : Int → Nat → Int) : Sp
  | [.int .i64 n] => some (True, .tup [.agg [.int .i64 (if fac n then crn n 0 else 0), .int .i64 (if fac n then crn n 1 else 0), .int .i64 (if fac n then crn n 2 else 0)], .int .i64 (if fac n then 0 else 1)])
  | _ => none
set_option maxRecDepth 100000 in
def rCorners_T (fac : Int → Bool) (crn : Int → Nat → Int) : Prop :=
  ∀ (gl : Glob) (n : Int), (-9223372036854775808 : Int) ≤ n ∧ n ≤ (9223372036854775807 : Int) → bif decide (n < (0 : Int)) then (((0 : Int) = if fac n = true then crn n (0 : Nat)
  else (0 : Int)) ∧ ((0 : Int) = if fac n = true then crn n (1 : Nat) else (0 : Int)) ∧ ((0 : Int) = if fac n = true then crn n (2 : Nat) else (0 : Int)) ∧ True) ∧ ((1 : Int) = if
  fac n = true then (0 : Int) else (1 : Int)) ∧ True else bif decide ((20 : Int) ≤ n) then (((0 : Int) = if fac n = true then crn n (0 : Nat) else (0 : Int)) ∧ ((0 : Int) = if fac n
  = true then crn n (1 : Nat) else (0 : Int)) ∧ ((0 : Int) = if fac n = true then crn n (2 : Nat) else (0 : Int)) ∧ True) ∧ ((1 : Int) = if fac n = true then (0 : Int) else (1 :
  Int)) ∧ True else bif decide (rng IntKind.i64 (n.tmod (5 : Int) + (1 : Int))) then bif decide (rng IntKind.i64 (n.tdiv (5 : Int))) then bif decide (n.tdiv (5 : Int) = (0 : Int))
  then bif decide (rng IntKind.i64 ((1 : Int) + n.tmod (5 : Int))) then bif decide (rng IntKind.i64 ((1 : Int) + (n.tmod (5 : Int) + (1 : Int)).tmod (5 : Int))) then (((0 : Int) = if
  fac n = true then crn n (0 : Nat) else (0 : Int)) ∧ ((1 : Int) + n.tmod (5 : Int) = if fac n = true then crn n (1 : Nat) else (0 : Int)) ∧ ((1 : Int) + (n.tmod (5 : Int) + (1 :
  Int)).tmod (5 : Int) = if fac n = true then crn n (2 : Nat) else (0 : Int)) ∧ True) ∧ ((0 : Int) = if fac n = true then (0 : Int) else (1 : Int)) ∧ True else False else False else
  bif decide (n.tdiv (5 : Int) = (1 : Int)) then bif decide (rng IntKind.i64 ((1 : Int) + n.tmod (5 : Int))) then bif decide (rng IntKind.i64 ((6 : Int) + n.tmod (5 : Int))) then bif
  decide (rng IntKind.i64 ((1 : Int) + (n.tmod (5 : Int) + (1 : Int)).tmod (5 : Int))) then (((1 : Int) + n.tmod (5 : Int) = if fac n = true then crn n (0 : Nat) else (0 : Int)) ∧
  ((6 : Int) + n.tmod (5 : Int) = if fac n = true then crn n (1 : Nat) else (0 : Int)) ∧ ((1 : Int) + (n.tmod (5 : Int) + (1 : Int)).tmod (5 : Int) = if fac n = true then crn n (2 :
  Nat) else (0 : Int)) ∧ True) ∧ ((0 : Int) = if fac n = true then (0 : Int) else (1 : Int)) ∧ True else False else False else False else bif decide (n.tdiv (5 : Int) = (2 : Int))
  then bif decide (rng IntKind.i64 ((6 : Int) + n.tmod (5 : Int))) then bif decide (rng IntKind.i64 ((6 : Int) + (n.tmod (5 : Int) + (1 : Int)).tmod (5 : Int))) then bif decide (rng
  IntKind.i64 ((1 : Int) + (n.tmod (5 : Int) + (1 : Int)).tmod (5 : Int))) then (((6 : Int) + n.tmod (5 : Int) = if fac n = true then crn n (0 : Nat) else (0 : Int)) ∧ ((6 : Int) +
  (n.tmod (5 : Int) + (1 : Int)).tmod (5 : Int) = if fac n = true then crn n (1 : Nat) else (0 : Int)) ∧ ((1 : Int) + (n.tmod (5 : Int) + (1 : Int)).tmod (5 : Int) = if fac n = true
  then crn n (2 : Nat) else (0 : Int)) ∧ True) ∧ ((0 : Int) = if fac n = true then (0 : Int) else (1 : Int)) ∧ True else False else False else False else bif decide (rng IntKind.i64
  ((6 : Int) + (n.tmod (5 : Int) + (1 : Int)).tmod (5 : Int))) then bif decide (rng IntKind.i64 ((6 : Int) + n.tmod (5 : Int))) then (((11 : Int) = if fac n = true then crn n (0 :
  Nat) else (0 : Int)) ∧ ((6 : Int) + (n.tmod (5 : Int) + (1 : Int)).tmod (5 : Int) = if fac n = true then crn n (1 : Nat) else (0 : Int)) ∧ ((6 : Int) + n.tmod (5 : Int) = if fac n
  = true then crn n (2 : Nat) else (0 : Int)) ∧ True) ∧ ((0 : Int) = if fac n = true then (0 : Int) else (1 : Int)) ∧ True else False else False else False else False
set_option maxRecDepth 100000 in
theorem rCorners_P : rCorners_T fac crn := by
  unfold rCorners_T
  intro gl n hn
  refine cs (fun h => ?_) (fun h1 => cs (fun h => ?_) (fun h2 => ?_))
  · have : fac n = false := decide_eq_false (by omega)
    rw [this]; exact ⟨⟨rfl, rfl, rfl, trivial⟩, rfl, trivial⟩
  · have : fac n = false := decide_eq_false (by omega)
    rw [this]; exact ⟨⟨rfl, rfl, rfl, trivial⟩, rfl, trivial⟩
  have : fac n = true := decide_eq_true (by omega)
  rw [this]
  rcases fcs_cases (n := n) (by omega) with rfl | rfl | rfl | rfl | rfl | rfl | rfl | rfl | rfl | rfl | rfl | rfl | rfl | rfl | rfl | rfl | rfl | rfl | rfl | rfl
  all_goals
    repeat (first | refine cdI (by decide) ?_ | refine cd1 (by decide) ?_ | refine cd0 (by decide) ?_)
    exact ⟨⟨by decide, by decide, by decide, trivial⟩, rfl, trivial⟩
def rCorners_S (fac : Int → Bool) (crn : Int → Nat → Int) : Prop := ∀ (gl : Glob) (n : Int), fnK Tryd.prog { glob := gl, spec := lk [], specH := lk [], nowf := true } { nt := 50, drop := drp [(1, 1984), (2, 4096), (3, 24576), (4, 229376), (5, 262144), (6, 2097152), (7, 130023424), (8, 268435456), (9, 68182605824), (10, 137438953472), (11, 34909494181888), (12, 1090715534753792)] } (fun _ _ => none) 6 Tryd.f83 [.int .i64 n] (.tup [.agg [.int .i64 (if fac n then crn n 0 else 0), .int .i64 (if fac n then crn n 1 else 0), .int .i64 (if fac n then crn n 2 else 0)], .int .i64 (if fac n then 0 else 1)])
set_option maxRecDepth 100000 in
theorem rCorners_e (fac : Int → Bool) (crn : Int → Nat → Int) : rCorners_T fac crn = rCorners_S fac crn := by kernel_rfl
theorem rCorners_v : rCorners_S fac crn := @Eq.mp (rCorners_T fac crn) (rCorners_S fac crn) (rCorners_e fac crn) rCorners_P
theorem rCorners_ok (gl : Glob) : SOK Tryd.prog gl 83 (rCorners_s fac crn) := by
  refine ⟨fok Tryd.func83 (by kernel_rfl) (by kernel_rfl), ?_⟩
  intro xs pre r h hp
  unfold rCorners_s at h
  split at h
  · simp only [Option.some.injEq, Prod.mk.injEq] at h
    obtain ⟨h1, h2⟩ := h
    subst h1 h2
    exact fnK_sound tyNil (by exact specOK rfl rfl trivial trivial) (by kernel_rfl) Tryd.func83 rfl (rCorners_v gl _)
  · cases h
set_option maxRecDepth 100000 in
def rWeights20_T : Prop :=
  ∀ (gl : Glob) (a b c : Int), (((-9223372036854775808 : Int) ≤ (0 : Int) ∧ (0 : Int) ≤ (9223372036854775807 : Int)) ∧ ((-9223372036854775808 : Int) ≤ a ∧ a ≤ (9223372036854775807 :
  Int)) ∧ ((-9223372036854775808 : Int) ≤ b ∧ b ≤ (9223372036854775807 : Int)) ∧ ((-9223372036854775808 : Int) ≤ c ∧ c ≤ (9223372036854775807 : Int)) ∧ True → True ∧ a = wt (0 : Int)
  a b c (0 : Int) ∧ b = wt (0 : Int) a b c (1 : Int) ∧ c = wt (0 : Int) a b c (2 : Int) ∧ (0 : Int) = wt (0 : Int) a b c (3 : Int) ∧ (0 : Int) = wt (0 : Int) a b c (4 : Int) ∧ (0 :
  Int) = wt (0 : Int) a b c (5 : Int) ∧ (0 : Int) = wt (0 : Int) a b c (6 : Int) ∧ (0 : Int) = wt (0 : Int) a b c (7 : Int) ∧ (0 : Int) = wt (0 : Int) a b c (8 : Int) ∧ (0 : Int) =
  wt (0 : Int) a b c (9 : Int) ∧ (0 : Int) = wt (0 : Int) a b c (10 : Int) ∧ (0 : Int) = wt (0 : Int) a b c (11 : Int) ∧ True) ∧ (((-9223372036854775808 : Int) ≤ (1 : Int) ∧ (1 :
  Int) ≤ (9223372036854775807 : Int)) ∧ ((-9223372036854775808 : Int) ≤ a ∧ a ≤ (9223372036854775807 : Int)) ∧ ((-9223372036854775808 : Int) ≤ b ∧ b ≤ (9223372036854775807 : Int)) ∧
  ((-9223372036854775808 : Int) ≤ c ∧ c ≤ (9223372036854775807 : Int)) ∧ True → True ∧ a = wt (1 : Int) a b c (0 : Int) ∧ (0 : Int) = wt (1 : Int) a b c (1 : Int) ∧ b = wt (1 : Int)
  a b c (2 : Int) ∧ c = wt (1 : Int) a b c (3 : Int) ∧ (0 : Int) = wt (1 : Int) a b c (4 : Int) ∧ (0 : Int) = wt (1 : Int) a b c (5 : Int) ∧ (0 : Int) = wt (1 : Int) a b c (6 : Int)
  ∧ (0 : Int) = wt (1 : Int) a b c (7 : Int) ∧ (0 : Int) = wt (1 : Int) a b c (8 : Int) ∧ (0 : Int) = wt (1 : Int) a b c (9 : Int) ∧ (0 : Int) = wt (1 : Int) a b c (10 : Int) ∧ (0 :
  Int) = wt (1 : Int) a b c (11 : Int) ∧ True) ∧ (((-9223372036854775808 : Int) ≤ (2 : Int) ∧ (2 : Int) ≤ (9223372036854775807 : Int)) ∧ ((-9223372036854775808 : Int) ≤ a ∧ a ≤
  (9223372036854775807 : Int)) ∧ ((-9223372036854775808 : Int) ≤ b ∧ b ≤ (9223372036854775807 : Int)) ∧ ((-9223372036854775808 : Int) ≤ c ∧ c ≤ (9223372036854775807 : Int)) ∧ True →
  True ∧ a = wt (2 : Int) a b c (0 : Int) ∧ (0 : Int) = wt (2 : Int) a b c (1 : Int) ∧ (0 : Int) = wt (2 : Int) a b c (2 : Int) ∧ b = wt (2 : Int) a b c (3 : Int) ∧ c = wt (2 : Int)
  a b c (4 : Int) ∧ (0 : Int) = wt (2 : Int) a b c (5 : Int) ∧ (0 : Int) = wt (2 : Int) a b c (6 : Int) ∧ (0 : Int) = wt (2 : Int) a b c (7 : Int) ∧ (0 : Int) = wt (2 : Int) a b c (8
  : Int) ∧ (0 : Int) = wt (2 : Int) a b c (9 : Int) ∧ (0 : Int) = wt (2 : Int) a b c (10 : Int) ∧ (0 : Int) = wt (2 : Int) a b c (11 : Int) ∧ True) ∧ (((-9223372036854775808 : Int) ≤
  (3 : Int) ∧ (3 : Int) ≤ (9223372036854775807 : Int)) ∧ ((-9223372036854775808 : Int) ≤ a ∧ a ≤ (9223372036854775807 : Int)) ∧ ((-9223372036854775808 : Int) ≤ b ∧ b ≤
  (9223372036854775807 : Int)) ∧ ((-9223372036854775808 : Int) ≤ c ∧ c ≤ (9223372036854775807 : Int)) ∧ True → True ∧ a = wt (3 : Int) a b c (0 : Int) ∧ (0 : Int) = wt (3 : Int) a b
  c (1 : Int) ∧ (0 : Int) = wt (3 : Int) a b c (2 : Int) ∧ (0 : Int) = wt (3 : Int) a b c (3 : Int) ∧ b = wt (3 : Int) a b c (4 : Int) ∧ c = wt (3 : Int) a b c (5 : Int) ∧ (0 : Int)
  = wt (3 : Int) a b c (6 : Int) ∧ (0 : Int) = wt (3 : Int) a b c (7 : Int) ∧ (0 : Int) = wt (3 : Int) a b c (8 : Int) ∧ (0 : Int) = wt (3 : Int) a b c (9 : Int) ∧ (0 : Int) = wt (3
  : Int) a b c (10 : Int) ∧ (0 : Int) = wt (3 : Int) a b c (11 : Int) ∧ True) ∧ (((-9223372036854775808 : Int) ≤ (4 : Int) ∧ (4 : Int) ≤ (9223372036854775807 : Int)) ∧
  ((-9223372036854775808 : Int) ≤ a ∧ a ≤ (9223372036854775807 : Int)) ∧ ((-9223372036854775808 : Int) ≤ b ∧ b ≤ (9223372036854775807 : Int)) ∧ ((-9223372036854775808 : Int) ≤ c ∧ c
  ≤ (9223372036854775807 : Int)) ∧ True → True ∧ a = wt (4 : Int) a b c (0 : Int) ∧ c = wt (4 : Int) a b c (1 : Int) ∧ (0 : Int) = wt (4 : Int) a b c (2 : Int) ∧ (0 : Int) = wt (4 :
  Int) a b c (3 : Int) ∧ (0 : Int) = wt (4 : Int) a b c (4 : Int) ∧ b = wt (4 : Int) a b c (5 : Int) ∧ (0 : Int) = wt (4 : Int) a b c (6 : Int) ∧ (0 : Int) = wt (4 : Int) a b c (7 :
  Int) ∧ (0 : Int) = wt (4 : Int) a b c (8 : Int) ∧ (0 : Int) = wt (4 : Int) a b c (9 : Int) ∧ (0 : Int) = wt (4 : Int) a b c (10 : Int) ∧ (0 : Int) = wt (4 : Int) a b c (11 : Int) ∧
  True) ∧ (((-9223372036854775808 : Int) ≤ (5 : Int) ∧ (5 : Int) ≤ (9223372036854775807 : Int)) ∧ ((-9223372036854775808 : Int) ≤ a ∧ a ≤ (9223372036854775807 : Int)) ∧
  ((-9223372036854775808 : Int) ≤ b ∧ b ≤ (9223372036854775807 : Int)) ∧ ((-9223372036854775808 : Int) ≤ c ∧ c ≤ (9223372036854775807 : Int)) ∧ True → True ∧ (0 : Int) = wt (5 : Int)
  a b c (0 : Int) ∧ a = wt (5 : Int) a b c (1 : Int) ∧ c = wt (5 : Int) a b c (2 : Int) ∧ (0 : Int) = wt (5 : Int) a b c (3 : Int) ∧ (0 : Int) = wt (5 : Int) a b c (4 : Int) ∧ (0 :
  Int) = wt (5 : Int) a b c (5 : Int) ∧ b = wt (5 : Int) a b c (6 : Int) ∧ (0 : Int) = wt (5 : Int) a b c (7 : Int) ∧ (0 : Int) = wt (5 : Int) a b c (8 : Int) ∧ (0 : Int) = wt (5 :
  Int) a b c (9 : Int) ∧ (0 : Int) = wt (5 : Int) a b c (10 : Int) ∧ (0 : Int) = wt (5 : Int) a b c (11 : Int) ∧ True) ∧ (((-9223372036854775808 : Int) ≤ (6 : Int) ∧ (6 : Int) ≤
  (9223372036854775807 : Int)) ∧ ((-9223372036854775808 : Int) ≤ a ∧ a ≤ (9223372036854775807 : Int)) ∧ ((-9223372036854775808 : Int) ≤ b ∧ b ≤ (9223372036854775807 : Int)) ∧
  ((-9223372036854775808 : Int) ≤ c ∧ c ≤ (9223372036854775807 : Int)) ∧ True → True ∧ (0 : Int) = wt (6 : Int) a b c (0 : Int) ∧ (0 : Int) = wt (6 : Int) a b c (1 : Int) ∧ a = wt (6
  : Int) a b c (2 : Int) ∧ c = wt (6 : Int) a b c (3 : Int) ∧ (0 : Int) = wt (6 : Int) a b c (4 : Int) ∧ (0 : Int) = wt (6 : Int) a b c (5 : Int) ∧ (0 : Int) = wt (6 : Int) a b c (6
  : Int) ∧ b = wt (6 : Int) a b c (7 : Int) ∧ (0 : Int) = wt (6 : Int) a b c (8 : Int) ∧ (0 : Int) = wt (6 : Int) a b c (9 : Int) ∧ (0 : Int) = wt (6 : Int) a b c (10 : Int) ∧ (0 :
  Int) = wt (6 : Int) a b c (11 : Int) ∧ True) ∧ (((-9223372036854775808 : Int) ≤ (7 : Int) ∧ (7 : Int) ≤ (9223372036854775807 : Int)) ∧ ((-9223372036854775808 : Int) ≤ a ∧ a ≤
  (9223372036854775807 : Int)) ∧ ((-9223372036854775808 : Int) ≤ b ∧ b ≤ (9223372036854775807 : Int)) ∧ ((-9223372036854775808 : Int) ≤ c ∧ c ≤ (9223372036854775807 : Int)) ∧ True →
  True ∧ (0 : Int) = wt (7 : Int) a b c (0 : Int) ∧ (0 : Int) = wt (7 : Int) a b c (1 : Int) ∧ (0 : Int) = wt (7 : Int) a b c (2 : Int) ∧ a = wt (7 : Int) a b c (3 : Int) ∧ c = wt (7
  : Int) a b c (4 : Int) ∧ (0 : Int) = wt (7 : Int) a b c (5 : Int) ∧ (0 : Int) = wt (7 : Int) a b c (6 : Int) ∧ (0 : Int) = wt (7 : Int) a b c (7 : Int) ∧ b = wt (7 : Int) a b c (8
  : Int) ∧ (0 : Int) = wt (7 : Int) a b c (9 : Int) ∧ (0 : Int) = wt (7 : Int) a b c (10 : Int) ∧ (0 : Int) = wt (7 : Int) a b c (11 : Int) ∧ True) ∧ (((-9223372036854775808 : Int) ≤
  (8 : Int) ∧ (8 : Int) ≤ (9223372036854775807 : Int)) ∧ ((-9223372036854775808 : Int) ≤ a ∧ a ≤ (9223372036854775807 : Int)) ∧ ((-9223372036854775808 : Int) ≤ b ∧ b ≤
  (9223372036854775807 : Int)) ∧ ((-9223372036854775808 : Int) ≤ c ∧ c ≤ (9223372036854775807 : Int)) ∧ True → True ∧ (0 : Int) = wt (8 : Int) a b c (0 : Int) ∧ (0 : Int) = wt (8 :
  Int) a b c (1 : Int) ∧ (0 : Int) = wt (8 : Int) a b c (2 : Int) ∧ (0 : Int) = wt (8 : Int) a b c (3 : Int) ∧ a = wt (8 : Int) a b c (4 : Int) ∧ c = wt (8 : Int) a b c (5 : Int) ∧
  (0 : Int) = wt (8 : Int) a b c (6 : Int) ∧ (0 : Int) = wt (8 : Int) a b c (7 : Int) ∧ (0 : Int) = wt (8 : Int) a b c (8 : Int) ∧ b = wt (8 : Int) a b c (9 : Int) ∧ (0 : Int) = wt
  (8 : Int) a b c (10 : Int) ∧ (0 : Int) = wt (8 : Int) a b c (11 : Int) ∧ True) ∧ (((-9223372036854775808 : Int) ≤ (9 : Int) ∧ (9 : Int) ≤ (9223372036854775807 : Int)) ∧
  ((-9223372036854775808 : Int) ≤ a ∧ a ≤ (9223372036854775807 : Int)) ∧ ((-9223372036854775808 : Int) ≤ b ∧ b ≤ (9223372036854775807 : Int)) ∧ ((-9223372036854775808 : Int) ≤ c ∧ c
  ≤ (9223372036854775807 : Int)) ∧ True → True ∧ (0 : Int) = wt (9 : Int) a b c (0 : Int) ∧ c = wt (9 : Int) a b c (1 : Int) ∧ (0 : Int) = wt (9 : Int) a b c (2 : Int) ∧ (0 : Int) =
  wt (9 : Int) a b c (3 : Int) ∧ (0 : Int) = wt (9 : Int) a b c (4 : Int) ∧ a = wt (9 : Int) a b c (5 : Int) ∧ (0 : Int) = wt (9 : Int) a b c (6 : Int) ∧ (0 : Int) = wt (9 : Int) a b
  c (7 : Int) ∧ (0 : Int) = wt (9 : Int) a b c (8 : Int) ∧ (0 : Int) = wt (9 : Int) a b c (9 : Int) ∧ b = wt (9 : Int) a b c (10 : Int) ∧ (0 : Int) = wt (9 : Int) a b c (11 : Int) ∧
  True) ∧ (((-9223372036854775808 : Int) ≤ (10 : Int) ∧ (10 : Int) ≤ (9223372036854775807 : Int)) ∧ ((-9223372036854775808 : Int) ≤ a ∧ a ≤ (9223372036854775807 : Int)) ∧
  ((-9223372036854775808 : Int) ≤ b ∧ b ≤ (9223372036854775807 : Int)) ∧ ((-9223372036854775808 : Int) ≤ c ∧ c ≤ (9223372036854775807 : Int)) ∧ True → True ∧ (0 : Int) = wt (10 :
  Int) a b c (0 : Int) ∧ (0 : Int) = wt (10 : Int) a b c (1 : Int) ∧ c = wt (10 : Int) a b c (2 : Int) ∧ (0 : Int) = wt (10 : Int) a b c (3 : Int) ∧ (0 : Int) = wt (10 : Int) a b c
  (4 : Int) ∧ (0 : Int) = wt (10 : Int) a b c (5 : Int) ∧ a = wt (10 : Int) a b c (6 : Int) ∧ b = wt (10 : Int) a b c (7 : Int) ∧ (0 : Int) = wt (10 : Int) a b c (8 : Int) ∧ (0 :
  Int) = wt (10 : Int) a b c (9 : Int) ∧ (0 : Int) = wt (10 : Int) a b c (10 : Int) ∧ (0 : Int) = wt (10 : Int) a b c (11 : Int) ∧ True) ∧ (((-9223372036854775808 : Int) ≤ (11 : Int)
  ∧ (11 : Int) ≤ (9223372036854775807 : Int)) ∧ ((-9223372036854775808 : Int) ≤ a ∧ a ≤ (9223372036854775807 : Int)) ∧ ((-9223372036854775808 : Int) ≤ b ∧ b ≤ (9223372036854775807 :
  Int)) ∧ ((-9223372036854775808 : Int) ≤ c ∧ c ≤ (9223372036854775807 : Int)) ∧ True → True ∧ (0 : Int) = wt (11 : Int) a b c (0 : Int) ∧ (0 : Int) = wt (11 : Int) a b c (1 : Int) ∧
  (0 : Int) = wt (11 : Int) a b c (2 : Int) ∧ c = wt (11 : Int) a b c (3 : Int) ∧ (0 : Int) = wt (11 : Int) a b c (4 : Int) ∧ (0 : Int) = wt (11 : Int) a b c (5 : Int) ∧ (0 : Int) =
  wt (11 : Int) a b c (6 : Int) ∧ a = wt (11 : Int) a b c (7 : Int) ∧ b = wt (11 : Int) a b c (8 : Int) ∧ (0 : Int) = wt (11 : Int) a b c (9 : Int) ∧ (0 : Int) = wt (11 : Int) a b c
  (10 : Int) ∧ (0 : Int) = wt (11 : Int) a b c (11 : Int) ∧ True) ∧ (((-9223372036854775808 : Int) ≤ (12 : Int) ∧ (12 : Int) ≤ (9223372036854775807 : Int)) ∧ ((-9223372036854775808 :
  Int) ≤ a ∧ a ≤ (9223372036854775807 : Int)) ∧ ((-9223372036854775808 : Int) ≤ b ∧ b ≤ (9223372036854775807 : Int)) ∧ ((-9223372036854775808 : Int) ≤ c ∧ c ≤ (9223372036854775807 :
  Int)) ∧ True → True ∧ (0 : Int) = wt (12 : Int) a b c (0 : Int) ∧ (0 : Int) = wt (12 : Int) a b c (1 : Int) ∧ (0 : Int) = wt (12 : Int) a b c (2 : Int) ∧ (0 : Int) = wt (12 : Int)
  a b c (3 : Int) ∧ c = wt (12 : Int) a b c (4 : Int) ∧ (0 : Int) = wt (12 : Int) a b c (5 : Int) ∧ (0 : Int) = wt (12 : Int) a b c (6 : Int) ∧ (0 : Int) = wt (12 : Int) a b c (7 :
  Int) ∧ a = wt (12 : Int) a b c (8 : Int) ∧ b = wt (12 : Int) a b c (9 : Int) ∧ (0 : Int) = wt (12 : Int) a b c (10 : Int) ∧ (0 : Int) = wt (12 : Int) a b c (11 : Int) ∧ True) ∧
  (((-9223372036854775808 : Int) ≤ (13 : Int) ∧ (13 : Int) ≤ (9223372036854775807 : Int)) ∧ ((-9223372036854775808 : Int) ≤ a ∧ a ≤ (9223372036854775807 : Int)) ∧
  ((-9223372036854775808 : Int) ≤ b ∧ b ≤ (9223372036854775807 : Int)) ∧ ((-9223372036854775808 : Int) ≤ c ∧ c ≤ (9223372036854775807 : Int)) ∧ True → True ∧ (0 : Int) = wt (13 :
  Int) a b c (0 : Int) ∧ (0 : Int) = wt (13 : Int) a b c (1 : Int) ∧ (0 : Int) = wt (13 : Int) a b c (2 : Int) ∧ (0 : Int) = wt (13 : Int) a b c (3 : Int) ∧ (0 : Int) = wt (13 : Int)
  a b c (4 : Int) ∧ c = wt (13 : Int) a b c (5 : Int) ∧ (0 : Int) = wt (13 : Int) a b c (6 : Int) ∧ (0 : Int) = wt (13 : Int) a b c (7 : Int) ∧ (0 : Int) = wt (13 : Int) a b c (8 :
  Int) ∧ a = wt (13 : Int) a b c (9 : Int) ∧ b = wt (13 : Int) a b c (10 : Int) ∧ (0 : Int) = wt (13 : Int) a b c (11 : Int) ∧ True) ∧ (((-9223372036854775808 : Int) ≤ (14 : Int) ∧
  (14 : Int) ≤ (9223372036854775807 : Int)) ∧ ((-9223372036854775808 : Int) ≤ a ∧ a ≤ (9223372036854775807 : Int)) ∧ ((-9223372036854775808 : Int) ≤ b ∧ b ≤ (9223372036854775807 :
  Int)) ∧ ((-9223372036854775808 : Int) ≤ c ∧ c ≤ (9223372036854775807 : Int)) ∧ True → True ∧ (0 : Int) = wt (14 : Int) a b c (0 : Int) ∧ c = wt (14 : Int) a b c (1 : Int) ∧ (0 :
  Int) = wt (14 : Int) a b c (2 : Int) ∧ (0 : Int) = wt (14 : Int) a b c (3 : Int) ∧ (0 : Int) = wt (14 : Int) a b c (4 : Int) ∧ (0 : Int) = wt (14 : Int) a b c (5 : Int) ∧ b = wt
  (14 : Int) a b c (6 : Int) ∧ (0 : Int) = wt (14 : Int) a b c (7 : Int) ∧ (0 : Int) = wt (14 : Int) a b c (8 : Int) ∧ (0 : Int) = wt (14 : Int) a b c (9 : Int) ∧ a = wt (14 : Int) a
  b c (10 : Int) ∧ (0 : Int) = wt (14 : Int) a b c (11 : Int) ∧ True) ∧ (((-9223372036854775808 : Int) ≤ (15 : Int) ∧ (15 : Int) ≤ (9223372036854775807 : Int)) ∧
  ((-9223372036854775808 : Int) ≤ a ∧ a ≤ (9223372036854775807 : Int)) ∧ ((-9223372036854775808 : Int) ≤ b ∧ b ≤ (9223372036854775807 : Int)) ∧ ((-9223372036854775808 : Int) ≤ c ∧ c
  ≤ (9223372036854775807 : Int)) ∧ True → True ∧ (0 : Int) = wt (15 : Int) a b c (0 : Int) ∧ (0 : Int) = wt (15 : Int) a b c (1 : Int) ∧ (0 : Int) = wt (15 : Int) a b c (2 : Int) ∧
  (0 : Int) = wt (15 : Int) a b c (3 : Int) ∧ (0 : Int) = wt (15 : Int) a b c (4 : Int) ∧ (0 : Int) = wt (15 : Int) a b c (5 : Int) ∧ c = wt (15 : Int) a b c (6 : Int) ∧ b = wt (15 :
  Int) a b c (7 : Int) ∧ (0 : Int) = wt (15 : Int) a b c (8 : Int) ∧ (0 : Int) = wt (15 : Int) a b c (9 : Int) ∧ (0 : Int) = wt (15 : Int) a b c (10 : Int) ∧ a = wt (15 : Int) a b c
  (11 : Int) ∧ True) ∧ (((-9223372036854775808 : Int) ≤ (16 : Int) ∧ (16 : Int) ≤ (9223372036854775807 : Int)) ∧ ((-9223372036854775808 : Int) ≤ a ∧ a ≤ (9223372036854775807 : Int))
  ∧ ((-9223372036854775808 : Int) ≤ b ∧ b ≤ (9223372036854775807 : Int)) ∧ ((-9223372036854775808 : Int) ≤ c ∧ c ≤ (9223372036854775807 : Int)) ∧ True → True ∧ (0 : Int) = wt (16 :
  Int) a b c (0 : Int) ∧ (0 : Int) = wt (16 : Int) a b c (1 : Int) ∧ (0 : Int) = wt (16 : Int) a b c (2 : Int) ∧ (0 : Int) = wt (16 : Int) a b c (3 : Int) ∧ (0 : Int) = wt (16 : Int)
  a b c (4 : Int) ∧ (0 : Int) = wt (16 : Int) a b c (5 : Int) ∧ (0 : Int) = wt (16 : Int) a b c (6 : Int) ∧ c = wt (16 : Int) a b c (7 : Int) ∧ b = wt (16 : Int) a b c (8 : Int) ∧ (0
  : Int) = wt (16 : Int) a b c (9 : Int) ∧ (0 : Int) = wt (16 : Int) a b c (10 : Int) ∧ a = wt (16 : Int) a b c (11 : Int) ∧ True) ∧ (((-9223372036854775808 : Int) ≤ (17 : Int) ∧ (17
  : Int) ≤ (9223372036854775807 : Int)) ∧ ((-9223372036854775808 : Int) ≤ a ∧ a ≤ (9223372036854775807 : Int)) ∧ ((-9223372036854775808 : Int) ≤ b ∧ b ≤ (9223372036854775807 : Int))
  ∧ ((-9223372036854775808 : Int) ≤ c ∧ c ≤ (9223372036854775807 : Int)) ∧ True → True ∧ (0 : Int) = wt (17 : Int) a b c (0 : Int) ∧ (0 : Int) = wt (17 : Int) a b c (1 : Int) ∧ (0 :
  Int) = wt (17 : Int) a b c (2 : Int) ∧ (0 : Int) = wt (17 : Int) a b c (3 : Int) ∧ (0 : Int) = wt (17 : Int) a b c (4 : Int) ∧ (0 : Int) = wt (17 : Int) a b c (5 : Int) ∧ (0 : Int)
  = wt (17 : Int) a b c (6 : Int) ∧ (0 : Int) = wt (17 : Int) a b c (7 : Int) ∧ c = wt (17 : Int) a b c (8 : Int) ∧ b = wt (17 : Int) a b c (9 : Int) ∧ (0 : Int) = wt (17 : Int) a b
  c (10 : Int) ∧ a = wt (17 : Int) a b c (11 : Int) ∧ True) ∧ (((-9223372036854775808 : Int) ≤ (18 : Int) ∧ (18 : Int) ≤ (9223372036854775807 : Int)) ∧ ((-9223372036854775808 : Int)
  ≤ a ∧ a ≤ (9223372036854775807 : Int)) ∧ ((-9223372036854775808 : Int) ≤ b ∧ b ≤ (9223372036854775807 : Int)) ∧ ((-9223372036854775808 : Int) ≤ c ∧ c ≤ (9223372036854775807 : Int))
  ∧ True → True ∧ (0 : Int) = wt (18 : Int) a b c (0 : Int) ∧ (0 : Int) = wt (18 : Int) a b c (1 : Int) ∧ (0 : Int) = wt (18 : Int) a b c (2 : Int) ∧ (0 : Int) = wt (18 : Int) a b c
  (3 : Int) ∧ (0 : Int) = wt (18 : Int) a b c (4 : Int) ∧ (0 : Int) = wt (18 : Int) a b c (5 : Int) ∧ (0 : Int) = wt (18 : Int) a b c (6 : Int) ∧ (0 : Int) = wt (18 : Int) a b c (7 :
  Int) ∧ (0 : Int) = wt (18 : Int) a b c (8 : Int) ∧ c = wt (18 : Int) a b c (9 : Int) ∧ b = wt (18 : Int) a b c (10 : Int) ∧ a = wt (18 : Int) a b c (11 : Int) ∧ True) ∧
  (((-9223372036854775808 : Int) ≤ (19 : Int) ∧ (19 : Int) ≤ (9223372036854775807 : Int)) ∧ ((-9223372036854775808 : Int) ≤ a ∧ a ≤ (9223372036854775807 : Int)) ∧
  ((-9223372036854775808 : Int) ≤ b ∧ b ≤ (9223372036854775807 : Int)) ∧ ((-9223372036854775808 : Int) ≤ c ∧ c ≤ (9223372036854775807 : Int)) ∧ True → True ∧ (0 : Int) = wt (19 :
  Int) a b c (0 : Int) ∧ (0 : Int) = wt (19 : Int) a b c (1 : Int) ∧ (0 : Int) = wt (19 : Int) a b c (2 : Int) ∧ (0 : Int) = wt (19 : Int) a b c (3 : Int) ∧ (0 : Int) = wt (19 : Int)
  a b c (4 : Int) ∧ (0 : Int) = wt (19 : Int) a b c (5 : Int) ∧ b = wt (19 : Int) a b c (6 : Int) ∧ (0 : Int) = wt (19 : Int) a b c (7 : Int) ∧ (0 : Int) = wt (19 : Int) a b c (8 :
  Int) ∧ (0 : Int) = wt (19 : Int) a b c (9 : Int) ∧ c = wt (19 : Int) a b c (10 : Int) ∧ a = wt (19 : Int) a b c (11 : Int) ∧ True) ∧ True
set_option maxRecDepth 100000 in
theorem rWeights20_P : rWeights20_T := by
  unfold rWeights20_T
  intro gl a b c
  repeat' (first | exact trivial | intro _ | rfl | apply And.intro)
def rWeights20_S : Prop := ∀ (gl : Glob) (a b c : Int), allN fcs fun f => fnK Tryd.prog { glob := gl, spec := lk [(83, rCorners_s fac crn)], nowf := true } { nt := 28 } (fun _ _ => none) 6 Tryd.f78 [.agg [.int .i64 f, .int .i64 a, .int .i64 b, .int .i64 c]] (.agg [.int .i64 (wt f a b c 0), .int .i64 (wt f a b c 1), .int .i64 (wt f a b c 2), .int .i64 (wt f a b c 3), .int .i64 (wt f a b c 4), .int .i64 (wt f a b c 5), .int .i64 (wt f a b c 6), .int .i64 (wt f a b c 7), .int .i64 (wt f a b c 8), .int .i64 (wt f a b c 9), .int .i64 (wt f a b c 10), .int .i64 (wt f a b c 11)])
set_option maxRecDepth 100000 in
theorem rWeights20_e : rWeights20_T = rWeights20_S := by kernel_rfl
theorem rWeights20 : rWeights20_S := @Eq.mp (rWeights20_T) (rWeights20_S) (rWeights20_e) rWeights20_P
set_option maxRecDepth 100000 in
def rOn20_T : Prop :=
  ∀ (gl : Glob) (w0 w1 w2 w3 w4 w5 w6 w7 w8 w9 w10 w11 : Int), ((-9223372036854775808 : Int) ≤ (0 : Int) ∧ (0 : Int) ≤ (9223372036854775807 : Int) → ((-9223372036854775808 : Int) ≤
  w0 ∧ w0 ≤ (9223372036854775807 : Int)) ∧ ((-9223372036854775808 : Int) ≤ w1 ∧ w1 ≤ (9223372036854775807 : Int)) ∧ ((-9223372036854775808 : Int) ≤ w2 ∧ w2 ≤ (9223372036854775807 :
  Int)) ∧ ((-9223372036854775808 : Int) ≤ w3 ∧ w3 ≤ (9223372036854775807 : Int)) ∧ ((-9223372036854775808 : Int) ≤ w4 ∧ w4 ≤ (9223372036854775807 : Int)) ∧ ((-9223372036854775808 :
  Int) ≤ w5 ∧ w5 ≤ (9223372036854775807 : Int)) ∧ ((-9223372036854775808 : Int) ≤ w6 ∧ w6 ≤ (9223372036854775807 : Int)) ∧ ((-9223372036854775808 : Int) ≤ w7 ∧ w7 ≤
  (9223372036854775807 : Int)) ∧ ((-9223372036854775808 : Int) ≤ w8 ∧ w8 ≤ (9223372036854775807 : Int)) ∧ ((-9223372036854775808 : Int) ≤ w9 ∧ w9 ≤ (9223372036854775807 : Int)) ∧
  ((-9223372036854775808 : Int) ≤ w10 ∧ w10 ≤ (9223372036854775807 : Int)) ∧ ((-9223372036854775808 : Int) ≤ w11 ∧ w11 ≤ (9223372036854775807 : Int)) ∧ True → True ∧ ((0 : Int) = (0
  : Int) ∧ w0 = sel [w0, w1, w2, w3, w4, w5, w6, w7, w8, w9, w10, w11] (0 : Int) ∧ w1 = sel [w0, w1, w2, w3, w4, w5, w6, w7, w8, w9, w10, w11] (1 : Int) ∧ w2 = sel [w0, w1, w2, w3,
  w4, w5, w6, w7, w8, w9, w10, w11] (2 : Int) ∧ True) ∧ decide (IntKind.i64.wrap (IntKind.i64.wrap (w0 + w1) + w2) = (840 : Int)) = decide (w64 (w64 (sel [w0, w1, w2, w3, w4, w5, w6,
  w7, w8, w9, w10, w11] (0 : Int) + sel [w0, w1, w2, w3, w4, w5, w6, w7, w8, w9, w10, w11] (1 : Int)) + sel [w0, w1, w2, w3, w4, w5, w6, w7, w8, w9, w10, w11] (2 : Int)) = (840 :
  Int)) ∧ True) ∧ ((-9223372036854775808 : Int) ≤ (1 : Int) ∧ (1 : Int) ≤ (9223372036854775807 : Int) → ((-9223372036854775808 : Int) ≤ w0 ∧ w0 ≤ (9223372036854775807 : Int)) ∧
  ((-9223372036854775808 : Int) ≤ w1 ∧ w1 ≤ (9223372036854775807 : Int)) ∧ ((-9223372036854775808 : Int) ≤ w2 ∧ w2 ≤ (9223372036854775807 : Int)) ∧ ((-9223372036854775808 : Int) ≤ w3
  ∧ w3 ≤ (9223372036854775807 : Int)) ∧ ((-9223372036854775808 : Int) ≤ w4 ∧ w4 ≤ (9223372036854775807 : Int)) ∧ ((-9223372036854775808 : Int) ≤ w5 ∧ w5 ≤ (9223372036854775807 :
  Int)) ∧ ((-9223372036854775808 : Int) ≤ w6 ∧ w6 ≤ (9223372036854775807 : Int)) ∧ ((-9223372036854775808 : Int) ≤ w7 ∧ w7 ≤ (9223372036854775807 : Int)) ∧ ((-9223372036854775808 :
  Int) ≤ w8 ∧ w8 ≤ (9223372036854775807 : Int)) ∧ ((-9223372036854775808 : Int) ≤ w9 ∧ w9 ≤ (9223372036854775807 : Int)) ∧ ((-9223372036854775808 : Int) ≤ w10 ∧ w10 ≤
  (9223372036854775807 : Int)) ∧ ((-9223372036854775808 : Int) ≤ w11 ∧ w11 ≤ (9223372036854775807 : Int)) ∧ True → True ∧ ((1 : Int) = (1 : Int) ∧ w0 = sel [w0, w1, w2, w3, w4, w5,
  w6, w7, w8, w9, w10, w11] (0 : Int) ∧ w2 = sel [w0, w1, w2, w3, w4, w5, w6, w7, w8, w9, w10, w11] (2 : Int) ∧ w3 = sel [w0, w1, w2, w3, w4, w5, w6, w7, w8, w9, w10, w11] (3 : Int)
  ∧ True) ∧ decide (IntKind.i64.wrap (IntKind.i64.wrap (w0 + w2) + w3) = (840 : Int)) = decide (w64 (w64 (sel [w0, w1, w2, w3, w4, w5, w6, w7, w8, w9, w10, w11] (0 : Int) + sel [w0,
  w1, w2, w3, w4, w5, w6, w7, w8, w9, w10, w11] (2 : Int)) + sel [w0, w1, w2, w3, w4, w5, w6, w7, w8, w9, w10, w11] (3 : Int)) = (840 : Int)) ∧ True) ∧ ((-9223372036854775808 : Int)
  ≤ (2 : Int) ∧ (2 : Int) ≤ (9223372036854775807 : Int) → ((-9223372036854775808 : Int) ≤ w0 ∧ w0 ≤ (9223372036854775807 : Int)) ∧ ((-9223372036854775808 : Int) ≤ w1 ∧ w1 ≤
  (9223372036854775807 : Int)) ∧ ((-9223372036854775808 : Int) ≤ w2 ∧ w2 ≤ (9223372036854775807 : Int)) ∧ ((-9223372036854775808 : Int) ≤ w3 ∧ w3 ≤ (9223372036854775807 : Int)) ∧
  ((-9223372036854775808 : Int) ≤ w4 ∧ w4 ≤ (9223372036854775807 : Int)) ∧ ((-9223372036854775808 : Int) ≤ w5 ∧ w5 ≤ (9223372036854775807 : Int)) ∧ ((-9223372036854775808 : Int) ≤ w6
  ∧ w6 ≤ (9223372036854775807 : Int)) ∧ ((-9223372036854775808 : Int) ≤ w7 ∧ w7 ≤ (9223372036854775807 : Int)) ∧ ((-9223372036854775808 : Int) ≤ w8 ∧ w8 ≤ (9223372036854775807 :
  Int)) ∧ ((-9223372036854775808 : Int) ≤ w9 ∧ w9 ≤ (9223372036854775807 : Int)) ∧ ((-9223372036854775808 : Int) ≤ w10 ∧ w10 ≤ (9223372036854775807 : Int)) ∧ ((-9223372036854775808 :
  Int) ≤ w11 ∧ w11 ≤ (9223372036854775807 : Int)) ∧ True → True ∧ ((2 : Int) = (2 : Int) ∧ w0 = sel [w0, w1, w2, w3, w4, w5, w6, w7, w8, w9, w10, w11] (0 : Int) ∧ w3 = sel [w0, w1,
  w2, w3, w4, w5, w6, w7, w8, w9, w10, w11] (3 : Int) ∧ w4 = sel [w0, w1, w2, w3, w4, w5, w6, w7, w8, w9, w10, w11] (4 : Int) ∧ True) ∧ decide (IntKind.i64.wrap (IntKind.i64.wrap (w0
  + w3) + w4) = (840 : Int)) = decide (w64 (w64 (sel [w0, w1, w2, w3, w4, w5, w6, w7, w8, w9, w10, w11] (0 : Int) + sel [w0, w1, w2, w3, w4, w5, w6, w7, w8, w9, w10, w11] (3 : Int))
  + sel [w0, w1, w2, w3, w4, w5, w6, w7, w8, w9, w10, w11] (4 : Int)) = (840 : Int)) ∧ True) ∧ ((-9223372036854775808 : Int) ≤ (3 : Int) ∧ (3 : Int) ≤ (9223372036854775807 : Int) →
  ((-9223372036854775808 : Int) ≤ w0 ∧ w0 ≤ (9223372036854775807 : Int)) ∧ ((-9223372036854775808 : Int) ≤ w1 ∧ w1 ≤ (9223372036854775807 : Int)) ∧ ((-9223372036854775808 : Int) ≤ w2
  ∧ w2 ≤ (9223372036854775807 : Int)) ∧ ((-9223372036854775808 : Int) ≤ w3 ∧ w3 ≤ (9223372036854775807 : Int)) ∧ ((-9223372036854775808 : Int) ≤ w4 ∧ w4 ≤ (9223372036854775807 :
  Int)) ∧ ((-9223372036854775808 : Int) ≤ w5 ∧ w5 ≤ (9223372036854775807 : Int)) ∧ ((-9223372036854775808 : Int) ≤ w6 ∧ w6 ≤ (9223372036854775807 : Int)) ∧ ((-9223372036854775808 :
  Int) ≤ w7 ∧ w7 ≤ (9223372036854775807 : Int)) ∧ ((-9223372036854775808 : Int) ≤ w8 ∧ w8 ≤ (9223372036854775807 : Int)) ∧ ((-9223372036854775808 : Int) ≤ w9 ∧ w9 ≤
  (9223372036854775807 : Int)) ∧ ((-9223372036854775808 : Int) ≤ w10 ∧ w10 ≤ (9223372036854775807 : Int)) ∧ ((-9223372036854775808 : Int) ≤ w11 ∧ w11 ≤ (9223372036854775807 : Int)) ∧
  True → True ∧ ((3 : Int) = (3 : Int) ∧ w0 = sel [w0, w1, w2, w3, w4, w5, w6, w7, w8, w9, w10, w11] (0 : Int) ∧ w4 = sel [w0, w1, w2, w3, w4, w5, w6, w7, w8, w9, w10, w11] (4 : Int)
  ∧ w5 = sel [w0, w1, w2, w3, w4, w5, w6, w7, w8, w9, w10, w11] (5 : Int) ∧ True) ∧ decide (IntKind.i64.wrap (IntKind.i64.wrap (w0 + w4) + w5) = (840 : Int)) = decide (w64 (w64 (sel
  [w0, w1, w2, w3, w4, w5, w6, w7, w8, w9, w10, w11] (0 : Int) + sel [w0, w1, w2, w3, w4, w5, w6, w7, w8, w9, w10, w11] (4 : Int)) + sel [w0, w1, w2, w3, w4, w5, w6, w7, w8, w9, w10,
  w11] (5 : Int)) = (840 : Int)) ∧ True) ∧ ((-9223372036854775808 : Int) ≤ (4 : Int) ∧ (4 : Int) ≤ (9223372036854775807 : Int) → ((-9223372036854775808 : Int) ≤ w0 ∧ w0 ≤
  (9223372036854775807 : Int)) ∧ ((-9223372036854775808 : Int) ≤ w1 ∧ w1 ≤ (9223372036854775807 : Int)) ∧ ((-9223372036854775808 : Int) ≤ w2 ∧ w2 ≤ (9223372036854775807 : Int)) ∧
  ((-9223372036854775808 : Int) ≤ w3 ∧ w3 ≤ (9223372036854775807 : Int)) ∧ ((-9223372036854775808 : Int) ≤ w4 ∧ w4 ≤ (9223372036854775807 : Int)) ∧ ((-9223372036854775808 : Int) ≤ w5
  ∧ w5 ≤ (9223372036854775807 : Int)) ∧ ((-9223372036854775808 : Int) ≤ w6 ∧ w6 ≤ (9223372036854775807 : Int)) ∧ ((-9223372036854775808 : Int) ≤ w7 ∧ w7 ≤ (9223372036854775807 :
  Int)) ∧ ((-9223372036854775808 : Int) ≤ w8 ∧ w8 ≤ (9223372036854775807 : Int)) ∧ ((-9223372036854775808 : Int) ≤ w9 ∧ w9 ≤ (9223372036854775807 : Int)) ∧ ((-9223372036854775808 :
  Int) ≤ w10 ∧ w10 ≤ (9223372036854775807 : Int)) ∧ ((-9223372036854775808 : Int) ≤ w11 ∧ w11 ≤ (9223372036854775807 : Int)) ∧ True → True ∧ ((4 : Int) = (4 : Int) ∧ w0 = sel [w0,
  w1, w2, w3, w4, w5, w6, w7, w8, w9, w10, w11] (0 : Int) ∧ w5 = sel [w0, w1, w2, w3, w4, w5, w6, w7, w8, w9, w10, w11] (5 : Int) ∧ w1 = sel [w0, w1, w2, w3, w4, w5, w6, w7, w8, w9,
  w10, w11] (1 : Int) ∧ True) ∧ decide (IntKind.i64.wrap (IntKind.i64.wrap (w0 + w5) + w1) = (840 : Int)) = decide (w64 (w64 (sel [w0, w1, w2, w3, w4, w5, w6, w7, w8, w9, w10, w11]
  (0 : Int) + sel [w0, w1, w2, w3, w4, w5, w6, w7, w8, w9, w10, w11] (5 : Int)) + sel [w0, w1, w2, w3, w4, w5, w6, w7, w8, w9, w10, w11] (1 : Int)) = (840 : Int)) ∧ True) ∧
  ((-9223372036854775808 : Int) ≤ (5 : Int) ∧ (5 : Int) ≤ (9223372036854775807 : Int) → ((-9223372036854775808 : Int) ≤ w0 ∧ w0 ≤ (9223372036854775807 : Int)) ∧
  ((-9223372036854775808 : Int) ≤ w1 ∧ w1 ≤ (9223372036854775807 : Int)) ∧ ((-9223372036854775808 : Int) ≤ w2 ∧ w2 ≤ (9223372036854775807 : Int)) ∧ ((-9223372036854775808 : Int) ≤ w3
  ∧ w3 ≤ (9223372036854775807 : Int)) ∧ ((-9223372036854775808 : Int) ≤ w4 ∧ w4 ≤ (9223372036854775807 : Int)) ∧ ((-9223372036854775808 : Int) ≤ w5 ∧ w5 ≤ (9223372036854775807 :
  Int)) ∧ ((-9223372036854775808 : Int) ≤ w6 ∧ w6 ≤ (9223372036854775807 : Int)) ∧ ((-9223372036854775808 : Int) ≤ w7 ∧ w7 ≤ (9223372036854775807 : Int)) ∧ ((-9223372036854775808 :
  Int) ≤ w8 ∧ w8 ≤ (9223372036854775807 : Int)) ∧ ((-9223372036854775808 : Int) ≤ w9 ∧ w9 ≤ (9223372036854775807 : Int)) ∧ ((-9223372036854775808 : Int) ≤ w10 ∧ w10 ≤
  (9223372036854775807 : Int)) ∧ ((-9223372036854775808 : Int) ≤ w11 ∧ w11 ≤ (9223372036854775807 : Int)) ∧ True → True ∧ ((5 : Int) = (5 : Int) ∧ w1 = sel [w0, w1, w2, w3, w4, w5,
  w6, w7, w8, w9, w10, w11] (1 : Int) ∧ w6 = sel [w0, w1, w2, w3, w4, w5, w6, w7, w8, w9, w10, w11] (6 : Int) ∧ w2 = sel [w0, w1, w2, w3, w4, w5, w6, w7, w8, w9, w10, w11] (2 : Int)
  ∧ True) ∧ decide (IntKind.i64.wrap (IntKind.i64.wrap (w1 + w6) + w2) = (840 : Int)) = decide (w64 (w64 (sel [w0, w1, w2, w3, w4, w5, w6, w7, w8, w9, w10, w11] (1 : Int) + sel [w0,
  w1, w2, w3, w4, w5, w6, w7, w8, w9, w10, w11] (6 : Int)) + sel [w0, w1, w2, w3, w4, w5, w6, w7, w8, w9, w10, w11] (2 : Int)) = (840 : Int)) ∧ True) ∧ ((-9223372036854775808 : Int)
  ≤ (6 : Int) ∧ (6 : Int) ≤ (9223372036854775807 : Int) → ((-9223372036854775808 : Int) ≤ w0 ∧ w0 ≤ (9223372036854775807 : Int)) ∧ ((-9223372036854775808 : Int) ≤ w1 ∧ w1 ≤
  (9223372036854775807 : Int)) ∧ ((-9223372036854775808 : Int) ≤ w2 ∧ w2 ≤ (9223372036854775807 : Int)) ∧ ((-9223372036854775808 : Int) ≤ w3 ∧ w3 ≤ (9223372036854775807 : Int)) ∧
  ((-9223372036854775808 : Int) ≤ w4 ∧ w4 ≤ (9223372036854775807 : Int)) ∧ ((-9223372036854775808 : Int) ≤ w5 ∧ w5 ≤ (9223372036854775807 : Int)) ∧ ((-9223372036854775808 : Int) ≤ w6
  ∧ w6 ≤ (9223372036854775807 : Int)) ∧ ((-9223372036854775808 : Int) ≤ w7 ∧ w7 ≤ (9223372036854775807 : Int)) ∧ ((-9223372036854775808 : Int) ≤ w8 ∧ w8 ≤ (9223372036854775807 :
  Int)) ∧ ((-9223372036854775808 : Int) ≤ w9 ∧ w9 ≤ (9223372036854775807 : Int)) ∧ ((-9223372036854775808 : Int) ≤ w10 ∧ w10 ≤ (9223372036854775807 : Int)) ∧ ((-9223372036854775808 :
  Int) ≤ w11 ∧ w11 ≤ (9223372036854775807 : Int)) ∧ True → True ∧ ((6 : Int) = (6 : Int) ∧ w2 = sel [w0, w1, w2, w3, w4, w5, w6, w7, w8, w9, w10, w11] (2 : Int) ∧ w7 = sel [w0, w1,
  w2, w3, w4, w5, w6, w7, w8, w9, w10, w11] (7 : Int) ∧ w3 = sel [w0, w1, w2, w3, w4, w5, w6, w7, w8, w9, w10, w11] (3 : Int) ∧ True) ∧ decide (IntKind.i64.wrap (IntKind.i64.wrap (w2
  + w7) + w3) = (840 : Int)) = decide (w64 (w64 (sel [w0, w1, w2, w3, w4, w5, w6, w7, w8, w9, w10, w11] (2 : Int) + sel [w0, w1, w2, w3, w4, w5, w6, w7, w8, w9, w10, w11] (7 : Int))
  + sel [w0, w1, w2, w3, w4, w5, w6, w7, w8, w9, w10, w11] (3 : Int)) = (840 : Int)) ∧ True) ∧ ((-9223372036854775808 : Int) ≤ (7 : Int) ∧ (7 : Int) ≤ (9223372036854775807 : Int) →
  ((-9223372036854775808 : Int) ≤ w0 ∧ w0 ≤ (9223372036854775807 : Int)) ∧ ((-9223372036854775808 : Int) ≤ w1 ∧ w1 ≤ (9223372036854775807 : Int)) ∧ ((-9223372036854775808 : Int) ≤ w2
  ∧ w2 ≤ (9223372036854775807 : Int)) ∧ ((-9223372036854775808 : Int) ≤ w3 ∧ w3 ≤ (9223372036854775807 : Int)) ∧ ((-9223372036854775808 : Int) ≤ w4 ∧ w4 ≤ (9223372036854775807 :
  Int)) ∧ ((-9223372036854775808 : Int) ≤ w5 ∧ w5 ≤ (9223372036854775807 : Int)) ∧ ((-9223372036854775808 : Int) ≤ w6 ∧ w6 ≤ (9223372036854775807 : Int)) ∧ ((-9223372036854775808 :
  Int) ≤ w7 ∧ w7 ≤ (9223372036854775807 : Int)) ∧ ((-9223372036854775808 : Int) ≤ w8 ∧ w8 ≤ (9223372036854775807 : Int)) ∧ ((-9223372036854775808 : Int) ≤ w9 ∧ w9 ≤
  (9223372036854775807 : Int)) ∧ ((-9223372036854775808 : Int) ≤ w10 ∧ w10 ≤ (9223372036854775807 : Int)) ∧ ((-9223372036854775808 : Int) ≤ w11 ∧ w11 ≤ (9223372036854775807 : Int)) ∧
  True → True ∧ ((7 : Int) = (7 : Int) ∧ w3 = sel [w0, w1, w2, w3, w4, w5, w6, w7, w8, w9, w10, w11] (3 : Int) ∧ w8 = sel [w0, w1, w2, w3, w4, w5, w6, w7, w8, w9, w10, w11] (8 : Int)
  ∧ w4 = sel [w0, w1, w2, w3, w4, w5, w6, w7, w8, w9, w10, w11] (4 : Int) ∧ True) ∧ decide (IntKind.i64.wrap (IntKind.i64.wrap (w3 + w8) + w4) = (840 : Int)) = decide (w64 (w64 (sel
  [w0, w1, w2, w3, w4, w5, w6, w7, w8, w9, w10, w11] (3 : Int) + sel [w0, w1, w2, w3, w4, w5, w6, w7, w8, w9, w10, w11] (8 : Int)) + sel [w0, w1, w2, w3, w4, w5, w6, w7, w8, w9, w10,
  w11] (4 : Int)) = (840 : Int)) ∧ True) ∧ ((-9223372036854775808 : Int) ≤ (8 : Int) ∧ (8 : Int) ≤ (9223372036854775807 : Int) → ((-9223372036854775808 : Int) ≤ w0 ∧ w0 ≤
  (9223372036854775807 : Int)) ∧ ((-9223372036854775808 : Int) ≤ w1 ∧ w1 ≤ (9223372036854775807 : Int)) ∧ ((-9223372036854775808 : Int) ≤ w2 ∧ w2 ≤ (9223372036854775807 : Int)) ∧
  ((-9223372036854775808 : Int) ≤ w3 ∧ w3 ≤ (9223372036854775807 : Int)) ∧ ((-9223372036854775808 : Int) ≤ w4 ∧ w4 ≤ (9223372036854775807 : Int)) ∧ ((-9223372036854775808 : Int) ≤ w5
  ∧ w5 ≤ (9223372036854775807 : Int)) ∧ ((-9223372036854775808 : Int) ≤ w6 ∧ w6 ≤ (9223372036854775807 : Int)) ∧ ((-9223372036854775808 : Int) ≤ w7 ∧ w7 ≤ (9223372036854775807 :
  Int)) ∧ ((-9223372036854775808 : Int) ≤ w8 ∧ w8 ≤ (9223372036854775807 : Int)) ∧ ((-9223372036854775808 : Int) ≤ w9 ∧ w9 ≤ (9223372036854775807 : Int)) ∧ ((-9223372036854775808 :
  Int) ≤ w10 ∧ w10 ≤ (9223372036854775807 : Int)) ∧ ((-9223372036854775808 : Int) ≤ w11 ∧ w11 ≤ (9223372036854775807 : Int)) ∧ True → True ∧ ((8 : Int) = (8 : Int) ∧ w4 = sel [w0,
  w1, w2, w3, w4, w5, w6, w7, w8, w9, w10, w11] (4 : Int) ∧ w9 = sel [w0, w1, w2, w3, w4, w5, w6, w7, w8, w9, w10, w11] (9 : Int) ∧ w5 = sel [w0, w1, w2, w3, w4, w5, w6, w7, w8, w9,
  w10, w11] (5 : Int) ∧ True) ∧ decide (IntKind.i64.wrap (IntKind.i64.wrap (w4 + w9) + w5) = (840 : Int)) = decide (w64 (w64 (sel [w0, w1, w2, w3, w4, w5, w6, w7, w8, w9, w10, w11]
  (4 : Int) + sel [w0, w1, w2, w3, w4, w5, w6, w7, w8, w9, w10, w11] (9 : Int)) + sel [w0, w1, w2, w3, w4, w5, w6, w7, w8, w9, w10, w11] (5 : Int)) = (840 : Int)) ∧ True) ∧
  ((-9223372036854775808 : Int) ≤ (9 : Int) ∧ (9 : Int) ≤ (9223372036854775807 : Int) → ((-9223372036854775808 : Int) ≤ w0 ∧ w0 ≤ (9223372036854775807 : Int)) ∧
  ((-9223372036854775808 : Int) ≤ w1 ∧ w1 ≤ (9223372036854775807 : Int)) ∧ ((-9223372036854775808 : Int) ≤ w2 ∧ w2 ≤ (9223372036854775807 : Int)) ∧ ((-9223372036854775808 : Int) ≤ w3
  ∧ w3 ≤ (9223372036854775807 : Int)) ∧ ((-9223372036854775808 : Int) ≤ w4 ∧ w4 ≤ (9223372036854775807 : Int)) ∧ ((-9223372036854775808 : Int) ≤ w5 ∧ w5 ≤ (9223372036854775807 :
  Int)) ∧ ((-9223372036854775808 : Int) ≤ w6 ∧ w6 ≤ (9223372036854775807 : Int)) ∧ ((-9223372036854775808 : Int) ≤ w7 ∧ w7 ≤ (9223372036854775807 : Int)) ∧ ((-9223372036854775808 :
  Int) ≤ w8 ∧ w8 ≤ (9223372036854775807 : Int)) ∧ ((-9223372036854775808 : Int) ≤ w9 ∧ w9 ≤ (9223372036854775807 : Int)) ∧ ((-9223372036854775808 : Int) ≤ w10 ∧ w10 ≤
  (9223372036854775807 : Int)) ∧ ((-9223372036854775808 : Int) ≤ w11 ∧ w11 ≤ (9223372036854775807 : Int)) ∧ True → True ∧ ((9 : Int) = (9 : Int) ∧ w5 = sel [w0, w1, w2, w3, w4, w5,
  w6, w7, w8, w9, w10, w11] (5 : Int) ∧ w10 = sel [w0, w1, w2, w3, w4, w5, w6, w7, w8, w9, w10, w11] (10 : Int) ∧ w1 = sel [w0, w1, w2, w3, w4, w5, w6, w7, w8, w9, w10, w11] (1 :
  Int) ∧ True) ∧ decide (IntKind.i64.wrap (IntKind.i64.wrap (w5 + w10) + w1) = (840 : Int)) = decide (w64 (w64 (sel [w0, w1, w2, w3, w4, w5, w6, w7, w8, w9, w10, w11] (5 : Int) + sel
  [w0, w1, w2, w3, w4, w5, w6, w7, w8, w9, w10, w11] (10 : Int)) + sel [w0, w1, w2, w3, w4, w5, w6, w7, w8, w9, w10, w11] (1 : Int)) = (840 : Int)) ∧ True) ∧ ((-9223372036854775808 :
  Int) ≤ (10 : Int) ∧ (10 : Int) ≤ (9223372036854775807 : Int) → ((-9223372036854775808 : Int) ≤ w0 ∧ w0 ≤ (9223372036854775807 : Int)) ∧ ((-9223372036854775808 : Int) ≤ w1 ∧ w1 ≤
  (9223372036854775807 : Int)) ∧ ((-9223372036854775808 : Int) ≤ w2 ∧ w2 ≤ (9223372036854775807 : Int)) ∧ ((-9223372036854775808 : Int) ≤ w3 ∧ w3 ≤ (9223372036854775807 : Int)) ∧
  ((-9223372036854775808 : Int) ≤ w4 ∧ w4 ≤ (9223372036854775807 : Int)) ∧ ((-9223372036854775808 : Int) ≤ w5 ∧ w5 ≤ (9223372036854775807 : Int)) ∧ ((-9223372036854775808 : Int) ≤ w6
  ∧ w6 ≤ (9223372036854775807 : Int)) ∧ ((-9223372036854775808 : Int) ≤ w7 ∧ w7 ≤ (9223372036854775807 : Int)) ∧ ((-9223372036854775808 : Int) ≤ w8 ∧ w8 ≤ (9223372036854775807 :
  Int)) ∧ ((-9223372036854775808 : Int) ≤ w9 ∧ w9 ≤ (9223372036854775807 : Int)) ∧ ((-9223372036854775808 : Int) ≤ w10 ∧ w10 ≤ (9223372036854775807 : Int)) ∧ ((-9223372036854775808 :
  Int) ≤ w11 ∧ w11 ≤ (9223372036854775807 : Int)) ∧ True → True ∧ ((10 : Int) = (10 : Int) ∧ w6 = sel [w0, w1, w2, w3, w4, w5, w6, w7, w8, w9, w10, w11] (6 : Int) ∧ w7 = sel [w0, w1,
  w2, w3, w4, w5, w6, w7, w8, w9, w10, w11] (7 : Int) ∧ w2 = sel [w0, w1, w2, w3, w4, w5, w6, w7, w8, w9, w10, w11] (2 : Int) ∧ True) ∧ decide (IntKind.i64.wrap (IntKind.i64.wrap (w6
  + w7) + w2) = (840 : Int)) = decide (w64 (w64 (sel [w0, w1, w2, w3, w4, w5, w6, w7, w8, w9, w10, w11] (6 : Int) + sel [w0, w1, w2, w3, w4, w5, w6, w7, w8, w9, w10, w11] (7 : Int))
  + sel [w0, w1, w2, w3, w4, w5, w6, w7, w8, w9, w10, w11] (2 : Int)) = (840 : Int)) ∧ True) ∧ ((-9223372036854775808 : Int) ≤ (11 : Int) ∧ (11 : Int) ≤ (9223372036854775807 : Int) →
  ((-9223372036854775808 : Int) ≤ w0 ∧ w0 ≤ (9223372036854775807 : Int)) ∧ ((-9223372036854775808 : Int) ≤ w1 ∧ w1 ≤ (9223372036854775807 : Int)) ∧ ((-9223372036854775808 : Int) ≤ w2
  ∧ w2 ≤ (9223372036854775807 : Int)) ∧ ((-9223372036854775808 : Int) ≤ w3 ∧ w3 ≤ (9223372036854775807 : Int)) ∧ ((-9223372036854775808 : Int) ≤ w4 ∧ w4 ≤ (9223372036854775807 :
  Int)) ∧ ((-9223372036854775808 : Int) ≤ w5 ∧ w5 ≤ (9223372036854775807 : Int)) ∧ ((-9223372036854775808 : Int) ≤ w6 ∧ w6 ≤ (9223372036854775807 : Int)) ∧ ((-9223372036854775808 :
  Int) ≤ w7 ∧ w7 ≤ (9223372036854775807 : Int)) ∧ ((-9223372036854775808 : Int) ≤ w8 ∧ w8 ≤ (9223372036854775807 : Int)) ∧ ((-9223372036854775808 : Int) ≤ w9 ∧ w9 ≤
  (9223372036854775807 : Int)) ∧ ((-9223372036854775808 : Int) ≤ w10 ∧ w10 ≤ (9223372036854775807 : Int)) ∧ ((-9223372036854775808 : Int) ≤ w11 ∧ w11 ≤ (9223372036854775807 : Int)) ∧
  True → True ∧ ((11 : Int) = (11 : Int) ∧ w7 = sel [w0, w1, w2, w3, w4, w5, w6, w7, w8, w9, w10, w11] (7 : Int) ∧ w8 = sel [w0, w1, w2, w3, w4, w5, w6, w7, w8, w9, w10, w11] (8 :
  Int) ∧ w3 = sel [w0, w1, w2, w3, w4, w5, w6, w7, w8, w9, w10, w11] (3 : Int) ∧ True) ∧ decide (IntKind.i64.wrap (IntKind.i64.wrap (w7 + w8) + w3) = (840 : Int)) = decide (w64 (w64
  (sel [w0, w1, w2, w3, w4, w5, w6, w7, w8, w9, w10, w11] (7 : Int) + sel [w0, w1, w2, w3, w4, w5, w6, w7, w8, w9, w10, w11] (8 : Int)) + sel [w0, w1, w2, w3, w4, w5, w6, w7, w8, w9,
  w10, w11] (3 : Int)) = (840 : Int)) ∧ True) ∧ ((-9223372036854775808 : Int) ≤ (12 : Int) ∧ (12 : Int) ≤ (9223372036854775807 : Int) → ((-9223372036854775808 : Int) ≤ w0 ∧ w0 ≤
  (9223372036854775807 : Int)) ∧ ((-9223372036854775808 : Int) ≤ w1 ∧ w1 ≤ (9223372036854775807 : Int)) ∧ ((-9223372036854775808 : Int) ≤ w2 ∧ w2 ≤ (9223372036854775807 : Int)) ∧
  ((-9223372036854775808 : Int) ≤ w3 ∧ w3 ≤ (9223372036854775807 : Int)) ∧ ((-9223372036854775808 : Int) ≤ w4 ∧ w4 ≤ (9223372036854775807 : Int)) ∧ ((-9223372036854775808 : Int) ≤ w5
  ∧ w5 ≤ (9223372036854775807 : Int)) ∧ ((-9223372036854775808 : Int) ≤ w6 ∧ w6 ≤ (9223372036854775807 : Int)) ∧ ((-9223372036854775808 : Int) ≤ w7 ∧ w7 ≤ (9223372036854775807 :
  Int)) ∧ ((-9223372036854775808 : Int) ≤ w8 ∧ w8 ≤ (9223372036854775807 : Int)) ∧ ((-9223372036854775808 : Int) ≤ w9 ∧ w9 ≤ (9223372036854775807 : Int)) ∧ ((-9223372036854775808 :
  Int) ≤ w10 ∧ w10 ≤ (9223372036854775807 : Int)) ∧ ((-9223372036854775808 : Int) ≤ w11 ∧ w11 ≤ (9223372036854775807 : Int)) ∧ True → True ∧ ((12 : Int) = (12 : Int) ∧ w8 = sel [w0,
  w1, w2, w3, w4, w5, w6, w7, w8, w9, w10, w11] (8 : Int) ∧ w9 = sel [w0, w1, w2, w3, w4, w5, w6, w7, w8, w9, w10, w11] (9 : Int) ∧ w4 = sel [w0, w1, w2, w3, w4, w5, w6, w7, w8, w9,
  w10, w11] (4 : Int) ∧ True) ∧ decide (IntKind.i64.wrap (IntKind.i64.wrap (w8 + w9) + w4) = (840 : Int)) = decide (w64 (w64 (sel [w0, w1, w2, w3, w4, w5, w6, w7, w8, w9, w10, w11]
  (8 : Int) + sel [w0, w1, w2, w3, w4, w5, w6, w7, w8, w9, w10, w11] (9 : Int)) + sel [w0, w1, w2, w3, w4, w5, w6, w7, w8, w9, w10, w11] (4 : Int)) = (840 : Int)) ∧ True) ∧
  ((-9223372036854775808 : Int) ≤ (13 : Int) ∧ (13 : Int) ≤ (9223372036854775807 : Int) → ((-9223372036854775808 : Int) ≤ w0 ∧ w0 ≤ (9223372036854775807 : Int)) ∧
  ((-9223372036854775808 : Int) ≤ w1 ∧ w1 ≤ (9223372036854775807 : Int)) ∧ ((-9223372036854775808 : Int) ≤ w2 ∧ w2 ≤ (9223372036854775807 : Int)) ∧ ((-9223372036854775808 : Int) ≤ w3
  ∧ w3 ≤ (9223372036854775807 : Int)) ∧ ((-9223372036854775808 : Int) ≤ w4 ∧ w4 ≤ (9223372036854775807 : Int)) ∧ ((-9223372036854775808 : Int) ≤ w5 ∧ w5 ≤ (9223372036854775807 :
  Int)) ∧ ((-9223372036854775808 : Int) ≤ w6 ∧ w6 ≤ (9223372036854775807 : Int)) ∧ ((-9223372036854775808 : Int) ≤ w7 ∧ w7 ≤ (9223372036854775807 : Int)) ∧ ((-9223372036854775808 :
  Int) ≤ w8 ∧ w8 ≤ (9223372036854775807 : Int)) ∧ ((-9223372036854775808 : Int) ≤ w9 ∧ w9 ≤ (9223372036854775807 : Int)) ∧ ((-9223372036854775808 : Int) ≤ w10 ∧ w10 ≤
  (9223372036854775807 : Int)) ∧ ((-9223372036854775808 : Int) ≤ w11 ∧ w11 ≤ (9223372036854775807 : Int)) ∧ True → True ∧ ((13 : Int) = (13 : Int) ∧ w9 = sel [w0, w1, w2, w3, w4, w5,
  w6, w7, w8, w9, w10, w11] (9 : Int) ∧ w10 = sel [w0, w1, w2, w3, w4, w5, w6, w7, w8, w9, w10, w11] (10 : Int) ∧ w5 = sel [w0, w1, w2, w3, w4, w5, w6, w7, w8, w9, w10, w11] (5 :
  Int) ∧ True) ∧ decide (IntKind.i64.wrap (IntKind.i64.wrap (w9 + w10) + w5) = (840 : Int)) = decide (w64 (w64 (sel [w0, w1, w2, w3, w4, w5, w6, w7, w8, w9, w10, w11] (9 : Int) + sel
  [w0, w1, w2, w3, w4, w5, w6, w7, w8, w9, w10, w11] (10 : Int)) + sel [w0, w1, w2, w3, w4, w5, w6, w7, w8, w9, w10, w11] (5 : Int)) = (840 : Int)) ∧ True) ∧ ((-9223372036854775808 :
  Int) ≤ (14 : Int) ∧ (14 : Int) ≤ (9223372036854775807 : Int) → ((-9223372036854775808 : Int) ≤ w0 ∧ w0 ≤ (9223372036854775807 : Int)) ∧ ((-9223372036854775808 : Int) ≤ w1 ∧ w1 ≤
  (9223372036854775807 : Int)) ∧ ((-9223372036854775808 : Int) ≤ w2 ∧ w2 ≤ (9223372036854775807 : Int)) ∧ ((-9223372036854775808 : Int) ≤ w3 ∧ w3 ≤ (9223372036854775807 : Int)) ∧
  ((-9223372036854775808 : Int) ≤ w4 ∧ w4 ≤ (9223372036854775807 : Int)) ∧ ((-9223372036854775808 : Int) ≤ w5 ∧ w5 ≤ (9223372036854775807 : Int)) ∧ ((-9223372036854775808 : Int) ≤ w6
  ∧ w6 ≤ (9223372036854775807 : Int)) ∧ ((-9223372036854775808 : Int) ≤ w7 ∧ w7 ≤ (9223372036854775807 : Int)) ∧ ((-9223372036854775808 : Int) ≤ w8 ∧ w8 ≤ (9223372036854775807 :
  Int)) ∧ ((-9223372036854775808 : Int) ≤ w9 ∧ w9 ≤ (9223372036854775807 : Int)) ∧ ((-9223372036854775808 : Int) ≤ w10 ∧ w10 ≤ (9223372036854775807 : Int)) ∧ ((-9223372036854775808 :
  Int) ≤ w11 ∧ w11 ≤ (9223372036854775807 : Int)) ∧ True → True ∧ ((14 : Int) = (14 : Int) ∧ w10 = sel [w0, w1, w2, w3, w4, w5, w6, w7, w8, w9, w10, w11] (10 : Int) ∧ w6 = sel [w0,
  w1, w2, w3, w4, w5, w6, w7, w8, w9, w10, w11] (6 : Int) ∧ w1 = sel [w0, w1, w2, w3, w4, w5, w6, w7, w8, w9, w10, w11] (1 : Int) ∧ True) ∧ decide (IntKind.i64.wrap (IntKind.i64.wrap
  (w10 + w6) + w1) = (840 : Int)) = decide (w64 (w64 (sel [w0, w1, w2, w3, w4, w5, w6, w7, w8, w9, w10, w11] (10 : Int) + sel [w0, w1, w2, w3, w4, w5, w6, w7, w8, w9, w10, w11] (6 :
  Int)) + sel [w0, w1, w2, w3, w4, w5, w6, w7, w8, w9, w10, w11] (1 : Int)) = (840 : Int)) ∧ True) ∧ ((-9223372036854775808 : Int) ≤ (15 : Int) ∧ (15 : Int) ≤ (9223372036854775807 :
  Int) → ((-9223372036854775808 : Int) ≤ w0 ∧ w0 ≤ (9223372036854775807 : Int)) ∧ ((-9223372036854775808 : Int) ≤ w1 ∧ w1 ≤ (9223372036854775807 : Int)) ∧ ((-9223372036854775808 :
  Int) ≤ w2 ∧ w2 ≤ (9223372036854775807 : Int)) ∧ ((-9223372036854775808 : Int) ≤ w3 ∧ w3 ≤ (9223372036854775807 : Int)) ∧ ((-9223372036854775808 : Int) ≤ w4 ∧ w4 ≤
  (9223372036854775807 : Int)) ∧ ((-9223372036854775808 : Int) ≤ w5 ∧ w5 ≤ (9223372036854775807 : Int)) ∧ ((-9223372036854775808 : Int) ≤ w6 ∧ w6 ≤ (9223372036854775807 : Int)) ∧
  ((-9223372036854775808 : Int) ≤ w7 ∧ w7 ≤ (9223372036854775807 : Int)) ∧ ((-9223372036854775808 : Int) ≤ w8 ∧ w8 ≤ (9223372036854775807 : Int)) ∧ ((-9223372036854775808 : Int) ≤ w9
  ∧ w9 ≤ (9223372036854775807 : Int)) ∧ ((-9223372036854775808 : Int) ≤ w10 ∧ w10 ≤ (9223372036854775807 : Int)) ∧ ((-9223372036854775808 : Int) ≤ w11 ∧ w11 ≤ (9223372036854775807 :
  Int)) ∧ True → True ∧ ((15 : Int) = (15 : Int) ∧ w11 = sel [w0, w1, w2, w3, w4, w5, w6, w7, w8, w9, w10, w11] (11 : Int) ∧ w7 = sel [w0, w1, w2, w3, w4, w5, w6, w7, w8, w9, w10,
  w11] (7 : Int) ∧ w6 = sel [w0, w1, w2, w3, w4, w5, w6, w7, w8, w9, w10, w11] (6 : Int) ∧ True) ∧ decide (IntKind.i64.wrap (IntKind.i64.wrap (w11 + w7) + w6) = (840 : Int)) = decide
  (w64 (w64 (sel [w0, w1, w2, w3, w4, w5, w6, w7, w8, w9, w10, w11] (11 : Int) + sel [w0, w1, w2, w3, w4, w5, w6, w7, w8, w9, w10, w11] (7 : Int)) + sel [w0, w1, w2, w3, w4, w5, w6,
  w7, w8, w9, w10, w11] (6 : Int)) = (840 : Int)) ∧ True) ∧ ((-9223372036854775808 : Int) ≤ (16 : Int) ∧ (16 : Int) ≤ (9223372036854775807 : Int) → ((-9223372036854775808 : Int) ≤ w0
  ∧ w0 ≤ (9223372036854775807 : Int)) ∧ ((-9223372036854775808 : Int) ≤ w1 ∧ w1 ≤ (9223372036854775807 : Int)) ∧ ((-9223372036854775808 : Int) ≤ w2 ∧ w2 ≤ (9223372036854775807 :
  Int)) ∧ ((-9223372036854775808 : Int) ≤ w3 ∧ w3 ≤ (9223372036854775807 : Int)) ∧ ((-9223372036854775808 : Int) ≤ w4 ∧ w4 ≤ (9223372036854775807 : Int)) ∧ ((-9223372036854775808 :
  Int) ≤ w5 ∧ w5 ≤ (9223372036854775807 : Int)) ∧ ((-9223372036854775808 : Int) ≤ w6 ∧ w6 ≤ (9223372036854775807 : Int)) ∧ ((-9223372036854775808 : Int) ≤ w7 ∧ w7 ≤
  (9223372036854775807 : Int)) ∧ ((-9223372036854775808 : Int) ≤ w8 ∧ w8 ≤ (9223372036854775807 : Int)) ∧ ((-9223372036854775808 : Int) ≤ w9 ∧ w9 ≤ (9223372036854775807 : Int)) ∧
  ((-9223372036854775808 : Int) ≤ w10 ∧ w10 ≤ (9223372036854775807 : Int)) ∧ ((-9223372036854775808 : Int) ≤ w11 ∧ w11 ≤ (9223372036854775807 : Int)) ∧ True → True ∧ ((16 : Int) =
  (16 : Int) ∧ w11 = sel [w0, w1, w2, w3, w4, w5, w6, w7, w8, w9, w10, w11] (11 : Int) ∧ w8 = sel [w0, w1, w2, w3, w4, w5, w6, w7, w8, w9, w10, w11] (8 : Int) ∧ w7 = sel [w0, w1, w2,
  w3, w4, w5, w6, w7, w8, w9, w10, w11] (7 : Int) ∧ True) ∧ decide (IntKind.i64.wrap (IntKind.i64.wrap (w11 + w8) + w7) = (840 : Int)) = decide (w64 (w64 (sel [w0, w1, w2, w3, w4,
  w5, w6, w7, w8, w9, w10, w11] (11 : Int) + sel [w0, w1, w2, w3, w4, w5, w6, w7, w8, w9, w10, w11] (8 : Int)) + sel [w0, w1, w2, w3, w4, w5, w6, w7, w8, w9, w10, w11] (7 : Int)) =
  (840 : Int)) ∧ True) ∧ ((-9223372036854775808 : Int) ≤ (17 : Int) ∧ (17 : Int) ≤ (9223372036854775807 : Int) → ((-9223372036854775808 : Int) ≤ w0 ∧ w0 ≤ (9223372036854775807 :
  Int)) ∧ ((-9223372036854775808 : Int) ≤ w1 ∧ w1 ≤ (9223372036854775807 : Int)) ∧ ((-9223372036854775808 : Int) ≤ w2 ∧ w2 ≤ (9223372036854775807 : Int)) ∧ ((-9223372036854775808 :
  Int) ≤ w3 ∧ w3 ≤ (9223372036854775807 : Int)) ∧ ((-9223372036854775808 : Int) ≤ w4 ∧ w4 ≤ (9223372036854775807 : Int)) ∧ ((-9223372036854775808 : Int) ≤ w5 ∧ w5 ≤
  (9223372036854775807 : Int)) ∧ ((-9223372036854775808 : Int) ≤ w6 ∧ w6 ≤ (9223372036854775807 : Int)) ∧ ((-9223372036854775808 : Int) ≤ w7 ∧ w7 ≤ (9223372036854775807 : Int)) ∧
  ((-9223372036854775808 : Int) ≤ w8 ∧ w8 ≤ (9223372036854775807 : Int)) ∧ ((-9223372036854775808 : Int) ≤ w9 ∧ w9 ≤ (9223372036854775807 : Int)) ∧ ((-9223372036854775808 : Int) ≤
  w10 ∧ w10 ≤ (9223372036854775807 : Int)) ∧ ((-9223372036854775808 : Int) ≤ w11 ∧ w11 ≤ (9223372036854775807 : Int)) ∧ True → True ∧ ((17 : Int) = (17 : Int) ∧ w11 = sel [w0, w1,
  w2, w3, w4, w5, w6, w7, w8, w9, w10, w11] (11 : Int) ∧ w9 = sel [w0, w1, w2, w3, w4, w5, w6, w7, w8, w9, w10, w11] (9 : Int) ∧ w8 = sel [w0, w1, w2, w3, w4, w5, w6, w7, w8, w9,
  w10, w11] (8 : Int) ∧ True) ∧ decide (IntKind.i64.wrap (IntKind.i64.wrap (w11 + w9) + w8) = (840 : Int)) = decide (w64 (w64 (sel [w0, w1, w2, w3, w4, w5, w6, w7, w8, w9, w10, w11]
  (11 : Int) + sel [w0, w1, w2, w3, w4, w5, w6, w7, w8, w9, w10, w11] (9 : Int)) + sel [w0, w1, w2, w3, w4, w5, w6, w7, w8, w9, w10, w11] (8 : Int)) = (840 : Int)) ∧ True) ∧
  ((-9223372036854775808 : Int) ≤ (18 : Int) ∧ (18 : Int) ≤ (9223372036854775807 : Int) → ((-9223372036854775808 : Int) ≤ w0 ∧ w0 ≤ (9223372036854775807 : Int)) ∧
  ((-9223372036854775808 : Int) ≤ w1 ∧ w1 ≤ (9223372036854775807 : Int)) ∧ ((-9223372036854775808 : Int) ≤ w2 ∧ w2 ≤ (9223372036854775807 : Int)) ∧ ((-9223372036854775808 : Int) ≤ w3
  ∧ w3 ≤ (9223372036854775807 : Int)) ∧ ((-9223372036854775808 : Int) ≤ w4 ∧ w4 ≤ (9223372036854775807 : Int)) ∧ ((-9223372036854775808 : Int) ≤ w5 ∧ w5 ≤ (9223372036854775807 :
  Int)) ∧ ((-9223372036854775808 : Int) ≤ w6 ∧ w6 ≤ (9223372036854775807 : Int)) ∧ ((-9223372036854775808 : Int) ≤ w7 ∧ w7 ≤ (9223372036854775807 : Int)) ∧ ((-9223372036854775808 :
  Int) ≤ w8 ∧ w8 ≤ (9223372036854775807 : Int)) ∧ ((-9223372036854775808 : Int) ≤ w9 ∧ w9 ≤ (9223372036854775807 : Int)) ∧ ((-9223372036854775808 : Int) ≤ w10 ∧ w10 ≤
  (9223372036854775807 : Int)) ∧ ((-9223372036854775808 : Int) ≤ w11 ∧ w11 ≤ (9223372036854775807 : Int)) ∧ True → True ∧ ((18 : Int) = (18 : Int) ∧ w11 = sel [w0, w1, w2, w3, w4,
  w5, w6, w7, w8, w9, w10, w11] (11 : Int) ∧ w10 = sel [w0, w1, w2, w3, w4, w5, w6, w7, w8, w9, w10, w11] (10 : Int) ∧ w9 = sel [w0, w1, w2, w3, w4, w5, w6, w7, w8, w9, w10, w11] (9
  : Int) ∧ True) ∧ decide (IntKind.i64.wrap (IntKind.i64.wrap (w11 + w10) + w9) = (840 : Int)) = decide (w64 (w64 (sel [w0, w1, w2, w3, w4, w5, w6, w7, w8, w9, w10, w11] (11 : Int) +
  sel [w0, w1, w2, w3, w4, w5, w6, w7, w8, w9, w10, w11] (10 : Int)) + sel [w0, w1, w2, w3, w4, w5, w6, w7, w8, w9, w10, w11] (9 : Int)) = (840 : Int)) ∧ True) ∧
  ((-9223372036854775808 : Int) ≤ (19 : Int) ∧ (19 : Int) ≤ (9223372036854775807 : Int) → ((-9223372036854775808 : Int) ≤ w0 ∧ w0 ≤ (9223372036854775807 : Int)) ∧
  ((-9223372036854775808 : Int) ≤ w1 ∧ w1 ≤ (9223372036854775807 : Int)) ∧ ((-9223372036854775808 : Int) ≤ w2 ∧ w2 ≤ (9223372036854775807 : Int)) ∧ ((-9223372036854775808 : Int) ≤ w3
  ∧ w3 ≤ (9223372036854775807 : Int)) ∧ ((-9223372036854775808 : Int) ≤ w4 ∧ w4 ≤ (9223372036854775807 : Int)) ∧ ((-9223372036854775808 : Int) ≤ w5 ∧ w5 ≤ (9223372036854775807 :
  Int)) ∧ ((-9223372036854775808 : Int) ≤ w6 ∧ w6 ≤ (9223372036854775807 : Int)) ∧ ((-9223372036854775808 : Int) ≤ w7 ∧ w7 ≤ (9223372036854775807 : Int)) ∧ ((-9223372036854775808 :
  Int) ≤ w8 ∧ w8 ≤ (9223372036854775807 : Int)) ∧ ((-9223372036854775808 : Int) ≤ w9 ∧ w9 ≤ (9223372036854775807 : Int)) ∧ ((-9223372036854775808 : Int) ≤ w10 ∧ w10 ≤
  (9223372036854775807 : Int)) ∧ ((-9223372036854775808 : Int) ≤ w11 ∧ w11 ≤ (9223372036854775807 : Int)) ∧ True → True ∧ ((19 : Int) = (19 : Int) ∧ w11 = sel [w0, w1, w2, w3, w4,
  w5, w6, w7, w8, w9, w10, w11] (11 : Int) ∧ w6 = sel [w0, w1, w2, w3, w4, w5, w6, w7, w8, w9, w10, w11] (6 : Int) ∧ w10 = sel [w0, w1, w2, w3, w4, w5, w6, w7, w8, w9, w10, w11] (10
  : Int) ∧ True) ∧ decide (IntKind.i64.wrap (IntKind.i64.wrap (w11 + w6) + w10) = (840 : Int)) = decide (w64 (w64 (sel [w0, w1, w2, w3, w4, w5, w6, w7, w8, w9, w10, w11] (11 : Int) +
  sel [w0, w1, w2, w3, w4, w5, w6, w7, w8, w9, w10, w11] (6 : Int)) + sel [w0, w1, w2, w3, w4, w5, w6, w7, w8, w9, w10, w11] (10 : Int)) = (840 : Int)) ∧ True) ∧ True
set_option maxRecDepth 100000 in
theorem rOn20_P : rOn20_T := by
  unfold rOn20_T
  intro gl w0 w1 w2 w3 w4 w5 w6 w7 w8 w9 w10 w11
  repeat' (first | exact trivial | intro _ | rfl | apply And.intro)
def rOn20_S : Prop := ∀ (gl : Glob) (w0 w1 w2 w3 w4 w5 w6 w7 w8 w9 w10 w11 : Int), allN fcs fun n => fnK Tryd.prog { glob := gl, spec := lk [(83, rCorners_s fac crn)], nowf := true, wrap := true } { nt := 38 } (fun _ _ => none) 6 Tryd.f79 [.int .i64 n, .agg [.int .i64 w0, .int .i64 w1, .int .i64 w2, .int .i64 w3, .int .i64 w4, .int .i64 w5, .int .i64 w6, .int .i64 w7, .int .i64 w8, .int .i64 w9, .int .i64 w10, .int .i64 w11]] (.tup [.agg [.int .i64 n, .int .i64 (sel [w0, w1, w2, w3, w4, w5, w6, w7, w8, w9, w10, w11] (crn n 0)), .int .i64 (sel [w0, w1, w2, w3, w4, w5, w6, w7, w8, w9, w10, w11] (crn n 1)), .int .i64 (sel [w0, w1, w2, w3, w4, w5, w6, w7, w8, w9, w10, w11] (crn n 2))], .bool (decide (w64 (w64 ((sel [w0, w1, w2, w3, w4, w5, w6, w7, w8, w9, w10, w11] (crn n 0)) + (sel [w0, w1, w2, w3, w4, w5, w6, w7, w8, w9, w10, w11] (crn n 1))) + (sel [w0, w1, w2, w3, w4, w5, w6, w7, w8, w9, w10, w11] (crn n 2))) = 840))])
set_option maxRecDepth 100000 in
theorem rOn20_e : rOn20_T = rOn20_S := by kernel_rfl
theorem rOn20 : rOn20_S := @Eq.mp (rOn20_T) (rOn20_S) (rOn20_e) rOn20_P
def rWeights_s : Sp
  | [.agg [.int .i64 f, .int .i64 a, .int .i64 b, .int .i64 c]] => some (0 ≤ f ∧ f < 20, .agg [.int .i64 (wt f a b c 0), .int .i64 (wt f a b c 1), .int .i64 (wt f a b c 2), .int .i64 (wt f a b c 3), .int .i64 (wt f a b c 4), .int .i64 (wt f a b c 5), .int .i64 (wt f a b c 6), .int .i64 (wt f a b c 7), .int .i64 (wt f a b c 8), .int .i64 (wt f a b c 9), .int .i64 (wt f a b c 10), .int .i64 (wt f a b c 11)])
  | _ => none
def rOn_s : Sp
  | [.int .i64 n, .agg [.int .i64 w0, .int .i64 w1, .int .i64 w2, .int .i64 w3, .int .i64 w4, .int .i64 w5, .int .i64 w6, .int .i64 w7, .int .i64 w8, .int .i64 w9, .int .i64 w10, .int .i64 w11]] => some (0 ≤ n ∧ n < 20, .tup [.agg [.int .i64 n, .int .i64 (sel [w0, w1, w2, w3, w4, w5, w6, w7, w8, w9, w10, w11] (crn n 0)), .int .i64 (sel [w0, w1, w2, w3, w4, w5, w6, w7, w8, w9, w10, w11] (crn n 1)), .int .i64 (sel [w0, w1, w2, w3, w4, w5, w6, w7, w8, w9, w10, w11] (crn n 2))], .bool (decide (w64 (w64 ((sel [w0, w1, w2, w3, w4, w5, w6, w7, w8, w9, w10, w11] (crn n 0)) + (sel [w0, w1, w2, w3, w4, w5, w6, w7, w8, w9, w10, w11] (crn n 1))) + (sel [w0, w1, w2, w3, w4, w5, w6, w7, w8, w9, w10, w11] (crn n 2))) = 840))])
  | _ => none
theorem rWeights_ok (gl : Glob) : SOK Tryd.prog gl 78 rWeights_s := by
  refine ⟨fok Tryd.func78 (by kernel_rfl) (by kernel_rfl), ?_⟩
  intro xs pre r h hp
  unfold rWeights_s at h
  split at h
  · simp only [Option.some.injEq, Prod.mk.injEq] at h
    obtain ⟨h1, h2⟩ := h
    subst h1 h2
    exact fnK_sound tyNil (by exact specOK (l' := []) rfl rfl ⟨rCorners_ok gl, trivial⟩ trivial) (by kernel_rfl) Tryd.func78 rfl (allN_get (rWeights20 _ _ _ _) (mem_fcs hp))
  · cases h
theorem rOn_ok (gl : Glob) : SOK Tryd.prog gl 79 rOn_s := by
  refine ⟨fok Tryd.func79 (by kernel_rfl) (by kernel_rfl), ?_⟩
  intro xs pre r h hp
  unfold rOn_s at h
  split at h
  · simp only [Option.some.injEq, Prod.mk.injEq] at h
    obtain ⟨h1, h2⟩ := h
    subst h1 h2
    exact fnK_sound tyNil (by exact specOK (l' := []) rfl rfl ⟨rCorners_ok gl, trivial⟩ trivial) (by kernel_rfl) Tryd.func79 rfl (allN_get (rOn20 _ _ _ _ _ _ _ _ _ _ _ _ _) (mem_fcs hp))
  · cases h

/-- The faces with all weights of a place. -/
theorem onS_eq {f a b c n : Int} (hv : Vld f a b c) (hn : 0 ≤ n ∧ n < 20) : decide (w64 (w64 (onW f a b c n 0 + onW f a b c n 1) + onW f a b c n 2) = 840) = onV f a b c n := by
  have hb : ∀ v, 0 ≤ wt f a b c v ∧ wt f a b c v ≤ 840 := by
    intro v
    obtain ⟨_, ha, hb, hc, _⟩ := hv
    unfold wt
    split
    · exact hc
    · split
      · exact hb
      · split
        · exact ha
        · omega
  have h0 : 0 ≤ onW f a b c n 0 ∧ onW f a b c n 0 ≤ 840 := hb _
  have h1 : 0 ≤ onW f a b c n 1 ∧ onW f a b c n 1 ≤ 840 := hb _
  have h2 : 0 ≤ onW f a b c n 2 ∧ onW f a b c n 2 ≤ 840 := hb _
  unfold onV vld
  rw [w64_id (x := onW f a b c n 0 + onW f a b c n 1) (by omega), w64_id (by omega)]
  refine decide_eq_decide.2 ?_
  rw [vld_iff]
  exact ⟨fun h => ⟨hn, h0, h1, h2, h⟩, fun h => h.2.2.2.2⟩
def adrJ (f a b c : Int) : LInv := ⟨Int × List (List AV), fun x => ⟨[(4, .ptr 4 0), (5, .rw 500 4 x.2.length), (6, .int .i64 x.1)], [(4, .cells [.int .i64 (wt f a b c 0), .int .i64 (wt f a b c 1), .int .i64 (wt f a b c 2), .int .i64 (wt f a b c 3), .int .i64 (wt f a b c 4), .int .i64 (wt f a b c 5), .int .i64 (wt f a b c 6), .int .i64 (wt f a b c 7), .int .i64 (wt f a b c 8), .int .i64 (wt f a b c 9), .int .i64 (wt f a b c 10), .int .i64 (wt f a b c 11)]), (500, .row 26 4 x.2)]⟩,
  AdrP f a b c, fun x => (20 - x.1).toNat, none⟩
def rAddresses_s (vld : Int → Int → Int → Int → Bool) (adr : Int → Int → Int → Int → List (List AV)) : Sp
  | [.agg [.int .i64 f, .int .i64 a, .int .i64 b, .int .i64 c]] => some (True, .tup [.sl 4 false (adr f a b c), .int .i64 (err (vld f a b c))])
  | _ => none
set_option maxRecDepth 100000 in
def rAddresses_T (vld : Int → Int → Int → Int → Bool) (adr : Int → Int → Int → Int → List (List AV)) : Prop :=
  ∀ (gl : Glob) (f a b c : Int), ((-9223372036854775808 : Int) ≤ f ∧ f ≤ (9223372036854775807 : Int)) ∧ ((-9223372036854775808 : Int) ≤ a ∧ a ≤ (9223372036854775807 : Int)) ∧
  ((-9223372036854775808 : Int) ≤ b ∧ b ≤ (9223372036854775807 : Int)) ∧ ((-9223372036854775808 : Int) ≤ c ∧ c ≤ (9223372036854775807 : Int)) ∧ True → True ∧ bif
  !YtceknalhogbbnaaDoor.vld f a b c then adr f a b c = [] ∧ (1 : Int) = err (vld f a b c) ∧ True else ((0 : Int) ≤ f ∧ f < (20 : Int)) ∧ (∃ x, AdrP f a b c x ∧ ((0 : Nat) = (0 : Nat)
  ∧ (0 : Nat) = x.snd.length ∧ (0 : Int) = x.fst ∧ True) ∧ (wt f a b c (0 : Int) = wt f a b c (0 : Int) ∧ wt f a b c (1 : Int) = wt f a b c (1 : Int) ∧ wt f a b c (2 : Int) = wt f a
  b c (2 : Int) ∧ wt f a b c (3 : Int) = wt f a b c (3 : Int) ∧ wt f a b c (4 : Int) = wt f a b c (4 : Int) ∧ wt f a b c (5 : Int) = wt f a b c (5 : Int) ∧ wt f a b c (6 : Int) = wt
  f a b c (6 : Int) ∧ wt f a b c (7 : Int) = wt f a b c (7 : Int) ∧ wt f a b c (8 : Int) = wt f a b c (8 : Int) ∧ wt f a b c (9 : Int) = wt f a b c (9 : Int) ∧ wt f a b c (10 : Int)
  = wt f a b c (10 : Int) ∧ wt f a b c (11 : Int) = wt f a b c (11 : Int) ∧ True) ∧ [] = x.snd ∧ True) ∧ ∀ (x : Int × List (List AV)), AdrP f a b c x → bif decide (x.fst < (20 :
  Int)) then ((0 : Int) ≤ x.fst ∧ x.fst < (20 : Int)) ∧ bif decide (w64 (w64 (sel [wt f a b c (0 : Int), wt f a b c (1 : Int), wt f a b c (2 : Int), wt f a b c (3 : Int), wt f a b c
  (4 : Int), wt f a b c (5 : Int), wt f a b c (6 : Int), wt f a b c (7 : Int), wt f a b c (8 : Int), wt f a b c (9 : Int), wt f a b c (10 : Int), wt f a b c (11 : Int)] (crn x.fst (0
  : Nat)) + sel [wt f a b c (0 : Int), wt f a b c (1 : Int), wt f a b c (2 : Int), wt f a b c (3 : Int), wt f a b c (4 : Int), wt f a b c (5 : Int), wt f a b c (6 : Int), wt f a b c
  (7 : Int), wt f a b c (8 : Int), wt f a b c (9 : Int), wt f a b c (10 : Int), wt f a b c (11 : Int)] (crn x.fst (1 : Nat))) + sel [wt f a b c (0 : Int), wt f a b c (1 : Int), wt f
  a b c (2 : Int), wt f a b c (3 : Int), wt f a b c (4 : Int), wt f a b c (5 : Int), wt f a b c (6 : Int), wt f a b c (7 : Int), wt f a b c (8 : Int), wt f a b c (9 : Int), wt f a b
  c (10 : Int), wt f a b c (11 : Int)] (crn x.fst (2 : Nat))) = (840 : Int)) then bif decide (x.snd.length = x.snd.length ∧ x.snd.length + [[AV.int IntKind.i64 x.fst, AV.int
  IntKind.i64 (sel [wt f a b c (0 : Int), wt f a b c (1 : Int), wt f a b c (2 : Int), wt f a b c (3 : Int), wt f a b c (4 : Int), wt f a b c (5 : Int), wt f a b c (6 : Int), wt f a b
  c (7 : Int), wt f a b c (8 : Int), wt f a b c (9 : Int), wt f a b c (10 : Int), wt f a b c (11 : Int)] (crn x.fst (0 : Nat))), AV.int IntKind.i64 (sel [wt f a b c (0 : Int), wt f a
  b c (1 : Int), wt f a b c (2 : Int), wt f a b c (3 : Int), wt f a b c (4 : Int), wt f a b c (5 : Int), wt f a b c (6 : Int), wt f a b c (7 : Int), wt f a b c (8 : Int), wt f a b c
  (9 : Int), wt f a b c (10 : Int), wt f a b c (11 : Int)] (crn x.fst (1 : Nat))), AV.int IntKind.i64 (sel [wt f a b c (0 : Int), wt f a b c (1 : Int), wt f a b c (2 : Int), wt f a b
  c (3 : Int), wt f a b c (4 : Int), wt f a b c (5 : Int), wt f a b c (6 : Int), wt f a b c (7 : Int), wt f a b c (8 : Int), wt f a b c (9 : Int), wt f a b c (10 : Int), wt f a b c
  (11 : Int)] (crn x.fst (2 : Nat)))]].length ≤ (9223372036854775807 : Nat) ∧ (x.snd.length + [[AV.int IntKind.i64 x.fst, AV.int IntKind.i64 (sel [wt f a b c (0 : Int), wt f a b c (1
  : Int), wt f a b c (2 : Int), wt f a b c (3 : Int), wt f a b c (4 : Int), wt f a b c (5 : Int), wt f a b c (6 : Int), wt f a b c (7 : Int), wt f a b c (8 : Int), wt f a b c (9 :
  Int), wt f a b c (10 : Int), wt f a b c (11 : Int)] (crn x.fst (0 : Nat))), AV.int IntKind.i64 (sel [wt f a b c (0 : Int), wt f a b c (1 : Int), wt f a b c (2 : Int), wt f a b c (3
  : Int), wt f a b c (4 : Int), wt f a b c (5 : Int), wt f a b c (6 : Int), wt f a b c (7 : Int), wt f a b c (8 : Int), wt f a b c (9 : Int), wt f a b c (10 : Int), wt f a b c (11 :
  Int)] (crn x.fst (1 : Nat))), AV.int IntKind.i64 (sel [wt f a b c (0 : Int), wt f a b c (1 : Int), wt f a b c (2 : Int), wt f a b c (3 : Int), wt f a b c (4 : Int), wt f a b c (5 :
  Int), wt f a b c (6 : Int), wt f a b c (7 : Int), wt f a b c (8 : Int), wt f a b c (9 : Int), wt f a b c (10 : Int), wt f a b c (11 : Int)] (crn x.fst (2 : Nat)))]].length) * (32 :
  Nat) ≤ (140737488355328 : Nat)) then bif decide (rng IntKind.i64 (x.fst + (1 : Int))) then ∃ y, AdrP f a b c y ∧ (adrJ f a b c).m y < (adrJ f a b c).m x ∧ ((0 : Nat) = (0 : Nat) ∧
  (x.snd ++ [[AV.int IntKind.i64 x.fst, AV.int IntKind.i64 (sel [wt f a b c (0 : Int), wt f a b c (1 : Int), wt f a b c (2 : Int), wt f a b c (3 : Int), wt f a b c (4 : Int), wt f a
  b c (5 : Int), wt f a b c (6 : Int), wt f a b c (7 : Int), wt f a b c (8 : Int), wt f a b c (9 : Int), wt f a b c (10 : Int), wt f a b c (11 : Int)] (crn x.fst (0 : Nat))), AV.int
  IntKind.i64 (sel [wt f a b c (0 : Int), wt f a b c (1 : Int), wt f a b c (2 : Int), wt f a b c (3 : Int), wt f a b c (4 : Int), wt f a b c (5 : Int), wt f a b c (6 : Int), wt f a b
  c (7 : Int), wt f a b c (8 : Int), wt f a b c (9 : Int), wt f a b c (10 : Int), wt f a b c (11 : Int)] (crn x.fst (1 : Nat))), AV.int IntKind.i64 (sel [wt f a b c (0 : Int), wt f a
  b c (1 : Int), wt f a b c (2 : Int), wt f a b c (3 : Int), wt f a b c (4 : Int), wt f a b c (5 : Int), wt f a b c (6 : Int), wt f a b c (7 : Int), wt f a b c (8 : Int), wt f a b c
  (9 : Int), wt f a b c (10 : Int), wt f a b c (11 : Int)] (crn x.fst (2 : Nat)))]]).length = y.snd.length ∧ x.fst + (1 : Int) = y.fst ∧ True) ∧ (wt f a b c (0 : Int) = wt f a b c (0
  : Int) ∧ wt f a b c (1 : Int) = wt f a b c (1 : Int) ∧ wt f a b c (2 : Int) = wt f a b c (2 : Int) ∧ wt f a b c (3 : Int) = wt f a b c (3 : Int) ∧ wt f a b c (4 : Int) = wt f a b c
  (4 : Int) ∧ wt f a b c (5 : Int) = wt f a b c (5 : Int) ∧ wt f a b c (6 : Int) = wt f a b c (6 : Int) ∧ wt f a b c (7 : Int) = wt f a b c (7 : Int) ∧ wt f a b c (8 : Int) = wt f a
  b c (8 : Int) ∧ wt f a b c (9 : Int) = wt f a b c (9 : Int) ∧ wt f a b c (10 : Int) = wt f a b c (10 : Int) ∧ wt f a b c (11 : Int) = wt f a b c (11 : Int) ∧ True) ∧ x.snd ++
  [[AV.int IntKind.i64 x.fst, AV.int IntKind.i64 (sel [wt f a b c (0 : Int), wt f a b c (1 : Int), wt f a b c (2 : Int), wt f a b c (3 : Int), wt f a b c (4 : Int), wt f a b c (5 :
  Int), wt f a b c (6 : Int), wt f a b c (7 : Int), wt f a b c (8 : Int), wt f a b c (9 : Int), wt f a b c (10 : Int), wt f a b c (11 : Int)] (crn x.fst (0 : Nat))), AV.int
  IntKind.i64 (sel [wt f a b c (0 : Int), wt f a b c (1 : Int), wt f a b c (2 : Int), wt f a b c (3 : Int), wt f a b c (4 : Int), wt f a b c (5 : Int), wt f a b c (6 : Int), wt f a b
  c (7 : Int), wt f a b c (8 : Int), wt f a b c (9 : Int), wt f a b c (10 : Int), wt f a b c (11 : Int)] (crn x.fst (1 : Nat))), AV.int IntKind.i64 (sel [wt f a b c (0 : Int), wt f a
  b c (1 : Int), wt f a b c (2 : Int), wt f a b c (3 : Int), wt f a b c (4 : Int), wt f a b c (5 : Int), wt f a b c (6 : Int), wt f a b c (7 : Int), wt f a b c (8 : Int), wt f a b c
  (9 : Int), wt f a b c (10 : Int), wt f a b c (11 : Int)] (crn x.fst (2 : Nat)))]] = y.snd ∧ True else False else False else bif decide (rng IntKind.i64 (x.fst + (1 : Int))) then ∃
  y, AdrP f a b c y ∧ (adrJ f a b c).m y < (adrJ f a b c).m x ∧ ((0 : Nat) = (0 : Nat) ∧ x.snd.length = y.snd.length ∧ x.fst + (1 : Int) = y.fst ∧ True) ∧ (wt f a b c (0 : Int) = wt
  f a b c (0 : Int) ∧ wt f a b c (1 : Int) = wt f a b c (1 : Int) ∧ wt f a b c (2 : Int) = wt f a b c (2 : Int) ∧ wt f a b c (3 : Int) = wt f a b c (3 : Int) ∧ wt f a b c (4 : Int) =
  wt f a b c (4 : Int) ∧ wt f a b c (5 : Int) = wt f a b c (5 : Int) ∧ wt f a b c (6 : Int) = wt f a b c (6 : Int) ∧ wt f a b c (7 : Int) = wt f a b c (7 : Int) ∧ wt f a b c (8 :
  Int) = wt f a b c (8 : Int) ∧ wt f a b c (9 : Int) = wt f a b c (9 : Int) ∧ wt f a b c (10 : Int) = wt f a b c (10 : Int) ∧ wt f a b c (11 : Int) = wt f a b c (11 : Int) ∧ True) ∧
  x.snd = y.snd ∧ True else False else bif decide (x.snd.length = x.snd.length) then (True ∧ x.snd = adr f a b c) ∧ (0 : Int) = err (vld f a b c) ∧ True else False
set_option maxRecDepth 100000 in
theorem rAddresses_P : rAddresses_T vld adr := by
  unfold rAddresses_T
  intro gl f a b c h
  refine ⟨trivial, ?_⟩
  unfold adr err
  cases hv : vld f a b c with
  | false => exact ⟨rfl, rfl, trivial⟩
  | true =>
    have v : Vld f a b c := of_decide_eq_true hv
    refine ⟨v.face, ⟨(0, []), ⟨by decide, by decide, rfl⟩, ⟨rfl, rfl, rfl, trivial⟩, ⟨rfl, rfl, rfl, rfl, rfl, rfl, rfl, rfl, rfl, rfl, rfl, rfl, trivial⟩, rfl, trivial⟩, ?_⟩
    rintro ⟨n, xs⟩ ⟨h0, h1, hx⟩
    simp only at h0 h1 hx
    have hlen := adr_len f a b c n.toNat
    rw [← hx] at hlen
    refine csplit (fun hn => ?_) (fun hn => ?_)
    · have hn : n < 20 := of_decide_eq_true hn
      obtain ⟨e0, e1, e2⟩ := sel_wts f a b c ⟨h0, hn⟩
      unfold wts at e0 e1 e2
      simp only [e0, e1, e2]
      refine ⟨⟨h0, hn⟩, ?_⟩
      rw [onS_eq v ⟨h0, hn⟩]
      refine csplit (fun hv => ?_) (fun hv => ?_)
      · have hv : onV f a b c n = true := hv
        simp only [↓cdecF, rng, List.length_singleton]
        refine ⟨⟨by trivial, by omega, by omega⟩, by omega, (n + 1, xs ++ [onRow f a b c n]), ⟨by simp only; omega, by simp only; omega, ?_⟩, by simp only [adrJ]; omega, ⟨by trivial, rfl, rfl, trivial⟩, ?_, rfl, trivial⟩
        · simp only; rw [adr_step h0, if_pos hv, hx]
        · repeat' (first | exact trivial | rfl | apply And.intro)
      · have hv : onV f a b c n = false := hv
        simp only [↓cdecF, rng]
        refine ⟨by omega, (n + 1, xs), ⟨by simp only; omega, by simp only; omega, ?_⟩, by simp only [adrJ]; omega, ⟨by trivial, by trivial, rfl, trivial⟩, ?_, rfl, trivial⟩
        · simp only; rw [adr_step h0, if_neg (by rw [hv]; simp), hx]
        · repeat' (first | exact trivial | rfl | apply And.intro)
    · have hn : ¬ n < 20 := of_decide_eq_false hn
      have : n = 20 := by omega
      subst this
      simp only [↓cdecF]
      exact ⟨by trivial, ⟨trivial, by rw [hx]; rfl⟩, rfl, trivial⟩
def rAddresses_S (vld : Int → Int → Int → Int → Bool) (adr : Int → Int → Int → Int → List (List AV)) : Prop := ∀ (gl : Glob) (f a b c : Int), fnK Tryd.prog { glob := gl, spec := lk [(41, (rValid_s Go.Proofs.YtceknalhogbbnaaDoor.vld)), (78, rWeights_s), (79, rOn_s)], specH := lk [], nowf := true } { nt := 30, drop := drp [(1, 1536), (3, 12288), (6, 16384), (7, 196608), (8, 16515072), (10, 503316480), (11, 536870912)], emp := fun id => cond (Nat.beq id 5) [(5, 500, 26, 4)] [] } (invs [(6, adrJ f a b c)]) 6 Tryd.f59 [.agg [.int .i64 f, .int .i64 a, .int .i64 b, .int .i64 c]] (.tup [.sl 4 false (adr f a b c), .int .i64 (err (vld f a b c))])
set_option maxRecDepth 100000 in
theorem rAddresses_e (vld : Int → Int → Int → Int → Bool) (adr : Int → Int → Int → Int → List (List AV)) : rAddresses_T vld adr = rAddresses_S vld adr := by kernel_rfl
theorem rAddresses_v : rAddresses_S vld adr := @Eq.mp (rAddresses_T vld adr) (rAddresses_S vld adr) (rAddresses_e vld adr) rAddresses_P
theorem rAddresses_ok (gl : Glob) : SOK Tryd.prog gl 59 (rAddresses_s vld adr) := by
  refine ⟨fok Tryd.func59 (by kernel_rfl) (by kernel_rfl), ?_⟩
  intro xs pre r h hp
  unfold rAddresses_s at h
  split at h
  · simp only [Option.some.injEq, Prod.mk.injEq] at h
    obtain ⟨h1, h2⟩ := h
    subst h1 h2
    exact fnK_sound tyNil (by exact specOK rfl rfl ⟨rValid_ok gl, rWeights_ok gl, rOn_ok gl, trivial⟩ trivial) (by kernel_rfl) Tryd.func59 rfl (rAddresses_v gl _ _ _ _)
  · cases h
def rNormal_s (vld : Int → Int → Int → Int → Bool) (adr : Int → Int → Int → Int → List (List AV)) (nrm : Int → Int → Int → Int → Int × Int × Int × Int) : Sp
  | [.agg [.int .i64 f, .int .i64 a, .int .i64 b, .int .i64 c]] => some (True, .tup [.agg [.int .i64 (nrm f a b c).1, .int .i64 (nrm f a b c).2.1, .int .i64 (nrm f a b c).2.2.1, .int .i64 (nrm f a b c).2.2.2], .int .i64 (err (vld f a b c))])
  | _ => none
set_option maxRecDepth 100000 in
def rNormal_T (vld : Int → Int → Int → Int → Bool) (adr : Int → Int → Int → Int → List (List AV)) (nrm : Int → Int → Int → Int → Int × Int × Int × Int) : Prop :=
  ∀ (gl : Glob) (f a b c : Int), ((-9223372036854775808 : Int) ≤ f ∧ f ≤ (9223372036854775807 : Int)) ∧ ((-9223372036854775808 : Int) ≤ a ∧ a ≤ (9223372036854775807 : Int)) ∧
  ((-9223372036854775808 : Int) ≤ b ∧ b ≤ (9223372036854775807 : Int)) ∧ ((-9223372036854775808 : Int) ≤ c ∧ c ≤ (9223372036854775807 : Int)) ∧ True → True ∧ bif decide ¬err (vld f a
  b c) = (0 : Int) then ((0 : Int) = (nrm f a b c).fst ∧ (0 : Int) = (nrm f a b c).snd.fst ∧ (0 : Int) = (nrm f a b c).snd.snd.fst ∧ (0 : Int) = (nrm f a b c).snd.snd.snd ∧ True) ∧
  err (vld f a b c) = err (vld f a b c) ∧ True else bif decide ((0 : Int) ≤ (0 : Int) ∧ (0 : Int) < (↑(adr f a b c).length : Int)) then ∃ n n_1 n_2 n_3, List.take [AV.int IntKind.i64
  n, AV.int IntKind.i64 n_1, AV.int IntKind.i64 n_2, AV.int IntKind.i64 n_3].length ((adr f a b c).getD (0 : Nat) []) = [AV.int IntKind.i64 n, AV.int IntKind.i64 n_1, AV.int
  IntKind.i64 n_2, AV.int IntKind.i64 n_3] ∧ (n = (nrm f a b c).fst ∧ n_1 = (nrm f a b c).snd.fst ∧ n_2 = (nrm f a b c).snd.snd.fst ∧ n_3 = (nrm f a b c).snd.snd.snd ∧ True) ∧ (0 :
  Int) = err (vld f a b c) ∧ True else False
set_option maxRecDepth 100000 in
theorem rNormal_P : rNormal_T vld adr nrm := by
  unfold rNormal_T
  intro gl f a b c h
  refine ⟨trivial, ?_⟩
  cases hv : vld f a b c with
  | false =>
    have e : nrm f a b c = (0, 0, 0, 0) := by unfold nrm; rw [hv]; rfl
    rw [e]
    exact cd1 (by decide) ⟨⟨rfl, rfl, rfl, rfl, trivial⟩, rfl, trivial⟩
  | true =>
    have v : Vld f a b c := of_decide_eq_true hv
    obtain ⟨l, hl⟩ := adr_rows v
    have hh := hl.head
    have hp : 0 < l.length := by
      cases l with
      | nil => cases hh
      | cons x l => simp
    have e0 : (adr f a b c).getD 0 [] = encP (nrm f a b c) := by
      rw [hl.adr, List.getD_eq_getElem?_getD, List.getElem?_map, hh]; rfl
    refine cd0 (by decide) (cd1 ⟨by decide, by rw [hl.adr, List.length_map]; omega⟩ ⟨_, _, _, _, by rw [e0]; rfl, ⟨rfl, rfl, rfl, rfl, trivial⟩, rfl, trivial⟩)
def rNormal_S (vld : Int → Int → Int → Int → Bool) (adr : Int → Int → Int → Int → List (List AV)) (nrm : Int → Int → Int → Int → Int × Int × Int × Int) : Prop := ∀ (gl : Glob) (f a b c : Int), fnK Tryd.prog { glob := gl, spec := lk [(59, (rAddresses_s vld adr))], specH := lk [], shape := [17], nowf := true } { nt := 18, drop := drp [(1, 1984), (2, 2048), (3, 24576), (4, 229376)] } (fun _ _ => none) 6 Tryd.f44 [.agg [.int .i64 f, .int .i64 a, .int .i64 b, .int .i64 c]] (.tup [.agg [.int .i64 (nrm f a b c).1, .int .i64 (nrm f a b c).2.1, .int .i64 (nrm f a b c).2.2.1, .int .i64 (nrm f a b c).2.2.2], .int .i64 (err (vld f a b c))])
set_option maxRecDepth 100000 in
theorem rNormal_e (vld : Int → Int → Int → Int → Bool) (adr : Int → Int → Int → Int → List (List AV)) (nrm : Int → Int → Int → Int → Int × Int × Int × Int) : rNormal_T vld adr nrm = rNormal_S vld adr nrm := by kernel_rfl
theorem rNormal_v : rNormal_S vld adr nrm := @Eq.mp (rNormal_T vld adr nrm) (rNormal_S vld adr nrm) (rNormal_e vld adr nrm) rNormal_P
theorem rNormal_ok (gl : Glob) : SOK Tryd.prog gl 44 (rNormal_s vld adr nrm) := by
  refine ⟨fok Tryd.func44 (by kernel_rfl) (by kernel_rfl), ?_⟩
  intro xs pre r h hp
  unfold rNormal_s at h
  split at h
  · simp only [Option.some.injEq, Prod.mk.injEq] at h
    obtain ⟨h1, h2⟩ := h
    subst h1 h2
    exact fnK_sound tyNil (by exact specOK rfl rfl ⟨rAddresses_ok gl, trivial⟩ trivial) (by kernel_rfl) Tryd.func44 rfl (rNormal_v gl _ _ _ _)
  · cases h
def isN (f a b c : Int) : Bool := vld f a b c && (decide (f = (nrm f a b c).1) && (decide (a = (nrm f a b c).2.1) && (decide (b = (nrm f a b c).2.2.1) && (decide (c = (nrm f a b c).2.2.2) && true))))
def rIsN_s (nrm : Int → Int → Int → Int → Int × Int × Int × Int) (vld : Int → Int → Int → Int → Bool) (isN : Int → Int → Int → Int → Bool) : Sp
  | [.agg [.int .i64 f, .int .i64 a, .int .i64 b, .int .i64 c]] => some (True, .bool (isN f a b c))
  | _ => none
set_option maxRecDepth 100000 in
def rIsN_T (nrm : Int → Int → Int → Int → Int × Int × Int × Int) (vld : Int → Int → Int → Int → Bool) (isN : Int → Int → Int → Int → Bool) (adr : Int → Int → Int → Int → List (List AV)) : Prop :=
  ∀ (gl : Glob) (f a b c : Int), ((-9223372036854775808 : Int) ≤ f ∧ f ≤ (9223372036854775807 : Int)) ∧ ((-9223372036854775808 : Int) ≤ a ∧ a ≤ (9223372036854775807 : Int)) ∧
  ((-9223372036854775808 : Int) ≤ b ∧ b ≤ (9223372036854775807 : Int)) ∧ ((-9223372036854775808 : Int) ≤ c ∧ c ≤ (9223372036854775807 : Int)) ∧ True → True ∧ bif decide (err (vld f a
  b c) = (0 : Int)) then (decide (f = (nrm f a b c).fst) && (decide (a = (nrm f a b c).snd.fst) && (decide (b = (nrm f a b c).snd.snd.fst) && (decide (c = (nrm f a b c).snd.snd.snd)
  && true)))) = isN f a b c else false = isN f a b c
set_option maxRecDepth 100000 in
theorem rIsN_P : rIsN_T nrm vld isN adr := by
  unfold rIsN_T
  intro gl f a b c _
  refine ⟨trivial, ?_⟩
  unfold isN
  cases vld f a b c with
  | true => exact rfl
  | false => exact rfl
def rIsN_S (nrm : Int → Int → Int → Int → Int × Int × Int × Int) (vld : Int → Int → Int → Int → Bool) (isN : Int → Int → Int → Int → Bool) (adr : Int → Int → Int → Int → List (List AV)) : Prop := ∀ (gl : Glob) (f a b c : Int), fnK Tryd.prog { glob := gl, spec := lk [(44, (rNormal_s vld adr nrm))], specH := lk [], nowf := true } { nt := 17, drop := drp [(1, 992), (2, 130048)], tys := [26] } (fun _ _ => none) 6 Tryd.f29 [.agg [.int .i64 f, .int .i64 a, .int .i64 b, .int .i64 c]] (.bool (isN f a b c))
set_option maxRecDepth 100000 in
theorem rIsN_e (nrm : Int → Int → Int → Int → Int × Int × Int × Int) (vld : Int → Int → Int → Int → Bool) (isN : Int → Int → Int → Int → Bool) (adr : Int → Int → Int → Int → List (List AV)) : rIsN_T nrm vld isN adr = rIsN_S nrm vld isN adr := by kernel_rfl
theorem rIsN_v : rIsN_S nrm vld isN adr := @Eq.mp (rIsN_T nrm vld isN adr) (rIsN_S nrm vld isN adr) (rIsN_e nrm vld isN adr) rIsN_P
theorem rIsN_ok (gl : Glob) : SOK Tryd.prog gl 29 (rIsN_s nrm vld isN) := by
  refine ⟨fok Tryd.func29 (by kernel_rfl) (by kernel_rfl), ?_⟩
  intro xs pre r h hp
  unfold rIsN_s at h
  split at h
  · simp only [Option.some.injEq, Prod.mk.injEq] at h
    obtain ⟨h1, h2⟩ := h
    subst h1 h2
    exact fnK_sound (tyOf (by kernel_rfl)) (by exact specOK rfl rfl ⟨rNormal_ok gl, trivial⟩ trivial) (by kernel_rfl) Tryd.func29 rfl (rIsN_v gl _ _ _ _)
  · cases h
end Go.Proofs.YtceknalhogbbnaaDoor
