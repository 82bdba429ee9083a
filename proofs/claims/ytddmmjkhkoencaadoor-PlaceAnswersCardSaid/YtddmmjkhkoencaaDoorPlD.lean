/- Places: digits, Format, somewhere, awake. -/
import Derived.Test.YtddmmjkhkoencaaDoorPlC
namespace Go.Proofs.YtddmmjkhkoencaaDoor
open Go
set_option linter.unusedVariables false
set_option linter.unusedSimpArgs false
--KIND dig H synoptic/place.digits

def dgt (n : Int) (j : Nat) : Int := 48 + (n / 10 ^ j) % 10
def fmtS (f a b : Int) : ByteArray := strOfNums [dgt f 1, dgt f 0, dgt a 2, dgt a 1, dgt a 0, dgt b 2, dgt b 1, dgt b 0]
def fmt (f a b c : Int) : ByteArray := if vld f a b c then fmtS f a b else ⟨#[]⟩

theorem wdg (m : Int) : IntKind.u8.wrap (48 + m % 10) = 48 + m % 10 := wrap_eq (by simp only [rng]; omega)
theorem dgt0 (n : Int) : dgt n 0 = 48 + n % 10 := by simp [dgt]
theorem dgt1 (n : Int) : dgt n 1 = 48 + n / 10 % 10 := by simp [dgt]
theorem dgt2 (n : Int) : dgt n 2 = 48 + n / 10 / 10 % 10 := by unfold dgt; rw [show (10 : Int) ^ 2 = 100 by decide]; omega
def digA_s : SpH
  | [.ms 0 0 2 8 1, .int .i64 n], [.cells [.int .u8 c0, .int .u8 c1, .int .u8 c2, .int .u8 c3, .int .u8 c4, .int .u8 c5, .int .u8 c6, .int .u8 c7]] => some (0 ≤ n, .tup [], [.cells [.int .u8 (dgt n 1), .int .u8 (dgt n 0), .int .u8 c2, .int .u8 c3, .int .u8 c4, .int .u8 c5, .int .u8 c6, .int .u8 c7]])
  | _, _ => none
set_option maxRecDepth 100000 in
def digA_T : Prop :=
  ∀ (gl : Glob) (n c0 c1 c2 c3 c4 c5 c6 c7 : Int), (0 : Int) ≤ n → True → (-9223372036854775808 : Int) ≤ n ∧ n ≤ (9223372036854775807 : Int) → (0 : Int) ≤ c0 ∧ c0 ≤ (255 : Int) → (0
  : Int) ≤ c1 ∧ c1 ≤ (255 : Int) → (0 : Int) ≤ c2 ∧ c2 ≤ (255 : Int) → (0 : Int) ≤ c3 ∧ c3 ≤ (255 : Int) → (0 : Int) ≤ c4 ∧ c4 ≤ (255 : Int) → (0 : Int) ≤ c5 ∧ c5 ≤ (255 : Int) → (0
  : Int) ≤ c6 ∧ c6 ≤ (255 : Int) → (0 : Int) ≤ c7 ∧ c7 ≤ (255 : Int) → bif decide (rng IntKind.i64 ((48 : Int) + n.tmod (10 : Int))) then bif decide (rng IntKind.i64 (n.tdiv (10 :
  Int))) then bif decide (rng IntKind.i64 ((48 : Int) + (n.tdiv (10 : Int)).tmod (10 : Int))) then bif decide (rng IntKind.i64 ((n.tdiv (10 : Int)).tdiv (10 : Int))) then True ∧
  (IntKind.u8.wrap ((48 : Int) + (n.tdiv (10 : Int)).tmod (10 : Int)) = dgt n (1 : Nat) ∧ IntKind.u8.wrap ((48 : Int) + n.tmod (10 : Int)) = dgt n (0 : Nat) ∧ c2 = c2 ∧ c3 = c3 ∧ c4
  = c4 ∧ c5 = c5 ∧ c6 = c6 ∧ c7 = c7 ∧ True) ∧ True else False else False else False else False
set_option maxRecDepth 100000 in
theorem digA_P : digA_T := by
  unfold digA_T
  intro gl n c0 c1 c2 c3 c4 c5 c6 c7 h h1 h2 _ _ _ _ _ _ _ _
  have a1 : 0 ≤ n / 10 := by omega
  have a2 : 0 ≤ n / 10 / 10 := by omega
  simp only [Int.tmod_eq_emod_of_nonneg h, Int.tdiv_eq_ediv_of_nonneg h, Int.tmod_eq_emod_of_nonneg a1, Int.tdiv_eq_ediv_of_nonneg a1, Int.tmod_eq_emod_of_nonneg a2, Int.tdiv_eq_ediv_of_nonneg a2, wdg, dgt0, dgt1, dgt2]
  simp only [↓cdecF]
  simp only [rng]
  repeat' (first | exact trivial | rfl | apply And.intro)
  all_goals omega
def digA_S : Prop := ∀ (gl : Glob) (n c0 c1 c2 c3 c4 c5 c6 c7 : Int), 0 ≤ n → fnH Tryd.prog { glob := gl, spec := lk [], specH := lk [] } { nt := 21, drop := drp [(0, 224), (1, 256), (2, 3072), (3, 520192), (4, 1572864)], fr := 1000, kp := [0] } (fun _ _ => none) 6 Tryd.f35 [.ms 0 0 2 8 1, .int .i64 n] [.cells [.int .u8 c0, .int .u8 c1, .int .u8 c2, .int .u8 c3, .int .u8 c4, .int .u8 c5, .int .u8 c6, .int .u8 c7]] (.tup []) [.cells [.int .u8 (dgt n 1), .int .u8 (dgt n 0), .int .u8 c2, .int .u8 c3, .int .u8 c4, .int .u8 c5, .int .u8 c6, .int .u8 c7]]
set_option maxRecDepth 100000 in
theorem digA_e : digA_T = digA_S := by kernel_rfl
theorem digA_v : digA_S := @Eq.mp (digA_T) (digA_S) (digA_e) digA_P
theorem digA_ok (gl : Glob) : HOK Tryd.prog gl 35 digA_s := by
  refine ⟨fok Tryd.func35 (by kernel_rfl) (by kernel_rfl), ?_⟩
  intro xs bs pre r bs2 h hp
  unfold digA_s at h
  split at h
  · simp only [Option.some.injEq, Prod.mk.injEq] at h
    obtain ⟨h1, h2, h3⟩ := h
    subst h1 h2 h3
    exact fnH_sound tyNil (by exact specOK rfl rfl trivial trivial) (by kernel_rfl) Tryd.func35 (digA_v gl _ _ _ _ _ _ _ _ _ hp)
  · cases h
def digB_s : SpH
  | [.ms 0 2 3 6 1, .int .i64 n], [.cells [.int .u8 c0, .int .u8 c1, .int .u8 c2, .int .u8 c3, .int .u8 c4, .int .u8 c5, .int .u8 c6, .int .u8 c7]] => some (0 ≤ n, .tup [], [.cells [.int .u8 c0, .int .u8 c1, .int .u8 (dgt n 2), .int .u8 (dgt n 1), .int .u8 (dgt n 0), .int .u8 c5, .int .u8 c6, .int .u8 c7]])
  | _, _ => none
set_option maxRecDepth 100000 in
def digB_T : Prop :=
  ∀ (gl : Glob) (n c0 c1 c2 c3 c4 c5 c6 c7 : Int), (0 : Int) ≤ n → True → (-9223372036854775808 : Int) ≤ n ∧ n ≤ (9223372036854775807 : Int) → (0 : Int) ≤ c0 ∧ c0 ≤ (255 : Int) → (0
  : Int) ≤ c1 ∧ c1 ≤ (255 : Int) → (0 : Int) ≤ c2 ∧ c2 ≤ (255 : Int) → (0 : Int) ≤ c3 ∧ c3 ≤ (255 : Int) → (0 : Int) ≤ c4 ∧ c4 ≤ (255 : Int) → (0 : Int) ≤ c5 ∧ c5 ≤ (255 : Int) → (0
  : Int) ≤ c6 ∧ c6 ≤ (255 : Int) → (0 : Int) ≤ c7 ∧ c7 ≤ (255 : Int) → bif decide (rng IntKind.i64 ((48 : Int) + n.tmod (10 : Int))) then bif decide (rng IntKind.i64 (n.tdiv (10 :
  Int))) then bif decide (rng IntKind.i64 ((48 : Int) + (n.tdiv (10 : Int)).tmod (10 : Int))) then bif decide (rng IntKind.i64 ((n.tdiv (10 : Int)).tdiv (10 : Int))) then bif decide
  (rng IntKind.i64 ((48 : Int) + ((n.tdiv (10 : Int)).tdiv (10 : Int)).tmod (10 : Int))) then bif decide (rng IntKind.i64 (((n.tdiv (10 : Int)).tdiv (10 : Int)).tdiv (10 : Int)))
  then True ∧ (c0 = c0 ∧ c1 = c1 ∧ IntKind.u8.wrap ((48 : Int) + ((n.tdiv (10 : Int)).tdiv (10 : Int)).tmod (10 : Int)) = dgt n (2 : Nat) ∧ IntKind.u8.wrap ((48 : Int) + (n.tdiv (10
  : Int)).tmod (10 : Int)) = dgt n (1 : Nat) ∧ IntKind.u8.wrap ((48 : Int) + n.tmod (10 : Int)) = dgt n (0 : Nat) ∧ c5 = c5 ∧ c6 = c6 ∧ c7 = c7 ∧ True) ∧ True else False else False
  else False else False else False else False
set_option maxRecDepth 100000 in
theorem digB_P : digB_T := by
  unfold digB_T
  intro gl n c0 c1 c2 c3 c4 c5 c6 c7 h h1 h2 _ _ _ _ _ _ _ _
  have a1 : 0 ≤ n / 10 := by omega
  have a2 : 0 ≤ n / 10 / 10 := by omega
  simp only [Int.tmod_eq_emod_of_nonneg h, Int.tdiv_eq_ediv_of_nonneg h, Int.tmod_eq_emod_of_nonneg a1, Int.tdiv_eq_ediv_of_nonneg a1, Int.tmod_eq_emod_of_nonneg a2, Int.tdiv_eq_ediv_of_nonneg a2, wdg, dgt0, dgt1, dgt2]
  simp only [↓cdecF]
  simp only [rng]
  repeat' (first | exact trivial | rfl | apply And.intro)
  all_goals omega
def digB_S : Prop := ∀ (gl : Glob) (n c0 c1 c2 c3 c4 c5 c6 c7 : Int), 0 ≤ n → fnH Tryd.prog { glob := gl, spec := lk [], specH := lk [] } { nt := 21, drop := drp [(0, 224), (1, 256), (2, 3072), (3, 520192), (4, 1572864)], fr := 1000, kp := [0] } (fun _ _ => none) 6 Tryd.f35 [.ms 0 2 3 6 1, .int .i64 n] [.cells [.int .u8 c0, .int .u8 c1, .int .u8 c2, .int .u8 c3, .int .u8 c4, .int .u8 c5, .int .u8 c6, .int .u8 c7]] (.tup []) [.cells [.int .u8 c0, .int .u8 c1, .int .u8 (dgt n 2), .int .u8 (dgt n 1), .int .u8 (dgt n 0), .int .u8 c5, .int .u8 c6, .int .u8 c7]]
set_option maxRecDepth 100000 in
theorem digB_e : digB_T = digB_S := by kernel_rfl
theorem digB_v : digB_S := @Eq.mp (digB_T) (digB_S) (digB_e) digB_P
theorem digB_ok (gl : Glob) : HOK Tryd.prog gl 35 digB_s := by
  refine ⟨fok Tryd.func35 (by kernel_rfl) (by kernel_rfl), ?_⟩
  intro xs bs pre r bs2 h hp
  unfold digB_s at h
  split at h
  · simp only [Option.some.injEq, Prod.mk.injEq] at h
    obtain ⟨h1, h2, h3⟩ := h
    subst h1 h2 h3
    exact fnH_sound tyNil (by exact specOK rfl rfl trivial trivial) (by kernel_rfl) Tryd.func35 (digB_v gl _ _ _ _ _ _ _ _ _ hp)
  · cases h
def digC_s : SpH
  | [.ms 0 5 3 3 1, .int .i64 n], [.cells [.int .u8 c0, .int .u8 c1, .int .u8 c2, .int .u8 c3, .int .u8 c4, .int .u8 c5, .int .u8 c6, .int .u8 c7]] => some (0 ≤ n, .tup [], [.cells [.int .u8 c0, .int .u8 c1, .int .u8 c2, .int .u8 c3, .int .u8 c4, .int .u8 (dgt n 2), .int .u8 (dgt n 1), .int .u8 (dgt n 0)]])
  | _, _ => none
set_option maxRecDepth 100000 in
def digC_T : Prop :=
  ∀ (gl : Glob) (n c0 c1 c2 c3 c4 c5 c6 c7 : Int), (0 : Int) ≤ n → True → (-9223372036854775808 : Int) ≤ n ∧ n ≤ (9223372036854775807 : Int) → (0 : Int) ≤ c0 ∧ c0 ≤ (255 : Int) → (0
  : Int) ≤ c1 ∧ c1 ≤ (255 : Int) → (0 : Int) ≤ c2 ∧ c2 ≤ (255 : Int) → (0 : Int) ≤ c3 ∧ c3 ≤ (255 : Int) → (0 : Int) ≤ c4 ∧ c4 ≤ (255 : Int) → (0 : Int) ≤ c5 ∧ c5 ≤ (255 : Int) → (0
  : Int) ≤ c6 ∧ c6 ≤ (255 : Int) → (0 : Int) ≤ c7 ∧ c7 ≤ (255 : Int) → bif decide (rng IntKind.i64 ((48 : Int) + n.tmod (10 : Int))) then bif decide (rng IntKind.i64 (n.tdiv (10 :
  Int))) then bif decide (rng IntKind.i64 ((48 : Int) + (n.tdiv (10 : Int)).tmod (10 : Int))) then bif decide (rng IntKind.i64 ((n.tdiv (10 : Int)).tdiv (10 : Int))) then bif decide
  (rng IntKind.i64 ((48 : Int) + ((n.tdiv (10 : Int)).tdiv (10 : Int)).tmod (10 : Int))) then bif decide (rng IntKind.i64 (((n.tdiv (10 : Int)).tdiv (10 : Int)).tdiv (10 : Int)))
  then True ∧ (c0 = c0 ∧ c1 = c1 ∧ c2 = c2 ∧ c3 = c3 ∧ c4 = c4 ∧ IntKind.u8.wrap ((48 : Int) + ((n.tdiv (10 : Int)).tdiv (10 : Int)).tmod (10 : Int)) = dgt n (2 : Nat) ∧
  IntKind.u8.wrap ((48 : Int) + (n.tdiv (10 : Int)).tmod (10 : Int)) = dgt n (1 : Nat) ∧ IntKind.u8.wrap ((48 : Int) + n.tmod (10 : Int)) = dgt n (0 : Nat) ∧ True) ∧ True else False
  else False else False else False else False else False
set_option maxRecDepth 100000 in
theorem digC_P : digC_T := by
  unfold digC_T
  intro gl n c0 c1 c2 c3 c4 c5 c6 c7 h h1 h2 _ _ _ _ _ _ _ _
  have a1 : 0 ≤ n / 10 := by omega
  have a2 : 0 ≤ n / 10 / 10 := by omega
  simp only [Int.tmod_eq_emod_of_nonneg h, Int.tdiv_eq_ediv_of_nonneg h, Int.tmod_eq_emod_of_nonneg a1, Int.tdiv_eq_ediv_of_nonneg a1, Int.tmod_eq_emod_of_nonneg a2, Int.tdiv_eq_ediv_of_nonneg a2, wdg, dgt0, dgt1, dgt2]
  simp only [↓cdecF]
  simp only [rng]
  repeat' (first | exact trivial | rfl | apply And.intro)
  all_goals omega
def digC_S : Prop := ∀ (gl : Glob) (n c0 c1 c2 c3 c4 c5 c6 c7 : Int), 0 ≤ n → fnH Tryd.prog { glob := gl, spec := lk [], specH := lk [] } { nt := 21, drop := drp [(0, 224), (1, 256), (2, 3072), (3, 520192), (4, 1572864)], fr := 1000, kp := [0] } (fun _ _ => none) 6 Tryd.f35 [.ms 0 5 3 3 1, .int .i64 n] [.cells [.int .u8 c0, .int .u8 c1, .int .u8 c2, .int .u8 c3, .int .u8 c4, .int .u8 c5, .int .u8 c6, .int .u8 c7]] (.tup []) [.cells [.int .u8 c0, .int .u8 c1, .int .u8 c2, .int .u8 c3, .int .u8 c4, .int .u8 (dgt n 2), .int .u8 (dgt n 1), .int .u8 (dgt n 0)]]
set_option maxRecDepth 100000 in
theorem digC_e : digC_T = digC_S := by kernel_rfl
theorem digC_v : digC_S := @Eq.mp (digC_T) (digC_S) (digC_e) digC_P
theorem digC_ok (gl : Glob) : HOK Tryd.prog gl 35 digC_s := by
  refine ⟨fok Tryd.func35 (by kernel_rfl) (by kernel_rfl), ?_⟩
  intro xs bs pre r bs2 h hp
  unfold digC_s at h
  split at h
  · simp only [Option.some.injEq, Prod.mk.injEq] at h
    obtain ⟨h1, h2, h3⟩ := h
    subst h1 h2 h3
    exact fnH_sound tyNil (by exact specOK rfl rfl trivial trivial) (by kernel_rfl) Tryd.func35 (digC_v gl _ _ _ _ _ _ _ _ _ hp)
  · cases h
def dig_s : SpH := fun xs bs => match digA_s xs bs with | some r => some r | none => match digB_s xs bs with | some r => some r | none => digC_s xs bs
theorem dig_ok (gl : Glob) : HOK Tryd.prog gl 35 dig_s := by
  refine ⟨(digA_ok gl).1, ?_⟩
  intro xs bs pre r bs2 h hp
  unfold dig_s at h
  split at h
  · rename_i e; exact (digA_ok gl).2 xs bs pre r bs2 (e.trans h) hp
  · split at h
    · rename_i e; exact (digB_ok gl).2 xs bs pre r bs2 (e.trans h) hp
    · exact (digC_ok gl).2 xs bs pre r bs2 h hp
def format_s (vld : Int → Int → Int → Int → Bool) (fmt : Int → Int → Int → Int → ByteArray) : Sp
  | [.agg [.int .i64 f, .int .i64 a, .int .i64 b, .int .i64 c]] => some (True, .tup [.str (fmt f a b c), .int .i64 (err (vld f a b c))])
  | _ => none
set_option maxRecDepth 100000 in
def format_T (vld : Int → Int → Int → Int → Bool) (fmt : Int → Int → Int → Int → ByteArray) : Prop :=
  ∀ (gl : Glob) (f a b c : Int), ((-9223372036854775808 : Int) ≤ f ∧ f ≤ (9223372036854775807 : Int)) ∧ ((-9223372036854775808 : Int) ≤ a ∧ a ≤ (9223372036854775807 : Int)) ∧
  ((-9223372036854775808 : Int) ≤ b ∧ b ≤ (9223372036854775807 : Int)) ∧ ((-9223372036854775808 : Int) ≤ c ∧ c ≤ (9223372036854775807 : Int)) ∧ True → True ∧ (True → bif
  !YtddmmjkhkoencaaDoor.vld f a b c then { data := #[] } = fmt f a b c ∧ (1 : Int) = err (vld f a b c) ∧ True else (0 : Int) ≤ f ∧ (0 : Int) ≤ a ∧ (0 : Int) ≤ b ∧ strOfNums [dgt f (1
  : Nat), dgt f (0 : Nat), dgt a (2 : Nat), dgt a (1 : Nat), dgt a (0 : Nat), dgt b (2 : Nat), dgt b (1 : Nat), dgt b (0 : Nat)] = fmt f a b c ∧ (0 : Int) = err (vld f a b c) ∧ True)
set_option maxRecDepth 100000 in
theorem format_P : format_T vld fmt := by
  unfold format_T
  intro gl f a b c h
  refine ⟨trivial, fun _ => ?_⟩
  unfold fmt err
  cases hv : vld f a b c with
  | false => exact ⟨rfl, rfl, trivial⟩
  | true =>
    have v : Vld f a b c := of_decide_eq_true hv
    exact ⟨v.face.1, v.wa.1, v.wb.1, rfl, rfl, trivial⟩
def format_S (vld : Int → Int → Int → Int → Bool) (fmt : Int → Int → Int → Int → ByteArray) : Prop := ∀ (gl : Glob) (f a b c : Int), fnK Tryd.prog { glob := gl, spec := lk [(27, (valid_s Go.Proofs.YtddmmjkhkoencaaDoor.vld))], specH := lk [(35, dig_s)] } { nt := 22, drop := drp [(1, 96), (4, 1792), (5, 28672), (6, 458752), (7, 3145728)] } (fun _ _ => none) 6 Tryd.f17 [.agg [.int .i64 f, .int .i64 a, .int .i64 b, .int .i64 c]] (.tup [.str (fmt f a b c), .int .i64 (err (vld f a b c))])
set_option maxRecDepth 100000 in
theorem format_e (vld : Int → Int → Int → Int → Bool) (fmt : Int → Int → Int → Int → ByteArray) : format_T vld fmt = format_S vld fmt := by kernel_rfl
theorem format_v : format_S vld fmt := @Eq.mp (format_T vld fmt) (format_S vld fmt) (format_e vld fmt) format_P
theorem format_ok (gl : Glob) : SOK Tryd.prog gl 17 (format_s vld fmt) := by
  refine ⟨fok Tryd.func17 (by kernel_rfl) (by kernel_rfl), ?_⟩
  intro xs pre r h hp
  unfold format_s at h
  split at h
  · simp only [Option.some.injEq, Prod.mk.injEq] at h
    obtain ⟨h1, h2⟩ := h
    subst h1 h2
    exact fnK_sound tyNil (by exact specOK rfl rfl ⟨valid_ok gl, trivial⟩ ⟨dig_ok gl, trivial⟩) (by kernel_rfl) Tryd.func17 rfl (format_v gl _ _ _ _)
  · cases h
def rot (k a b c : Int) : Int × Int × Int := if 0 < k then (if 0 < k - 1 then (b, c, a) else (c, a, b)) else (a, b, c)
theorem rot0 {k a b c : Int} (h : ¬ 0 < k) : rot k a b c = (a, b, c) := by unfold rot; rw [if_neg h]
theorem rot1 {k a b c : Int} (h : 0 < k) (h' : ¬ 0 < k - 1) : rot k a b c = (c, a, b) := by unfold rot; rw [if_pos h, if_neg h']
theorem rot2 {k a b c : Int} (h : 0 < k) (h' : 0 < k - 1) : rot k a b c = (b, c, a) := by unfold rot; rw [if_pos h, if_pos h']
/-- The weights of the place that 'somewhere' reads, before they go round, and where the reader stands then. -/
def swB (xs : List (List AV)) (i : Int) : Int × Int × Int :=
  if srcN xs (rawA xs i) 4 = 0 then (840, 0, rawA xs (rawA xs i))
  else if srcN xs (rawA xs i) 4 = 1 then (srcN xs (rawA xs (rawA xs i)) 841, 840 - srcN xs (rawA xs (rawA xs i)) 841, rawA xs (rawA xs (rawA xs i)))
  else (srcN xs (rawA xs (rawA xs i)) 841, srcN xs (rawA xs (rawA xs (rawA xs i))) (840 - srcN xs (rawA xs (rawA xs i)) 841 + 1), rawA xs (rawA xs (rawA xs (rawA xs i))))
def swR (xs : List (List AV)) (i : Int) : Int × Int × Int := rot (srcN xs (swB xs i).2.2 3) (swB xs i).1 (swB xs i).2.1 (840 - (swB xs i).1 - (swB xs i).2.1)
def swF (xs : List (List AV)) (i : Int) : Int := srcN xs i 20
def swI (xs : List (List AV)) (i : Int) : Int := rawA xs (swB xs i).2.2
def somewhere_s : SpH
  | [.ptr 0 0], [.cells [.sl 1 false xs, .int .i64 i]] => some (SrcI xs ∧ 0 ≤ i, .agg [.int .i64 (swF xs i), .int .i64 (swR xs i).1, .int .i64 (swR xs i).2.1, .int .i64 (swR xs i).2.2], [.cells [.sl 1 false xs, .int .i64 (swI xs i)]])
  | _, _ => none
set_option maxRecDepth 100000 in
def somewhere_T : Prop :=
  ∀ (gl : Glob) (xs : List (List AV)) (i : Int), SrcI xs ∧ (0 : Int) ≤ i → True → True → (-9223372036854775808 : Int) ≤ i ∧ i ≤ (9223372036854775807 : Int) → (SrcI xs ∧ (0 : Int) ≤
  i) ∧ (SrcI xs ∧ (0 : Int) ≤ rawA xs i) ∧ bif decide (srcN xs (rawA xs i) (4 : Int) = (0 : Int)) then (SrcI xs ∧ (0 : Int) ≤ rawA xs (rawA xs i)) ∧ bif decide ((0 : Int) < srcN xs
  (rawA xs (rawA xs i)) (3 : Int)) then bif decide (rng IntKind.i64 (srcN xs (rawA xs (rawA xs i)) (3 : Int) - (1 : Int))) then bif decide ((0 : Int) < srcN xs (rawA xs (rawA xs i))
  (3 : Int) - (1 : Int)) then bif decide (rng IntKind.i64 (srcN xs (rawA xs (rawA xs i)) (3 : Int) - (1 : Int) - (1 : Int))) then bif decide ((0 : Int) < srcN xs (rawA xs (rawA xs
  i)) (3 : Int) - (1 : Int) - (1 : Int)) then bif decide (rng IntKind.i64 (srcN xs (rawA xs (rawA xs i)) (3 : Int) - (1 : Int) - (1 : Int) - (1 : Int))) then False else False else
  (srcN xs i (20 : Int) = swF xs i ∧ (0 : Int) = (swR xs i).fst ∧ (0 : Int) = (swR xs i).snd.fst ∧ (840 : Int) = (swR xs i).snd.snd ∧ True) ∧ ((True ∧ xs = xs) ∧ rawA xs (rawA xs
  (rawA xs i)) = swI xs i ∧ True) ∧ True else False else (srcN xs i (20 : Int) = swF xs i ∧ (0 : Int) = (swR xs i).fst ∧ (840 : Int) = (swR xs i).snd.fst ∧ (0 : Int) = (swR xs
  i).snd.snd ∧ True) ∧ ((True ∧ xs = xs) ∧ rawA xs (rawA xs (rawA xs i)) = swI xs i ∧ True) ∧ True else False else (srcN xs i (20 : Int) = swF xs i ∧ (840 : Int) = (swR xs i).fst ∧
  (0 : Int) = (swR xs i).snd.fst ∧ (0 : Int) = (swR xs i).snd.snd ∧ True) ∧ ((True ∧ xs = xs) ∧ rawA xs (rawA xs (rawA xs i)) = swI xs i ∧ True) ∧ True else bif decide (srcN xs (rawA
  xs i) (4 : Int) = (1 : Int)) then (SrcI xs ∧ (0 : Int) ≤ rawA xs (rawA xs i)) ∧ bif decide (rng IntKind.i64 ((840 : Int) - srcN xs (rawA xs (rawA xs i)) (841 : Int))) then bif
  decide (rng IntKind.i64 ((840 : Int) - srcN xs (rawA xs (rawA xs i)) (841 : Int))) then bif decide (rng IntKind.i64 ((840 : Int) - srcN xs (rawA xs (rawA xs i)) (841 : Int) - ((840
  : Int) - srcN xs (rawA xs (rawA xs i)) (841 : Int)))) then (SrcI xs ∧ (0 : Int) ≤ rawA xs (rawA xs (rawA xs i))) ∧ bif decide ((0 : Int) < srcN xs (rawA xs (rawA xs (rawA xs i)))
  (3 : Int)) then bif decide (rng IntKind.i64 (srcN xs (rawA xs (rawA xs (rawA xs i))) (3 : Int) - (1 : Int))) then bif decide ((0 : Int) < srcN xs (rawA xs (rawA xs (rawA xs i))) (3
  : Int) - (1 : Int)) then bif decide (rng IntKind.i64 (srcN xs (rawA xs (rawA xs (rawA xs i))) (3 : Int) - (1 : Int) - (1 : Int))) then bif decide ((0 : Int) < srcN xs (rawA xs
  (rawA xs (rawA xs i))) (3 : Int) - (1 : Int) - (1 : Int)) then bif decide (rng IntKind.i64 (srcN xs (rawA xs (rawA xs (rawA xs i))) (3 : Int) - (1 : Int) - (1 : Int) - (1 : Int)))
  then False else False else (srcN xs i (20 : Int) = swF xs i ∧ (840 : Int) - srcN xs (rawA xs (rawA xs i)) (841 : Int) = (swR xs i).fst ∧ (840 : Int) - srcN xs (rawA xs (rawA xs i))
  (841 : Int) - ((840 : Int) - srcN xs (rawA xs (rawA xs i)) (841 : Int)) = (swR xs i).snd.fst ∧ srcN xs (rawA xs (rawA xs i)) (841 : Int) = (swR xs i).snd.snd ∧ True) ∧ ((True ∧ xs
  = xs) ∧ rawA xs (rawA xs (rawA xs (rawA xs i))) = swI xs i ∧ True) ∧ True else False else (srcN xs i (20 : Int) = swF xs i ∧ (840 : Int) - srcN xs (rawA xs (rawA xs i)) (841 : Int)
  - ((840 : Int) - srcN xs (rawA xs (rawA xs i)) (841 : Int)) = (swR xs i).fst ∧ srcN xs (rawA xs (rawA xs i)) (841 : Int) = (swR xs i).snd.fst ∧ (840 : Int) - srcN xs (rawA xs (rawA
  xs i)) (841 : Int) = (swR xs i).snd.snd ∧ True) ∧ ((True ∧ xs = xs) ∧ rawA xs (rawA xs (rawA xs (rawA xs i))) = swI xs i ∧ True) ∧ True else False else (srcN xs i (20 : Int) = swF
  xs i ∧ srcN xs (rawA xs (rawA xs i)) (841 : Int) = (swR xs i).fst ∧ (840 : Int) - srcN xs (rawA xs (rawA xs i)) (841 : Int) = (swR xs i).snd.fst ∧ (840 : Int) - srcN xs (rawA xs
  (rawA xs i)) (841 : Int) - ((840 : Int) - srcN xs (rawA xs (rawA xs i)) (841 : Int)) = (swR xs i).snd.snd ∧ True) ∧ ((True ∧ xs = xs) ∧ rawA xs (rawA xs (rawA xs (rawA xs i))) =
  swI xs i ∧ True) ∧ True else False else False else False else (SrcI xs ∧ (0 : Int) ≤ rawA xs (rawA xs i)) ∧ bif decide (rng IntKind.i64 ((840 : Int) - srcN xs (rawA xs (rawA xs i))
  (841 : Int))) then bif decide (rng IntKind.i64 ((840 : Int) - srcN xs (rawA xs (rawA xs i)) (841 : Int) + (1 : Int))) then (SrcI xs ∧ (0 : Int) ≤ rawA xs (rawA xs (rawA xs i))) ∧
  bif decide (rng IntKind.i64 ((840 : Int) - srcN xs (rawA xs (rawA xs i)) (841 : Int))) then bif decide (rng IntKind.i64 ((840 : Int) - srcN xs (rawA xs (rawA xs i)) (841 : Int) -
  srcN xs (rawA xs (rawA xs (rawA xs i))) ((840 : Int) - srcN xs (rawA xs (rawA xs i)) (841 : Int) + (1 : Int)))) then (SrcI xs ∧ (0 : Int) ≤ rawA xs (rawA xs (rawA xs (rawA xs i))))
  ∧ bif decide ((0 : Int) < srcN xs (rawA xs (rawA xs (rawA xs (rawA xs i)))) (3 : Int)) then bif decide (rng IntKind.i64 (srcN xs (rawA xs (rawA xs (rawA xs (rawA xs i)))) (3 : Int)
  - (1 : Int))) then bif decide ((0 : Int) < srcN xs (rawA xs (rawA xs (rawA xs (rawA xs i)))) (3 : Int) - (1 : Int)) then bif decide (rng IntKind.i64 (srcN xs (rawA xs (rawA xs
  (rawA xs (rawA xs i)))) (3 : Int) - (1 : Int) - (1 : Int))) then bif decide ((0 : Int) < srcN xs (rawA xs (rawA xs (rawA xs (rawA xs i)))) (3 : Int) - (1 : Int) - (1 : Int)) then
  bif decide (rng IntKind.i64 (srcN xs (rawA xs (rawA xs (rawA xs (rawA xs i)))) (3 : Int) - (1 : Int) - (1 : Int) - (1 : Int))) then False else False else (srcN xs i (20 : Int) =
  swF xs i ∧ srcN xs (rawA xs (rawA xs (rawA xs i))) ((840 : Int) - srcN xs (rawA xs (rawA xs i)) (841 : Int) + (1 : Int)) = (swR xs i).fst ∧ (840 : Int) - srcN xs (rawA xs (rawA xs
  i)) (841 : Int) - srcN xs (rawA xs (rawA xs (rawA xs i))) ((840 : Int) - srcN xs (rawA xs (rawA xs i)) (841 : Int) + (1 : Int)) = (swR xs i).snd.fst ∧ srcN xs (rawA xs (rawA xs i))
  (841 : Int) = (swR xs i).snd.snd ∧ True) ∧ ((True ∧ xs = xs) ∧ rawA xs (rawA xs (rawA xs (rawA xs (rawA xs i)))) = swI xs i ∧ True) ∧ True else False else (srcN xs i (20 : Int) =
  swF xs i ∧ (840 : Int) - srcN xs (rawA xs (rawA xs i)) (841 : Int) - srcN xs (rawA xs (rawA xs (rawA xs i))) ((840 : Int) - srcN xs (rawA xs (rawA xs i)) (841 : Int) + (1 : Int)) =
  (swR xs i).fst ∧ srcN xs (rawA xs (rawA xs i)) (841 : Int) = (swR xs i).snd.fst ∧ srcN xs (rawA xs (rawA xs (rawA xs i))) ((840 : Int) - srcN xs (rawA xs (rawA xs i)) (841 : Int) +
  (1 : Int)) = (swR xs i).snd.snd ∧ True) ∧ ((True ∧ xs = xs) ∧ rawA xs (rawA xs (rawA xs (rawA xs (rawA xs i)))) = swI xs i ∧ True) ∧ True else False else (srcN xs i (20 : Int) =
  swF xs i ∧ srcN xs (rawA xs (rawA xs i)) (841 : Int) = (swR xs i).fst ∧ srcN xs (rawA xs (rawA xs (rawA xs i))) ((840 : Int) - srcN xs (rawA xs (rawA xs i)) (841 : Int) + (1 :
  Int)) = (swR xs i).snd.fst ∧ (840 : Int) - srcN xs (rawA xs (rawA xs i)) (841 : Int) - srcN xs (rawA xs (rawA xs (rawA xs i))) ((840 : Int) - srcN xs (rawA xs (rawA xs i)) (841 :
  Int) + (1 : Int)) = (swR xs i).snd.snd ∧ True) ∧ ((True ∧ xs = xs) ∧ rawA xs (rawA xs (rawA xs (rawA xs (rawA xs i)))) = swI xs i ∧ True) ∧ True else False else False else False
  else False
set_option maxRecDepth 100000 in
theorem somewhere_P : somewhere_T := by
  unfold somewhere_T
  intro gl xs i ⟨hs, h0⟩ _ _ hi
  have p1 := rawA_le (xs := xs) h0
  have p2 := rawA_le (xs := xs) p1
  have p3 := rawA_le (xs := xs) p2
  have p4 := rawA_le (xs := xs) p3
  have b1 := srcN_lt (xs := xs) (i := rawA xs (rawA xs i)) (n := 841) (by decide)
  have b2 := srcN_lt (xs := xs) (i := rawA xs (rawA xs (rawA xs i))) (n := 840 - srcN xs (rawA xs (rawA xs i)) 841 + 1) (by omega)
  have q0 := srcN_lt (xs := xs) (i := rawA xs (rawA xs i)) (n := 3) (by decide)
  have q1 := srcN_lt (xs := xs) (i := rawA xs (rawA xs (rawA xs i))) (n := 3) (by decide)
  have q2 := srcN_lt (xs := xs) (i := rawA xs (rawA xs (rawA xs (rawA xs i)))) (n := 3) (by decide)
  refine ⟨⟨hs, h0⟩, ⟨hs, p1⟩, csplit (fun e => ?_) (fun e => csplit (fun e' => ?_) (fun e' => ?_))⟩
  · have hB : swB xs i = (840, 0, rawA xs (rawA xs i)) := by unfold swB; rw [if_pos (of_decide_eq_true e)]
    refine ⟨⟨hs, p2⟩, ?_⟩
    simp only [↓cdecF, cdec]
    simp only [rng]
    refine ⟨fun e1 => ⟨by omega, fun e2 => ⟨by omega, fun e3 => absurd e3 (by omega), fun _ => ?_⟩, fun e2 => ?_⟩, fun e1 => ?_⟩
    · simp only [swF, swI, swR, hB, rot2 e1 e2]; repeat' (first | exact trivial | rfl | apply And.intro | omega)
    · simp only [swF, swI, swR, hB, rot1 e1 e2]; repeat' (first | exact trivial | rfl | apply And.intro | omega)
    · simp only [swF, swI, swR, hB, rot0 e1]; repeat' (first | exact trivial | rfl | apply And.intro | omega)
  · have hB : swB xs i = (srcN xs (rawA xs (rawA xs i)) 841, 840 - srcN xs (rawA xs (rawA xs i)) 841, rawA xs (rawA xs (rawA xs i))) := by unfold swB; rw [if_neg (of_decide_eq_false e), if_pos (of_decide_eq_true e')]
    refine ⟨⟨hs, p2⟩, ?_⟩
    simp only [↓cdecF, cdec]
    simp only [rng]
    refine ⟨by omega, by omega, by omega, ⟨hs, p3⟩, ?_⟩
    refine ⟨fun e1 => ⟨by omega, fun e2 => ⟨by omega, fun e3 => absurd e3 (by omega), fun _ => ?_⟩, fun e2 => ?_⟩, fun e1 => ?_⟩
    · simp only [swF, swI, swR, hB, rot2 e1 e2]; repeat' (first | exact trivial | rfl | apply And.intro | omega)
    · simp only [swF, swI, swR, hB, rot1 e1 e2]; repeat' (first | exact trivial | rfl | apply And.intro | omega)
    · simp only [swF, swI, swR, hB, rot0 e1]; repeat' (first | exact trivial | rfl | apply And.intro | omega)
  · have hB : swB xs i = (srcN xs (rawA xs (rawA xs i)) 841, srcN xs (rawA xs (rawA xs (rawA xs i))) (840 - srcN xs (rawA xs (rawA xs i)) 841 + 1), rawA xs (rawA xs (rawA xs (rawA xs i)))) := by unfold swB; rw [if_neg (of_decide_eq_false e), if_neg (of_decide_eq_false e')]
    refine ⟨⟨hs, p2⟩, ?_⟩
    simp only [↓cdecF, cdec]
    simp only [rng]
    refine ⟨by omega, by omega, ⟨hs, p3⟩, by omega, by omega, ⟨hs, p4⟩, ?_⟩
    refine ⟨fun e1 => ⟨by omega, fun e2 => ⟨by omega, fun e3 => absurd e3 (by omega), fun _ => ?_⟩, fun e2 => ?_⟩, fun e1 => ?_⟩
    · simp only [swF, swI, swR, hB, rot2 e1 e2]; repeat' (first | exact trivial | rfl | apply And.intro | omega)
    · simp only [swF, swI, swR, hB, rot1 e1 e2]; repeat' (first | exact trivial | rfl | apply And.intro | omega)
    · simp only [swF, swI, swR, hB, rot0 e1]; repeat' (first | exact trivial | rfl | apply And.intro | omega)
def somewhere_S : Prop := ∀ (gl : Glob) (xs : List (List AV)) (i : Int), SrcI xs ∧ 0 ≤ i → fnH Tryd.prog { glob := gl, spec := lk [], specH := lk [(21, srcn_s)], nowf := true } { nt := 55, drop := drp [(1, 224), (2, 256), (3, 7168), (4, 1040384), (5, 2097152), (6, 4194304), (7, 16777216), (8, 234881024), (9, 4026531840), (10, 545460846592), (11, 1649267441664), (12, 2199023255552), (13, 26388279066624), (14, 17979214137393152), (15, 18014398509481984)], fr := 1000, kp := [0] } (fun _ _ => none) 3 Tryd.f10 [.ptr 0 0] [.cells [.sl 1 false xs, .int .i64 i]] (.agg [.int .i64 (swF xs i), .int .i64 (swR xs i).1, .int .i64 (swR xs i).2.1, .int .i64 (swR xs i).2.2]) [.cells [.sl 1 false xs, .int .i64 (swI xs i)]]
set_option maxRecDepth 100000 in
theorem somewhere_e : somewhere_T = somewhere_S := by kernel_rfl
theorem somewhere_v : somewhere_S := @Eq.mp (somewhere_T) (somewhere_S) (somewhere_e) somewhere_P
theorem somewhere_ok (gl : Glob) : HOK Tryd.prog gl 10 somewhere_s := by
  refine ⟨fok Tryd.func10 (by kernel_rfl) (by kernel_rfl), ?_⟩
  intro xs bs pre r bs2 h hp
  unfold somewhere_s at h
  split at h
  · simp only [Option.some.injEq, Prod.mk.injEq] at h
    obtain ⟨h1, h2, h3⟩ := h
    subst h1 h2 h3
    exact fnH_sound tyNil (by exact specOK rfl rfl trivial ⟨srcn_ok gl, trivial⟩) (by kernel_rfl) Tryd.func10 (somewhere_v gl _ _ hp)
  · cases h
end Go.Proofs.YtddmmjkhkoencaaDoor
