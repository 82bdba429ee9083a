/- The clock: the examples; the references of days, dates. -/
import Derived.Test.YtakmploakbaglaaClE
namespace Go.Proofs.Ytakmploakbaglaa
open Go
set_option linter.unusedVariables false
set_option linter.unusedSimpArgs false

def awkB : ByteArray := ⟨#[50, 48, 48, 48, 45, 48, 50, 45, 50, 48, 32, 48, 48, 58, 48, 48]⟩
def cAwake_s (fmtC : Int → ByteArray) (inB : Int → Bool) (prsM : ByteArray → Int) (prsV : ByteArray → Bool) (rsV : Int → Int → Int → Int → Int) (rsOk : Int → Int → Int → Int → Bool) : Sp
  | [] => some (True, .bool true)
  | _ => none
set_option maxRecDepth 100000 in
def cAwake_T (fmtC : Int → ByteArray) (inB : Int → Bool) (prsM : ByteArray → Int) (prsV : ByteArray → Bool) (rsV : Int → Int → Int → Int → Int) (rsOk : Int → Int → Int → Int → Bool) (dtY : Int → Int) (dtM : Int → Int) (dtD : Int → Int) (dtH : Int → Int) (dtI : Int → Int) (tmB : Int → Int → Bool) (vldB : Int → Int → Int → Int → Int → Bool) (mns : Int → Int → Int → Int → Int → Int) (rsB : Int → Int → Int → Int → Int → Int) (mnth : Int → Int) : Prop :=
  ∀ (gl : Glob), True ∧ True ∧ True ∧ True ∧ bif decide ((if inB (84960 : Int) = true then (0 : Int) else (1 : Int)) = (0 : Int)) then bif decide ((if prsV { data := #[(50 : UInt8),
  (48 : UInt8), (48 : UInt8), (48 : UInt8), (45 : UInt8), (48 : UInt8), (50 : UInt8), (45 : UInt8), (50 : UInt8), (48 : UInt8), (32 : UInt8), (48 : UInt8), (48 : UInt8), (58 :
  UInt8), (48 : UInt8), (48 : UInt8)] } = true then (0 : Int) else (3 : Int)) = (0 : Int)) then bif decide ((if rsOk (31 : Int) (12 : Int) (0 : Int) (prsM { data := #[(50 : UInt8),
  (48 : UInt8), (48 : UInt8), (48 : UInt8), (45 : UInt8), (48 : UInt8), (50 : UInt8), (45 : UInt8), (50 : UInt8), (48 : UInt8), (32 : UInt8), (48 : UInt8), (48 : UInt8), (58 :
  UInt8), (48 : UInt8), (48 : UInt8)] }) = true then (0 : Int) else (1 : Int)) = (0 : Int)) then bif decide ((if inB (rsV (31 : Int) (12 : Int) (0 : Int) (prsM { data := #[(50 :
  UInt8), (48 : UInt8), (48 : UInt8), (48 : UInt8), (45 : UInt8), (48 : UInt8), (50 : UInt8), (45 : UInt8), (50 : UInt8), (48 : UInt8), (32 : UInt8), (48 : UInt8), (48 : UInt8), (58
  : UInt8), (48 : UInt8), (48 : UInt8)] })) = true then (0 : Int) else (1 : Int)) = (0 : Int)) then bif decide (fmtC (84960 : Int) = { data := #[(50 : UInt8), (48 : UInt8), (48 :
  UInt8), (48 : UInt8), (45 : UInt8), (48 : UInt8), (50 : UInt8), (45 : UInt8), (50 : UInt8), (57 : UInt8), (32 : UInt8), (48 : UInt8), (48 : UInt8), (58 : UInt8), (48 : UInt8), (48
  : UInt8)] }) then decide (fmtC (rsV (31 : Int) (12 : Int) (0 : Int) (prsM { data := #[(50 : UInt8), (48 : UInt8), (48 : UInt8), (48 : UInt8), (45 : UInt8), (48 : UInt8), (50 :
  UInt8), (45 : UInt8), (50 : UInt8), (48 : UInt8), (32 : UInt8), (48 : UInt8), (48 : UInt8), (58 : UInt8), (48 : UInt8), (48 : UInt8)] })) = { data := #[(50 : UInt8), (48 : UInt8),
  (48 : UInt8), (48 : UInt8), (45 : UInt8), (48 : UInt8), (49 : UInt8), (45 : UInt8), (51 : UInt8), (49 : UInt8), (32 : UInt8), (49 : UInt8), (50 : UInt8), (58 : UInt8), (48 :
  UInt8), (48 : UInt8)] }) = true else false = true else false = true else false = true else false = true else false = true
set_option maxRecDepth 100000 in
theorem cAwake_P : cAwake_T fmtC inB prsM prsV rsV rsOk dtY dtM dtD dtH dtI tmB vldB mns rsB mnth := by
  unfold cAwake_T
  intro gl
  have a1 : inB 84960 = true := by decide +kernel
  have a2 : prsV awkB = true := by decide +kernel
  have a3 : prsM awkB = 72000 := by decide +kernel
  have a4 : rsOk 31 12 0 72000 = true := by decide +kernel
  have a5 : rsV 31 12 0 72000 = 43920 := by decide +kernel
  have a6 : inB 43920 = true := by decide +kernel
  have a7 : fmtC 84960 = ⟨#[50, 48, 48, 48, 45, 48, 50, 45, 50, 57, 32, 48, 48, 58, 48, 48]⟩ := by decide +kernel
  have a8 : fmtC 43920 = ⟨#[50, 48, 48, 48, 45, 48, 49, 45, 51, 49, 32, 49, 50, 58, 48, 48]⟩ := by decide +kernel
  have b1 : (if inB 84960 = true then (0 : Int) else 1) = 0 := if_pos a1
  have b2 : (if prsV awkB = true then (0 : Int) else 3) = 0 := if_pos a2
  have b3 : (if rsOk 31 12 0 (prsM awkB) = true then (0 : Int) else 1) = 0 := by rw [a3]; exact if_pos a4
  have b4 : (if inB (rsV 31 12 0 (prsM awkB)) = true then (0 : Int) else 1) = 0 := by rw [a3, a5]; exact if_pos a6
  have b5 : fmtC (rsV 31 12 0 (prsM awkB)) = ⟨#[50, 48, 48, 48, 45, 48, 49, 45, 51, 49, 32, 49, 50, 58, 48, 48]⟩ := by rw [a3, a5, a8]
  exact ⟨trivial, trivial, trivial, trivial, cd1 b1 (cd1 b2 (cd1 b3 (cd1 b4 (cd1 a7 (decide_eq_true b5)))))⟩
def cAwake_S (fmtC : Int → ByteArray) (inB : Int → Bool) (prsM : ByteArray → Int) (prsV : ByteArray → Bool) (rsV : Int → Int → Int → Int → Int) (rsOk : Int → Int → Int → Int → Bool) (dtY : Int → Int) (dtM : Int → Int) (dtD : Int → Int) (dtH : Int → Int) (dtI : Int → Int) (tmB : Int → Int → Bool) (vldB : Int → Int → Int → Int → Int → Bool) (mns : Int → Int → Int → Int → Int → Int) (rsB : Int → Int → Int → Int → Int → Int) (mnth : Int → Int) : Prop := ∀ (gl : Glob), fnK Try.prog { glob := gl, spec := lk [(22, (cFormat_s inB fmtC)), (23, (cParse_s prsM prsV)), (27, (cResolve_s inB dtY dtM dtD dtH dtI tmB vldB mns rsV rsOk rsB mnth))], specH := lk [], nowf := true } { nt := 49, drop := drp [(1, 7680), (2, 122880), (3, 4063232), (4, 130023424), (5, 562949819203584)] } (fun _ _ => none) 6 Try.f21 [] (.bool true)
set_option maxRecDepth 100000 in
theorem cAwake_e (fmtC : Int → ByteArray) (inB : Int → Bool) (prsM : ByteArray → Int) (prsV : ByteArray → Bool) (rsV : Int → Int → Int → Int → Int) (rsOk : Int → Int → Int → Int → Bool) (dtY : Int → Int) (dtM : Int → Int) (dtD : Int → Int) (dtH : Int → Int) (dtI : Int → Int) (tmB : Int → Int → Bool) (vldB : Int → Int → Int → Int → Int → Bool) (mns : Int → Int → Int → Int → Int → Int) (rsB : Int → Int → Int → Int → Int → Int) (mnth : Int → Int) : cAwake_T fmtC inB prsM prsV rsV rsOk dtY dtM dtD dtH dtI tmB vldB mns rsB mnth = cAwake_S fmtC inB prsM prsV rsV rsOk dtY dtM dtD dtH dtI tmB vldB mns rsB mnth := by kernel_rfl
theorem cAwake_v : cAwake_S fmtC inB prsM prsV rsV rsOk dtY dtM dtD dtH dtI tmB vldB mns rsB mnth := @Eq.mp (cAwake_T fmtC inB prsM prsV rsV rsOk dtY dtM dtD dtH dtI tmB vldB mns rsB mnth) (cAwake_S fmtC inB prsM prsV rsV rsOk dtY dtM dtD dtH dtI tmB vldB mns rsB mnth) (cAwake_e fmtC inB prsM prsV rsV rsOk dtY dtM dtD dtH dtI tmB vldB mns rsB mnth) cAwake_P
theorem cAwake_ok (gl : Glob) : SOK Try.prog gl 21 (cAwake_s fmtC inB prsM prsV rsV rsOk) := by
  refine ⟨fok Try.func21 (by kernel_rfl) (by kernel_rfl), ?_⟩
  intro xs pre r h hp
  unfold cAwake_s at h
  split at h
  · simp only [Option.some.injEq, Prod.mk.injEq] at h
    obtain ⟨h1, h2⟩ := h
    subst h1 h2
    exact fnK_sound tyNil (by exact specOK rfl rfl ⟨cFormat_ok gl, cParse_ok gl, cResolve_ok gl, trivial⟩ trivial) (by kernel_rfl) Try.func21 rfl (cAwake_v gl )
  · cases h
def rDays_s (dim : Int → Int → Int) : Sp
  | [.int .i64 y, .int .i64 m] => some (True, .int .i64 (dim y m))
  | _ => none
set_option maxRecDepth 100000 in
def rDays_T (dim : Int → Int → Int) : Prop :=
  ∀ (gl : Glob) (y m : Int), (-9223372036854775808 : Int) ≤ y ∧ y ≤ (9223372036854775807 : Int) → (-9223372036854775808 : Int) ≤ m ∧ m ≤ (9223372036854775807 : Int) → bif decide (y <
  (2000 : Int)) then (0 : Int) = dim y m else bif decide ((2099 : Int) < y) then (0 : Int) = dim y m else bif decide (m < (1 : Int)) then (0 : Int) = dim y m else bif decide ((12 :
  Int) < m) then (0 : Int) = dim y m else bif decide (m = (4 : Int)) then (30 : Int) = dim y m else bif decide (m = (6 : Int)) then (30 : Int) = dim y m else bif decide (m = (9 :
  Int)) then (30 : Int) = dim y m else bif decide (m = (11 : Int)) then (30 : Int) = dim y m else bif decide (m = (2 : Int)) then bif decide (y.tmod (4 : Int) = (0 : Int)) then (29 :
  Int) = dim y m else (28 : Int) = dim y m else (31 : Int) = dim y m
set_option maxRecDepth 100000 in
theorem rDays_P : rDays_T dim := by
  unfold rDays_T
  intro gl y m hy hm
  have e := tmod4 y
  unfold dim
  have off : ¬ (2000 ≤ y ∧ y ≤ 2099 ∧ 1 ≤ m ∧ m ≤ 12) → (0 : Int) = if 2000 ≤ y ∧ y ≤ 2099 ∧ 1 ≤ m ∧ m ≤ 12 then (len12 y).getD (m - 1).toNat 0 else 0 := fun h => (if_neg h).symm
  refine csplit (fun h => off (by have := of_decide_eq_true h; omega)) (fun h => csplit (fun h2 => off (by have := of_decide_eq_true h2; omega)) (fun h2 => csplit (fun h3 => off (by have := of_decide_eq_true h3; omega)) (fun h3 => csplit (fun h4 => off (by have := of_decide_eq_true h4; omega)) (fun h4 => ?_))))
  have h := of_decide_eq_false h
  have h2 := of_decide_eq_false h2
  have h3 := of_decide_eq_false h3
  have h4 := of_decide_eq_false h4
  rw [if_pos (by omega)]
  have hk : (m - 1).toNat < 12 := by omega
  have hm2 : m = ((m - 1).toNat : Int) + 1 := by omega
  simp only [cdec, e]
  generalize (m - 1).toNat = k at *
  subst hm2
  rcases k12 hk with rfl | rfl | rfl | rfl | rfl | rfl | rfl | rfl | rfl | rfl | rfl | rfl
  all_goals simp [len12, lp]
  split <;> simp_all
def rDays_S (dim : Int → Int → Int) : Prop := ∀ (gl : Glob) (y m : Int), fnK Try.prog { glob := gl, spec := lk [], specH := lk [], nowf := true } { nt := 30, drop := drp [(1, 262112), (4, 2097152), (5, 4194304), (6, 8388608), (7, 16777216), (9, 67108864), (10, 402653184)] } (fun _ _ => none) 6 Try.f17 [.int .i64 y, .int .i64 m] (.int .i64 (dim y m))
set_option maxRecDepth 100000 in
theorem rDays_e (dim : Int → Int → Int) : rDays_T dim = rDays_S dim := by kernel_rfl
theorem rDays_v : rDays_S dim := @Eq.mp (rDays_T dim) (rDays_S dim) (rDays_e dim) rDays_P
theorem rDays_ok (gl : Glob) : SOK Try.prog gl 17 (rDays_s dim) := by
  refine ⟨fok Try.func17 (by kernel_rfl) (by kernel_rfl), ?_⟩
  intro xs pre r h hp
  unfold rDays_s at h
  split at h
  · simp only [Option.some.injEq, Prod.mk.injEq] at h
    obtain ⟨h1, h2⟩ := h
    subst h1 h2
    exact fnK_sound tyNil (by exact specOK rfl rfl trivial trivial) (by kernel_rfl) Try.func17 rfl (rDays_v gl _ _)
  · cases h
def rValid_s (vldB : Int → Int → Int → Int → Int → Bool) : Sp
  | [.agg [.int .i64 y, .int .i64 m, .int .i64 d, .int .i64 h, .int .i64 i]] => some (True, .bool (vldB y m d h i))
  | _ => none
set_option maxRecDepth 100000 in
def rValid_T (vldB : Int → Int → Int → Int → Int → Bool) (dim : Int → Int → Int) : Prop :=
  ∀ (gl : Glob) (y m d h i : Int), ((-9223372036854775808 : Int) ≤ y ∧ y ≤ (9223372036854775807 : Int)) ∧ ((-9223372036854775808 : Int) ≤ m ∧ m ≤ (9223372036854775807 : Int)) ∧
  ((-9223372036854775808 : Int) ≤ d ∧ d ≤ (9223372036854775807 : Int)) ∧ ((-9223372036854775808 : Int) ≤ h ∧ h ≤ (9223372036854775807 : Int)) ∧ ((-9223372036854775808 : Int) ≤ i ∧ i
  ≤ (9223372036854775807 : Int)) ∧ True → bif decide ((1 : Int) ≤ d) then True ∧ bif decide (d ≤ dim y m) then bif decide ((0 : Int) ≤ h) then bif decide (h ≤ (23 : Int)) then bif
  decide ((0 : Int) ≤ i) then decide (i ≤ (59 : Int)) = vldB y m d h i else false = vldB y m d h i else false = vldB y m d h i else false = vldB y m d h i else false = vldB y m d h i
  else false = vldB y m d h i
set_option maxRecDepth 100000 in
theorem rValid_P : rValid_T vldB dim := by
  unfold rValid_T
  intro gl y m d h i _
  unfold vldB tmB
  refine csplit (fun h1 => ⟨trivial, csplit (fun h2 => csplit (fun h3 => csplit (fun h4 => csplit (fun h5 => ?_) (fun h5 => ?_)) (fun h4 => ?_)) (fun h3 => ?_)) (fun h2 => ?_)⟩) (fun h1 => ?_)
  all_goals
    first | have h1 := of_decide_eq_true h1 | have h1 := of_decide_eq_false h1
    try (first | have h2 := of_decide_eq_true h2 | have h2 := of_decide_eq_false h2)
    try (first | have h3 := of_decide_eq_true h3 | have h3 := of_decide_eq_false h3)
    try (first | have h4 := of_decide_eq_true h4 | have h4 := of_decide_eq_false h4)
    try (first | have h5 := of_decide_eq_true h5 | have h5 := of_decide_eq_false h5)
    rw [Bool.eq_iff_iff]
    simp only [Bool.and_eq_true, decide_eq_true_eq, Bool.false_eq_true, false_iff]
    omega
def rValid_S (vldB : Int → Int → Int → Int → Int → Bool) (dim : Int → Int → Int) : Prop := ∀ (gl : Glob) (y m d h i : Int), fnK Try.prog { glob := gl, spec := lk [(17, (rDays_s dim))], specH := lk [], nowf := true } { nt := 36, drop := drp [(1, 68719476728)] } (fun _ _ => none) 6 Try.f15 [.agg [.int .i64 y, .int .i64 m, .int .i64 d, .int .i64 h, .int .i64 i]] (.bool (vldB y m d h i))
set_option maxRecDepth 100000 in
theorem rValid_e (vldB : Int → Int → Int → Int → Int → Bool) (dim : Int → Int → Int) : rValid_T vldB dim = rValid_S vldB dim := by kernel_rfl
theorem rValid_v : rValid_S vldB dim := @Eq.mp (rValid_T vldB dim) (rValid_S vldB dim) (rValid_e vldB dim) rValid_P
theorem rValid_ok (gl : Glob) : SOK Try.prog gl 15 (rValid_s vldB) := by
  refine ⟨fok Try.func15 (by kernel_rfl) (by kernel_rfl), ?_⟩
  intro xs pre r h hp
  unfold rValid_s at h
  split at h
  · simp only [Option.some.injEq, Prod.mk.injEq] at h
    obtain ⟨h1, h2⟩ := h
    subst h1 h2
    exact fnK_sound tyNil (by exact specOK rfl rfl ⟨rDays_ok gl, trivial⟩ trivial) (by kernel_rfl) Try.func15 rfl (rValid_v gl _ _ _ _ _)
  · cases h
def rIn_s (inB : Int → Bool) : Sp
  | [.int .i64 t] => some (True, .bool (inB t))
  | _ => none
set_option maxRecDepth 100000 in
def rIn_T (inB : Int → Bool) : Prop :=
  ∀ (gl : Glob) (t : Int), (-9223372036854775808 : Int) ≤ t ∧ t ≤ (9223372036854775807 : Int) → bif decide ((0 : Int) ≤ t) then decide (t ≤ (52595999 : Int)) = inB t else false = inB
  t
set_option maxRecDepth 100000 in
theorem rIn_P : rIn_T inB := by
  unfold rIn_T
  intro gl t _
  unfold inB
  refine csplit (fun h1 => ?_) (fun h1 => ?_)
  · have h1 := of_decide_eq_true h1; simp [h1]
  · have h1 := of_decide_eq_false h1; simp [h1]
def rIn_S (inB : Int → Bool) : Prop := ∀ (gl : Glob) (t : Int), fnK Try.prog { glob := gl, spec := lk [], specH := lk [] } { nt := 9, drop := drp [(1, 504)] } (fun _ _ => none) 6 Try.f37 [.int .i64 t] (.bool (inB t))
set_option maxRecDepth 100000 in
theorem rIn_e (inB : Int → Bool) : rIn_T inB = rIn_S inB := by kernel_rfl
theorem rIn_v : rIn_S inB := @Eq.mp (rIn_T inB) (rIn_S inB) (rIn_e inB) rIn_P
theorem rIn_ok (gl : Glob) : SOK Try.prog gl 37 (rIn_s inB) := by
  refine ⟨fok Try.func37 (by kernel_rfl) (by kernel_rfl), ?_⟩
  intro xs pre r h hp
  unfold rIn_s at h
  split at h
  · simp only [Option.some.injEq, Prod.mk.injEq] at h
    obtain ⟨h1, h2⟩ := h
    subst h1 h2
    exact fnK_sound tyNil (by exact specOK rfl rfl trivial trivial) (by kernel_rfl) Try.func37 rfl (rIn_v gl _)
  · cases h
def rDist_s : Sp
  | [.int .i64 a, .int .i64 b] => some ((0 ≤ a ∧ a ≤ 52595999) ∧ 0 ≤ b ∧ b ≤ 52595999, .int .i64 (max (a - b) (b - a)))
  | _ => none
set_option maxRecDepth 100000 in
def rDist_T : Prop :=
  ∀ (gl : Glob) (a b : Int), ((0 : Int) ≤ a ∧ a ≤ (52595999 : Int)) ∧ (0 : Int) ≤ b ∧ b ≤ (52595999 : Int) → (-9223372036854775808 : Int) ≤ a ∧ a ≤ (9223372036854775807 : Int) →
  (-9223372036854775808 : Int) ≤ b ∧ b ≤ (9223372036854775807 : Int) → bif decide (rng IntKind.i64 (a - b)) then bif decide (rng IntKind.i64 (b - a)) then max (a - b) (b - a) = max
  (a - b) (b - a) else False else False
set_option maxRecDepth 100000 in
theorem rDist_P : rDist_T := by
  unfold rDist_T
  intro gl a b ⟨⟨a1, a2⟩, b1, b2⟩ _ _
  exact cdI (by omega) (cdI (by omega) rfl)
def rDist_S : Prop := ∀ (gl : Glob) (a b : Int), (0 ≤ a ∧ a ≤ 52595999) ∧ 0 ≤ b ∧ b ≤ 52595999 → fnK Try.prog { glob := gl, spec := lk [], specH := lk [] } { nt := 12, drop := drp [(1, 4064)] } (fun _ _ => none) 6 Try.f41 [.int .i64 a, .int .i64 b] (.int .i64 (max (a - b) (b - a)))
set_option maxRecDepth 100000 in
theorem rDist_e : rDist_T = rDist_S := by kernel_rfl
theorem rDist_v : rDist_S := @Eq.mp (rDist_T) (rDist_S) (rDist_e) rDist_P
theorem rDist_ok (gl : Glob) : SOK Try.prog gl 41 rDist_s := by
  refine ⟨fok Try.func41 (by kernel_rfl) (by kernel_rfl), ?_⟩
  intro xs pre r h hp
  unfold rDist_s at h
  split at h
  · simp only [Option.some.injEq, Prod.mk.injEq] at h
    obtain ⟨h1, h2⟩ := h
    subst h1 h2
    exact fnK_sound tyNil (by exact specOK rfl rfl trivial trivial) (by kernel_rfl) Try.func41 rfl (rDist_v gl _ _ hp)
  · cases h
structure BefP (y : Int) (x : Int × Int) : Prop where
  lo : 2000 ≤ x.2
  hi : x.2 ≤ y
  eq : 1440 * x.1 = fst' x.2
def befI (y m : Int) : LInv := ⟨Int × Int, fun (n, z) => ⟨[(0, .int .i64 y), (1, .int .i64 m), (5, .int .i64 n), (6, .int .i64 z)], []⟩, BefP y, fun (n, z) => (y - z).toNat, none⟩
structure BefQ (y m : Int) (x : Int × Int) : Prop where
  lo : 1 ≤ x.2
  hi : x.2 ≤ m
  eq : 1440 * x.1 = fst' y + 1440 * cum y (x.2 - 1).toNat
def befJ (y m : Int) : LInv := ⟨Int × Int, fun (n, k) => ⟨[(0, .int .i64 y), (1, .int .i64 m), (5, .int .i64 n), (7, .int .i64 k)], []⟩, BefQ y m, fun (n, k) => (m - k).toNat, none⟩
def rBefore_s (fst' : Int → Int) (cumI : Int → Int → Int) : Sp
  | [.int .i64 y, .int .i64 m] => some ((2000 ≤ y ∧ y ≤ 2099) ∧ 1 ≤ m ∧ m ≤ 12, .int .i64 (fst' y + 1440 * cumI y (m - 1)))
  | _ => none
set_option maxRecDepth 100000 in
def rBefore_T (fst' : Int → Int) (cumI : Int → Int → Int) (dim : Int → Int → Int) : Prop :=
  ∀ (gl : Glob) (y m : Int), ((2000 : Int) ≤ y ∧ y ≤ (2099 : Int)) ∧ (1 : Int) ≤ m ∧ m ≤ (12 : Int) → (-9223372036854775808 : Int) ≤ y ∧ y ≤ (9223372036854775807 : Int) →
  (-9223372036854775808 : Int) ≤ m ∧ m ≤ (9223372036854775807 : Int) → (∃ x, BefP y x ∧ (y = y ∧ m = m ∧ (0 : Int) = x.1 ∧ (2000 : Int) = x.2 ∧ True) ∧ True) ∧ ∀ (x : Int × Int),
  BefP y x → bif decide (x.2 < y) then bif decide (rng IntKind.i64 (x.1 + (365 : Int))) then bif decide (x.2.tmod (4 : Int) = (0 : Int)) then bif decide (rng IntKind.i64 (x.1 + (365
  : Int) + (1 : Int))) then bif decide (rng IntKind.i64 (x.2 + (1 : Int))) then ∃ y_1, BefP y y_1 ∧ (befI y m).m y_1 < (befI y m).m x ∧ (y = y ∧ m = m ∧ x.1 + (365 : Int) + (1 : Int)
  = y_1.1 ∧ x.2 + (1 : Int) = y_1.2 ∧ True) ∧ True else False else False else bif decide (rng IntKind.i64 (x.2 + (1 : Int))) then ∃ y_1, BefP y y_1 ∧ (befI y m).m y_1 < (befI y m).m
  x ∧ (y = y ∧ m = m ∧ x.1 + (365 : Int) = y_1.1 ∧ x.2 + (1 : Int) = y_1.2 ∧ True) ∧ True else False else False else (∃ x_1, BefQ y m x_1 ∧ (y = y ∧ m = m ∧ x.1 = x_1.1 ∧ (1 : Int) =
  x_1.2 ∧ True) ∧ True) ∧ ∀ (x : Int × Int), BefQ y m x → bif decide (x.2 < m) then True ∧ bif decide (rng IntKind.i64 (x.1 + dim y x.2)) then bif decide (rng IntKind.i64 (x.2 + (1 :
  Int))) then ∃ y_1, BefQ y m y_1 ∧ (befJ y m).m y_1 < (befJ y m).m x ∧ (y = y ∧ m = m ∧ x.1 + dim y x.2 = y_1.1 ∧ x.2 + (1 : Int) = y_1.2 ∧ True) ∧ True else False else False else
  bif decide (rng IntKind.i64 (x.1 * (1440 : Int))) then x.1 * (1440 : Int) = fst' y + (1440 : Int) * cumI y (m - (1 : Int)) else False
set_option maxRecDepth 100000 in
theorem rBefore_P : rBefore_T fst' cumI dim := by
  unfold rBefore_T
  intro gl y m ⟨⟨y1, y2⟩, m1, m2⟩ _ _
  refine ⟨⟨(0, 2000), ⟨by decide, y1, by decide⟩, ?_⟩, ?_⟩
  · repeat' (first | apply And.intro | exact trivial | exact rfl)
  · rintro ⟨n, z⟩ ⟨z1, z2, hn⟩
    simp only at z1 z2 hn
    have b0 := fst_mono (y := 2000) (z := z) (by decide) z1
    have b1 := fst_mono (y := z) (z := 2100) z1 (by omega)
    rw [fst_2000] at b0
    rw [fst_2100] at b1
    have hs := fst_step z1
    refine csplit (fun hlt => ?_) (fun hlt => ?_)
    · have hlt : z < y := of_decide_eq_true hlt
      refine cdI (by omega) (csplit (fun hm => ?_) (fun hm => ?_))
      · have hm := (tmod4 z).1 (of_decide_eq_true hm)
        have hl : lp z = 1 := if_pos hm
        refine cdI (by omega) (cdI (by omega) ⟨(n + 365 + 1, z + 1), ⟨by simp only; omega, by simp only; omega, by simp only; omega⟩, by simp only [befI]; omega, ?_⟩)
        repeat' (first | apply And.intro | exact trivial | exact rfl)
      · have hm := fun q => of_decide_eq_false hm ((tmod4 z).2 q)
        have hl : lp z = 0 := if_neg hm
        refine cdI (by omega) ⟨(n + 365, z + 1), ⟨by simp only; omega, by simp only; omega, by simp only; omega⟩, by simp only [befI]; omega, ?_⟩
        repeat' (first | apply And.intro | exact trivial | exact rfl)
    · have hlt : ¬ z < y := of_decide_eq_false hlt
      have hz : z = y := by omega
      subst hz
      refine ⟨⟨(n, 1), ⟨by simp only; omega, by simp only; omega, by simp [cum]; omega⟩, ?_⟩, ?_⟩
      · repeat' (first | apply And.intro | exact trivial | exact rfl)
      rintro ⟨n2, k⟩ ⟨k1, k2, hk⟩
      simp only at k1 k2 hk
      have c0 := cum_bd z (k := (k - 1).toNat) (by omega)
      refine csplit (fun hlt => ?_) (fun hlt => ?_)
      · have hlt : k < m := of_decide_eq_true hlt
        have e1 : (k + 1 - 1).toNat = (k - 1).toNat + 1 := by omega
        have hd := dim_in (y := z) (m := k) ⟨z1, y2, k1, by omega⟩
        have hb := dim_bd z k
        refine ⟨trivial, cdI (by simp only; omega) (cdI (by simp only; omega) ⟨(n2 + dim z k, k + 1), ⟨by simp only; omega, by simp only; omega, ?_⟩, by simp only [befJ]; omega, ?_⟩)⟩
        · simp only [e1, cum]; rw [← hd]; omega
        · repeat' (first | apply And.intro | exact trivial | exact rfl)
      · have hlt : ¬ k < m := of_decide_eq_false hlt
        have hz : k = m := by omega
        subst hz
        unfold cumI
        exact cdI (by simp only; omega) (by simp only; omega)
def rBefore_S (fst' : Int → Int) (cumI : Int → Int → Int) (dim : Int → Int → Int) : Prop := ∀ (gl : Glob) (y m : Int), (2000 ≤ y ∧ y ≤ 2099) ∧ 1 ≤ m ∧ m ≤ 12 → fnK Try.prog { glob := gl, spec := lk [(17, (rDays_s dim))], specH := lk [], shape := [24], nowf := true } { nt := 32, drop := drp [(3, 768), (4, 6144), (5, 24576), (6, 98304), (7, 786432), (9, 3145728), (10, 25165824), (11, 1040187392), (12, 3221225472)] } (invs [(3, befI y m), (9, befJ y m)]) 6 Try.f34 [.int .i64 y, .int .i64 m] (.int .i64 (fst' y + 1440 * cumI y (m - 1)))
set_option maxRecDepth 100000 in
theorem rBefore_e (fst' : Int → Int) (cumI : Int → Int → Int) (dim : Int → Int → Int) : rBefore_T fst' cumI dim = rBefore_S fst' cumI dim := by kernel_rfl
theorem rBefore_v : rBefore_S fst' cumI dim := @Eq.mp (rBefore_T fst' cumI dim) (rBefore_S fst' cumI dim) (rBefore_e fst' cumI dim) rBefore_P
theorem rBefore_ok (gl : Glob) : SOK Try.prog gl 34 (rBefore_s fst' cumI) := by
  refine ⟨fok Try.func34 (by kernel_rfl) (by kernel_rfl), ?_⟩
  intro xs pre r h hp
  unfold rBefore_s at h
  split at h
  · simp only [Option.some.injEq, Prod.mk.injEq] at h
    obtain ⟨h1, h2⟩ := h
    subst h1 h2
    exact fnK_sound tyNil (by exact specOK rfl rfl ⟨rDays_ok gl, trivial⟩ trivial) (by kernel_rfl) Try.func34 rfl (rBefore_v gl _ _ hp)
  · cases h
end Go.Proofs.Ytakmploakbaglaa
