/- The clock: months, valid dates, minutes of dates. -/
import Derived.Test.YtakmploakbaglaaClL
namespace Go.Proofs.Ytakmploakbaglaa
open Go
set_option linter.unusedVariables false
set_option linter.unusedSimpArgs false

theorem tmod4 (y : Int) : y.tmod 4 = 0 ↔ y % 4 = 0 :=
  ⟨fun h => Int.emod_eq_zero_of_dvd (Int.dvd_of_tmod_eq_zero h), fun h => Int.tmod_eq_zero_of_dvd (Int.dvd_of_emod_eq_zero h)⟩
/-- One element of a list of numbers. -/
theorem take1_map (l : List Int) {k : Nat} (h : k < l.length) : ((l.map (AV.int .i64)).drop k).take 1 = [.int .i64 (l.getD k 0)] := by
  rw [List.drop_eq_getElem_cons (by simpa using h)]
  simp [List.getD_eq_getElem?_getD, List.getElem?_eq_getElem h]
def cLen_s (lp : Int → Int) : Sp
  | [.int .i64 y] => some (True, .agg [.int .i64 31, .int .i64 (28 + lp y), .int .i64 31, .int .i64 30, .int .i64 31, .int .i64 30, .int .i64 31, .int .i64 31, .int .i64 30, .int .i64 31, .int .i64 30, .int .i64 31])
  | _ => none
set_option maxRecDepth 100000 in
def cLen_T (lp : Int → Int) : Prop :=
  ∀ (gl : Glob) (y : Int), (-9223372036854775808 : Int) ≤ y ∧ y ≤ (9223372036854775807 : Int) → bif decide (y.tmod (4 : Int) = (0 : Int)) then (31 : Int) = (31 : Int) ∧ (29 : Int) =
  (28 : Int) + lp y ∧ (31 : Int) = (31 : Int) ∧ (30 : Int) = (30 : Int) ∧ (31 : Int) = (31 : Int) ∧ (30 : Int) = (30 : Int) ∧ (31 : Int) = (31 : Int) ∧ (31 : Int) = (31 : Int) ∧ (30
  : Int) = (30 : Int) ∧ (31 : Int) = (31 : Int) ∧ (30 : Int) = (30 : Int) ∧ (31 : Int) = (31 : Int) ∧ True else (31 : Int) = (31 : Int) ∧ (28 : Int) = (28 : Int) + lp y ∧ (31 : Int)
  = (31 : Int) ∧ (30 : Int) = (30 : Int) ∧ (31 : Int) = (31 : Int) ∧ (30 : Int) = (30 : Int) ∧ (31 : Int) = (31 : Int) ∧ (31 : Int) = (31 : Int) ∧ (30 : Int) = (30 : Int) ∧ (31 :
  Int) = (31 : Int) ∧ (30 : Int) = (30 : Int) ∧ (31 : Int) = (31 : Int) ∧ True
set_option maxRecDepth 100000 in
theorem cLen_P : cLen_T lp := by
  unfold cLen_T
  intro gl y hy
  have e := tmod4 y
  unfold lp
  simp only [cdec, e]
  refine ⟨fun h => ?_, fun h => ?_⟩
  · rw [if_pos h]; repeat' (first | exact trivial | exact rfl | apply And.intro)
  · rw [if_neg h]; repeat' (first | exact trivial | exact rfl | apply And.intro)
def cLen_S (lp : Int → Int) : Prop := ∀ (gl : Glob) (y : Int), fnK Try.prog { glob := gl, spec := lk [], specH := lk [] } { nt := 13, drop := drp [(1, 16), (2, 96), (3, 3840), (4, 4096)] } (fun _ _ => none) 6 Try.f32 [.int .i64 y] (.agg [.int .i64 31, .int .i64 (28 + lp y), .int .i64 31, .int .i64 30, .int .i64 31, .int .i64 30, .int .i64 31, .int .i64 31, .int .i64 30, .int .i64 31, .int .i64 30, .int .i64 31])
set_option maxRecDepth 100000 in
theorem cLen_e (lp : Int → Int) : cLen_T lp = cLen_S lp := by kernel_rfl
theorem cLen_v : cLen_S lp := @Eq.mp (cLen_T lp) (cLen_S lp) (cLen_e lp) cLen_P
theorem cLen_ok (gl : Glob) : SOK Try.prog gl 32 (cLen_s lp) := by
  refine ⟨fok Try.func32 (by kernel_rfl) (by kernel_rfl), ?_⟩
  intro xs pre r h hp
  unfold cLen_s at h
  split at h
  · simp only [Option.some.injEq, Prod.mk.injEq] at h
    obtain ⟨h1, h2⟩ := h
    subst h1 h2
    exact fnK_sound tyNil (by exact specOK rfl rfl trivial trivial) (by kernel_rfl) Try.func32 rfl (cLen_v gl _)
  · cases h
def cDays_s (dim : Int → Int → Int) : Sp
  | [.int .i64 y, .int .i64 m] => some (True, .int .i64 (dim y m))
  | _ => none
set_option maxRecDepth 100000 in
def cDays_T (dim : Int → Int → Int) (lp : Int → Int) : Prop :=
  ∀ (gl : Glob) (y m : Int), (-9223372036854775808 : Int) ≤ y ∧ y ≤ (9223372036854775807 : Int) → (-9223372036854775808 : Int) ≤ m ∧ m ≤ (9223372036854775807 : Int) → bif decide (y <
  (2000 : Int)) then (0 : Int) = dim y m else bif decide ((2099 : Int) < y) then (0 : Int) = dim y m else bif decide (m < (1 : Int)) then (0 : Int) = dim y m else bif decide ((12 :
  Int) < m) then (0 : Int) = dim y m else True ∧ bif decide (rng IntKind.i64 (m - (1 : Int))) then bif decide ((0 : Int) ≤ m - (1 : Int) ∧ m - (1 : Int) < (12 : Int)) then ∃ n,
  List.take [AV.int IntKind.i64 n].length (List.drop ((m - (1 : Int)).toNat * (1 : Nat)) [AV.int IntKind.i64 (31 : Int), AV.int IntKind.i64 ((28 : Int) + lp y), AV.int IntKind.i64
  (31 : Int), AV.int IntKind.i64 (30 : Int), AV.int IntKind.i64 (31 : Int), AV.int IntKind.i64 (30 : Int), AV.int IntKind.i64 (31 : Int), AV.int IntKind.i64 (31 : Int), AV.int
  IntKind.i64 (30 : Int), AV.int IntKind.i64 (31 : Int), AV.int IntKind.i64 (30 : Int), AV.int IntKind.i64 (31 : Int)]) = [AV.int IntKind.i64 n] ∧ n = dim y m else False else False
set_option maxRecDepth 100000 in
theorem cDays_P : cDays_T dim lp := by
  unfold cDays_T
  intro gl y m hy hm
  unfold dim
  refine csplit (fun h => ?_) (fun h => csplit (fun h2 => ?_) (fun h2 => csplit (fun h3 => ?_) (fun h3 => csplit (fun h4 => ?_) (fun h4 => ⟨trivial, ?_⟩))))
  · have h := of_decide_eq_true h; rw [if_neg (by omega)]
  · have h := of_decide_eq_true h2; rw [if_neg (by omega)]
  · have h := of_decide_eq_true h3; rw [if_neg (by omega)]
  · have h := of_decide_eq_true h4; rw [if_neg (by omega)]
  · have h := of_decide_eq_false h
    have h2 := of_decide_eq_false h2
    have h3 := of_decide_eq_false h3
    have h4 := of_decide_eq_false h4
    rw [if_pos (by omega)]
    refine cdI (by omega) (cd1 (by omega) ⟨(len12 y).getD (m - 1).toNat 0, ?_, rfl⟩)
    rw [Nat.mul_one]
    exact take1_map (len12 y) (by simp [len12]; omega)
def cDays_S (dim : Int → Int → Int) (lp : Int → Int) : Prop := ∀ (gl : Glob) (y m : Int), fnK Try.prog { glob := gl, spec := lk [(32, (cLen_s lp))], specH := lk [], shape := [23], nowf := true } { nt := 24, drop := drp [(1, 262112), (3, 16252928)] } (fun _ _ => none) 6 Try.f16 [.int .i64 y, .int .i64 m] (.int .i64 (dim y m))
set_option maxRecDepth 100000 in
theorem cDays_e (dim : Int → Int → Int) (lp : Int → Int) : cDays_T dim lp = cDays_S dim lp := by kernel_rfl
theorem cDays_v : cDays_S dim lp := @Eq.mp (cDays_T dim lp) (cDays_S dim lp) (cDays_e dim lp) cDays_P
theorem cDays_ok (gl : Glob) : SOK Try.prog gl 16 (cDays_s dim) := by
  refine ⟨fok Try.func16 (by kernel_rfl) (by kernel_rfl), ?_⟩
  intro xs pre r h hp
  unfold cDays_s at h
  split at h
  · simp only [Option.some.injEq, Prod.mk.injEq] at h
    obtain ⟨h1, h2⟩ := h
    subst h1 h2
    exact fnK_sound tyNil (by exact specOK rfl rfl ⟨cLen_ok gl, trivial⟩ trivial) (by kernel_rfl) Try.func16 rfl (cDays_v gl _ _)
  · cases h
def cTime_s (tmB : Int → Int → Bool) : Sp
  | [.int .i64 h, .int .i64 i] => some (True, .bool (tmB h i))
  | _ => none
set_option maxRecDepth 100000 in
def cTime_T (tmB : Int → Int → Bool) : Prop :=
  ∀ (gl : Glob) (h i : Int), (-9223372036854775808 : Int) ≤ h ∧ h ≤ (9223372036854775807 : Int) → (-9223372036854775808 : Int) ≤ i ∧ i ≤ (9223372036854775807 : Int) → bif decide ((0
  : Int) ≤ h) then bif decide (h < (24 : Int)) then bif decide ((0 : Int) ≤ i) then decide (i < (60 : Int)) = tmB h i else false = tmB h i else false = tmB h i else false = tmB h i
set_option maxRecDepth 100000 in
theorem cTime_P : cTime_T tmB := by
  unfold cTime_T
  intro gl h i hh hi
  unfold tmB
  simp only [cdec, decide_eq_decide, Bool.false_eq, decide_eq_false_iff_not]
  omega
def cTime_S (tmB : Int → Int → Bool) : Prop := ∀ (gl : Glob) (h i : Int), fnK Try.prog { glob := gl, spec := lk [], specH := lk [] } { nt := 19, drop := drp [(1, 524256)] } (fun _ _ => none) 6 Try.f35 [.int .i64 h, .int .i64 i] (.bool (tmB h i))
set_option maxRecDepth 100000 in
theorem cTime_e (tmB : Int → Int → Bool) : cTime_T tmB = cTime_S tmB := by kernel_rfl
theorem cTime_v : cTime_S tmB := @Eq.mp (cTime_T tmB) (cTime_S tmB) (cTime_e tmB) cTime_P
theorem cTime_ok (gl : Glob) : SOK Try.prog gl 35 (cTime_s tmB) := by
  refine ⟨fok Try.func35 (by kernel_rfl) (by kernel_rfl), ?_⟩
  intro xs pre r h hp
  unfold cTime_s at h
  split at h
  · simp only [Option.some.injEq, Prod.mk.injEq] at h
    obtain ⟨h1, h2⟩ := h
    subst h1 h2
    exact fnK_sound tyNil (by exact specOK rfl rfl trivial trivial) (by kernel_rfl) Try.func35 rfl (cTime_v gl _ _)
  · cases h
def cValid_s (vldB : Int → Int → Int → Int → Int → Bool) : Sp
  | [.agg [.int .i64 y, .int .i64 m, .int .i64 d, .int .i64 h, .int .i64 i]] => some (True, .bool (vldB y m d h i))
  | _ => none
set_option maxRecDepth 100000 in
def cValid_T (vldB : Int → Int → Int → Int → Int → Bool) (dim : Int → Int → Int) (tmB : Int → Int → Bool) : Prop :=
  ∀ (gl : Glob) (y m d h i : Int), ((-9223372036854775808 : Int) ≤ y ∧ y ≤ (9223372036854775807 : Int)) ∧ ((-9223372036854775808 : Int) ≤ m ∧ m ≤ (9223372036854775807 : Int)) ∧
  ((-9223372036854775808 : Int) ≤ d ∧ d ≤ (9223372036854775807 : Int)) ∧ ((-9223372036854775808 : Int) ≤ h ∧ h ≤ (9223372036854775807 : Int)) ∧ ((-9223372036854775808 : Int) ≤ i ∧ i
  ≤ (9223372036854775807 : Int)) ∧ True → bif decide ((1 : Int) ≤ d) then True ∧ bif decide (d ≤ dim y m) then True ∧ tmB h i = vldB y m d h i else false = vldB y m d h i else false
  = vldB y m d h i
set_option maxRecDepth 100000 in
theorem cValid_P : cValid_T vldB dim tmB := by
  unfold cValid_T
  intro gl y m d h i _
  unfold vldB
  refine csplit (fun h1 => ⟨trivial, csplit (fun h2 => ⟨trivial, ?_⟩) (fun h2 => ?_)⟩) (fun h1 => ?_)
  · have h1 := of_decide_eq_true h1
    have h2 := of_decide_eq_true h2
    simp [h1, h2]
  · have h2 := of_decide_eq_false h2
    simp [h2]
  · have h1 := of_decide_eq_false h1
    simp [h1]
def cValid_S (vldB : Int → Int → Int → Int → Int → Bool) (dim : Int → Int → Int) (tmB : Int → Int → Bool) : Prop := ∀ (gl : Glob) (y m d h i : Int), fnK Try.prog { glob := gl, spec := lk [(16, (cDays_s dim)), (35, (cTime_s tmB))], specH := lk [] } { nt := 23, drop := drp [(1, 8388600)] } (fun _ _ => none) 6 Try.f14 [.agg [.int .i64 y, .int .i64 m, .int .i64 d, .int .i64 h, .int .i64 i]] (.bool (vldB y m d h i))
set_option maxRecDepth 100000 in
theorem cValid_e (vldB : Int → Int → Int → Int → Int → Bool) (dim : Int → Int → Int) (tmB : Int → Int → Bool) : cValid_T vldB dim tmB = cValid_S vldB dim tmB := by kernel_rfl
theorem cValid_v : cValid_S vldB dim tmB := @Eq.mp (cValid_T vldB dim tmB) (cValid_S vldB dim tmB) (cValid_e vldB dim tmB) cValid_P
theorem cValid_ok (gl : Glob) : SOK Try.prog gl 14 (cValid_s vldB) := by
  refine ⟨fok Try.func14 (by kernel_rfl) (by kernel_rfl), ?_⟩
  intro xs pre r h hp
  unfold cValid_s at h
  split at h
  · simp only [Option.some.injEq, Prod.mk.injEq] at h
    obtain ⟨h1, h2⟩ := h
    subst h1 h2
    exact fnK_sound tyNil (by exact specOK rfl rfl ⟨cDays_ok gl, cTime_ok gl, trivial⟩ trivial) (by kernel_rfl) Try.func14 rfl (cValid_v gl _ _ _ _ _)
  · cases h
def cIn_s (inB : Int → Bool) : Sp
  | [.int .i64 t] => some (True, .bool (inB t))
  | _ => none
set_option maxRecDepth 100000 in
def cIn_T (inB : Int → Bool) : Prop :=
  ∀ (gl : Glob) (t : Int), (-9223372036854775808 : Int) ≤ t ∧ t ≤ (9223372036854775807 : Int) → bif decide ((0 : Int) ≤ t) then decide (t ≤ (52595999 : Int)) = inB t else false = inB
  t
set_option maxRecDepth 100000 in
theorem cIn_P : cIn_T inB := by
  unfold cIn_T
  intro gl t _
  unfold inB
  simp only [cdec, decide_eq_decide, Bool.false_eq, decide_eq_false_iff_not]
  omega
def cIn_S (inB : Int → Bool) : Prop := ∀ (gl : Glob) (t : Int), fnK Try.prog { glob := gl, spec := lk [], specH := lk [] } { nt := 9, drop := drp [(1, 504)] } (fun _ _ => none) 6 Try.f36 [.int .i64 t] (.bool (inB t))
set_option maxRecDepth 100000 in
theorem cIn_e (inB : Int → Bool) : cIn_T inB = cIn_S inB := by kernel_rfl
theorem cIn_v : cIn_S inB := @Eq.mp (cIn_T inB) (cIn_S inB) (cIn_e inB) cIn_P
theorem cIn_ok (gl : Glob) : SOK Try.prog gl 36 (cIn_s inB) := by
  refine ⟨fok Try.func36 (by kernel_rfl) (by kernel_rfl), ?_⟩
  intro xs pre r h hp
  unfold cIn_s at h
  split at h
  · simp only [Option.some.injEq, Prod.mk.injEq] at h
    obtain ⟨h1, h2⟩ := h
    subst h1 h2
    exact fnK_sound tyNil (by exact specOK rfl rfl trivial trivial) (by kernel_rfl) Try.func36 rfl (cIn_v gl _)
  · cases h
structure YrR (y : Int) : Prop where
  lo : 2000 ≤ y
  hi : y ≤ 2100
def cFirst_s (fst' : Int → Int) : Sp
  | [.int .i64 y] => some (YrR y, .int .i64 (fst' y))
  | _ => none
set_option maxRecDepth 100000 in
def cFirst_T (fst' : Int → Int) : Prop :=
  ∀ (gl : Glob) (y : Int), YrR y → (-9223372036854775808 : Int) ≤ y ∧ y ≤ (9223372036854775807 : Int) → bif decide (rng IntKind.i64 (y - (2000 : Int))) then bif decide (rng
  IntKind.i64 ((365 : Int) * (y - (2000 : Int)))) then bif decide (rng IntKind.i64 (y - (2000 : Int) + (3 : Int))) then bif decide (rng IntKind.i64 ((y - (2000 : Int) + (3 :
  Int)).tdiv (4 : Int))) then bif decide (rng IntKind.i64 ((365 : Int) * (y - (2000 : Int)) + (y - (2000 : Int) + (3 : Int)).tdiv (4 : Int))) then bif decide (rng IntKind.i64 ((1440
  : Int) * ((365 : Int) * (y - (2000 : Int)) + (y - (2000 : Int) + (3 : Int)).tdiv (4 : Int)))) then (1440 : Int) * ((365 : Int) * (y - (2000 : Int)) + (y - (2000 : Int) + (3 :
  Int)).tdiv (4 : Int)) = fst' y else False else False else False else False else False else False
set_option maxRecDepth 100000 in
theorem cFirst_P : cFirst_T fst' := by
  unfold cFirst_T
  intro gl y ⟨h1, h2⟩ _
  rw [Int.tdiv_eq_ediv_of_nonneg (by omega : 0 ≤ y - 2000 + 3)]
  simp only [↓cdecF, rng]
  unfold fst'
  omega
def cFirst_S (fst' : Int → Int) : Prop := ∀ (gl : Glob) (y : Int), YrR y → fnK Try.prog { glob := gl, spec := lk [], specH := lk [] } { nt := 13, drop := drp [(1, 48), (2, 8128)] } (fun _ _ => none) 6 Try.f33 [.int .i64 y] (.int .i64 (fst' y))
set_option maxRecDepth 100000 in
theorem cFirst_e (fst' : Int → Int) : cFirst_T fst' = cFirst_S fst' := by kernel_rfl
theorem cFirst_v : cFirst_S fst' := @Eq.mp (cFirst_T fst') (cFirst_S fst') (cFirst_e fst') cFirst_P
theorem cFirst_ok (gl : Glob) : SOK Try.prog gl 33 (cFirst_s fst') := by
  refine ⟨fok Try.func33 (by kernel_rfl) (by kernel_rfl), ?_⟩
  intro xs pre r h hp
  unfold cFirst_s at h
  split at h
  · simp only [Option.some.injEq, Prod.mk.injEq] at h
    obtain ⟨h1, h2⟩ := h
    subst h1 h2
    exact fnK_sound tyNil (by exact specOK rfl rfl trivial trivial) (by kernel_rfl) Try.func33 rfl (cFirst_v gl _ hp)
  · cases h
def cDist_s : Sp
  | [.int .i64 a, .int .i64 b] => some ((0 ≤ a ∧ a ≤ 52595999) ∧ 0 ≤ b ∧ b ≤ 52595999, .int .i64 (max (a - b) (b - a)))
  | _ => none
set_option maxRecDepth 100000 in
def cDist_T : Prop :=
  ∀ (gl : Glob) (a b : Int), ((0 : Int) ≤ a ∧ a ≤ (52595999 : Int)) ∧ (0 : Int) ≤ b ∧ b ≤ (52595999 : Int) → (-9223372036854775808 : Int) ≤ a ∧ a ≤ (9223372036854775807 : Int) →
  (-9223372036854775808 : Int) ≤ b ∧ b ≤ (9223372036854775807 : Int) → bif decide (rng IntKind.i64 (a - b)) then bif decide (rng IntKind.i64 (b - a)) then max (a - b) (b - a) = max
  (a - b) (b - a) else False else False
set_option maxRecDepth 100000 in
theorem cDist_P : cDist_T := by
  unfold cDist_T
  intro gl a b ⟨⟨a1, a2⟩, b1, b2⟩ _ _
  exact cdI (by omega) (cdI (by omega) rfl)
def cDist_S : Prop := ∀ (gl : Glob) (a b : Int), (0 ≤ a ∧ a ≤ 52595999) ∧ 0 ≤ b ∧ b ≤ 52595999 → fnK Try.prog { glob := gl, spec := lk [], specH := lk [] } { nt := 12, drop := drp [(1, 4064)] } (fun _ _ => none) 6 Try.f40 [.int .i64 a, .int .i64 b] (.int .i64 (max (a - b) (b - a)))
set_option maxRecDepth 100000 in
theorem cDist_e : cDist_T = cDist_S := by kernel_rfl
theorem cDist_v : cDist_S := @Eq.mp (cDist_T) (cDist_S) (cDist_e) cDist_P
theorem cDist_ok (gl : Glob) : SOK Try.prog gl 40 cDist_s := by
  refine ⟨fok Try.func40 (by kernel_rfl) (by kernel_rfl), ?_⟩
  intro xs pre r h hp
  unfold cDist_s at h
  split at h
  · simp only [Option.some.injEq, Prod.mk.injEq] at h
    obtain ⟨h1, h2⟩ := h
    subst h1 h2
    exact fnK_sound tyNil (by exact specOK rfl rfl trivial trivial) (by kernel_rfl) Try.func40 rfl (cDist_v gl _ _ hp)
  · cases h
structure MinP (y m d : Int) (x : Int × Int) : Prop where
  lo : 0 ≤ x.1
  hi : x.1 ≤ m - 1
  days : x.2 = d - 1 + cum y x.1.toNat
def minI (lpy y m d h i : Int) : LInv := ⟨Int × Int, fun x => ⟨[(1, .ptr 1 0), (4, .int .i64 x.2), (5, .ptr 5 0), (20, .ms 5 0 (m - 1).toNat 12 1), (21, .int .i64 (m - 1).toNat), (22, .int .i64 x.1)],
   [(1, .cells [.int .i64 y, .int .i64 m, .int .i64 d, .int .i64 h, .int .i64 i]), (5, .cells [.int .i64 31, .int .i64 (28 + lpy), .int .i64 31, .int .i64 30, .int .i64 31, .int .i64 30, .int .i64 31, .int .i64 31, .int .i64 30, .int .i64 31, .int .i64 30, .int .i64 31])]⟩,
  MinP y m d, fun x => (m - 1 - x.1).toNat, none⟩
def cMinutes_s (vldB : Int → Int → Int → Int → Int → Bool) (mns : Int → Int → Int → Int → Int → Int) : Sp
  | [.agg [.int .i64 y, .int .i64 m, .int .i64 d, .int .i64 h, .int .i64 i]] => some (True, .tup [.int .i64 (if vldB y m d h i then mns y m d h i else 0), .int .i64 (if vldB y m d h i then 0 else 1)])
  | _ => none
set_option maxRecDepth 100000 in
def cMinutes_T (vldB : Int → Int → Int → Int → Int → Bool) (mns : Int → Int → Int → Int → Int → Int) (lp : Int → Int) (fst' : Int → Int) : Prop :=
  ∀ (gl : Glob) (y m d h i : Int), ((-9223372036854775808 : Int) ≤ y ∧ y ≤ (9223372036854775807 : Int)) ∧ ((-9223372036854775808 : Int) ≤ m ∧ m ≤ (9223372036854775807 : Int)) ∧
  ((-9223372036854775808 : Int) ≤ d ∧ d ≤ (9223372036854775807 : Int)) ∧ ((-9223372036854775808 : Int) ≤ h ∧ h ≤ (9223372036854775807 : Int)) ∧ ((-9223372036854775808 : Int) ≤ i ∧ i
  ≤ (9223372036854775807 : Int)) ∧ True → True ∧ bif !vldB y m d h i then ((0 : Int) = if vldB y m d h i = true then mns y m d h i else (0 : Int)) ∧ ((1 : Int) = if vldB y m d h i =
  true then (0 : Int) else (1 : Int)) ∧ True else bif decide (rng IntKind.i64 (d - (1 : Int))) then True ∧ bif decide (rng IntKind.i64 (m - (1 : Int))) then bif decide ((0 : Int) ≤ m
  - (1 : Int) ∧ m - (1 : Int) ≤ (12 : Int)) then bif decide ((0 : Int) ≤ (0 : Int) ∧ (0 : Int) ≤ m - (1 : Int)) then (∃ x, MinP y m d x ∧ ((0 : Nat) = (0 : Nat) ∧ d - (1 : Int) =
  x.snd ∧ (0 : Nat) = (0 : Nat) ∧ ((0 : Nat) = (0 : Nat) ∧ (m - (1 : Int)).toNat - (0 : Nat) = (m - (1 : Int)).toNat ∧ (12 : Nat) = (12 : Nat)) ∧ (↑((m - (1 : Int)).toNat - (0 :
  Nat)) : Int) = (↑(m - (1 : Int)).toNat : Int) ∧ (0 : Int) = x.fst ∧ True) ∧ (y = y ∧ m = m ∧ d = d ∧ h = h ∧ i = i ∧ True) ∧ ((31 : Int) = (31 : Int) ∧ (28 : Int) + lp y = (28 :
  Int) + lp y ∧ (31 : Int) = (31 : Int) ∧ (30 : Int) = (30 : Int) ∧ (31 : Int) = (31 : Int) ∧ (30 : Int) = (30 : Int) ∧ (31 : Int) = (31 : Int) ∧ (31 : Int) = (31 : Int) ∧ (30 : Int)
  = (30 : Int) ∧ (31 : Int) = (31 : Int) ∧ (30 : Int) = (30 : Int) ∧ (31 : Int) = (31 : Int) ∧ True) ∧ True) ∧ ∀ (x : Int × Int), MinP y m d x → bif decide (x.fst < (↑(m - (1 :
  Int)).toNat : Int)) then bif decide ((0 : Int) ≤ x.fst ∧ x.fst < (↑(m - (1 : Int)).toNat : Int)) then ∃ n, List.take [AV.int IntKind.i64 n].length (List.drop ((0 : Nat) +
  x.fst.toNat * (1 : Nat)) [AV.int IntKind.i64 (31 : Int), AV.int IntKind.i64 ((28 : Int) + lp y), AV.int IntKind.i64 (31 : Int), AV.int IntKind.i64 (30 : Int), AV.int IntKind.i64
  (31 : Int), AV.int IntKind.i64 (30 : Int), AV.int IntKind.i64 (31 : Int), AV.int IntKind.i64 (31 : Int), AV.int IntKind.i64 (30 : Int), AV.int IntKind.i64 (31 : Int), AV.int
  IntKind.i64 (30 : Int), AV.int IntKind.i64 (31 : Int)]) = [AV.int IntKind.i64 n] ∧ bif decide (rng IntKind.i64 (x.snd + n)) then bif decide (rng IntKind.i64 (x.fst + (1 : Int)))
  then ∃ y_1, MinP y m d y_1 ∧ (minI (lp y) y m d h i).m y_1 < (minI (lp y) y m d h i).m x ∧ ((0 : Nat) = (0 : Nat) ∧ x.snd + n = y_1.snd ∧ (0 : Nat) = (0 : Nat) ∧ ((0 : Nat) = (0 :
  Nat) ∧ (m - (1 : Int)).toNat = (m - (1 : Int)).toNat ∧ (12 : Nat) = (12 : Nat)) ∧ (↑(m - (1 : Int)).toNat : Int) = (↑(m - (1 : Int)).toNat : Int) ∧ x.fst + (1 : Int) = y_1.fst ∧
  True) ∧ (y = y ∧ m = m ∧ d = d ∧ h = h ∧ i = i ∧ True) ∧ ((31 : Int) = (31 : Int) ∧ (28 : Int) + lp y = (28 : Int) + lp y ∧ (31 : Int) = (31 : Int) ∧ (30 : Int) = (30 : Int) ∧ (31
  : Int) = (31 : Int) ∧ (30 : Int) = (30 : Int) ∧ (31 : Int) = (31 : Int) ∧ (31 : Int) = (31 : Int) ∧ (30 : Int) = (30 : Int) ∧ (31 : Int) = (31 : Int) ∧ (30 : Int) = (30 : Int) ∧
  (31 : Int) = (31 : Int) ∧ True) ∧ True else False else False else False else YrR y ∧ bif decide (rng IntKind.i64 ((1440 : Int) * x.snd)) then bif decide (rng IntKind.i64 (fst' y +
  (1440 : Int) * x.snd)) then bif decide (rng IntKind.i64 ((60 : Int) * h)) then bif decide (rng IntKind.i64 (fst' y + (1440 : Int) * x.snd + (60 : Int) * h)) then bif decide (rng
  IntKind.i64 (fst' y + (1440 : Int) * x.snd + (60 : Int) * h + i)) then (fst' y + (1440 : Int) * x.snd + (60 : Int) * h + i = if vldB y m d h i = true then mns y m d h i else (0 :
  Int)) ∧ ((0 : Int) = if vldB y m d h i = true then (0 : Int) else (1 : Int)) ∧ True else False else False else False else False else False else False else False else False else
  False
set_option maxRecDepth 100000 in
theorem cMinutes_P : cMinutes_T vldB mns lp fst' := by
  unfold cMinutes_T
  intro gl y m d h i ⟨_, _, _, _, _⟩
  cases hv : vldB y m d h i with
  | false => exact ⟨trivial, rfl, rfl, trivial⟩
  | true =>
    have v := (vldB_iff y m d h i).1 hv
    obtain ⟨⟨y1, y2⟩, ⟨m1, m2⟩, ⟨d1, d2⟩, ⟨h1, h2⟩, ⟨i1, i2⟩⟩ := v
    have hl := len12_bd y (k := (m - 1).toNat) (by omega)
    refine ⟨trivial, cdI (by omega) ⟨trivial, cdI (by omega) (cd1 (by omega) (cd1 (by omega) ⟨⟨(0, d - 1), ⟨by simp only; omega, by simp only; omega, by simp [cum]⟩, ?_⟩, ?_⟩))⟩⟩
    · repeat' (first | apply And.intro | exact trivial | exact rfl)
    · rintro ⟨k, ds⟩ ⟨k0, k1, kd⟩
      simp only at k0 k1 kd
      have hc := cum_bd y (k := k.toNat) (by omega)
      refine csplit (fun hlt => ?_) (fun hlt => ?_)
      · have hlt : k < ((m - 1).toNat : Int) := of_decide_eq_true hlt
        have hn := len12_bd y (k := k.toNat) (by omega)
        have e1 : (k + 1).toNat = k.toNat + 1 := by omega
        refine cd1 ⟨k0, hlt⟩ ⟨(len12 y).getD k.toNat 0, ?_, cdI (by simp only; omega) (cdI (by simp only; omega) ⟨(k + 1, ds + (len12 y).getD k.toNat 0), ⟨by simp only; omega, by simp only; omega, ?_⟩, ?_, ?_⟩)⟩
        · rw [Nat.mul_one, Nat.zero_add]
          exact take1_map (len12 y) (by simp [len12]; omega)
        · simp only [e1, cum]; omega
        · simp only [minI]; omega
        · repeat' (first | apply And.intro | exact trivial | exact rfl)
      · have hlt : ¬ k < ((m - 1).toNat : Int) := of_decide_eq_false hlt
        have hn : k.toNat = (m - 1).toNat := by omega
        have hb := fst_mono (y := 2000) (z := y) (by decide) y1
        have hb2 := fst_mono (y := y) (z := 2100) y1 (by omega)
        rw [fst_2000] at hb
        rw [fst_2100] at hb2
        refine ⟨⟨y1, by omega⟩, cdI (by simp only; omega) (cdI (by simp only; omega) (cdI (by omega) (cdI (by simp only; omega) (cdI (by simp only; omega) ⟨?_, rfl, trivial⟩))))⟩
        rw [if_pos rfl]
        unfold mns
        simp only
        rw [← hn]; omega
def cMinutes_S (vldB : Int → Int → Int → Int → Int → Bool) (mns : Int → Int → Int → Int → Int → Int) (lp : Int → Int) (fst' : Int → Int) : Prop := ∀ (gl : Glob) (y m d h i : Int), fnK Try.prog { glob := gl, spec := lk [(14, (cValid_s vldB)), (32, (cLen_s lp)), (33, (cFirst_s fst'))], specH := lk [], shape := [25], nowf := true } { nt := 43, drop := drp [(1, 768), (3, 14336), (4, 114688), (5, 917504), (7, 50331648), (8, 469762048), (9, 536870912), (10, 8795019280384)] } (invs [(6, minI (lp y) y m d h i)]) 6 Try.f12 [.agg [.int .i64 y, .int .i64 m, .int .i64 d, .int .i64 h, .int .i64 i]] (.tup [.int .i64 (if vldB y m d h i then mns y m d h i else 0), .int .i64 (if vldB y m d h i then 0 else 1)])
set_option maxRecDepth 100000 in
theorem cMinutes_e (vldB : Int → Int → Int → Int → Int → Bool) (mns : Int → Int → Int → Int → Int → Int) (lp : Int → Int) (fst' : Int → Int) : cMinutes_T vldB mns lp fst' = cMinutes_S vldB mns lp fst' := by kernel_rfl
theorem cMinutes_v : cMinutes_S vldB mns lp fst' := @Eq.mp (cMinutes_T vldB mns lp fst') (cMinutes_S vldB mns lp fst') (cMinutes_e vldB mns lp fst') cMinutes_P
theorem cMinutes_ok (gl : Glob) : SOK Try.prog gl 12 (cMinutes_s vldB mns) := by
  refine ⟨fok Try.func12 (by kernel_rfl) (by kernel_rfl), ?_⟩
  intro xs pre r h hp
  unfold cMinutes_s at h
  split at h
  · simp only [Option.some.injEq, Prod.mk.injEq] at h
    obtain ⟨h1, h2⟩ := h
    subst h1 h2
    exact fnK_sound tyNil (by exact specOK rfl rfl ⟨cValid_ok gl, cLen_ok gl, cFirst_ok gl, trivial⟩ trivial) (by kernel_rfl) Try.func12 rfl (cMinutes_v gl _ _ _ _ _)
  · cases h
end Go.Proofs.Ytakmploakbaglaa
