/- The clock: months, valid dates, minutes of dates. -/
import Derived.Test.YtceknalhogbbnaaDoorClL
namespace Go.Proofs.YtceknalhogbbnaaDoor
open Go
set_option linter.unusedVariables false
set_option linter.unusedSimpArgs false

theorem tmod4 (y : Int) : y.tmod 4 = 0 ↔ y % 4 = 0 :=
  ⟨fun h => Int.emod_eq_zero_of_dvd (Int.dvd_of_tmod_eq_zero h), fun h => Int.tmod_eq_zero_of_dvd (Int.dvd_of_emod_eq_zero h)⟩
/-- One element of a list of numbers. -/
theorem take1_map (l : List Int) {k : Nat} (h : k < l.length) : ((l.map (AV.int .i64)).drop k).take 1 = [.int .i64 (l.getD k 0)] := by
  rw [List.drop_eq_getElem_cons (by simpa using h)]
  simp [List.getD_eq_getElem?_getD, List.getElem?_eq_getElem h]
def cLen_s (lp : Int → Int) : Sp
  | [.int .i64 y] => some (True, .agg [.int .i64 31, .int .i64 (28 + lp y), .int .i64 31, .int .i64 30, .int .i64 31, .int .i64 30, .int .i64 31, .int .i64 31, .int .i64 30, .int .i64 31, .int .i64 30, .int .i64 31])
  | _ => none
set_option maxRecDepth 100000 in
def cLen_T (lp : Int → Int) : Prop :=
  ∀ (gl : Glob) (y : Int), (-9223372036854775808 : Int) ≤ y ∧ y ≤ (9223372036854775807 : Int) → bif decide (y.tmod (4 : Int) = (0 : Int)) then (31 : Int) = (31 : Int) ∧ (29 : Int) =
  (28 : Int) + lp y ∧ (31 : Int) = (31 : Int) ∧ (30 : Int) = (30 : Int) ∧ (31 : Int) = (31 : Int) ∧ (30 : Int) = (30 : Int) ∧ (31 : Int) = (31 : Int) ∧ (31 : Int) = (31 : Int) ∧ (30
  : Int) = (30 : Int) ∧ (31 : Int) = (31 : Int) ∧ (30 : Int) = (30 : Int) ∧ (31 : Int) = (31 : Int) ∧ True else (31 : Int) = (31 : Int) ∧ (28 : Int) = (28 : Int) + lp y ∧ (31 : Int)
  = (31 : Int) ∧ (30 : Int) = (30 : Int) ∧ (31 : Int) = (31 : Int) ∧ (30 : Int) = (30 : Int) ∧ (31 : Int) = (31 : Int) ∧ (31 : Int) = (31 : Int) ∧ (30 : Int) = (30 : Int) ∧ (31 :
  Int) = (31 : Int) ∧ (30 : Int) = (30 : Int) ∧ (31 : Int) = (31 : Int) ∧ True
set_option maxRecDepth 100000 in
theorem cLen_P : cLen_T lp := by
  unfold cLen_T
  intro gl y hy
  have e := tmod4 y
  unfold lp
  simp only [cdec, e]
  refine ⟨fun h => ?_, fun h => ?_⟩
  · rw [if_pos h]; repeat' (first | exact trivial | exact rfl | apply And.intro)
  · rw [if_neg h]; repeat' (first | exact trivial | exact rfl | apply And.intro)
def cLen_S (lp : Int → Int) : Prop := ∀ (gl : Glob) (y : Int), fnK Tryd.prog { glob := gl, spec := lk [], specH := lk [] } { nt := 13, drop := drp [(1, 16), (2, 96), (3, 3840), (4, 4096)] } (fun _ _ => none) 6 Tryd.f75 [.int .i64 y] (.agg [.int .i64 31, .int .i64 (28 + lp y), .int .i64 31, .int .i64 30, .int .i64 31, .int .i64 30, .int .i64 31, .int .i64 31, .int .i64 30, .int .i64 31, .int .i64 30, .int .i64 31])
set_option maxRecDepth 100000 in
theorem cLen_e (lp : Int → Int) : cLen_T lp = cLen_S lp := by kernel_rfl
theorem cLen_v : cLen_S lp := @Eq.mp (cLen_T lp) (cLen_S lp) (cLen_e lp) cLen_P
theorem cLen_ok (gl : Glob) : SOK Tryd.prog gl 75 (cLen_s lp) := by
  refine ⟨fok Tryd.func75 (by kernel_rfl) (by kernel_rfl), ?_⟩
  intro xs pre r h hp
  unfold cLen_s at h
  split at h
  · simp only [Option.some.injEq, Prod.mk.injEq] at h
    obtain ⟨h1, h2⟩ := h
    subst h1 h2
    exact fnK_sound tyNil (by exact specOK rfl rfl trivial trivial) (by kernel_rfl) Tryd.func75 rfl (cLen_v gl _)
  · cases h



def cIn_s (inB : Int → Bool) : Sp
  | [.int .i64 t] => some (True, .bool (inB t))
  | _ => none
set_option maxRecDepth 100000 in
def cIn_T (inB : Int → Bool) : Prop :=
  ∀ (gl : Glob) (t : Int), (-9223372036854775808 : Int) ≤ t ∧ t ≤ (9223372036854775807 : Int) → bif decide ((0 : Int) ≤ t) then decide (t ≤ (52595999 : Int)) = inB t else false = inB
  t
set_option maxRecDepth 100000 in
theorem cIn_P : cIn_T inB := by
  unfold cIn_T
  intro gl t _
  unfold inB
  simp only [cdec, decide_eq_decide, Bool.false_eq, decide_eq_false_iff_not]
  omega
def cIn_S (inB : Int → Bool) : Prop := ∀ (gl : Glob) (t : Int), fnK Tryd.prog { glob := gl, spec := lk [], specH := lk [] } { nt := 9, drop := drp [(1, 504)] } (fun _ _ => none) 6 Tryd.f73 [.int .i64 t] (.bool (inB t))
set_option maxRecDepth 100000 in
theorem cIn_e (inB : Int → Bool) : cIn_T inB = cIn_S inB := by kernel_rfl
theorem cIn_v : cIn_S inB := @Eq.mp (cIn_T inB) (cIn_S inB) (cIn_e inB) cIn_P
theorem cIn_ok (gl : Glob) : SOK Tryd.prog gl 73 (cIn_s inB) := by
  refine ⟨fok Tryd.func73 (by kernel_rfl) (by kernel_rfl), ?_⟩
  intro xs pre r h hp
  unfold cIn_s at h
  split at h
  · simp only [Option.some.injEq, Prod.mk.injEq] at h
    obtain ⟨h1, h2⟩ := h
    subst h1 h2
    exact fnK_sound tyNil (by exact specOK rfl rfl trivial trivial) (by kernel_rfl) Tryd.func73 rfl (cIn_v gl _)
  · cases h
structure YrR (y : Int) : Prop where
  lo : 2000 ≤ y
  hi : y ≤ 2100
def cFirst_s (fst' : Int → Int) : Sp
  | [.int .i64 y] => some (YrR y, .int .i64 (fst' y))
  | _ => none
set_option maxRecDepth 100000 in
def cFirst_T (fst' : Int → Int) : Prop :=
  ∀ (gl : Glob) (y : Int), YrR y → (-9223372036854775808 : Int) ≤ y ∧ y ≤ (9223372036854775807 : Int) → bif decide (rng IntKind.i64 (y - (2000 : Int))) then bif decide (rng
  IntKind.i64 ((365 : Int) * (y - (2000 : Int)))) then bif decide (rng IntKind.i64 (y - (2000 : Int) + (3 : Int))) then bif decide (rng IntKind.i64 ((y - (2000 : Int) + (3 :
  Int)).tdiv (4 : Int))) then bif decide (rng IntKind.i64 ((365 : Int) * (y - (2000 : Int)) + (y - (2000 : Int) + (3 : Int)).tdiv (4 : Int))) then bif decide (rng IntKind.i64 ((1440
  : Int) * ((365 : Int) * (y - (2000 : Int)) + (y - (2000 : Int) + (3 : Int)).tdiv (4 : Int)))) then (1440 : Int) * ((365 : Int) * (y - (2000 : Int)) + (y - (2000 : Int) + (3 :
  Int)).tdiv (4 : Int)) = fst' y else False else False else False else False else False else False
set_option maxRecDepth 100000 in
theorem cFirst_P : cFirst_T fst' := by
  unfold cFirst_T
  intro gl y ⟨h1, h2⟩ _
  rw [Int.tdiv_eq_ediv_of_nonneg (by omega : 0 ≤ y - 2000 + 3)]
  simp only [↓cdecF, rng]
  unfold fst'
  omega
def cFirst_S (fst' : Int → Int) : Prop := ∀ (gl : Glob) (y : Int), YrR y → fnK Tryd.prog { glob := gl, spec := lk [], specH := lk [] } { nt := 13, drop := drp [(1, 48), (2, 8128)] } (fun _ _ => none) 6 Tryd.f74 [.int .i64 y] (.int .i64 (fst' y))
set_option maxRecDepth 100000 in
theorem cFirst_e (fst' : Int → Int) : cFirst_T fst' = cFirst_S fst' := by kernel_rfl
theorem cFirst_v : cFirst_S fst' := @Eq.mp (cFirst_T fst') (cFirst_S fst') (cFirst_e fst') cFirst_P
theorem cFirst_ok (gl : Glob) : SOK Tryd.prog gl 74 (cFirst_s fst') := by
  refine ⟨fok Tryd.func74 (by kernel_rfl) (by kernel_rfl), ?_⟩
  intro xs pre r h hp
  unfold cFirst_s at h
  split at h
  · simp only [Option.some.injEq, Prod.mk.injEq] at h
    obtain ⟨h1, h2⟩ := h
    subst h1 h2
    exact fnK_sound tyNil (by exact specOK rfl rfl trivial trivial) (by kernel_rfl) Tryd.func74 rfl (cFirst_v gl _ hp)
  · cases h

structure MinP (y m d : Int) (x : Int × Int) : Prop where
  lo : 0 ≤ x.1
  hi : x.1 ≤ m - 1
  days : x.2 = d - 1 + cum y x.1.toNat
def minI (lpy y m d h i : Int) : LInv := ⟨Int × Int, fun x => ⟨[(1, .ptr 1 0), (4, .int .i64 x.2), (5, .ptr 5 0), (20, .ms 5 0 (m - 1).toNat 12 1), (21, .int .i64 (m - 1).toNat), (22, .int .i64 x.1)],
   [(1, .cells [.int .i64 y, .int .i64 m, .int .i64 d, .int .i64 h, .int .i64 i]), (5, .cells [.int .i64 31, .int .i64 (28 + lpy), .int .i64 31, .int .i64 30, .int .i64 31, .int .i64 30, .int .i64 31, .int .i64 31, .int .i64 30, .int .i64 31, .int .i64 30, .int .i64 31])]⟩,
  MinP y m d, fun x => (m - 1 - x.1).toNat, none⟩

end Go.Proofs.YtceknalhogbbnaaDoor
