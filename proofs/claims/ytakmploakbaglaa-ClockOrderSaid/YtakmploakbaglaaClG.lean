/- The clock: the references' minutes, dates, nearest minute. -/
import Derived.Test.YtakmploakbaglaaClF
namespace Go.Proofs.Ytakmploakbaglaa
open Go
set_option linter.unusedVariables false
set_option linter.unusedSimpArgs false

def rMinutes_s (vldB : Int → Int → Int → Int → Int → Bool) (mns : Int → Int → Int → Int → Int → Int) : Sp
  | [.agg [.int .i64 y, .int .i64 m, .int .i64 d, .int .i64 h, .int .i64 i]] => some (True, .tup [.int .i64 (if vldB y m d h i then mns y m d h i else 0), .int .i64 (if vldB y m d h i then 0 else 1)])
  | _ => none
set_option maxRecDepth 100000 in
def rMinutes_T (vldB : Int → Int → Int → Int → Int → Bool) (mns : Int → Int → Int → Int → Int → Int) (fst' : Int → Int) (cumI : Int → Int → Int) : Prop :=
  ∀ (gl : Glob) (y m d h i : Int), ((-9223372036854775808 : Int) ≤ y ∧ y ≤ (9223372036854775807 : Int)) ∧ ((-9223372036854775808 : Int) ≤ m ∧ m ≤ (9223372036854775807 : Int)) ∧
  ((-9223372036854775808 : Int) ≤ d ∧ d ≤ (9223372036854775807 : Int)) ∧ ((-9223372036854775808 : Int) ≤ h ∧ h ≤ (9223372036854775807 : Int)) ∧ ((-9223372036854775808 : Int) ≤ i ∧ i
  ≤ (9223372036854775807 : Int)) ∧ True → True ∧ bif !vldB y m d h i then ((0 : Int) = if vldB y m d h i = true then mns y m d h i else (0 : Int)) ∧ ((1 : Int) = if vldB y m d h i =
  true then (0 : Int) else (1 : Int)) ∧ True else (((2000 : Int) ≤ y ∧ y ≤ (2099 : Int)) ∧ (1 : Int) ≤ m ∧ m ≤ (12 : Int)) ∧ bif decide (rng IntKind.i64 (d - (1 : Int))) then bif
  decide (rng IntKind.i64 ((d - (1 : Int)) * (1440 : Int))) then bif decide (rng IntKind.i64 (fst' y + (1440 : Int) * cumI y (m - (1 : Int)) + (d - (1 : Int)) * (1440 : Int))) then
  bif decide (rng IntKind.i64 (h * (60 : Int))) then bif decide (rng IntKind.i64 (fst' y + (1440 : Int) * cumI y (m - (1 : Int)) + (d - (1 : Int)) * (1440 : Int) + h * (60 : Int)))
  then bif decide (rng IntKind.i64 (fst' y + (1440 : Int) * cumI y (m - (1 : Int)) + (d - (1 : Int)) * (1440 : Int) + h * (60 : Int) + i)) then (fst' y + (1440 : Int) * cumI y (m -
  (1 : Int)) + (d - (1 : Int)) * (1440 : Int) + h * (60 : Int) + i = if vldB y m d h i = true then mns y m d h i else (0 : Int)) ∧ ((0 : Int) = if vldB y m d h i = true then (0 :
  Int) else (1 : Int)) ∧ True else False else False else False else False else False else False
set_option maxRecDepth 100000 in
theorem rMinutes_P : rMinutes_T vldB mns fst' cumI := by
  unfold rMinutes_T
  intro gl y m d h i ⟨_, _, _, _, _⟩
  cases hv : vldB y m d h i with
  | false => exact ⟨trivial, rfl, rfl, trivial⟩
  | true =>
    have v := (vldB_iff y m d h i).1 hv
    have w := mns_in v
    obtain ⟨⟨y1, y2⟩, ⟨m1, m2⟩, ⟨d1, d2⟩, ⟨h1, h2⟩, ⟨i1, i2⟩⟩ := v
    have hl := len12_bd y (k := (m - 1).toNat) (by omega)
    have hc := cum_bd y (k := (m - 1).toNat) (by omega)
    have b0 := fst_mono (y := 2000) (z := y) (by decide) y1
    have b1 := fst_mono (y := y) (z := 2100) y1 (by omega)
    rw [fst_2000] at b0
    rw [fst_2100] at b1
    unfold cumI
    have e : fst' y + 1440 * cum y (m - 1).toNat + (d - 1) * 1440 + h * 60 + i = mns y m d h i := by unfold mns; omega
    exact ⟨trivial, ⟨⟨y1, y2⟩, m1, m2⟩, cdI (by omega) (cdI (by omega) (cdI (by omega) (cdI (by omega) (cdI (by omega) (cdI (by omega) ⟨e, rfl, trivial⟩)))))⟩
def rMinutes_S (vldB : Int → Int → Int → Int → Int → Bool) (mns : Int → Int → Int → Int → Int → Int) (fst' : Int → Int) (cumI : Int → Int → Int) : Prop := ∀ (gl : Glob) (y m d h i : Int), fnK Try.prog { glob := gl, spec := lk [(15, (rValid_s vldB)), (34, (rBefore_s fst' cumI))], specH := lk [], shape := [23], nowf := true } { nt := 24, drop := drp [(1, 48), (3, 16777088)] } (fun _ _ => none) 6 Try.f13 [.agg [.int .i64 y, .int .i64 m, .int .i64 d, .int .i64 h, .int .i64 i]] (.tup [.int .i64 (if vldB y m d h i then mns y m d h i else 0), .int .i64 (if vldB y m d h i then 0 else 1)])
set_option maxRecDepth 100000 in
theorem rMinutes_e (vldB : Int → Int → Int → Int → Int → Bool) (mns : Int → Int → Int → Int → Int → Int) (fst' : Int → Int) (cumI : Int → Int → Int) : rMinutes_T vldB mns fst' cumI = rMinutes_S vldB mns fst' cumI := by kernel_rfl
theorem rMinutes_v : rMinutes_S vldB mns fst' cumI := @Eq.mp (rMinutes_T vldB mns fst' cumI) (rMinutes_S vldB mns fst' cumI) (rMinutes_e vldB mns fst' cumI) rMinutes_P
theorem rMinutes_ok (gl : Glob) : SOK Try.prog gl 13 (rMinutes_s vldB mns) := by
  refine ⟨fok Try.func13 (by kernel_rfl) (by kernel_rfl), ?_⟩
  intro xs pre r h hp
  unfold rMinutes_s at h
  split at h
  · simp only [Option.some.injEq, Prod.mk.injEq] at h
    obtain ⟨h1, h2⟩ := h
    subst h1 h2
    exact fnK_sound tyNil (by exact specOK rfl rfl ⟨rValid_ok gl, rBefore_ok gl, trivial⟩ trivial) (by kernel_rfl) Try.func13 rfl (rMinutes_v gl _ _ _ _ _)
  · cases h
structure RdtP (t y : Int) : Prop where
  lo : 2000 ≤ y
  hi : y ≤ 2099
  le : fst' y ≤ t
def rdtI (t : Int) : LInv := ⟨Int, fun y => ⟨[(0, .int .i64 t), (2, .ptr 2 0), (3, .int .i64 0), (4, .ptr 4 0)], [(2, .cells [.int .i64 0, .int .i64 0, .int .i64 0, .int .i64 0, .int .i64 0]), (4, .cells [.int .i64 y, .int .i64 1, .int .i64 0, .int .i64 0, .int .i64 0])]⟩,
  RdtP t, fun y => (2100 - y).toNat, none⟩
structure RdtQ (y r k : Int) : Prop where
  lo : 1 ≤ k
  hi : k ≤ 12
  le : cum y (k - 1).toNat ≤ r
def rdtJ (t y r : Int) : LInv := ⟨Int, fun k => ⟨[(0, .int .i64 t), (2, .ptr 2 0), (3, .int .i64 0), (4, .ptr 4 0)], [(2, .cells [.int .i64 0, .int .i64 0, .int .i64 0, .int .i64 0, .int .i64 0]), (4, .cells [.int .i64 y, .int .i64 k, .int .i64 0, .int .i64 0, .int .i64 0])]⟩,
  RdtQ y (r / 1440), fun k => (13 - k).toNat, none⟩
structure OneP (x : Unit) : Prop where
  ok : True
def rdtC (t y m : Int) : LInv := ⟨Unit, fun _ => ⟨[(0, .int .i64 t), (2, .ptr 2 0), (3, .int .i64 0), (4, .ptr 4 0)], [(2, .cells [.int .i64 0, .int .i64 0, .int .i64 0, .int .i64 0, .int .i64 0]), (4, .cells [.int .i64 y, .int .i64 m, .int .i64 0, .int .i64 0, .int .i64 0])]⟩,
  OneP, fun _ => 0, none⟩
def rDate_s (inB : Int → Bool) (dtY : Int → Int) (dtM : Int → Int) (dtD : Int → Int) (dtH : Int → Int) (dtI : Int → Int) (dtR : Int → Int) : Sp
  | [.int .i64 t] => some (True, .tup [.agg [.int .i64 (if inB t then dtY t else 0), .int .i64 (if inB t then dtM t else 0), .int .i64 (if inB t then dtD t else 0), .int .i64 (if inB t then dtH t else 0), .int .i64 (if inB t then dtI t else 0)], .int .i64 (if inB t then 0 else 1)])
  | _ => none
set_option maxRecDepth 100000 in
def rDate_T (inB : Int → Bool) (dtY : Int → Int) (dtM : Int → Int) (dtD : Int → Int) (dtH : Int → Int) (dtI : Int → Int) (dtR : Int → Int) (fst' : Int → Int) (cumI : Int → Int → Int) : Prop :=
  ∀ (gl : Glob) (t : Int), (-9223372036854775808 : Int) ≤ t ∧ t ≤ (9223372036854775807 : Int) → True ∧ bif !inB t then (((0 : Int) = if inB t = true then dtY t else (0 : Int)) ∧ ((0
  : Int) = if inB t = true then dtM t else (0 : Int)) ∧ ((0 : Int) = if inB t = true then dtD t else (0 : Int)) ∧ ((0 : Int) = if inB t = true then dtH t else (0 : Int)) ∧ ((0 : Int)
  = if inB t = true then dtI t else (0 : Int)) ∧ True) ∧ ((1 : Int) = if inB t = true then (0 : Int) else (1 : Int)) ∧ True else ((∃ x, RdtP t x ∧ (t = t ∧ (0 : Nat) = (0 : Nat) ∧ (0
  : Int) = (0 : Int) ∧ (0 : Nat) = (0 : Nat) ∧ True) ∧ ((0 : Int) = (0 : Int) ∧ (0 : Int) = (0 : Int) ∧ (0 : Int) = (0 : Int) ∧ (0 : Int) = (0 : Int) ∧ (0 : Int) = (0 : Int) ∧ True)
  ∧ ((2000 : Int) = x ∧ (1 : Int) = (1 : Int) ∧ (0 : Int) = (0 : Int) ∧ (0 : Int) = (0 : Int) ∧ (0 : Int) = (0 : Int) ∧ True) ∧ True) ∧ ∀ (x : Int), RdtP t x → bif decide (x < (2099
  : Int)) then bif decide (rng IntKind.i64 (x + (1 : Int))) then (((2000 : Int) ≤ x + (1 : Int) ∧ x + (1 : Int) ≤ (2099 : Int)) ∧ (1 : Int) ≤ (1 : Int) ∧ (1 : Int) ≤ (12 : Int)) ∧
  bif decide (fst' (x + (1 : Int)) + (1440 : Int) * cumI (x + (1 : Int)) (0 : Int) ≤ t) then bif decide (rng IntKind.i64 (x + (1 : Int))) then ∃ y, RdtP t y ∧ (rdtI t).m y < (rdtI
  t).m x ∧ (t = t ∧ (0 : Nat) = (0 : Nat) ∧ (0 : Int) = (0 : Int) ∧ (0 : Nat) = (0 : Nat) ∧ True) ∧ ((0 : Int) = (0 : Int) ∧ (0 : Int) = (0 : Int) ∧ (0 : Int) = (0 : Int) ∧ (0 : Int)
  = (0 : Int) ∧ (0 : Int) = (0 : Int) ∧ True) ∧ (x + (1 : Int) = y ∧ (1 : Int) = (1 : Int) ∧ (0 : Int) = (0 : Int) ∧ (0 : Int) = (0 : Int) ∧ (0 : Int) = (0 : Int) ∧ True) ∧ True else
  False else ∃ x_1, OneP x_1 ∧ (t = t ∧ (0 : Nat) = (0 : Nat) ∧ (0 : Int) = (0 : Int) ∧ (0 : Nat) = (0 : Nat) ∧ True) ∧ ((0 : Int) = (0 : Int) ∧ (0 : Int) = (0 : Int) ∧ (0 : Int) =
  (0 : Int) ∧ (0 : Int) = (0 : Int) ∧ (0 : Int) = (0 : Int) ∧ True) ∧ (x = dtY t ∧ (1 : Int) = (1 : Int) ∧ (0 : Int) = (0 : Int) ∧ (0 : Int) = (0 : Int) ∧ (0 : Int) = (0 : Int) ∧
  True) ∧ True else False else ∃ x_1, OneP x_1 ∧ (t = t ∧ (0 : Nat) = (0 : Nat) ∧ (0 : Int) = (0 : Int) ∧ (0 : Nat) = (0 : Nat) ∧ True) ∧ ((0 : Int) = (0 : Int) ∧ (0 : Int) = (0 :
  Int) ∧ (0 : Int) = (0 : Int) ∧ (0 : Int) = (0 : Int) ∧ (0 : Int) = (0 : Int) ∧ True) ∧ (x = dtY t ∧ (1 : Int) = (1 : Int) ∧ (0 : Int) = (0 : Int) ∧ (0 : Int) = (0 : Int) ∧ (0 :
  Int) = (0 : Int) ∧ True) ∧ True) ∧ ∀ (x : PUnit), OneP x → ((∃ x, RdtQ (dtY t) (dtR t / (1440 : Int)) x ∧ (t = t ∧ (0 : Nat) = (0 : Nat) ∧ (0 : Int) = (0 : Int) ∧ (0 : Nat) = (0 :
  Nat) ∧ True) ∧ ((0 : Int) = (0 : Int) ∧ (0 : Int) = (0 : Int) ∧ (0 : Int) = (0 : Int) ∧ (0 : Int) = (0 : Int) ∧ (0 : Int) = (0 : Int) ∧ True) ∧ (dtY t = dtY t ∧ (1 : Int) = x ∧ (0
  : Int) = (0 : Int) ∧ (0 : Int) = (0 : Int) ∧ (0 : Int) = (0 : Int) ∧ True) ∧ True) ∧ ∀ (x : Int), RdtQ (dtY t) (dtR t / (1440 : Int)) x → bif decide (x < (12 : Int)) then bif
  decide (rng IntKind.i64 (x + (1 : Int))) then (((2000 : Int) ≤ dtY t ∧ dtY t ≤ (2099 : Int)) ∧ (1 : Int) ≤ x + (1 : Int) ∧ x + (1 : Int) ≤ (12 : Int)) ∧ bif decide (fst' (dtY t) +
  (1440 : Int) * cumI (dtY t) (x + (1 : Int) - (1 : Int)) ≤ t) then bif decide (rng IntKind.i64 (x + (1 : Int))) then ∃ y, RdtQ (dtY t) (dtR t / (1440 : Int)) y ∧ (rdtJ t (dtY t)
  (dtR t)).m y < (rdtJ t (dtY t) (dtR t)).m x ∧ (t = t ∧ (0 : Nat) = (0 : Nat) ∧ (0 : Int) = (0 : Int) ∧ (0 : Nat) = (0 : Nat) ∧ True) ∧ ((0 : Int) = (0 : Int) ∧ (0 : Int) = (0 :
  Int) ∧ (0 : Int) = (0 : Int) ∧ (0 : Int) = (0 : Int) ∧ (0 : Int) = (0 : Int) ∧ True) ∧ (dtY t = dtY t ∧ x + (1 : Int) = y ∧ (0 : Int) = (0 : Int) ∧ (0 : Int) = (0 : Int) ∧ (0 :
  Int) = (0 : Int) ∧ True) ∧ True else False else ∃ x_1, OneP x_1 ∧ (t = t ∧ (0 : Nat) = (0 : Nat) ∧ (0 : Int) = (0 : Int) ∧ (0 : Nat) = (0 : Nat) ∧ True) ∧ ((0 : Int) = (0 : Int) ∧
  (0 : Int) = (0 : Int) ∧ (0 : Int) = (0 : Int) ∧ (0 : Int) = (0 : Int) ∧ (0 : Int) = (0 : Int) ∧ True) ∧ (dtY t = dtY t ∧ x = dtM t ∧ (0 : Int) = (0 : Int) ∧ (0 : Int) = (0 : Int) ∧
  (0 : Int) = (0 : Int) ∧ True) ∧ True else False else ∃ x_1, OneP x_1 ∧ (t = t ∧ (0 : Nat) = (0 : Nat) ∧ (0 : Int) = (0 : Int) ∧ (0 : Nat) = (0 : Nat) ∧ True) ∧ ((0 : Int) = (0 :
  Int) ∧ (0 : Int) = (0 : Int) ∧ (0 : Int) = (0 : Int) ∧ (0 : Int) = (0 : Int) ∧ (0 : Int) = (0 : Int) ∧ True) ∧ (dtY t = dtY t ∧ x = dtM t ∧ (0 : Int) = (0 : Int) ∧ (0 : Int) = (0 :
  Int) ∧ (0 : Int) = (0 : Int) ∧ True) ∧ True) ∧ ∀ (x : PUnit), OneP x → (((2000 : Int) ≤ dtY t ∧ dtY t ≤ (2099 : Int)) ∧ (1 : Int) ≤ dtM t ∧ dtM t ≤ (12 : Int)) ∧ bif decide (rng
  IntKind.i64 (t - (fst' (dtY t) + (1440 : Int) * cumI (dtY t) (dtM t - (1 : Int))))) then bif decide (rng IntKind.i64 ((t - (fst' (dtY t) + (1440 : Int) * cumI (dtY t) (dtM t - (1 :
  Int)))).tdiv (1440 : Int))) then bif decide (rng IntKind.i64 ((1 : Int) + (t - (fst' (dtY t) + (1440 : Int) * cumI (dtY t) (dtM t - (1 : Int)))).tdiv (1440 : Int))) then bif decide
  (rng IntKind.i64 ((t - (fst' (dtY t) + (1440 : Int) * cumI (dtY t) (dtM t - (1 : Int)))).tdiv (60 : Int))) then ((dtY t = if inB t = true then dtY t else (0 : Int)) ∧ (dtM t = if
  inB t = true then dtM t else (0 : Int)) ∧ ((1 : Int) + (t - (fst' (dtY t) + (1440 : Int) * cumI (dtY t) (dtM t - (1 : Int)))).tdiv (1440 : Int) = if inB t = true then dtD t else (0
  : Int)) ∧ (((t - (fst' (dtY t) + (1440 : Int) * cumI (dtY t) (dtM t - (1 : Int)))).tdiv (60 : Int)).tmod (24 : Int) = if inB t = true then dtH t else (0 : Int)) ∧ ((t - (fst' (dtY
  t) + (1440 : Int) * cumI (dtY t) (dtM t - (1 : Int)))).tmod (60 : Int) = if inB t = true then dtI t else (0 : Int)) ∧ True) ∧ ((0 : Int) = if inB t = true then (0 : Int) else (1 :
  Int)) ∧ True else False else False else False else False
set_option maxRecDepth 100000 in
theorem rDate_P : rDate_T inB dtY dtM dtD dtH dtI dtR fst' cumI := by
  unfold rDate_T
  intro gl t _
  refine ⟨trivial, ?_⟩
  cases hb : inB t with
  | false => exact ⟨⟨rfl, rfl, rfl, rfl, rfl, trivial⟩, rfl, trivial⟩
  | true =>
    have ht : 0 ≤ t ∧ t ≤ 52595999 := by simpa [inB] using hb
    simp only [if_true]
    obtain ⟨r0, r1⟩ := dtR_bd ht
    obtain ⟨y1, y2, y3, y4⟩ := yrF_spec ht
    obtain ⟨m1, m2, m3⟩ := moF_spec ht
    have hl01 := lp01 (yrF t)
    refine ⟨⟨⟨2000, ⟨by decide, by decide, by rw [fst_2000]; exact ht.1⟩, ?_⟩, ?_⟩, fun _ _ => ⟨⟨⟨1, ⟨by decide, by decide, ?_⟩, ?_⟩, ?_⟩, fun _ _ => ?_⟩⟩
    · repeat' (first | apply And.intro | exact trivial | exact rfl)
    · rintro y ⟨h1, h2, h3⟩
      have fin : t < fst' (y + 1) → y = dtY t := fun h4 => yr_uniq ht h1 h3 h4
      refine csplit (fun hlt => cdI (by omega) ?_) (fun hlt => ?_)
      · have hlt := of_decide_eq_true hlt
        have e0 : fst' (y + 1) + 1440 * cumI (y + 1) 0 = fst' (y + 1) := by simp [cumI, cum]
        rw [e0]
        refine ⟨⟨⟨by omega, by omega⟩, by decide, by decide⟩, csplit (fun hle => cdI (by omega) ⟨y + 1, ⟨by omega, by omega, of_decide_eq_true hle⟩, by simp only [rdtI]; omega, ?_⟩) (fun hle => ⟨(), ⟨trivial⟩, ?_⟩)⟩
        · repeat' (first | apply And.intro | exact trivial | exact rfl)
        · have q := fin (by have := of_decide_eq_false hle; omega)
          repeat' (first | apply And.intro | exact trivial | exact rfl | exact q)
      · have hlt := of_decide_eq_false hlt
        have hy : y = 2099 := by omega
        have q := fin (by rw [hy]; show t < fst' 2100; rw [fst_2100]; omega)
        refine ⟨(), ⟨trivial⟩, ?_⟩
        repeat' (first | apply And.intro | exact trivial | exact rfl | exact q)
    · simp [cum]; omega
    · repeat' (first | apply And.intro | exact trivial | exact rfl)
    · rintro k ⟨k1, k2, k3⟩
      have fin : dtR t / 1440 < cum (dtY t) ((k - 1).toNat + 1) → k = dtM t := fun h4 => by
        have := mo_uniq (y := dtY t) (r := dtR t / 1440) (k := (k - 1).toNat) (by omega) (by omega) k3 h4
        change _ = moF (yrF t) (dtR t / 1440) at this
        unfold dtM; rw [← this]; omega
      refine csplit (fun hlt => cdI (by omega) ?_) (fun hlt => ?_)
      · have hlt := of_decide_eq_true hlt
        have e0 : cumI (dtY t) (k + 1 - 1) = cum (dtY t) ((k - 1).toNat + 1) := by unfold cumI; congr 1; omega
        have e1 : (k + 1 - 1).toNat = (k - 1).toNat + 1 := by omega
        have e2 : dtR t = t - fst' (dtY t) := rfl
        rw [e0]
        refine ⟨⟨⟨y1, y2⟩, by omega, by omega⟩, csplit (fun hle => cdI (by omega) ⟨k + 1, ⟨by omega, by omega, ?_⟩, by simp only [rdtJ]; omega, ?_⟩) (fun hle => ⟨(), ⟨trivial⟩, ?_⟩)⟩
        · rw [e1]; have := of_decide_eq_true hle; omega
        · repeat' (first | apply And.intro | exact trivial | exact rfl)
        · have q := fin (by have := of_decide_eq_false hle; omega)
          repeat' (first | apply And.intro | exact trivial | exact rfl | exact q)
      · have hlt := of_decide_eq_false hlt
        have hk : k = 12 := by omega
        have q := fin (by rw [hk]; show _ < cum (dtY t) 12; rw [cum12]; exact r1)
        refine ⟨(), ⟨trivial⟩, ?_⟩
        repeat' (first | apply And.intro | exact trivial | exact rfl | exact q)
    · have e0 : cumI (dtY t) (dtM t - 1) = cum (yrF t) (moF (yrF t) (dtR t / 1440)) := by
        unfold cumI dtM dtY; congr 1; omega
      rw [e0]
      have hW : t - (fst' (dtY t) + 1440 * cum (yrF t) (moF (yrF t) (dtR t / 1440))) = dtR t - 1440 * cum (yrF t) (moF (yrF t) (dtR t / 1440)) := by
        unfold dtR dtY; omega
      rw [hW]
      have hD : dtD t = dtR t / 1440 - cum (yrF t) (moF (yrF t) (dtR t / 1440)) + 1 := rfl
      have hH : dtH t = dtR t % 1440 / 60 := rfl
      have hI : dtI t = dtR t % 60 := rfl
      have hM : dtM t = (moF (yrF t) (dtR t / 1440) : Int) + 1 := rfl
      have hc := cum_bd (yrF t) (k := moF (yrF t) (dtR t / 1440)) (by omega)
      rw [hD, hH, hI]
      change ((2000 ≤ yrF t ∧ yrF t ≤ 2099) ∧ 1 ≤ dtM t ∧ dtM t ≤ 12) ∧ _
      generalize dtR t = R at *
      generalize cum (yrF t) (moF (yrF t) (R / 1440)) = C at *
      have w0 : 0 ≤ R - 1440 * C := by omega
      rw [Int.tdiv_eq_ediv_of_nonneg w0, Int.tdiv_eq_ediv_of_nonneg w0, Int.tmod_eq_emod_of_nonneg w0, Int.tmod_eq_emod_of_nonneg (by omega)]
      refine ⟨⟨⟨y1, y2⟩, by omega, by omega⟩, cdI (by omega) (cdI (by omega) (cdI (by omega) (cdI (by omega) ⟨⟨trivial, trivial, by omega, by omega, by omega, trivial⟩, trivial, trivial⟩)))⟩
def rDate_S (inB : Int → Bool) (dtY : Int → Int) (dtM : Int → Int) (dtD : Int → Int) (dtH : Int → Int) (dtI : Int → Int) (dtR : Int → Int) (fst' : Int → Int) (cumI : Int → Int → Int) : Prop := ∀ (gl : Glob) (t : Int), fnK Try.prog { glob := gl, spec := lk [(37, (rIn_s inB)), (34, (rBefore_s fst' cumI))], specH := lk [], shape := [36], nowf := true } { nt := 62, drop := drp [(1, 192), (2, 512), (3, 1024), (4, 2095104), (5, 62914560), (6, 274810798080), (7, 8246337208320), (8, 1117103813820416), (9, 2304717109306851328), (10, 2305843009213693952)] } (invs [(4, rdtI t), (6, rdtJ t (dtY t) (dtR t)), (100006, rdtC t (dtY t) 1), (100008, rdtC t (dtY t) (dtM t))]) 6 Try.f20 [.int .i64 t] (.tup [.agg [.int .i64 (if inB t then dtY t else 0), .int .i64 (if inB t then dtM t else 0), .int .i64 (if inB t then dtD t else 0), .int .i64 (if inB t then dtH t else 0), .int .i64 (if inB t then dtI t else 0)], .int .i64 (if inB t then 0 else 1)])
set_option maxRecDepth 100000 in
theorem rDate_e (inB : Int → Bool) (dtY : Int → Int) (dtM : Int → Int) (dtD : Int → Int) (dtH : Int → Int) (dtI : Int → Int) (dtR : Int → Int) (fst' : Int → Int) (cumI : Int → Int → Int) : rDate_T inB dtY dtM dtD dtH dtI dtR fst' cumI = rDate_S inB dtY dtM dtD dtH dtI dtR fst' cumI := by kernel_rfl
theorem rDate_v : rDate_S inB dtY dtM dtD dtH dtI dtR fst' cumI := @Eq.mp (rDate_T inB dtY dtM dtD dtH dtI dtR fst' cumI) (rDate_S inB dtY dtM dtD dtH dtI dtR fst' cumI) (rDate_e inB dtY dtM dtD dtH dtI dtR fst' cumI) rDate_P
theorem rDate_ok (gl : Glob) : SOK Try.prog gl 20 (rDate_s inB dtY dtM dtD dtH dtI dtR) := by
  refine ⟨fok Try.func20 (by kernel_rfl) (by kernel_rfl), ?_⟩
  intro xs pre r h hp
  unfold rDate_s at h
  split at h
  · simp only [Option.some.injEq, Prod.mk.injEq] at h
    obtain ⟨h1, h2⟩ := h
    subst h1 h2
    exact fnK_sound tyNil (by exact specOK rfl rfl ⟨rIn_ok gl, rBefore_ok gl, trivial⟩ trivial) (by kernel_rfl) Try.func20 rfl (rDate_v gl _)
  · cases h
structure RrsP (d h i near k : Int) : Prop where
  lo : -3 ≤ k
  hi : k ≤ 4
def rrsI (d h i near : Int) (Y M : Int) (B : Int → Int) (B0 : Int → Int) (Bf : Int → Bool) : LInv := ⟨Int, fun k => ⟨[(0, .int .i64 d), (1, .int .i64 h), (2, .int .i64 i), (3, .int .i64 near), (8, .int .i64 0), (9, .int .i64 0), (10, .ptr 10 0), (12, .int .i64 (B0 k)), (13, .bool (Bf k)), (14, .int .i64 k)], [(10, .cells [.int .i64 Y, .int .i64 M, .int .i64 (dtD near), .int .i64 (dtH near), .int .i64 (dtI near)])]⟩,
  RrsP d h i near, fun k => (4 - k).toNat, none⟩
def rsK (d h i near k : Int) : Int := rsB d h i near (mnth near + k)
def rsK0 (d h i near k : Int) : Int := if rsK d h i near k < 0 then 0 else rsK d h i near k
def rsKf (d h i near k : Int) : Bool := decide (0 ≤ rsK d h i near k)
theorem rsK_lo (d h i near : Int) : rsK d h i near (-3) = -1 := by
  unfold rsK rsB
  have : (mnth near + -3 - (mnth near - 3)).toNat = 0 := by omega
  rw [this]; rfl
theorem rsK_step {d h i near x : Int} (hx : -3 ≤ x) : rsK d h i near (x + 1) = stp near (rsK d h i near x) (vAt d h i (mnth near + x)) := by
  unfold rsK
  rw [← Int.add_assoc]
  exact rsB_step (by omega)
theorem vAt_all {d h i k : Int} : vAt d h i k = if vldB (2000 + k / 12) (k % 12 + 1) d h i then mns (2000 + k / 12) (k % 12 + 1) d h i else -1 := by
  rcases Int.lt_or_le k 0 with hk | hk
  · rw [vAt_neg hk]
    have : vldB (2000 + k / 12) (k % 12 + 1) d h i = false := by
      cases hv : vldB (2000 + k / 12) (k % 12 + 1) d h i with
      | false => rfl
      | true => have := ((vldB_iff _ _ _ _ _).1 hv).yr; omega
    rw [this]; rfl
  · exact vAt_pos hk
/-- One of two months has the day. -/
theorem vAt_two {d h i k : Int} (hk : 0 ≤ k ∧ k ≤ 1199) (hd : 1 ≤ d ∧ d ≤ 31) (ht : tmB h i = true) : 0 ≤ vAt d h i k ∨ 0 ≤ vAt d h i (k + 1) := by
  have key : ∀ j, 0 ≤ j → j ≤ 1199 → (len12 (2000 + j / 12)).getD (j % 12).toNat 0 = 31 → 0 ≤ vAt d h i j := by
    intro j j0 j1 jl
    have v : vldB (2000 + j / 12) (j % 12 + 1) d h i = true := by
      unfold vldB
      rw [dim_in ⟨by omega, by omega, by omega, by omega⟩, ht]
      have e : (j % 12 + 1 - 1).toNat = (j % 12).toNat := by omega
      rw [e, jl, decide_eq_true (by omega)]; rfl
    rw [vAt_all, v, if_pos rfl]
    exact (mns_in ((vldB_iff _ _ _ _ _).1 v)).1
  have hm : (k % 12).toNat < 12 := by omega
  have ek : k % 12 = ((k % 12).toNat : Int) := by omega
  rcases Nat.lt_or_ge (k % 12).toNat 11 with q | q
  · have e1 : (k + 1) / 12 = k / 12 := by omega
    have e2 : ((k + 1) % 12).toNat = (k % 12).toNat + 1 := by omega
    have k1 := key k hk.1 hk.2
    have k2 := key (k + 1) (by omega) (by omega)
    rw [e1, e2] at k2
    generalize (k % 12).toNat = n at *
    rcases k12 hm with rfl | rfl | rfl | rfl | rfl | rfl | rfl | rfl | rfl | rfl | rfl | rfl
    all_goals first | exact Or.inl (k1 rfl) | exact Or.inr (k2 rfl) | omega
  · have : (k % 12).toNat = 11 := by omega
    exact Or.inl (key k hk.1 hk.2 (by rw [this]; rfl))
theorem stp_ge {near b x : Int} (h : 0 ≤ b) : 0 ≤ stp near b x := by unfold stp; split <;> omega
theorem stp_ge2 {near b x : Int} (h : 0 ≤ x) : 0 ≤ stp near b x := by
  unfold stp; split
  · exact h
  · next q =>
    rcases Int.lt_or_le b 0 with hb | hb
    · exact absurd ⟨h, Or.inl hb⟩ q
    · exact hb
theorem bst_ge {d h i near : Int} (hok : rsOk d h i near = true) : 0 ≤ bst d h i near := by
  obtain ⟨hn, h1, h2, h3⟩ := (rsOk_iff _ _ _ _).1 hok
  have ht : 0 ≤ near ∧ near ≤ 52595999 := by simpa [inB] using hn
  have hm := mnth_bd ht
  unfold bst
  have e3 : mnth near - 3 + (3 : Nat) = mnth near := by omega
  have e4 : mnth near - 3 + (4 : Nat) = mnth near + 1 := by omega
  have : 0 ≤ bstR near (vAt d h i) (mnth near - 3) 5 := by
    simp only [bstR]
    rw [e3, e4]
    rcases vAt_two hm ⟨h1, h2⟩ h3 with q | q
    · exact stp_ge (stp_ge2 q)
    · exact stp_ge2 q
  simp only [bstR] at this ⊢
  exact stp_ge (stp_ge this)
def rResolve_s (inB : Int → Bool) (dtY : Int → Int) (dtM : Int → Int) (dtD : Int → Int) (dtH : Int → Int) (dtI : Int → Int) (tmB : Int → Int → Bool) (vldB : Int → Int → Int → Int → Int → Bool) (mns : Int → Int → Int → Int → Int → Int) (rsV : Int → Int → Int → Int → Int) (rsOk : Int → Int → Int → Int → Bool) (rsK0 : Int → Int → Int → Int → Int → Int) (rsKf : Int → Int → Int → Int → Int → Bool) (rsK : Int → Int → Int → Int → Int → Int) : Sp
  | [.int .i64 d, .int .i64 h, .int .i64 i, .int .i64 near] => some (True, .tup [.int .i64 (rsV d h i near), .int .i64 (if rsOk d h i near then 0 else 1)])
  | _ => none
set_option maxRecDepth 100000 in
def rResolve_T (inB : Int → Bool) (dtY : Int → Int) (dtM : Int → Int) (dtD : Int → Int) (dtH : Int → Int) (dtI : Int → Int) (tmB : Int → Int → Bool) (vldB : Int → Int → Int → Int → Int → Bool) (mns : Int → Int → Int → Int → Int → Int) (rsV : Int → Int → Int → Int → Int) (rsOk : Int → Int → Int → Int → Bool) (rsK0 : Int → Int → Int → Int → Int → Int) (rsKf : Int → Int → Int → Int → Int → Bool) (rsK : Int → Int → Int → Int → Int → Int) (dtR : Int → Int) : Prop :=
  ∀ (gl : Glob) (d h i near : Int), (-9223372036854775808 : Int) ≤ d ∧ d ≤ (9223372036854775807 : Int) → (-9223372036854775808 : Int) ≤ h ∧ h ≤ (9223372036854775807 : Int) →
  (-9223372036854775808 : Int) ≤ i ∧ i ≤ (9223372036854775807 : Int) → (-9223372036854775808 : Int) ≤ near ∧ near ≤ (9223372036854775807 : Int) → bif decide (d < (1 : Int)) then (0 :
  Int) = rsV d h i near ∧ ((1 : Int) = if rsOk d h i near = true then (0 : Int) else (1 : Int)) ∧ True else bif decide ((31 : Int) < d) then (0 : Int) = rsV d h i near ∧ ((1 : Int) =
  if rsOk d h i near = true then (0 : Int) else (1 : Int)) ∧ True else bif decide (h < (0 : Int)) then (0 : Int) = rsV d h i near ∧ ((1 : Int) = if rsOk d h i near = true then (0 :
  Int) else (1 : Int)) ∧ True else bif decide ((23 : Int) < h) then (0 : Int) = rsV d h i near ∧ ((1 : Int) = if rsOk d h i near = true then (0 : Int) else (1 : Int)) ∧ True else bif
  decide (i < (0 : Int)) then (0 : Int) = rsV d h i near ∧ ((1 : Int) = if rsOk d h i near = true then (0 : Int) else (1 : Int)) ∧ True else bif decide ((59 : Int) < i) then (0 :
  Int) = rsV d h i near ∧ ((1 : Int) = if rsOk d h i near = true then (0 : Int) else (1 : Int)) ∧ True else True ∧ bif !inB near then (0 : Int) = rsV d h i near ∧ ((1 : Int) = if
  rsOk d h i near = true then (0 : Int) else (1 : Int)) ∧ True else True ∧ (∃ x, RrsP d h i near x ∧ (d = d ∧ h = h ∧ i = i ∧ near = near ∧ (0 : Int) = (0 : Int) ∧ (0 : Int) = (0 :
  Int) ∧ (0 : Nat) = (0 : Nat) ∧ (0 : Int) = rsK0 d h i near x ∧ false = rsKf d h i near x ∧ (-3 : Int) = x ∧ True) ∧ ((if inB near = true then dtY near else (0 : Int)) = dtY near ∧
  (if inB near = true then dtM near else (0 : Int)) = dtM near ∧ (if inB near = true then dtD near else (0 : Int)) = Ytakmploakbaglaa.dtD near ∧ (if inB near = true then dtH near
  else (0 : Int)) = Ytakmploakbaglaa.dtH near ∧ (if inB near = true then dtI near else (0 : Int)) = Ytakmploakbaglaa.dtI near ∧ True) ∧ True) ∧ ∀ (x : Int), RrsP d h i near x → bif
  decide (x ≤ (3 : Int)) then bif decide (rng IntKind.i64 (dtY near * (12 : Int))) then bif decide (rng IntKind.i64 (dtY near * (12 : Int) + dtM near)) then bif decide (rng
  IntKind.i64 (dtY near * (12 : Int) + dtM near - (1 : Int))) then bif decide (rng IntKind.i64 (dtY near * (12 : Int) + dtM near - (1 : Int) + x)) then bif decide (rng IntKind.i64
  ((dtY near * (12 : Int) + dtM near - (1 : Int) + x).tdiv (12 : Int))) then bif decide (rng IntKind.i64 ((dtY near * (12 : Int) + dtM near - (1 : Int) + x).tmod (12 : Int) + (1 :
  Int))) then True ∧ bif decide ((if vldB ((dtY near * (12 : Int) + dtM near - (1 : Int) + x).tdiv (12 : Int)) ((dtY near * (12 : Int) + dtM near - (1 : Int) + x).tmod (12 : Int) +
  (1 : Int)) d h i = true then (0 : Int) else (1 : Int)) = (0 : Int)) then bif !rsKf d h i near x then bif decide (rng IntKind.i64 (x + (1 : Int))) then ∃ y, RrsP d h i near y ∧
  (rrsI d h i near (dtY near) (dtM near) (rsK d h i near) (rsK0 d h i near) (rsKf d h i near)).m y < (rrsI d h i near (dtY near) (dtM near) (rsK d h i near) (rsK0 d h i near) (rsKf d
  h i near)).m x ∧ (d = d ∧ h = h ∧ i = i ∧ near = near ∧ (0 : Int) = (0 : Int) ∧ (0 : Int) = (0 : Int) ∧ (0 : Nat) = (0 : Nat) ∧ (if vldB ((dtY near * (12 : Int) + dtM near - (1 :
  Int) + x).tdiv (12 : Int)) ((dtY near * (12 : Int) + dtM near - (1 : Int) + x).tmod (12 : Int) + (1 : Int)) d h i = true then mns ((dtY near * (12 : Int) + dtM near - (1 : Int) +
  x).tdiv (12 : Int)) ((dtY near * (12 : Int) + dtM near - (1 : Int) + x).tmod (12 : Int) + (1 : Int)) d h i else (0 : Int)) = rsK0 d h i near y ∧ true = rsKf d h i near y ∧ x + (1 :
  Int) = y ∧ True) ∧ (dtY near = dtY near ∧ dtM near = dtM near ∧ Ytakmploakbaglaa.dtD near = Ytakmploakbaglaa.dtD near ∧ Ytakmploakbaglaa.dtH near = Ytakmploakbaglaa.dtH near ∧
  Ytakmploakbaglaa.dtI near = Ytakmploakbaglaa.dtI near ∧ True) ∧ True else False else ((((0 : Int) ≤ if vldB ((dtY near * (12 : Int) + dtM near - (1 : Int) + x).tdiv (12 : Int))
  ((dtY near * (12 : Int) + dtM near - (1 : Int) + x).tmod (12 : Int) + (1 : Int)) d h i = true then mns ((dtY near * (12 : Int) + dtM near - (1 : Int) + x).tdiv (12 : Int)) ((dtY
  near * (12 : Int) + dtM near - (1 : Int) + x).tmod (12 : Int) + (1 : Int)) d h i else (0 : Int)) ∧ (if vldB ((dtY near * (12 : Int) + dtM near - (1 : Int) + x).tdiv (12 : Int))
  ((dtY near * (12 : Int) + dtM near - (1 : Int) + x).tmod (12 : Int) + (1 : Int)) d h i = true then mns ((dtY near * (12 : Int) + dtM near - (1 : Int) + x).tdiv (12 : Int)) ((dtY
  near * (12 : Int) + dtM near - (1 : Int) + x).tmod (12 : Int) + (1 : Int)) d h i else (0 : Int)) ≤ (52595999 : Int)) ∧ (0 : Int) ≤ near ∧ near ≤ (52595999 : Int)) ∧ (((0 : Int) ≤
  rsK0 d h i near x ∧ rsK0 d h i near x ≤ (52595999 : Int)) ∧ (0 : Int) ≤ near ∧ near ≤ (52595999 : Int)) ∧ bif decide (max ((if vldB ((dtY near * (12 : Int) + dtM near - (1 : Int) +
  x).tdiv (12 : Int)) ((dtY near * (12 : Int) + dtM near - (1 : Int) + x).tmod (12 : Int) + (1 : Int)) d h i = true then mns ((dtY near * (12 : Int) + dtM near - (1 : Int) + x).tdiv
  (12 : Int)) ((dtY near * (12 : Int) + dtM near - (1 : Int) + x).tmod (12 : Int) + (1 : Int)) d h i else (0 : Int)) - near) (near - if vldB ((dtY near * (12 : Int) + dtM near - (1 :
  Int) + x).tdiv (12 : Int)) ((dtY near * (12 : Int) + dtM near - (1 : Int) + x).tmod (12 : Int) + (1 : Int)) d h i = true then mns ((dtY near * (12 : Int) + dtM near - (1 : Int) +
  x).tdiv (12 : Int)) ((dtY near * (12 : Int) + dtM near - (1 : Int) + x).tmod (12 : Int) + (1 : Int)) d h i else (0 : Int)) < max (rsK0 d h i near x - near) (near - rsK0 d h i near
  x)) then bif decide (rng IntKind.i64 (x + (1 : Int))) then ∃ y, RrsP d h i near y ∧ (rrsI d h i near (dtY near) (dtM near) (rsK d h i near) (rsK0 d h i near) (rsKf d h i near)).m y
  < (rrsI d h i near (dtY near) (dtM near) (rsK d h i near) (rsK0 d h i near) (rsKf d h i near)).m x ∧ (d = d ∧ h = h ∧ i = i ∧ near = near ∧ (0 : Int) = (0 : Int) ∧ (0 : Int) = (0 :
  Int) ∧ (0 : Nat) = (0 : Nat) ∧ (if vldB ((dtY near * (12 : Int) + dtM near - (1 : Int) + x).tdiv (12 : Int)) ((dtY near * (12 : Int) + dtM near - (1 : Int) + x).tmod (12 : Int) +
  (1 : Int)) d h i = true then mns ((dtY near * (12 : Int) + dtM near - (1 : Int) + x).tdiv (12 : Int)) ((dtY near * (12 : Int) + dtM near - (1 : Int) + x).tmod (12 : Int) + (1 :
  Int)) d h i else (0 : Int)) = rsK0 d h i near y ∧ true = rsKf d h i near y ∧ x + (1 : Int) = y ∧ True) ∧ (dtY near = dtY near ∧ dtM near = dtM near ∧ Ytakmploakbaglaa.dtD near =
  Ytakmploakbaglaa.dtD near ∧ Ytakmploakbaglaa.dtH near = Ytakmploakbaglaa.dtH near ∧ Ytakmploakbaglaa.dtI near = Ytakmploakbaglaa.dtI near ∧ True) ∧ True else False else bif decide
  (rng IntKind.i64 (x + (1 : Int))) then ∃ y, RrsP d h i near y ∧ (rrsI d h i near (dtY near) (dtM near) (rsK d h i near) (rsK0 d h i near) (rsKf d h i near)).m y < (rrsI d h i near
  (dtY near) (dtM near) (rsK d h i near) (rsK0 d h i near) (rsKf d h i near)).m x ∧ (d = d ∧ h = h ∧ i = i ∧ near = near ∧ (0 : Int) = (0 : Int) ∧ (0 : Int) = (0 : Int) ∧ (0 : Nat) =
  (0 : Nat) ∧ rsK0 d h i near x = rsK0 d h i near y ∧ rsKf d h i near x = rsKf d h i near y ∧ x + (1 : Int) = y ∧ True) ∧ (dtY near = dtY near ∧ dtM near = dtM near ∧
  Ytakmploakbaglaa.dtD near = Ytakmploakbaglaa.dtD near ∧ Ytakmploakbaglaa.dtH near = Ytakmploakbaglaa.dtH near ∧ Ytakmploakbaglaa.dtI near = Ytakmploakbaglaa.dtI near ∧ True) ∧ True
  else False else bif decide (rng IntKind.i64 (x + (1 : Int))) then ∃ y, RrsP d h i near y ∧ (rrsI d h i near (dtY near) (dtM near) (rsK d h i near) (rsK0 d h i near) (rsKf d h i
  near)).m y < (rrsI d h i near (dtY near) (dtM near) (rsK d h i near) (rsK0 d h i near) (rsKf d h i near)).m x ∧ (d = d ∧ h = h ∧ i = i ∧ near = near ∧ (0 : Int) = (0 : Int) ∧ (0 :
  Int) = (0 : Int) ∧ (0 : Nat) = (0 : Nat) ∧ rsK0 d h i near x = rsK0 d h i near y ∧ rsKf d h i near x = rsKf d h i near y ∧ x + (1 : Int) = y ∧ True) ∧ (dtY near = dtY near ∧ dtM
  near = dtM near ∧ Ytakmploakbaglaa.dtD near = Ytakmploakbaglaa.dtD near ∧ Ytakmploakbaglaa.dtH near = Ytakmploakbaglaa.dtH near ∧ Ytakmploakbaglaa.dtI near = Ytakmploakbaglaa.dtI
  near ∧ True) ∧ True else False else False else False else False else False else False else False else rsK0 d h i near x = rsV d h i near ∧ ((0 : Int) = if rsOk d h i near = true
  then (0 : Int) else (1 : Int)) ∧ True
set_option maxRecDepth 100000 in
theorem rResolve_P : rResolve_T inB dtY dtM dtD dtH dtI tmB vldB mns rsV rsOk rsK0 rsKf rsK dtR := by
  unfold rResolve_T
  intro gl d h i near _ _ _ _
  refine csplit (fun h1 => rs_bad ?_) (fun h1 => csplit (fun h2 => rs_bad ?_) (fun h2 => csplit (fun h3 => rs_bad ?_) (fun h3 => csplit (fun h4 => rs_bad ?_) (fun h4 => csplit (fun h5 => rs_bad ?_) (fun h5 => csplit (fun h6 => rs_bad ?_) (fun h6 => ⟨trivial, csplit (fun h7 => rs_bad ?_) (fun h7 => ⟨trivial, ?_⟩)⟩))))))
  · have h1 := of_decide_eq_true h1; rw [rsOk_iff]; omega
  · have h1 := of_decide_eq_true h2; rw [rsOk_iff]; omega
  · have h1 := of_decide_eq_true h3; rw [rsOk_iff]; unfold tmB; rw [decide_eq_true_eq]; omega
  · have h1 := of_decide_eq_true h4; rw [rsOk_iff]; unfold tmB; rw [decide_eq_true_eq]; omega
  · have h1 := of_decide_eq_true h5; rw [rsOk_iff]; unfold tmB; rw [decide_eq_true_eq]; omega
  · have h1 := of_decide_eq_true h6; rw [rsOk_iff]; unfold tmB; rw [decide_eq_true_eq]; omega
  · rw [rsOk_iff]; intro q; rw [q.1] at h7; cases h7
  have h1 := of_decide_eq_false h1
  have h2 := of_decide_eq_false h2
  have h3 := of_decide_eq_false h3
  have h4 := of_decide_eq_false h4
  have h5 := of_decide_eq_false h5
  have h6 := of_decide_eq_false h6
  have hb : inB near = true := by cases q : inB near with | true => rfl | false => rw [q] at h7; cases h7
  have hT : tmB h i = true := by unfold tmB; rw [decide_eq_true_eq]; omega
  have hok : rsOk d h i near = true := (rsOk_iff _ _ _ _).2 ⟨hb, by omega, by omega, hT⟩
  have ht : 0 ≤ near ∧ near ≤ 52595999 := by simpa [inB] using hb
  rw [hb, hok]
  simp only [if_true]
  have v := (date_ok ht).vld
  obtain ⟨⟨y1, y2⟩, ⟨m1, m2⟩, _⟩ := v
  have hm := mnth_bd ht
  have hmd : mnth near = 12 * (dtY near - 2000) + dtM near - 1 := rfl
  refine ⟨⟨-3, ⟨by decide, by decide⟩, ?_⟩, ?_⟩
  · have k0 : 0 = rsK0 d h i near (-3) := by unfold rsK0; rw [rsK_lo]; rfl
    have kf : false = rsKf d h i near (-3) := by unfold rsKf; rw [rsK_lo]; rfl
    repeat' (first | apply And.intro | exact trivial | exact rfl | exact k0 | exact kf)
  rintro x ⟨x1, x2⟩
  refine csplit (fun hle => ?_) (fun hle => ?_)
  · have hle := of_decide_eq_true hle
    have hst := rsK_step (d := d) (h := h) (i := i) (near := near) x1
    rw [vAt_all] at hst
    have hK : -1 ≤ rsK d h i near x ∧ rsK d h i near x ≤ 52595999 := rsB_bd d h i near _
    have nx : RrsP d h i near (x + 1) := ⟨by omega, by omega⟩
    have hmm : (rrsI d h i near (dtY near) (dtM near) (rsK d h i near) (rsK0 d h i near) (rsKf d h i near)).m (x + 1) < (rrsI d h i near (dtY near) (dtM near) (rsK d h i near) (rsK0 d h i near) (rsKf d h i near)).m x := by simp only [rrsI]; omega
    have e1 : (dtY near * 12 + dtM near - 1 + x).tdiv 12 = 2000 + (mnth near + x) / 12 := by rw [Int.tdiv_eq_ediv_of_nonneg (by omega)]; omega
    have e2 : (dtY near * 12 + dtM near - 1 + x).tmod 12 = (mnth near + x) % 12 := by rw [Int.tmod_eq_emod_of_nonneg (by omega)]; omega
    rw [e1, e2]
    refine cdI (by omega) (cdI (by omega) (cdI (by omega) (cdI (by omega) (cdI (by omega) (cdI (by omega) ⟨trivial, ?_⟩)))))
    cases hv : vldB (2000 + (mnth near + x) / 12) ((mnth near + x) % 12 + 1) d h i with
    | false =>
      rw [hv] at hst
      have hst : rsK d h i near (x + 1) = rsK d h i near x := hst
      have k0 : rsK0 d h i near x = rsK0 d h i near (x + 1) := by unfold rsK0; rw [hst]
      have kf : rsKf d h i near x = rsKf d h i near (x + 1) := by unfold rsKf; rw [hst]
      refine csplit (fun q => absurd (of_decide_eq_true q) (by decide)) (fun _ => ?_)
      refine cdI (by omega) ⟨x + 1, nx, hmm, ?_⟩
      repeat' (first | apply And.intro | exact trivial | exact rfl | exact k0 | exact kf)
    | true =>
      rw [hv] at hst
      simp only [if_true] at hst ⊢
      have hw := mns_in ((vldB_iff _ _ _ _ _).1 hv)
      generalize mns (2000 + (mnth near + x) / 12) ((mnth near + x) % 12 + 1) d h i = w at *
      unfold stp at hst
      have fw : rsK d h i near (x + 1) = w → w = rsK0 d h i near (x + 1) ∧ true = rsKf d h i near (x + 1) := fun q => by
        unfold rsK0 rsKf; rw [q, if_neg (by omega), decide_eq_true hw.1]; exact ⟨rfl, rfl⟩
      have hKf : rsKf d h i near x = decide (0 ≤ rsK d h i near x) := rfl
      refine csplit (fun _ => ?_) (fun q => absurd q (by decide))
      refine csplit (fun hb0 => ?_) (fun hb0 => ⟨⟨hw, ht⟩, ⟨⟨?_, ?_⟩, ht⟩, csplit (fun hd => ?_) (fun hd => ?_)⟩)
      · have hb0 : rsK d h i near x < 0 := by
          rw [hKf] at hb0
          rcases Int.lt_or_le (rsK d h i near x) 0 with q | q
          · exact q
          · rw [decide_eq_true q] at hb0; cases hb0
        rw [if_pos ⟨hw.1, Or.inl hb0⟩] at hst
        obtain ⟨k0, kf⟩ := fw hst
        refine cdI (by omega) ⟨x + 1, nx, hmm, ?_⟩
        repeat' (first | apply And.intro | exact trivial | exact rfl | exact k0 | exact kf)
      · unfold rsK0; split <;> omega
      · unfold rsK0; split <;> omega
      · have hb1 : 0 ≤ rsK d h i near x := by
          rw [hKf] at hb0
          rcases Int.lt_or_le (rsK d h i near x) 0 with q | q
          · rw [decide_eq_false (by omega)] at hb0; cases hb0
          · exact q
        have hz : rsK0 d h i near x = rsK d h i near x := by unfold rsK0; rw [if_neg (by omega)]
        have hd := of_decide_eq_true hd
        rw [hz] at hd
        rw [if_pos ⟨hw.1, Or.inr hd⟩] at hst
        obtain ⟨k0, kf⟩ := fw hst
        refine cdI (by omega) ⟨x + 1, nx, hmm, ?_⟩
        repeat' (first | apply And.intro | exact trivial | exact rfl | exact k0 | exact kf)
      · have hb1 : 0 ≤ rsK d h i near x := by
          rw [hKf] at hb0
          rcases Int.lt_or_le (rsK d h i near x) 0 with q | q
          · rw [decide_eq_false (by omega)] at hb0; cases hb0
          · exact q
        have hz : rsK0 d h i near x = rsK d h i near x := by unfold rsK0; rw [if_neg (by omega)]
        have hd := of_decide_eq_false hd
        rw [hz] at hd
        rw [if_neg (fun q => q.2.elim (by omega) hd)] at hst
        have k0 : rsK0 d h i near x = rsK0 d h i near (x + 1) := by unfold rsK0; rw [hst]
        have kf : rsKf d h i near x = rsKf d h i near (x + 1) := by unfold rsKf; rw [hst]
        refine cdI (by omega) ⟨x + 1, nx, hmm, ?_⟩
        repeat' (first | apply And.intro | exact trivial | exact rfl | exact k0 | exact kf)
  · have hle := of_decide_eq_false hle
    have hx : x = 4 := by omega
    have e : rsK d h i near x = bst d h i near := by
      unfold rsK rsB bst
      have : (mnth near + x - (mnth near - 3)).toNat = 7 := by omega
      rw [this]
    have hg := bst_ge hok
    have e2 : rsK0 d h i near x = rsV d h i near := by
      unfold rsK0 rsV; rw [e, if_pos hok, if_neg (by omega)]
    exact ⟨e2, trivial, trivial⟩
def rResolve_S (inB : Int → Bool) (dtY : Int → Int) (dtM : Int → Int) (dtD : Int → Int) (dtH : Int → Int) (dtI : Int → Int) (tmB : Int → Int → Bool) (vldB : Int → Int → Int → Int → Int → Bool) (mns : Int → Int → Int → Int → Int → Int) (rsV : Int → Int → Int → Int → Int) (rsOk : Int → Int → Int → Int → Bool) (rsK0 : Int → Int → Int → Int → Int → Int) (rsKf : Int → Int → Int → Int → Int → Bool) (rsK : Int → Int → Int → Int → Int → Int) (dtR : Int → Int) : Prop := ∀ (gl : Glob) (d h i near : Int), fnK Try.prog { glob := gl, spec := lk [(20, (rDate_s inB dtY dtM dtD dtH dtI dtR)), (37, (rIn_s inB)), (13, (rMinutes_s vldB mns)), (41, rDist_s)], specH := lk [], shape := [43], nowf := true } { nt := 93, drop := drp [(1, 17592185782272), (3, 1090715534753792), (6, 1125899906842624), (7, 13510798882111488), (8, 9205357638345293824), (9, 75548640353877468643328), (10, 1237864481421654360575705088), (11, 2475880078570760549798248448), (12, 4951760157141521099596496896)] } (invs [(6, rrsI d h i near (dtY near) (dtM near) (rsK d h i near) (rsK0 d h i near) (rsKf d h i near))]) 6 Try.f28 [.int .i64 d, .int .i64 h, .int .i64 i, .int .i64 near] (.tup [.int .i64 (rsV d h i near), .int .i64 (if rsOk d h i near then 0 else 1)])
set_option maxRecDepth 100000 in
theorem rResolve_e (inB : Int → Bool) (dtY : Int → Int) (dtM : Int → Int) (dtD : Int → Int) (dtH : Int → Int) (dtI : Int → Int) (tmB : Int → Int → Bool) (vldB : Int → Int → Int → Int → Int → Bool) (mns : Int → Int → Int → Int → Int → Int) (rsV : Int → Int → Int → Int → Int) (rsOk : Int → Int → Int → Int → Bool) (rsK0 : Int → Int → Int → Int → Int → Int) (rsKf : Int → Int → Int → Int → Int → Bool) (rsK : Int → Int → Int → Int → Int → Int) (dtR : Int → Int) : rResolve_T inB dtY dtM dtD dtH dtI tmB vldB mns rsV rsOk rsK0 rsKf rsK dtR = rResolve_S inB dtY dtM dtD dtH dtI tmB vldB mns rsV rsOk rsK0 rsKf rsK dtR := by kernel_rfl
theorem rResolve_v : rResolve_S inB dtY dtM dtD dtH dtI tmB vldB mns rsV rsOk rsK0 rsKf rsK dtR := @Eq.mp (rResolve_T inB dtY dtM dtD dtH dtI tmB vldB mns rsV rsOk rsK0 rsKf rsK dtR) (rResolve_S inB dtY dtM dtD dtH dtI tmB vldB mns rsV rsOk rsK0 rsKf rsK dtR) (rResolve_e inB dtY dtM dtD dtH dtI tmB vldB mns rsV rsOk rsK0 rsKf rsK dtR) rResolve_P
theorem rResolve_ok (gl : Glob) : SOK Try.prog gl 28 (rResolve_s inB dtY dtM dtD dtH dtI tmB vldB mns rsV rsOk rsK0 rsKf rsK) := by
  refine ⟨fok Try.func28 (by kernel_rfl) (by kernel_rfl), ?_⟩
  intro xs pre r h hp
  unfold rResolve_s at h
  split at h
  · simp only [Option.some.injEq, Prod.mk.injEq] at h
    obtain ⟨h1, h2⟩ := h
    subst h1 h2
    exact fnK_sound tyNil (by exact specOK rfl rfl ⟨rDate_ok gl, rIn_ok gl, rMinutes_ok gl, rDist_ok gl, trivial⟩ trivial) (by kernel_rfl) Try.func28 rfl (rResolve_v gl _ _ _ _)
  · cases h
end Go.Proofs.Ytakmploakbaglaa
