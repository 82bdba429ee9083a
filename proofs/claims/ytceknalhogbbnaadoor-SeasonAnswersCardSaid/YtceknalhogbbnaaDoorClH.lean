/- The calendar: the reference's Days, In, Date (for seats that need no more of the clock). -/
import Derived.Test.YtceknalhogbbnaaDoorClB
import Derived.Test.YtceknalhogbbnaaDoorDg
namespace Go.Proofs.YtceknalhogbbnaaDoor
open Go
set_option linter.unusedVariables false
set_option linter.unusedSimpArgs false

def awkB : ByteArray := ⟨#[50, 48, 48, 48, 45, 48, 50, 45, 50, 48, 32, 48, 48, 58, 48, 48]⟩
def rDays_s (dim : Int → Int → Int) : Sp
  | [.int .i64 y, .int .i64 m] => some (True, .int .i64 (dim y m))
  | _ => none
set_option maxRecDepth 100000 in
def rDays_T (dim : Int → Int → Int) : Prop :=
  ∀ (gl : Glob) (y m : Int), (-9223372036854775808 : Int) ≤ y ∧ y ≤ (9223372036854775807 : Int) → (-9223372036854775808 : Int) ≤ m ∧ m ≤ (9223372036854775807 : Int) → bif decide (y <
  (2000 : Int)) then (0 : Int) = dim y m else bif decide ((2099 : Int) < y) then (0 : Int) = dim y m else bif decide (m < (1 : Int)) then (0 : Int) = dim y m else bif decide ((12 :
  Int) < m) then (0 : Int) = dim y m else bif decide (m = (4 : Int)) then (30 : Int) = dim y m else bif decide (m = (6 : Int)) then (30 : Int) = dim y m else bif decide (m = (9 :
  Int)) then (30 : Int) = dim y m else bif decide (m = (11 : Int)) then (30 : Int) = dim y m else bif decide (m = (2 : Int)) then bif decide (y.tmod (4 : Int) = (0 : Int)) then (29 :
  Int) = dim y m else (28 : Int) = dim y m else (31 : Int) = dim y m
set_option maxRecDepth 100000 in
theorem rDays_P : rDays_T dim := by
  unfold rDays_T
  intro gl y m hy hm
  have e := tmod4 y
  unfold dim
  have off : ¬ (2000 ≤ y ∧ y ≤ 2099 ∧ 1 ≤ m ∧ m ≤ 12) → (0 : Int) = if 2000 ≤ y ∧ y ≤ 2099 ∧ 1 ≤ m ∧ m ≤ 12 then (len12 y).getD (m - 1).toNat 0 else 0 := fun h => (if_neg h).symm
  refine csplit (fun h => off (by have := of_decide_eq_true h; omega)) (fun h => csplit (fun h2 => off (by have := of_decide_eq_true h2; omega)) (fun h2 => csplit (fun h3 => off (by have := of_decide_eq_true h3; omega)) (fun h3 => csplit (fun h4 => off (by have := of_decide_eq_true h4; omega)) (fun h4 => ?_))))
  have h := of_decide_eq_false h
  have h2 := of_decide_eq_false h2
  have h3 := of_decide_eq_false h3
  have h4 := of_decide_eq_false h4
  rw [if_pos (by omega)]
  have hk : (m - 1).toNat < 12 := by omega
  have hm2 : m = ((m - 1).toNat : Int) + 1 := by omega
  simp only [cdec, e]
  generalize (m - 1).toNat = k at *
  subst hm2
  rcases k12 hk with rfl | rfl | rfl | rfl | rfl | rfl | rfl | rfl | rfl | rfl | rfl | rfl
  all_goals simp [len12, lp]
  split <;> simp_all
def rDays_S (dim : Int → Int → Int) : Prop := ∀ (gl : Glob) (y m : Int), fnK Tryd.prog { glob := gl, spec := lk [], specH := lk [], nowf := true } { nt := 30, drop := drp [(1, 262112), (4, 2097152), (5, 4194304), (6, 8388608), (7, 16777216), (9, 67108864), (10, 402653184)] } (fun _ _ => none) 6 Tryd.f60 [.int .i64 y, .int .i64 m] (.int .i64 (dim y m))
set_option maxRecDepth 100000 in
theorem rDays_e (dim : Int → Int → Int) : rDays_T dim = rDays_S dim := by kernel_rfl
theorem rDays_v : rDays_S dim := @Eq.mp (rDays_T dim) (rDays_S dim) (rDays_e dim) rDays_P
theorem rDays_ok (gl : Glob) : SOK Tryd.prog gl 60 (rDays_s dim) := by
  refine ⟨fok Tryd.func60 (by kernel_rfl) (by kernel_rfl), ?_⟩
  intro xs pre r h hp
  unfold rDays_s at h
  split at h
  · simp only [Option.some.injEq, Prod.mk.injEq] at h
    obtain ⟨h1, h2⟩ := h
    subst h1 h2
    exact fnK_sound tyNil (by exact specOK rfl rfl trivial trivial) (by kernel_rfl) Tryd.func60 rfl (rDays_v gl _ _)
  · cases h
def rIn_s (inB : Int → Bool) : Sp
  | [.int .i64 t] => some (True, .bool (inB t))
  | _ => none
set_option maxRecDepth 100000 in
def rIn_T (inB : Int → Bool) : Prop :=
  ∀ (gl : Glob) (t : Int), (-9223372036854775808 : Int) ≤ t ∧ t ≤ (9223372036854775807 : Int) → bif decide ((0 : Int) ≤ t) then decide (t ≤ (52595999 : Int)) = inB t else false = inB
  t
set_option maxRecDepth 100000 in
theorem rIn_P : rIn_T inB := by
  unfold rIn_T
  intro gl t _
  unfold inB
  refine csplit (fun h1 => ?_) (fun h1 => ?_)
  · have h1 := of_decide_eq_true h1; simp [h1]
  · have h1 := of_decide_eq_false h1; simp [h1]
def rIn_S (inB : Int → Bool) : Prop := ∀ (gl : Glob) (t : Int), fnK Tryd.prog { glob := gl, spec := lk [], specH := lk [] } { nt := 9, drop := drp [(1, 504)] } (fun _ _ => none) 6 Tryd.f30 [.int .i64 t] (.bool (inB t))
set_option maxRecDepth 100000 in
theorem rIn_e (inB : Int → Bool) : rIn_T inB = rIn_S inB := by kernel_rfl
theorem rIn_v : rIn_S inB := @Eq.mp (rIn_T inB) (rIn_S inB) (rIn_e inB) rIn_P
theorem rIn_ok (gl : Glob) : SOK Tryd.prog gl 30 (rIn_s inB) := by
  refine ⟨fok Tryd.func30 (by kernel_rfl) (by kernel_rfl), ?_⟩
  intro xs pre r h hp
  unfold rIn_s at h
  split at h
  · simp only [Option.some.injEq, Prod.mk.injEq] at h
    obtain ⟨h1, h2⟩ := h
    subst h1 h2
    exact fnK_sound tyNil (by exact specOK rfl rfl trivial trivial) (by kernel_rfl) Tryd.func30 rfl (rIn_v gl _)
  · cases h
structure BefP (y : Int) (x : Int × Int) : Prop where
  lo : 2000 ≤ x.2
  hi : x.2 ≤ y
  eq : 1440 * x.1 = fst' x.2
def befI (y m : Int) : LInv := ⟨Int × Int, fun (n, z) => ⟨[(0, .int .i64 y), (1, .int .i64 m), (5, .int .i64 n), (6, .int .i64 z)], []⟩, BefP y, fun (n, z) => (y - z).toNat, none⟩
structure BefQ (y m : Int) (x : Int × Int) : Prop where
  lo : 1 ≤ x.2
  hi : x.2 ≤ m
  eq : 1440 * x.1 = fst' y + 1440 * cum y (x.2 - 1).toNat
def befJ (y m : Int) : LInv := ⟨Int × Int, fun (n, k) => ⟨[(0, .int .i64 y), (1, .int .i64 m), (5, .int .i64 n), (7, .int .i64 k)], []⟩, BefQ y m, fun (n, k) => (m - k).toNat, none⟩
def rBefore_s (fst' : Int → Int) (cumI : Int → Int → Int) : Sp
  | [.int .i64 y, .int .i64 m] => some ((2000 ≤ y ∧ y ≤ 2099) ∧ 1 ≤ m ∧ m ≤ 12, .int .i64 (fst' y + 1440 * cumI y (m - 1)))
  | _ => none
set_option maxRecDepth 100000 in
def rBefore_T (fst' : Int → Int) (cumI : Int → Int → Int) (dim : Int → Int → Int) : Prop :=
  ∀ (gl : Glob) (y m : Int), ((2000 : Int) ≤ y ∧ y ≤ (2099 : Int)) ∧ (1 : Int) ≤ m ∧ m ≤ (12 : Int) → (-9223372036854775808 : Int) ≤ y ∧ y ≤ (9223372036854775807 : Int) →
  (-9223372036854775808 : Int) ≤ m ∧ m ≤ (9223372036854775807 : Int) → (∃ x, BefP y x ∧ (y = y ∧ m = m ∧ (0 : Int) = x.1 ∧ (2000 : Int) = x.2 ∧ True) ∧ True) ∧ ∀ (x : Int × Int),
  BefP y x → bif decide (x.2 < y) then bif decide (rng IntKind.i64 (x.1 + (365 : Int))) then bif decide (x.2.tmod (4 : Int) = (0 : Int)) then bif decide (rng IntKind.i64 (x.1 + (365
  : Int) + (1 : Int))) then bif decide (rng IntKind.i64 (x.2 + (1 : Int))) then ∃ y_1, BefP y y_1 ∧ (befI y m).m y_1 < (befI y m).m x ∧ (y = y ∧ m = m ∧ x.1 + (365 : Int) + (1 : Int)
  = y_1.1 ∧ x.2 + (1 : Int) = y_1.2 ∧ True) ∧ True else False else False else bif decide (rng IntKind.i64 (x.2 + (1 : Int))) then ∃ y_1, BefP y y_1 ∧ (befI y m).m y_1 < (befI y m).m
  x ∧ (y = y ∧ m = m ∧ x.1 + (365 : Int) = y_1.1 ∧ x.2 + (1 : Int) = y_1.2 ∧ True) ∧ True else False else False else (∃ x_1, BefQ y m x_1 ∧ (y = y ∧ m = m ∧ x.1 = x_1.1 ∧ (1 : Int) =
  x_1.2 ∧ True) ∧ True) ∧ ∀ (x : Int × Int), BefQ y m x → bif decide (x.2 < m) then True ∧ bif decide (rng IntKind.i64 (x.1 + dim y x.2)) then bif decide (rng IntKind.i64 (x.2 + (1 :
  Int))) then ∃ y_1, BefQ y m y_1 ∧ (befJ y m).m y_1 < (befJ y m).m x ∧ (y = y ∧ m = m ∧ x.1 + dim y x.2 = y_1.1 ∧ x.2 + (1 : Int) = y_1.2 ∧ True) ∧ True else False else False else
  bif decide (rng IntKind.i64 (x.1 * (1440 : Int))) then x.1 * (1440 : Int) = fst' y + (1440 : Int) * cumI y (m - (1 : Int)) else False
set_option maxRecDepth 100000 in
theorem rBefore_P : rBefore_T fst' cumI dim := by
  unfold rBefore_T
  intro gl y m ⟨⟨y1, y2⟩, m1, m2⟩ _ _
  refine ⟨⟨(0, 2000), ⟨by decide, y1, by decide⟩, ?_⟩, ?_⟩
  · repeat' (first | apply And.intro | exact trivial | exact rfl)
  · rintro ⟨n, z⟩ ⟨z1, z2, hn⟩
    simp only at z1 z2 hn
    have b0 := fst_mono (y := 2000) (z := z) (by decide) z1
    have b1 := fst_mono (y := z) (z := 2100) z1 (by omega)
    rw [fst_2000] at b0
    rw [fst_2100] at b1
    have hs := fst_step z1
    refine csplit (fun hlt => ?_) (fun hlt => ?_)
    · have hlt : z < y := of_decide_eq_true hlt
      refine cdI (by omega) (csplit (fun hm => ?_) (fun hm => ?_))
      · have hm := (tmod4 z).1 (of_decide_eq_true hm)
        have hl : lp z = 1 := if_pos hm
        refine cdI (by omega) (cdI (by omega) ⟨(n + 365 + 1, z + 1), ⟨by simp only; omega, by simp only; omega, by simp only; omega⟩, by simp only [befI]; omega, ?_⟩)
        repeat' (first | apply And.intro | exact trivial | exact rfl)
      · have hm := fun q => of_decide_eq_false hm ((tmod4 z).2 q)
        have hl : lp z = 0 := if_neg hm
        refine cdI (by omega) ⟨(n + 365, z + 1), ⟨by simp only; omega, by simp only; omega, by simp only; omega⟩, by simp only [befI]; omega, ?_⟩
        repeat' (first | apply And.intro | exact trivial | exact rfl)
    · have hlt : ¬ z < y := of_decide_eq_false hlt
      have hz : z = y := by omega
      subst hz
      refine ⟨⟨(n, 1), ⟨by simp only; omega, by simp only; omega, by simp [cum]; omega⟩, ?_⟩, ?_⟩
      · repeat' (first | apply And.intro | exact trivial | exact rfl)
      rintro ⟨n2, k⟩ ⟨k1, k2, hk⟩
      simp only at k1 k2 hk
      have c0 := cum_bd z (k := (k - 1).toNat) (by omega)
      refine csplit (fun hlt => ?_) (fun hlt => ?_)
      · have hlt : k < m := of_decide_eq_true hlt
        have e1 : (k + 1 - 1).toNat = (k - 1).toNat + 1 := by omega
        have hd := dim_in (y := z) (m := k) ⟨z1, y2, k1, by omega⟩
        have hb := dim_bd z k
        refine ⟨trivial, cdI (by simp only; omega) (cdI (by simp only; omega) ⟨(n2 + dim z k, k + 1), ⟨by simp only; omega, by simp only; omega, ?_⟩, by simp only [befJ]; omega, ?_⟩)⟩
        · simp only [e1, cum]; rw [← hd]; omega
        · repeat' (first | apply And.intro | exact trivial | exact rfl)
      · have hlt : ¬ k < m := of_decide_eq_false hlt
        have hz : k = m := by omega
        subst hz
        unfold cumI
        exact cdI (by simp only; omega) (by simp only; omega)
def rBefore_S (fst' : Int → Int) (cumI : Int → Int → Int) (dim : Int → Int → Int) : Prop := ∀ (gl : Glob) (y m : Int), (2000 ≤ y ∧ y ≤ 2099) ∧ 1 ≤ m ∧ m ≤ 12 → fnK Tryd.prog { glob := gl, spec := lk [(60, (rDays_s dim))], specH := lk [], shape := [24], nowf := true } { nt := 32, drop := drp [(3, 768), (4, 6144), (5, 24576), (6, 98304), (7, 786432), (9, 3145728), (10, 25165824), (11, 1040187392), (12, 3221225472)] } (invs [(3, befI y m), (9, befJ y m)]) 6 Tryd.f48 [.int .i64 y, .int .i64 m] (.int .i64 (fst' y + 1440 * cumI y (m - 1)))
set_option maxRecDepth 100000 in
theorem rBefore_e (fst' : Int → Int) (cumI : Int → Int → Int) (dim : Int → Int → Int) : rBefore_T fst' cumI dim = rBefore_S fst' cumI dim := by kernel_rfl
theorem rBefore_v : rBefore_S fst' cumI dim := @Eq.mp (rBefore_T fst' cumI dim) (rBefore_S fst' cumI dim) (rBefore_e fst' cumI dim) rBefore_P
theorem rBefore_ok (gl : Glob) : SOK Tryd.prog gl 48 (rBefore_s fst' cumI) := by
  refine ⟨fok Tryd.func48 (by kernel_rfl) (by kernel_rfl), ?_⟩
  intro xs pre r h hp
  unfold rBefore_s at h
  split at h
  · simp only [Option.some.injEq, Prod.mk.injEq] at h
    obtain ⟨h1, h2⟩ := h
    subst h1 h2
    exact fnK_sound tyNil (by exact specOK rfl rfl ⟨rDays_ok gl, trivial⟩ trivial) (by kernel_rfl) Tryd.func48 rfl (rBefore_v gl _ _ hp)
  · cases h


structure RdtP (t y : Int) : Prop where
  lo : 2000 ≤ y
  hi : y ≤ 2099
  le : fst' y ≤ t
def rdtI (t : Int) : LInv := ⟨Int, fun y => ⟨[(0, .int .i64 t), (2, .ptr 2 0), (3, .int .i64 0), (4, .ptr 4 0)], [(2, .cells [.int .i64 0, .int .i64 0, .int .i64 0, .int .i64 0, .int .i64 0]), (4, .cells [.int .i64 y, .int .i64 1, .int .i64 0, .int .i64 0, .int .i64 0])]⟩,
  RdtP t, fun y => (2100 - y).toNat, none⟩
structure RdtQ (y r k : Int) : Prop where
  lo : 1 ≤ k
  hi : k ≤ 12
  le : cum y (k - 1).toNat ≤ r
def rdtJ (t y r : Int) : LInv := ⟨Int, fun k => ⟨[(0, .int .i64 t), (2, .ptr 2 0), (3, .int .i64 0), (4, .ptr 4 0)], [(2, .cells [.int .i64 0, .int .i64 0, .int .i64 0, .int .i64 0, .int .i64 0]), (4, .cells [.int .i64 y, .int .i64 k, .int .i64 0, .int .i64 0, .int .i64 0])]⟩,
  RdtQ y (r / 1440), fun k => (13 - k).toNat, none⟩
structure OneP (x : Unit) : Prop where
  ok : True
def rdtC (t y m : Int) : LInv := ⟨Unit, fun _ => ⟨[(0, .int .i64 t), (2, .ptr 2 0), (3, .int .i64 0), (4, .ptr 4 0)], [(2, .cells [.int .i64 0, .int .i64 0, .int .i64 0, .int .i64 0, .int .i64 0]), (4, .cells [.int .i64 y, .int .i64 m, .int .i64 0, .int .i64 0, .int .i64 0])]⟩,
  OneP, fun _ => 0, none⟩
def rDate_s (inB : Int → Bool) (dtY : Int → Int) (dtM : Int → Int) (dtD : Int → Int) (dtH : Int → Int) (dtI : Int → Int) (dtR : Int → Int) : Sp
  | [.int .i64 t] => some (True, .tup [.agg [.int .i64 (if inB t then dtY t else 0), .int .i64 (if inB t then dtM t else 0), .int .i64 (if inB t then dtD t else 0), .int .i64 (if inB t then dtH t else 0), .int .i64 (if inB t then dtI t else 0)], .int .i64 (if inB t then 0 else 1)])
  | _ => none
set_option maxRecDepth 100000 in
def rDate_T (inB : Int → Bool) (dtY : Int → Int) (dtM : Int → Int) (dtD : Int → Int) (dtH : Int → Int) (dtI : Int → Int) (dtR : Int → Int) (fst' : Int → Int) (cumI : Int → Int → Int) : Prop :=
  ∀ (gl : Glob) (t : Int), (-9223372036854775808 : Int) ≤ t ∧ t ≤ (9223372036854775807 : Int) → True ∧ bif !inB t then (((0 : Int) = if inB t = true then dtY t else (0 : Int)) ∧ ((0
  : Int) = if inB t = true then dtM t else (0 : Int)) ∧ ((0 : Int) = if inB t = true then dtD t else (0 : Int)) ∧ ((0 : Int) = if inB t = true then dtH t else (0 : Int)) ∧ ((0 : Int)
  = if inB t = true then dtI t else (0 : Int)) ∧ True) ∧ ((1 : Int) = if inB t = true then (0 : Int) else (1 : Int)) ∧ True else ((∃ x, RdtP t x ∧ (t = t ∧ (0 : Nat) = (0 : Nat) ∧ (0
  : Int) = (0 : Int) ∧ (0 : Nat) = (0 : Nat) ∧ True) ∧ ((0 : Int) = (0 : Int) ∧ (0 : Int) = (0 : Int) ∧ (0 : Int) = (0 : Int) ∧ (0 : Int) = (0 : Int) ∧ (0 : Int) = (0 : Int) ∧ True)
  ∧ ((2000 : Int) = x ∧ (1 : Int) = (1 : Int) ∧ (0 : Int) = (0 : Int) ∧ (0 : Int) = (0 : Int) ∧ (0 : Int) = (0 : Int) ∧ True) ∧ True) ∧ ∀ (x : Int), RdtP t x → bif decide (x < (2099
  : Int)) then bif decide (rng IntKind.i64 (x + (1 : Int))) then (((2000 : Int) ≤ x + (1 : Int) ∧ x + (1 : Int) ≤ (2099 : Int)) ∧ (1 : Int) ≤ (1 : Int) ∧ (1 : Int) ≤ (12 : Int)) ∧
  bif decide (fst' (x + (1 : Int)) + (1440 : Int) * cumI (x + (1 : Int)) (0 : Int) ≤ t) then bif decide (rng IntKind.i64 (x + (1 : Int))) then ∃ y, RdtP t y ∧ (rdtI t).m y < (rdtI
  t).m x ∧ (t = t ∧ (0 : Nat) = (0 : Nat) ∧ (0 : Int) = (0 : Int) ∧ (0 : Nat) = (0 : Nat) ∧ True) ∧ ((0 : Int) = (0 : Int) ∧ (0 : Int) = (0 : Int) ∧ (0 : Int) = (0 : Int) ∧ (0 : Int)
  = (0 : Int) ∧ (0 : Int) = (0 : Int) ∧ True) ∧ (x + (1 : Int) = y ∧ (1 : Int) = (1 : Int) ∧ (0 : Int) = (0 : Int) ∧ (0 : Int) = (0 : Int) ∧ (0 : Int) = (0 : Int) ∧ True) ∧ True else
  False else ∃ x_1, OneP x_1 ∧ (t = t ∧ (0 : Nat) = (0 : Nat) ∧ (0 : Int) = (0 : Int) ∧ (0 : Nat) = (0 : Nat) ∧ True) ∧ ((0 : Int) = (0 : Int) ∧ (0 : Int) = (0 : Int) ∧ (0 : Int) =
  (0 : Int) ∧ (0 : Int) = (0 : Int) ∧ (0 : Int) = (0 : Int) ∧ True) ∧ (x = dtY t ∧ (1 : Int) = (1 : Int) ∧ (0 : Int) = (0 : Int) ∧ (0 : Int) = (0 : Int) ∧ (0 : Int) = (0 : Int) ∧
  True) ∧ True else False else ∃ x_1, OneP x_1 ∧ (t = t ∧ (0 : Nat) = (0 : Nat) ∧ (0 : Int) = (0 : Int) ∧ (0 : Nat) = (0 : Nat) ∧ True) ∧ ((0 : Int) = (0 : Int) ∧ (0 : Int) = (0 :
  Int) ∧ (0 : Int) = (0 : Int) ∧ (0 : Int) = (0 : Int) ∧ (0 : Int) = (0 : Int) ∧ True) ∧ (x = dtY t ∧ (1 : Int) = (1 : Int) ∧ (0 : Int) = (0 : Int) ∧ (0 : Int) = (0 : Int) ∧ (0 :
  Int) = (0 : Int) ∧ True) ∧ True) ∧ ∀ (x : PUnit), OneP x → ((∃ x, RdtQ (dtY t) (dtR t / (1440 : Int)) x ∧ (t = t ∧ (0 : Nat) = (0 : Nat) ∧ (0 : Int) = (0 : Int) ∧ (0 : Nat) = (0 :
  Nat) ∧ True) ∧ ((0 : Int) = (0 : Int) ∧ (0 : Int) = (0 : Int) ∧ (0 : Int) = (0 : Int) ∧ (0 : Int) = (0 : Int) ∧ (0 : Int) = (0 : Int) ∧ True) ∧ (dtY t = dtY t ∧ (1 : Int) = x ∧ (0
  : Int) = (0 : Int) ∧ (0 : Int) = (0 : Int) ∧ (0 : Int) = (0 : Int) ∧ True) ∧ True) ∧ ∀ (x : Int), RdtQ (dtY t) (dtR t / (1440 : Int)) x → bif decide (x < (12 : Int)) then bif
  decide (rng IntKind.i64 (x + (1 : Int))) then (((2000 : Int) ≤ dtY t ∧ dtY t ≤ (2099 : Int)) ∧ (1 : Int) ≤ x + (1 : Int) ∧ x + (1 : Int) ≤ (12 : Int)) ∧ bif decide (fst' (dtY t) +
  (1440 : Int) * cumI (dtY t) (x + (1 : Int) - (1 : Int)) ≤ t) then bif decide (rng IntKind.i64 (x + (1 : Int))) then ∃ y, RdtQ (dtY t) (dtR t / (1440 : Int)) y ∧ (rdtJ t (dtY t)
  (dtR t)).m y < (rdtJ t (dtY t) (dtR t)).m x ∧ (t = t ∧ (0 : Nat) = (0 : Nat) ∧ (0 : Int) = (0 : Int) ∧ (0 : Nat) = (0 : Nat) ∧ True) ∧ ((0 : Int) = (0 : Int) ∧ (0 : Int) = (0 :
  Int) ∧ (0 : Int) = (0 : Int) ∧ (0 : Int) = (0 : Int) ∧ (0 : Int) = (0 : Int) ∧ True) ∧ (dtY t = dtY t ∧ x + (1 : Int) = y ∧ (0 : Int) = (0 : Int) ∧ (0 : Int) = (0 : Int) ∧ (0 :
  Int) = (0 : Int) ∧ True) ∧ True else False else ∃ x_1, OneP x_1 ∧ (t = t ∧ (0 : Nat) = (0 : Nat) ∧ (0 : Int) = (0 : Int) ∧ (0 : Nat) = (0 : Nat) ∧ True) ∧ ((0 : Int) = (0 : Int) ∧
  (0 : Int) = (0 : Int) ∧ (0 : Int) = (0 : Int) ∧ (0 : Int) = (0 : Int) ∧ (0 : Int) = (0 : Int) ∧ True) ∧ (dtY t = dtY t ∧ x = dtM t ∧ (0 : Int) = (0 : Int) ∧ (0 : Int) = (0 : Int) ∧
  (0 : Int) = (0 : Int) ∧ True) ∧ True else False else ∃ x_1, OneP x_1 ∧ (t = t ∧ (0 : Nat) = (0 : Nat) ∧ (0 : Int) = (0 : Int) ∧ (0 : Nat) = (0 : Nat) ∧ True) ∧ ((0 : Int) = (0 :
  Int) ∧ (0 : Int) = (0 : Int) ∧ (0 : Int) = (0 : Int) ∧ (0 : Int) = (0 : Int) ∧ (0 : Int) = (0 : Int) ∧ True) ∧ (dtY t = dtY t ∧ x = dtM t ∧ (0 : Int) = (0 : Int) ∧ (0 : Int) = (0 :
  Int) ∧ (0 : Int) = (0 : Int) ∧ True) ∧ True) ∧ ∀ (x : PUnit), OneP x → (((2000 : Int) ≤ dtY t ∧ dtY t ≤ (2099 : Int)) ∧ (1 : Int) ≤ dtM t ∧ dtM t ≤ (12 : Int)) ∧ bif decide (rng
  IntKind.i64 (t - (fst' (dtY t) + (1440 : Int) * cumI (dtY t) (dtM t - (1 : Int))))) then bif decide (rng IntKind.i64 ((t - (fst' (dtY t) + (1440 : Int) * cumI (dtY t) (dtM t - (1 :
  Int)))).tdiv (1440 : Int))) then bif decide (rng IntKind.i64 ((1 : Int) + (t - (fst' (dtY t) + (1440 : Int) * cumI (dtY t) (dtM t - (1 : Int)))).tdiv (1440 : Int))) then bif decide
  (rng IntKind.i64 ((t - (fst' (dtY t) + (1440 : Int) * cumI (dtY t) (dtM t - (1 : Int)))).tdiv (60 : Int))) then ((dtY t = if inB t = true then dtY t else (0 : Int)) ∧ (dtM t = if
  inB t = true then dtM t else (0 : Int)) ∧ ((1 : Int) + (t - (fst' (dtY t) + (1440 : Int) * cumI (dtY t) (dtM t - (1 : Int)))).tdiv (1440 : Int) = if inB t = true then dtD t else (0
  : Int)) ∧ (((t - (fst' (dtY t) + (1440 : Int) * cumI (dtY t) (dtM t - (1 : Int)))).tdiv (60 : Int)).tmod (24 : Int) = if inB t = true then dtH t else (0 : Int)) ∧ ((t - (fst' (dtY
  t) + (1440 : Int) * cumI (dtY t) (dtM t - (1 : Int)))).tmod (60 : Int) = if inB t = true then dtI t else (0 : Int)) ∧ True) ∧ ((0 : Int) = if inB t = true then (0 : Int) else (1 :
  Int)) ∧ True else False else False else False else False
set_option maxRecDepth 100000 in
theorem rDate_P : rDate_T inB dtY dtM dtD dtH dtI dtR fst' cumI := by
  unfold rDate_T
  intro gl t _
  refine ⟨trivial, ?_⟩
  cases hb : inB t with
  | false => exact ⟨⟨rfl, rfl, rfl, rfl, rfl, trivial⟩, rfl, trivial⟩
  | true =>
    have ht : 0 ≤ t ∧ t ≤ 52595999 := by simpa [inB] using hb
    simp only [if_true]
    obtain ⟨r0, r1⟩ := dtR_bd ht
    obtain ⟨y1, y2, y3, y4⟩ := yrF_spec ht
    obtain ⟨m1, m2, m3⟩ := moF_spec ht
    have hl01 := lp01 (yrF t)
    refine ⟨⟨⟨2000, ⟨by decide, by decide, by rw [fst_2000]; exact ht.1⟩, ?_⟩, ?_⟩, fun _ _ => ⟨⟨⟨1, ⟨by decide, by decide, ?_⟩, ?_⟩, ?_⟩, fun _ _ => ?_⟩⟩
    · repeat' (first | apply And.intro | exact trivial | exact rfl)
    · rintro y ⟨h1, h2, h3⟩
      have fin : t < fst' (y + 1) → y = dtY t := fun h4 => yr_uniq ht h1 h3 h4
      refine csplit (fun hlt => cdI (by omega) ?_) (fun hlt => ?_)
      · have hlt := of_decide_eq_true hlt
        have e0 : fst' (y + 1) + 1440 * cumI (y + 1) 0 = fst' (y + 1) := by simp [cumI, cum]
        rw [e0]
        refine ⟨⟨⟨by omega, by omega⟩, by decide, by decide⟩, csplit (fun hle => cdI (by omega) ⟨y + 1, ⟨by omega, by omega, of_decide_eq_true hle⟩, by simp only [rdtI]; omega, ?_⟩) (fun hle => ⟨(), ⟨trivial⟩, ?_⟩)⟩
        · repeat' (first | apply And.intro | exact trivial | exact rfl)
        · have q := fin (by have := of_decide_eq_false hle; omega)
          repeat' (first | apply And.intro | exact trivial | exact rfl | exact q)
      · have hlt := of_decide_eq_false hlt
        have hy : y = 2099 := by omega
        have q := fin (by rw [hy]; show t < fst' 2100; rw [fst_2100]; omega)
        refine ⟨(), ⟨trivial⟩, ?_⟩
        repeat' (first | apply And.intro | exact trivial | exact rfl | exact q)
    · simp [cum]; omega
    · repeat' (first | apply And.intro | exact trivial | exact rfl)
    · rintro k ⟨k1, k2, k3⟩
      have fin : dtR t / 1440 < cum (dtY t) ((k - 1).toNat + 1) → k = dtM t := fun h4 => by
        have := mo_uniq (y := dtY t) (r := dtR t / 1440) (k := (k - 1).toNat) (by omega) (by omega) k3 h4
        change _ = moF (yrF t) (dtR t / 1440) at this
        unfold dtM; rw [← this]; omega
      refine csplit (fun hlt => cdI (by omega) ?_) (fun hlt => ?_)
      · have hlt := of_decide_eq_true hlt
        have e0 : cumI (dtY t) (k + 1 - 1) = cum (dtY t) ((k - 1).toNat + 1) := by unfold cumI; congr 1; omega
        have e1 : (k + 1 - 1).toNat = (k - 1).toNat + 1 := by omega
        have e2 : dtR t = t - fst' (dtY t) := rfl
        rw [e0]
        refine ⟨⟨⟨y1, y2⟩, by omega, by omega⟩, csplit (fun hle => cdI (by omega) ⟨k + 1, ⟨by omega, by omega, ?_⟩, by simp only [rdtJ]; omega, ?_⟩) (fun hle => ⟨(), ⟨trivial⟩, ?_⟩)⟩
        · rw [e1]; have := of_decide_eq_true hle; omega
        · repeat' (first | apply And.intro | exact trivial | exact rfl)
        · have q := fin (by have := of_decide_eq_false hle; omega)
          repeat' (first | apply And.intro | exact trivial | exact rfl | exact q)
      · have hlt := of_decide_eq_false hlt
        have hk : k = 12 := by omega
        have q := fin (by rw [hk]; show _ < cum (dtY t) 12; rw [cum12]; exact r1)
        refine ⟨(), ⟨trivial⟩, ?_⟩
        repeat' (first | apply And.intro | exact trivial | exact rfl | exact q)
    · have e0 : cumI (dtY t) (dtM t - 1) = cum (yrF t) (moF (yrF t) (dtR t / 1440)) := by
        unfold cumI dtM dtY; congr 1; omega
      rw [e0]
      have hW : t - (fst' (dtY t) + 1440 * cum (yrF t) (moF (yrF t) (dtR t / 1440))) = dtR t - 1440 * cum (yrF t) (moF (yrF t) (dtR t / 1440)) := by
        unfold dtR dtY; omega
      rw [hW]
      have hD : dtD t = dtR t / 1440 - cum (yrF t) (moF (yrF t) (dtR t / 1440)) + 1 := rfl
      have hH : dtH t = dtR t % 1440 / 60 := rfl
      have hI : dtI t = dtR t % 60 := rfl
      have hM : dtM t = (moF (yrF t) (dtR t / 1440) : Int) + 1 := rfl
      have hc := cum_bd (yrF t) (k := moF (yrF t) (dtR t / 1440)) (by omega)
      rw [hD, hH, hI]
      change ((2000 ≤ yrF t ∧ yrF t ≤ 2099) ∧ 1 ≤ dtM t ∧ dtM t ≤ 12) ∧ _
      generalize dtR t = R at *
      generalize cum (yrF t) (moF (yrF t) (R / 1440)) = C at *
      have w0 : 0 ≤ R - 1440 * C := by omega
      rw [Int.tdiv_eq_ediv_of_nonneg w0, Int.tdiv_eq_ediv_of_nonneg w0, Int.tmod_eq_emod_of_nonneg w0, Int.tmod_eq_emod_of_nonneg (by omega)]
      refine ⟨⟨⟨y1, y2⟩, by omega, by omega⟩, cdI (by omega) (cdI (by omega) (cdI (by omega) (cdI (by omega) ⟨⟨trivial, trivial, by omega, by omega, by omega, trivial⟩, trivial, trivial⟩)))⟩
def rDate_S (inB : Int → Bool) (dtY : Int → Int) (dtM : Int → Int) (dtD : Int → Int) (dtH : Int → Int) (dtI : Int → Int) (dtR : Int → Int) (fst' : Int → Int) (cumI : Int → Int → Int) : Prop := ∀ (gl : Glob) (t : Int), fnK Tryd.prog { glob := gl, spec := lk [(30, (rIn_s inB)), (48, (rBefore_s fst' cumI))], specH := lk [], shape := [36], nowf := true } { nt := 62, drop := drp [(1, 192), (2, 512), (3, 1024), (4, 2095104), (5, 62914560), (6, 274810798080), (7, 8246337208320), (8, 1117103813820416), (9, 2304717109306851328), (10, 2305843009213693952)] } (invs [(4, rdtI t), (6, rdtJ t (dtY t) (dtR t)), (100006, rdtC t (dtY t) 1), (100008, rdtC t (dtY t) (dtM t))]) 6 Tryd.f32 [.int .i64 t] (.tup [.agg [.int .i64 (if inB t then dtY t else 0), .int .i64 (if inB t then dtM t else 0), .int .i64 (if inB t then dtD t else 0), .int .i64 (if inB t then dtH t else 0), .int .i64 (if inB t then dtI t else 0)], .int .i64 (if inB t then 0 else 1)])
set_option maxRecDepth 100000 in
theorem rDate_e (inB : Int → Bool) (dtY : Int → Int) (dtM : Int → Int) (dtD : Int → Int) (dtH : Int → Int) (dtI : Int → Int) (dtR : Int → Int) (fst' : Int → Int) (cumI : Int → Int → Int) : rDate_T inB dtY dtM dtD dtH dtI dtR fst' cumI = rDate_S inB dtY dtM dtD dtH dtI dtR fst' cumI := by kernel_rfl
theorem rDate_v : rDate_S inB dtY dtM dtD dtH dtI dtR fst' cumI := @Eq.mp (rDate_T inB dtY dtM dtD dtH dtI dtR fst' cumI) (rDate_S inB dtY dtM dtD dtH dtI dtR fst' cumI) (rDate_e inB dtY dtM dtD dtH dtI dtR fst' cumI) rDate_P
theorem rDate_ok (gl : Glob) : SOK Tryd.prog gl 32 (rDate_s inB dtY dtM dtD dtH dtI dtR) := by
  refine ⟨fok Tryd.func32 (by kernel_rfl) (by kernel_rfl), ?_⟩
  intro xs pre r h hp
  unfold rDate_s at h
  split at h
  · simp only [Option.some.injEq, Prod.mk.injEq] at h
    obtain ⟨h1, h2⟩ := h
    subst h1 h2
    exact fnK_sound tyNil (by exact specOK rfl rfl ⟨rIn_ok gl, rBefore_ok gl, trivial⟩ trivial) (by kernel_rfl) Tryd.func32 rfl (rDate_v gl _)
  · cases h
structure RrsP (d h i near k : Int) : Prop where
  lo : -3 ≤ k
  hi : k ≤ 4
end Go.Proofs.YtceknalhogbbnaaDoor
