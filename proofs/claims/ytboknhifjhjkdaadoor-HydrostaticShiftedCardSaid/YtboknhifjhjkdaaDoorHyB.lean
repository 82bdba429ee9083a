/- Hydrostatic: what the laws draw, and the sanity check. -/
import Derived.Test.YtboknhifjhjkdaaDoorHyA
import Derived.Test.YtboknhifjhjkdaaDoorElR
namespace Go.Proofs.YtboknhifjhjkdaaDoor
open Go
set_option linter.unusedVariables false
set_option linter.unusedSimpArgs false

theorem rds_of {l : List (Int × Int)} (h : ∀ p ∈ l, rng .i64 p.1 ∧ rng .i64 p.2) (hl : l.length ≤ 1000) : RdsP (l.map fun p => [.int .i64 p.1, .int .i64 p.2]) := by
  refine ⟨fun i hi => ?_, by rw [List.length_map]; omega⟩
  rw [List.length_map] at hi
  refine ⟨l[i].1, l[i].2, ?_, h _ (List.getElem_mem hi)⟩
  rw [List.getD_eq_getElem?_getD, List.getElem?_map, List.getElem?_eq_getElem hi]; rfl
def srcRg_s : SpH
  | [.ptr 0 0, .int .i64 lo, .int .i64 hi], [.cells [.sl 1 false xs, .int .i64 i]] => some ((SrcI xs ∧ 0 ≤ i) ∧ (-1000000 ≤ lo ∧ lo ≤ 1000000) ∧ lo ≤ hi ∧ hi ≤ 1000000, .int .i64 (lo + srcN xs i (hi - lo + 1)), [.cells [.sl 1 false xs, .int .i64 (rawA xs i)]])
  | _, _ => none
set_option maxRecDepth 100000 in
def srcRg_T : Prop :=
  ∀ (gl : Glob) (xs : List (List AV)) (i lo hi : Int), (SrcI xs ∧ (0 : Int) ≤ i) ∧ ((-1000000 : Int) ≤ lo ∧ lo ≤ (1000000 : Int)) ∧ lo ≤ hi ∧ hi ≤ (1000000 : Int) → True →
  (-9223372036854775808 : Int) ≤ lo ∧ lo ≤ (9223372036854775807 : Int) → (-9223372036854775808 : Int) ≤ hi ∧ hi ≤ (9223372036854775807 : Int) → True → (-9223372036854775808 : Int) ≤
  i ∧ i ≤ (9223372036854775807 : Int) → bif decide (rng IntKind.i64 (hi - lo)) then bif decide (rng IntKind.i64 (hi - lo + (1 : Int))) then (SrcI xs ∧ (0 : Int) ≤ i) ∧ bif decide
  (rng IntKind.i64 (lo + srcN xs i (hi - lo + (1 : Int)))) then lo + srcN xs i (hi - lo + (1 : Int)) = lo + srcN xs i (hi - lo + (1 : Int)) ∧ ((True ∧ xs = xs) ∧ rawA xs i = rawA xs
  i ∧ True) ∧ True else False else False else False
set_option maxRecDepth 100000 in
theorem srcRg_P : srcRg_T := by
  unfold srcRg_T
  intro gl xs i lo hi ⟨⟨hs, h0⟩, ⟨l1, l2⟩, l3, l4⟩ _ _ _ _ _
  have h := srcN_lt (xs := xs) (i := i) (n := hi - lo + 1) (by omega)
  exact cdI (by omega) (cdI (by omega) ⟨⟨hs, h0⟩, cdI (by omega) ⟨rfl, ⟨⟨trivial, rfl⟩, rfl, trivial⟩, trivial⟩⟩)
def srcRg_S : Prop := ∀ (gl : Glob) (xs : List (List AV)) (i lo hi : Int), (SrcI xs ∧ 0 ≤ i) ∧ (-1000000 ≤ lo ∧ lo ≤ 1000000) ∧ lo ≤ hi ∧ hi ≤ 1000000 → fnH Tryd.prog { glob := gl, spec := lk [], specH := lk [(14, srcn_s)], nowf := true } { nt := 15, drop := drp [(1, 32640)], fr := 1000, kp := [0] } (fun _ _ => none) 6 Tryd.f16 [.ptr 0 0, .int .i64 lo, .int .i64 hi] [.cells [.sl 1 false xs, .int .i64 i]] (.int .i64 (lo + srcN xs i (hi - lo + 1))) [.cells [.sl 1 false xs, .int .i64 (rawA xs i)]]
set_option maxRecDepth 100000 in
theorem srcRg_e : srcRg_T = srcRg_S := by kernel_rfl
theorem srcRg_v : srcRg_S := @Eq.mp (srcRg_T) (srcRg_S) (srcRg_e) srcRg_P
theorem srcRg_ok (gl : Glob) : HOK Tryd.prog gl 16 srcRg_s := by
  refine ⟨fok Tryd.func16 (by kernel_rfl) (by kernel_rfl), ?_⟩
  intro xs bs pre r bs2 h hp
  unfold srcRg_s at h
  split at h
  · simp only [Option.some.injEq, Prod.mk.injEq] at h
    obtain ⟨h1, h2, h3⟩ := h
    subst h1 h2 h3
    exact fnH_sound tyNil (by exact specOK rfl rfl trivial ⟨srcn_ok gl, trivial⟩) (by kernel_rfl) Tryd.func16 (srcRg_v gl _ _ _ _ hp)
  · cases h
def eqR (xs ys : List (List AV)) : Bool := decide (xs.map cellI = ys.map cellI)
structure EqI (xs ys : List (List AV)) (i : Int) : Prop where
  lo : 0 ≤ i
  hi : i ≤ xs.length
  eq : ∀ j : Nat, (j : Int) < i → cellI (xs.getD j []) = cellI (ys.getD j [])
def eqI (f : Bool) (n : Nat) (xs ys : List (List AV)) : LInv := ⟨Int, fun i => ⟨[(0, .sl 1 f xs), (1, .rw 0 1 n), (5, .int .i64 i)], [(0, .row 3 1 ys)]⟩, EqI xs ys, fun i => (xs.length - i).toNat, none⟩
structure EqP (xs ys : List (List AV)) (n : Nat) : Prop where
  a : IntsA xs
  b : IntsA ys
  l : ys.length = n
  sm : xs.length ≤ 9223372036854775807
def kints_s (eqR : List (List AV) → List (List AV) → Bool) : SpH
  | [.sl 1 f xs, .rw 0 1 n], [.row 3 1 ys] => some (EqP xs ys n, .bool (eqR xs ys), [.row 3 1 ys])
  | _, _ => none
set_option maxRecDepth 100000 in
def kints_T (eqR : List (List AV) → List (List AV) → Bool) : Prop :=
  ∀ (gl : Glob) (f : Bool) (n : Nat) (xs ys : List (List AV)), EqP xs ys n → True → True → bif decide ¬(↑xs.length : Int) = (↑n : Int) then false = eqR xs ys ∧ ys = ys ∧ True else (∃
  x, EqI xs ys x ∧ (((bif f then f = true else True) ∧ xs = xs) ∧ n = n ∧ (0 : Int) = x ∧ True) ∧ ys = ys ∧ True) ∧ ∀ (x : Int), EqI xs ys x → bif decide (x < (↑xs.length : Int))
  then bif decide ((0 : Int) ≤ x ∧ x < (↑xs.length : Int)) then ∃ n_1, List.take [AV.int IntKind.i64 n_1].length (xs.getD x.toNat []) = [AV.int IntKind.i64 n_1] ∧ bif decide ((0 :
  Int) ≤ x ∧ x < (↑n : Int)) then bif decide (n = ys.length ∧ x.toNat < ys.length) then ∃ n_2, List.take [AV.int IntKind.i64 n_2].length (List.drop (0 : Nat) (ys.getD x.toNat [])) =
  [AV.int IntKind.i64 n_2] ∧ bif decide ¬n_1 = n_2 then false = eqR xs ys ∧ ys = ys ∧ True else bif decide (rng IntKind.i64 (x + (1 : Int))) then ∃ y, EqI xs ys y ∧ (eqI f n xs ys).m
  y < (eqI f n xs ys).m x ∧ (((bif f then f = true else True) ∧ xs = xs) ∧ n = n ∧ x + (1 : Int) = y ∧ True) ∧ ys = ys ∧ True else False else False else False else False else true =
  eqR xs ys ∧ ys = ys ∧ True
set_option maxRecDepth 100000 in
theorem kints_P : kints_T eqR := by
  unfold kints_T
  intro gl f n xs ys ⟨ha, hb, hl, hs⟩ _ _
  have bf : cond f (f = true) True := by cases f <;> trivial
  have gx : ∀ (l : List (List AV)) (j : Nat) (h : j < l.length), (l.map cellI)[j]? = some (cellI (l.getD j [])) := fun l j h => by
    rw [List.getElem?_map, List.getElem?_eq_getElem h, List.getD_eq_getElem?_getD, List.getElem?_eq_getElem h]; rfl
  have rd : ∀ (l : List (List AV)) (j : Nat), IntsA l → j < l.length → l.getD j [] = [.int .i64 (cellI (l.getD j []))] := fun l j hi h => by
    obtain ⟨z, hz, _⟩ := hi l[j] (List.getElem_mem h)
    rw [List.getD_eq_getElem?_getD, List.getElem?_eq_getElem h]
    show l[j] = [.int .i64 (cellI l[j])]
    rw [hz]; rfl
  refine cs (fun q => ⟨(decide_eq_false fun e => ?_).symm, rfl, trivial⟩) (fun q => ?_)
  · have := congrArg List.length e
    simp only [List.length_map] at this
    omega
  have hx : xs.length = n := by omega
  refine ⟨⟨0, ⟨by decide, by omega, fun j h => by omega⟩, ⟨⟨bf, rfl⟩, rfl, rfl, trivial⟩, rfl, trivial⟩, ?_⟩
  rintro i ⟨h0, h1, he⟩
  refine cs (fun hlt => ?_) (fun hlt => ?_)
  · have hix : i.toNat < xs.length := by omega
    have hiy : i.toNat < ys.length := by omega
    refine cd1 ⟨h0, hlt⟩ ⟨cellI (xs.getD i.toNat []), by rw [rd xs _ ha hix]; rfl, cd1 ⟨h0, by omega⟩ (cd1 ⟨hl.symm, hiy⟩ ⟨cellI (ys.getD i.toNat []), by rw [rd ys _ hb hiy]; rfl, cs (fun r => ⟨(decide_eq_false fun e => ?_).symm, rfl, trivial⟩) (fun r => cdI (by omega) ⟨i + 1, ⟨by omega, by omega, fun j hj => ?_⟩, by simp only [eqI]; omega, ⟨⟨bf, rfl⟩, rfl, rfl, trivial⟩, rfl, trivial⟩)⟩)⟩
    · have e1 := gx xs i.toNat hix
      have e2 := gx ys i.toNat hiy
      rw [e, e2] at e1
      injection e1 with e1
      exact r e1.symm
    · rcases Nat.lt_or_ge j i.toNat with k | k
      · exact he j (by omega)
      · rw [show j = i.toNat by omega]; exact Decidable.not_not.1 r
  · refine ⟨(decide_eq_true (List.ext_getElem? fun j => ?_)).symm, rfl, trivial⟩
    rcases Nat.lt_or_ge j xs.length with k | k
    · rw [gx xs j k, gx ys j (by omega), he j (by omega)]
    · rw [List.getElem?_eq_none (by simp; omega), List.getElem?_eq_none (by simp; omega)]
def kints_S (eqR : List (List AV) → List (List AV) → Bool) : Prop := ∀ (gl : Glob) (f : Bool) (n : Nat) (xs ys : List (List AV)), EqP xs ys n → fnH Tryd.prog { glob := gl, spec := lk [], specH := lk [], shape := [20, 24], nowf := true } { nt := 26, drop := drp [(1, 960), (4, 14336), (5, 98304), (6, 33423360)], fr := 1000, kp := [0] } (invs [(4, eqI f n xs ys)]) 6 Tryd.f13 [.sl 1 f xs, .rw 0 1 n] [.row 3 1 ys] (.bool (eqR xs ys)) [.row 3 1 ys]
set_option maxRecDepth 100000 in
theorem kints_e (eqR : List (List AV) → List (List AV) → Bool) : kints_T eqR = kints_S eqR := by kernel_rfl
theorem kints_v : kints_S eqR := @Eq.mp (kints_T eqR) (kints_S eqR) (kints_e eqR) kints_P
theorem kints_ok (gl : Glob) : HOK Tryd.prog gl 13 (kints_s eqR) := by
  refine ⟨fok Tryd.func13 (by kernel_rfl) (by kernel_rfl), ?_⟩
  intro xs bs pre r bs2 h hp
  unfold kints_s at h
  split at h
  · simp only [Option.some.injEq, Prod.mk.injEq] at h
    obtain ⟨h1, h2, h3⟩ := h
    subst h1 h2 h3
    exact fnH_sound tyNil (by exact specOK rfl rfl trivial trivial) (by kernel_rfl) Tryd.func13 (kints_v gl _ _ _ _ hp)
  · cases h
def row6 (a b c d e g : Int) : List (List AV) := [[.int .i64 6, .int .i64 a], [.int .i64 7, .int .i64 b], [.int .i64 8, .int .i64 c], [.int .i64 9, .int .i64 d], [.int .i64 10, .int .i64 e], [.int .i64 11, .int .i64 g]]
def hsix_s (row6 : Int → Int → Int → Int → Int → Int → List (List AV)) : SpH
  | [.int .i64 a, .int .i64 b, .int .i64 c, .int .i64 d, .int .i64 e, .int .i64 g], [] => some (True, .rw 0 2 6, [.row 32 2 (row6 a b c d e g)])
  | _, _ => none
set_option maxRecDepth 100000 in
def hsix_T (row6 : Int → Int → Int → Int → Int → Int → List (List AV)) : Prop :=
  ∀ (gl : Glob) (a b c d e g : Int), (-9223372036854775808 : Int) ≤ a ∧ a ≤ (9223372036854775807 : Int) → (-9223372036854775808 : Int) ≤ b ∧ b ≤ (9223372036854775807 : Int) →
  (-9223372036854775808 : Int) ≤ c ∧ c ≤ (9223372036854775807 : Int) → (-9223372036854775808 : Int) ≤ d ∧ d ≤ (9223372036854775807 : Int) → (-9223372036854775808 : Int) ≤ e ∧ e ≤
  (9223372036854775807 : Int) → (-9223372036854775808 : Int) ≤ g ∧ g ≤ (9223372036854775807 : Int) → (6 : Nat) = (6 : Nat) ∧ [[AV.int IntKind.i64 (6 : Int), AV.int IntKind.i64 a],
  [AV.int IntKind.i64 (7 : Int), AV.int IntKind.i64 b], [AV.int IntKind.i64 (8 : Int), AV.int IntKind.i64 c], [AV.int IntKind.i64 (9 : Int), AV.int IntKind.i64 d], [AV.int
  IntKind.i64 (10 : Int), AV.int IntKind.i64 e], [AV.int IntKind.i64 (11 : Int), AV.int IntKind.i64 g]] = row6 a b c d e g ∧ True
set_option maxRecDepth 100000 in
theorem hsix_P : hsix_T row6 := by
  unfold hsix_T
  intro gl a b c d e g _ _ _ _ _ _
  exact ⟨rfl, rfl, trivial⟩
def hsix_S (row6 : Int → Int → Int → Int → Int → Int → List (List AV)) : Prop := ∀ (gl : Glob) (a b c d e g : Int), fnH Tryd.prog { glob := gl, spec := lk [], specH := lk [], nowf := true } { nt := 26, drop := drp [(1, 67100672)], fr := 1000, kp := [], own := true } (fun _ _ => none) 6 Tryd.f17 [.int .i64 a, .int .i64 b, .int .i64 c, .int .i64 d, .int .i64 e, .int .i64 g] [] (.rw 0 2 6) [.row 32 2 (row6 a b c d e g)]
set_option maxRecDepth 100000 in
theorem hsix_e (row6 : Int → Int → Int → Int → Int → Int → List (List AV)) : hsix_T row6 = hsix_S row6 := by kernel_rfl
theorem hsix_v : hsix_S row6 := @Eq.mp (hsix_T row6) (hsix_S row6) (hsix_e row6) hsix_P
theorem hsix_ok (gl : Glob) : HOK Tryd.prog gl 17 (hsix_s row6) := by
  refine ⟨fok Tryd.func17 (by kernel_rfl) (by kernel_rfl), ?_⟩
  intro xs bs pre r bs2 h hp
  unfold hsix_s at h
  split at h
  · simp only [Option.some.injEq, Prod.mk.injEq] at h
    obtain ⟨h1, h2, h3⟩ := h
    subst h1 h2 h3
    exact fnH_sound tyNil (by exact specOK rfl rfl trivial trivial) (by kernel_rfl) Tryd.func17 (hsix_v gl _ _ _ _ _ _)
  · cases h
def fA (X : List (List AV)) (i : Int) : Int := rawA X (rawA X (rawA X (rawA X i)))
def fT1 (X : List (List AV)) (i : Int) : Int := 2500 + srcN X i 501
def fT2 (X : List (List AV)) (i : Int) : Int := 2450 + srcN X (rawA X i) 401
def fT3 (X : List (List AV)) (i : Int) : Int := 2200 + srcN X (rawA X (rawA X i)) 401
def fH1 (X : List (List AV)) (i : Int) : Int := 1200 + srcN X (rawA X (rawA X (rawA X i))) 301
def fH2 (X : List (List AV)) (i : Int) : Int := fH1 X i + (5683 * (fT1 X i + fT2 X i) + 10000).tdiv 20000
def fH3 (X : List (List AV)) (i : Int) : Int := fH2 X i + (9848 * (fT2 X i + fT3 X i) + 10000).tdiv 20000
def hfit_s (fA : List (List AV) → Int → Int) (fH1 : List (List AV) → Int → Int) (fH2 : List (List AV) → Int → Int) (fH3 : List (List AV) → Int → Int) (fT1 : List (List AV) → Int → Int) (fT2 : List (List AV) → Int → Int) (fT3 : List (List AV) → Int → Int) : SpH
  | [.ptr 0 0], [.cells [.sl 1 false X, .int .i64 i]] => some (SrcI X ∧ 0 ≤ i, .rw 1 2 6, [.cells [.sl 1 false X, .int .i64 (fA X i)], .row 32 2 (row6 (fH1 X i) (fT1 X i) (fH2 X i) (fT2 X i) (fH3 X i) (fT3 X i))])
  | _, _ => none
set_option maxRecDepth 100000 in
def hfit_T (fA : List (List AV) → Int → Int) (fH1 : List (List AV) → Int → Int) (fH2 : List (List AV) → Int → Int) (fH3 : List (List AV) → Int → Int) (fT1 : List (List AV) → Int → Int) (fT2 : List (List AV) → Int → Int) (fT3 : List (List AV) → Int → Int) (row6 : Int → Int → Int → Int → Int → Int → List (List AV)) : Prop :=
  ∀ (gl : Glob) (X : List (List AV)) (i : Int), SrcI X ∧ (0 : Int) ≤ i → True → True → (-9223372036854775808 : Int) ≤ i ∧ i ≤ (9223372036854775807 : Int) → ((SrcI X ∧ (0 : Int) ≤ i)
  ∧ ((-1000000 : Int) ≤ (2500 : Int) ∧ (2500 : Int) ≤ (1000000 : Int)) ∧ (2500 : Int) ≤ (3000 : Int) ∧ (3000 : Int) ≤ (1000000 : Int)) ∧ ((SrcI X ∧ (0 : Int) ≤ rawA X i) ∧ ((-1000000
  : Int) ≤ (2450 : Int) ∧ (2450 : Int) ≤ (1000000 : Int)) ∧ (2450 : Int) ≤ (2850 : Int) ∧ (2850 : Int) ≤ (1000000 : Int)) ∧ ((SrcI X ∧ (0 : Int) ≤ rawA X (rawA X i)) ∧ ((-1000000 :
  Int) ≤ (2200 : Int) ∧ (2200 : Int) ≤ (1000000 : Int)) ∧ (2200 : Int) ≤ (2600 : Int) ∧ (2600 : Int) ≤ (1000000 : Int)) ∧ ((SrcI X ∧ (0 : Int) ≤ rawA X (rawA X (rawA X i))) ∧
  ((-1000000 : Int) ≤ (1200 : Int) ∧ (1200 : Int) ≤ (1000000 : Int)) ∧ (1200 : Int) ≤ (1500 : Int) ∧ (1500 : Int) ≤ (1000000 : Int)) ∧ bif decide (rng IntKind.i64 ((2500 : Int) +
  srcN X i (501 : Int) + ((2450 : Int) + srcN X (rawA X i) (401 : Int)))) then bif decide (rng IntKind.i64 ((5683 : Int) * ((2500 : Int) + srcN X i (501 : Int) + ((2450 : Int) + srcN
  X (rawA X i) (401 : Int))))) then bif decide (rng IntKind.i64 ((5683 : Int) * ((2500 : Int) + srcN X i (501 : Int) + ((2450 : Int) + srcN X (rawA X i) (401 : Int))) + (10000 :
  Int))) then bif decide (rng IntKind.i64 (((5683 : Int) * ((2500 : Int) + srcN X i (501 : Int) + ((2450 : Int) + srcN X (rawA X i) (401 : Int))) + (10000 : Int)).tdiv (20000 :
  Int))) then bif decide (rng IntKind.i64 ((1200 : Int) + srcN X (rawA X (rawA X (rawA X i))) (301 : Int) + ((5683 : Int) * ((2500 : Int) + srcN X i (501 : Int) + ((2450 : Int) +
  srcN X (rawA X i) (401 : Int))) + (10000 : Int)).tdiv (20000 : Int))) then bif decide (rng IntKind.i64 ((2450 : Int) + srcN X (rawA X i) (401 : Int) + ((2200 : Int) + srcN X (rawA
  X (rawA X i)) (401 : Int)))) then bif decide (rng IntKind.i64 ((9848 : Int) * ((2450 : Int) + srcN X (rawA X i) (401 : Int) + ((2200 : Int) + srcN X (rawA X (rawA X i)) (401 :
  Int))))) then bif decide (rng IntKind.i64 ((9848 : Int) * ((2450 : Int) + srcN X (rawA X i) (401 : Int) + ((2200 : Int) + srcN X (rawA X (rawA X i)) (401 : Int))) + (10000 : Int)))
  then bif decide (rng IntKind.i64 (((9848 : Int) * ((2450 : Int) + srcN X (rawA X i) (401 : Int) + ((2200 : Int) + srcN X (rawA X (rawA X i)) (401 : Int))) + (10000 : Int)).tdiv
  (20000 : Int))) then bif decide (rng IntKind.i64 ((1200 : Int) + srcN X (rawA X (rawA X (rawA X i))) (301 : Int) + ((5683 : Int) * ((2500 : Int) + srcN X i (501 : Int) + ((2450 :
  Int) + srcN X (rawA X i) (401 : Int))) + (10000 : Int)).tdiv (20000 : Int) + ((9848 : Int) * ((2450 : Int) + srcN X (rawA X i) (401 : Int) + ((2200 : Int) + srcN X (rawA X (rawA X
  i)) (401 : Int))) + (10000 : Int)).tdiv (20000 : Int))) then True ∧ (6 : Nat) = (6 : Nat) ∧ ((True ∧ X = X) ∧ rawA X (rawA X (rawA X (rawA X i))) = fA X i ∧ True) ∧ row6 ((1200 :
  Int) + srcN X (rawA X (rawA X (rawA X i))) (301 : Int)) ((2500 : Int) + srcN X i (501 : Int)) ((1200 : Int) + srcN X (rawA X (rawA X (rawA X i))) (301 : Int) + ((5683 : Int) *
  ((2500 : Int) + srcN X i (501 : Int) + ((2450 : Int) + srcN X (rawA X i) (401 : Int))) + (10000 : Int)).tdiv (20000 : Int)) ((2450 : Int) + srcN X (rawA X i) (401 : Int)) ((1200 :
  Int) + srcN X (rawA X (rawA X (rawA X i))) (301 : Int) + ((5683 : Int) * ((2500 : Int) + srcN X i (501 : Int) + ((2450 : Int) + srcN X (rawA X i) (401 : Int))) + (10000 :
  Int)).tdiv (20000 : Int) + ((9848 : Int) * ((2450 : Int) + srcN X (rawA X i) (401 : Int) + ((2200 : Int) + srcN X (rawA X (rawA X i)) (401 : Int))) + (10000 : Int)).tdiv (20000 :
  Int)) ((2200 : Int) + srcN X (rawA X (rawA X i)) (401 : Int)) = row6 (fH1 X i) (fT1 X i) (fH2 X i) (fT2 X i) (fH3 X i) (fT3 X i) ∧ True else False else False else False else False
  else False else False else False else False else False else False
set_option maxRecDepth 100000 in
theorem hfit_P : hfit_T fA fH1 fH2 fH3 fT1 fT2 fT3 row6 := by
  unfold hfit_T
  intro gl X i ⟨hs, h0⟩ _ _ _
  have i1 := rawA_le (xs := X) h0
  have i2 := rawA_le (xs := X) i1
  have i3 := rawA_le (xs := X) i2
  have m1 := srcN_lt (xs := X) (i := i) (n := 501) (by decide)
  have m2 := srcN_lt (xs := X) (i := rawA X i) (n := 401) (by decide)
  have m3 := srcN_lt (xs := X) (i := rawA X (rawA X i)) (n := 401) (by decide)
  have m4 := srcN_lt (xs := X) (i := rawA X (rawA X (rawA X i))) (n := 301) (by decide)
  refine ⟨⟨⟨hs, h0⟩, by decide, by decide, by decide⟩, ⟨⟨hs, i1⟩, by decide, by decide, by decide⟩, ⟨⟨hs, i2⟩, by decide, by decide, by decide⟩, ⟨⟨hs, i3⟩, by decide, by decide, by decide⟩, ?_⟩
  have e : ((trivial : True) = (trivial : True)) := rfl
  unfold fH3 fH2 fH1 fT1 fT2 fT3 fA
  generalize srcN X i 501 = a at *
  generalize srcN X (rawA X i) 401 = b at *
  generalize srcN X (rawA X (rawA X i)) 401 = c at *
  generalize srcN X (rawA X (rawA X (rawA X i))) 301 = d at *
  have t1 : (5683 * (2500 + a + (2450 + b)) + 10000).tdiv 20000 = (5683 * (2500 + a + (2450 + b)) + 10000) / 20000 := Int.tdiv_eq_ediv_of_nonneg (by omega)
  have t2 : (9848 * (2450 + b + (2200 + c)) + 10000).tdiv 20000 = (9848 * (2450 + b + (2200 + c)) + 10000) / 20000 := Int.tdiv_eq_ediv_of_nonneg (by omega)
  rw [t1, t2]
  refine cdI (by omega) (cdI (by omega) (cdI (by omega) (cdI (by omega) (cdI (by omega) (cdI (by omega) (cdI (by omega) (cdI (by omega) (cdI (by omega) (cdI (by omega) ?_)))))))))
  exact ⟨trivial, rfl, ⟨⟨trivial, rfl⟩, rfl, trivial⟩, rfl, trivial⟩
def hfit_S (fA : List (List AV) → Int → Int) (fH1 : List (List AV) → Int → Int) (fH2 : List (List AV) → Int → Int) (fH3 : List (List AV) → Int → Int) (fT1 : List (List AV) → Int → Int) (fT2 : List (List AV) → Int → Int) (fT3 : List (List AV) → Int → Int) (row6 : Int → Int → Int → Int → Int → Int → List (List AV)) : Prop := ∀ (gl : Glob) (X : List (List AV)) (i : Int), SrcI X ∧ 0 ≤ i → fnH Tryd.prog { glob := gl, spec := lk [], specH := lk [(16, srcRg_s), (17, (hsix_s row6))], nowf := true } { nt := 40, drop := drp [(1, 32256), (2, 98304), (3, 33423360), (4, 8556380160), (5, 1090921693184)], fr := 1000, kp := [0], own := true } (fun _ _ => none) 6 Tryd.f8 [.ptr 0 0] [.cells [.sl 1 false X, .int .i64 i]] (.rw 1 2 6) [.cells [.sl 1 false X, .int .i64 (fA X i)], .row 32 2 (row6 (fH1 X i) (fT1 X i) (fH2 X i) (fT2 X i) (fH3 X i) (fT3 X i))]
set_option maxRecDepth 100000 in
theorem hfit_e (fA : List (List AV) → Int → Int) (fH1 : List (List AV) → Int → Int) (fH2 : List (List AV) → Int → Int) (fH3 : List (List AV) → Int → Int) (fT1 : List (List AV) → Int → Int) (fT2 : List (List AV) → Int → Int) (fT3 : List (List AV) → Int → Int) (row6 : Int → Int → Int → Int → Int → Int → List (List AV)) : hfit_T fA fH1 fH2 fH3 fT1 fT2 fT3 row6 = hfit_S fA fH1 fH2 fH3 fT1 fT2 fT3 row6 := by kernel_rfl
theorem hfit_v : hfit_S fA fH1 fH2 fH3 fT1 fT2 fT3 row6 := @Eq.mp (hfit_T fA fH1 fH2 fH3 fT1 fT2 fT3 row6) (hfit_S fA fH1 fH2 fH3 fT1 fT2 fT3 row6) (hfit_e fA fH1 fH2 fH3 fT1 fT2 fT3 row6) hfit_P
theorem hfit_ok (gl : Glob) : HOK Tryd.prog gl 8 (hfit_s fA fH1 fH2 fH3 fT1 fT2 fT3) := by
  refine ⟨fok Tryd.func8 (by kernel_rfl) (by kernel_rfl), ?_⟩
  intro xs bs pre r bs2 h hp
  unfold hfit_s at h
  split at h
  · simp only [Option.some.injEq, Prod.mk.injEq] at h
    obtain ⟨h1, h2, h3⟩ := h
    subst h1 h2 h3
    exact fnH_sound tyNil (by exact specOK rfl rfl trivial ⟨srcRg_ok gl, hsix_ok gl, trivial⟩) (by kernel_rfl) Tryd.func8 (hfit_v gl _ _ hp)
  · cases h
def hawake_s : Sp
  | [] => some (True, .bool true)
  | _ => none
set_option maxRecDepth 100000 in
def hawake_T (rL : List (List AV) → Int) (rU : List (List AV) → Int) (bL : List (List AV) → Bool) (bU : List (List AV) → Bool) (vdE : List (List AV) → Int) (chL : List (List AV) → Int → List Int) (chE : List (List AV) → Int → Int) (botL : Int → Int → Int → List Int) : Prop :=
  RdsP [[AV.int IntKind.i64 (6 : Int), AV.int IntKind.i64 (1400 : Int)], [AV.int IntKind.i64 (7 : Int), AV.int IntKind.i64 (2800 : Int)], [AV.int IntKind.i64 (8 : Int), AV.int
  IntKind.i64 (2991 : Int)], [AV.int IntKind.i64 (9 : Int), AV.int IntKind.i64 (2800 : Int)]] ∧ RdsP [[AV.int IntKind.i64 (6 : Int), AV.int IntKind.i64 (1400 : Int)], [AV.int
  IntKind.i64 (7 : Int), AV.int IntKind.i64 (2800 : Int)], [AV.int IntKind.i64 (8 : Int), AV.int IntKind.i64 (2991 : Int)], [AV.int IntKind.i64 (9 : Int), AV.int IntKind.i64 (2800 :
  Int)]] ∧ bif bL [[AV.int IntKind.i64 (6 : Int), AV.int IntKind.i64 (1400 : Int)], [AV.int IntKind.i64 (7 : Int), AV.int IntKind.i64 (2800 : Int)], [AV.int IntKind.i64 (8 : Int),
  AV.int IntKind.i64 (2991 : Int)], [AV.int IntKind.i64 (9 : Int), AV.int IntKind.i64 (2800 : Int)]] then bif !bU [[AV.int IntKind.i64 (6 : Int), AV.int IntKind.i64 (1400 : Int)],
  [AV.int IntKind.i64 (7 : Int), AV.int IntKind.i64 (2800 : Int)], [AV.int IntKind.i64 (8 : Int), AV.int IntKind.i64 (2991 : Int)], [AV.int IntKind.i64 (9 : Int), AV.int IntKind.i64
  (2800 : Int)]] then bif decide (rL [[AV.int IntKind.i64 (6 : Int), AV.int IntKind.i64 (1400 : Int)], [AV.int IntKind.i64 (7 : Int), AV.int IntKind.i64 (2800 : Int)], [AV.int
  IntKind.i64 (8 : Int), AV.int IntKind.i64 (2991 : Int)], [AV.int IntKind.i64 (9 : Int), AV.int IntKind.i64 (2800 : Int)]] = (-4800 : Int)) then bif decide (rU [[AV.int IntKind.i64
  (6 : Int), AV.int IntKind.i64 (1400 : Int)], [AV.int IntKind.i64 (7 : Int), AV.int IntKind.i64 (2800 : Int)], [AV.int IntKind.i64 (8 : Int), AV.int IntKind.i64 (2991 : Int)],
  [AV.int IntKind.i64 (9 : Int), AV.int IntKind.i64 (2800 : Int)]] = (0 : Int)) then bif decide (chE [[AV.int IntKind.i64 (6 : Int), AV.int IntKind.i64 (1400 : Int)], [AV.int
  IntKind.i64 (7 : Int), AV.int IntKind.i64 (2800 : Int)], [AV.int IntKind.i64 (8 : Int), AV.int IntKind.i64 (2991 : Int)], [AV.int IntKind.i64 (9 : Int), AV.int IntKind.i64 (2800 :
  Int)]] (20 : Int) = (0 : Int)) then decide ((↑(iro (chL [[AV.int IntKind.i64 (6 : Int), AV.int IntKind.i64 (1400 : Int)], [AV.int IntKind.i64 (7 : Int), AV.int IntKind.i64 (2800 :
  Int)], [AV.int IntKind.i64 (8 : Int), AV.int IntKind.i64 (2991 : Int)], [AV.int IntKind.i64 (9 : Int), AV.int IntKind.i64 (2800 : Int)]] (20 : Int))).length : Int) = (0 : Int)) =
  true else false = true else false = true else false = true else false = true else false = true
set_option maxRecDepth 100000 in
theorem hawake_P : hawake_T rL rU bL bU vdE chL chE botL := by
  unfold hawake_T
  have h : RdsP [[.int .i64 6, .int .i64 1400], [.int .i64 7, .int .i64 2800], [.int .i64 8, .int .i64 2991], [.int .i64 9, .int .i64 2800]] := rds_of (l := [(6, 1400), (7, 2800), (8, 2991), (9, 2800)]) (by decide) (by decide)
  refine ⟨h, h, ?_⟩
  exact c1 (by kernel_rfl) (c1 (by kernel_rfl) (c1 (by kernel_rfl) (c1 (by kernel_rfl) (c1 (by kernel_rfl) (by kernel_rfl)))))
def hawake_S (rL : List (List AV) → Int) (rU : List (List AV) → Int) (bL : List (List AV) → Bool) (bU : List (List AV) → Bool) (vdE : List (List AV) → Int) (chL : List (List AV) → Int → List Int) (chE : List (List AV) → Int → Int) (botL : Int → Int → Int → List Int) : Prop := fnK Tryd.prog { glob := glb, spec := lk [(15, (hresids_s rL rU bL bU)), (9, (hcheck_s vdE rL rU bL bU chL chE botL))], specH := lk [], nowf := true } { nt := 47, drop := drp [(1, 7936), (2, 1040384), (3, 32505856), (4, 140737454800896)], frz := fun id => cond (Nat.beq id 2) [1] [] } (fun _ _ => none) 6 Tryd.f12 [] (.bool true)
set_option maxRecDepth 100000 in
theorem hawake_e (rL : List (List AV) → Int) (rU : List (List AV) → Int) (bL : List (List AV) → Bool) (bU : List (List AV) → Bool) (vdE : List (List AV) → Int) (chL : List (List AV) → Int → List Int) (chE : List (List AV) → Int → Int) (botL : Int → Int → Int → List Int) : hawake_T rL rU bL bU vdE chL chE botL = hawake_S rL rU bL bU vdE chL chE botL := by kernel_rfl
theorem hawake_v : hawake_S rL rU bL bU vdE chL chE botL := @Eq.mp (hawake_T rL rU bL bU vdE chL chE botL) (hawake_S rL rU bL bU vdE chL chE botL) (hawake_e rL rU bL bU vdE chL chE botL) hawake_P
theorem hawake_ok : SOK Tryd.prog glb 12 hawake_s := by
  refine ⟨fok Tryd.func12 (by kernel_rfl) (by kernel_rfl), ?_⟩
  intro xs pre r h hp
  unfold hawake_s at h
  split at h
  · simp only [Option.some.injEq, Prod.mk.injEq] at h
    obtain ⟨h1, h2⟩ := h
    subst h1 h2
    exact fnK_sound tyNil (by exact specOK rfl rfl ⟨hresids_ok glb, hcheck_ok, trivial⟩ trivial) (by kernel_rfl) Tryd.func12 rfl (hawake_v  )
  · cases h
end Go.Proofs.YtboknhifjhjkdaaDoor
