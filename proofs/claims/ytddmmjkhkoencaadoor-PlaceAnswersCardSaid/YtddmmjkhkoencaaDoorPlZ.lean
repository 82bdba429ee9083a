/- Places: the law of answers. -/
import Derived.Test.YtddmmjkhkoencaaDoorPlR
namespace Go.Proofs.YtddmmjkhkoencaaDoor
open Go
set_option linter.unusedVariables false
set_option linter.unusedSimpArgs false
--KIND across S synoptic/place.Across glob
--KIND rAcross S synoptic/synopticref02.Across

def srcRg_s : SpH
  | [.ptr 0 0, .int .i64 lo, .int .i64 hi], [.cells [.sl 1 false xs, .int .i64 i]] => some ((SrcI xs ∧ 0 ≤ i) ∧ (-1000000 ≤ lo ∧ lo ≤ 1000000) ∧ lo ≤ hi ∧ hi ≤ 1000000, .int .i64 (lo + srcN xs i (hi - lo + 1)), [.cells [.sl 1 false xs, .int .i64 (rawA xs i)]])
  | _, _ => none
set_option maxRecDepth 100000 in
def srcRg_T : Prop :=
  ∀ (gl : Glob) (xs : List (List AV)) (i lo hi : Int), (SrcI xs ∧ (0 : Int) ≤ i) ∧ ((-1000000 : Int) ≤ lo ∧ lo ≤ (1000000 : Int)) ∧ lo ≤ hi ∧ hi ≤ (1000000 : Int) → True →
  (-9223372036854775808 : Int) ≤ lo ∧ lo ≤ (9223372036854775807 : Int) → (-9223372036854775808 : Int) ≤ hi ∧ hi ≤ (9223372036854775807 : Int) → True → (-9223372036854775808 : Int) ≤
  i ∧ i ≤ (9223372036854775807 : Int) → bif decide (rng IntKind.i64 (hi - lo)) then bif decide (rng IntKind.i64 (hi - lo + (1 : Int))) then (SrcI xs ∧ (0 : Int) ≤ i) ∧ bif decide
  (rng IntKind.i64 (lo + srcN xs i (hi - lo + (1 : Int)))) then lo + srcN xs i (hi - lo + (1 : Int)) = lo + srcN xs i (hi - lo + (1 : Int)) ∧ ((True ∧ xs = xs) ∧ rawA xs i = rawA xs
  i ∧ True) ∧ True else False else False else False
set_option maxRecDepth 100000 in
theorem srcRg_P : srcRg_T := by
  unfold srcRg_T
  intro gl xs i lo hi ⟨⟨hs, h0⟩, ⟨l1, l2⟩, l3, l4⟩ _ _ _ _ _
  have h := srcN_lt (xs := xs) (i := i) (n := hi - lo + 1) (by omega)
  exact cdI (by omega) (cdI (by omega) ⟨⟨hs, h0⟩, cdI (by omega) ⟨rfl, ⟨⟨trivial, rfl⟩, rfl, trivial⟩, trivial⟩⟩)
def srcRg_S : Prop := ∀ (gl : Glob) (xs : List (List AV)) (i lo hi : Int), (SrcI xs ∧ 0 ≤ i) ∧ (-1000000 ≤ lo ∧ lo ≤ 1000000) ∧ lo ≤ hi ∧ hi ≤ 1000000 → fnH Tryd.prog { glob := gl, spec := lk [], specH := lk [(21, srcn_s)], nowf := true } { nt := 15, drop := drp [(1, 32640)], fr := 1000, kp := [0] } (fun _ _ => none) 6 Tryd.f22 [.ptr 0 0, .int .i64 lo, .int .i64 hi] [.cells [.sl 1 false xs, .int .i64 i]] (.int .i64 (lo + srcN xs i (hi - lo + 1))) [.cells [.sl 1 false xs, .int .i64 (rawA xs i)]]
set_option maxRecDepth 100000 in
theorem srcRg_e : srcRg_T = srcRg_S := by kernel_rfl
theorem srcRg_v : srcRg_S := @Eq.mp (srcRg_T) (srcRg_S) (srcRg_e) srcRg_P
theorem srcRg_ok (gl : Glob) : HOK Tryd.prog gl 22 srcRg_s := by
  refine ⟨fok Tryd.func22 (by kernel_rfl) (by kernel_rfl), ?_⟩
  intro xs bs pre r bs2 h hp
  unfold srcRg_s at h
  split at h
  · simp only [Option.some.injEq, Prod.mk.injEq] at h
    obtain ⟨h1, h2, h3⟩ := h
    subst h1 h2 h3
    exact fnH_sound tyNil (by exact specOK rfl rfl trivial ⟨srcn_ok gl, trivial⟩) (by kernel_rfl) Tryd.func22 (srcRg_v gl _ _ _ _ hp)
  · cases h
theorem q1 {p : Prop} [Decidable p] {F A : Prop} (h : p) (a : A) : cond (!decide p) F A := by rw [decide_eq_true h]; exact a
theorem q0 {p : Prop} [Decidable p] {F A : Prop} (h : p) (a : A) : cond (decide ¬ p) F A := cd0 (fun k => k h) a
theorem q3 (p q r : Int) {F A : Prop} (a : A) : cond (!(decide (p = p) && (decide (q = q) && (decide (r = r) && true)))) F A := by
  rw [decide_eq_true rfl, decide_eq_true rfl, decide_eq_true rfl]; exact a
theorem q4 (p q r t : Int) {F A : Prop} (a : A) : cond (!(decide (p = p) && (decide (q = q) && (decide (r = r) && (decide (t = t) && true))))) F A := by
  rw [decide_eq_true rfl, decide_eq_true rfl, decide_eq_true rfl, decide_eq_true rfl]; exact a
structure PlcP (xs ys : List (List AV)) : Prop where
  eq : xs = ys
  row : ∀ i, i < xs.length → ∃ n p q r : Int, xs.getD i [] = [.int .i64 n, .int .i64 p, .int .i64 q, .int .i64 r]
  sm : xs.length ≤ 20
structure PlcI (xs : List (List AV)) (i : Int) : Prop where
  lo : 0 ≤ i
  hi : i ≤ xs.length
def plcI (xs ys : List (List AV)) : LInv := ⟨Int, fun i => ⟨[(0, .sl 4 false xs), (1, .sl 4 false ys), (5, .int .i64 i)], []⟩, PlcI xs, fun i => (xs.length - i).toNat, none⟩
def plc_s : Sp
  | [.sl 4 false xs, .sl 4 false ys] => some (PlcP xs ys, .bool true)
  | _ => none
set_option maxRecDepth 100000 in
def plc_T : Prop :=
  ∀ (gl : Glob) (xs ys : List (List AV)), PlcP xs ys → True → True → bif decide ¬(↑xs.length : Int) = (↑ys.length : Int) then false = true else (∃ x, PlcI xs x ∧ ((True ∧ xs = xs) ∧
  (True ∧ ys = ys) ∧ (0 : Int) = x ∧ True) ∧ True) ∧ ∀ (x : Int), PlcI xs x → bif decide (x < (↑xs.length : Int)) then bif decide ((0 : Int) ≤ x ∧ x < (↑xs.length : Int)) then ∃ n
  n_1 n_2 n_3, List.take [AV.int IntKind.i64 n, AV.int IntKind.i64 n_1, AV.int IntKind.i64 n_2, AV.int IntKind.i64 n_3].length (xs.getD x.toNat []) = [AV.int IntKind.i64 n, AV.int
  IntKind.i64 n_1, AV.int IntKind.i64 n_2, AV.int IntKind.i64 n_3] ∧ bif decide ((0 : Int) ≤ x ∧ x < (↑ys.length : Int)) then ∃ n_4 n_5 n_6 n_7, List.take [AV.int IntKind.i64 n_4,
  AV.int IntKind.i64 n_5, AV.int IntKind.i64 n_6, AV.int IntKind.i64 n_7].length (ys.getD x.toNat []) = [AV.int IntKind.i64 n_4, AV.int IntKind.i64 n_5, AV.int IntKind.i64 n_6,
  AV.int IntKind.i64 n_7] ∧ bif !(decide (n = n_4) && (decide (n_1 = n_5) && (decide (n_2 = n_6) && (decide (n_3 = n_7) && true)))) then false = true else bif decide (rng IntKind.i64
  (x + (1 : Int))) then ∃ y, PlcI xs y ∧ (plcI xs ys).m y < (plcI xs ys).m x ∧ ((True ∧ xs = xs) ∧ (True ∧ ys = ys) ∧ x + (1 : Int) = y ∧ True) ∧ True else False else False else
  False else true = true
set_option maxRecDepth 100000 in
theorem plc_P : plc_T := by
  unfold plc_T
  intro gl xs ys ⟨he, hr, hs⟩ _ _
  subst he
  refine q0 rfl ⟨⟨0, ⟨by decide, by omega⟩, ⟨⟨trivial, rfl⟩, ⟨trivial, rfl⟩, rfl, trivial⟩, trivial⟩, ?_⟩
  rintro i ⟨h0, h1⟩
  refine cs (fun hl => ?_) (fun _ => rfl)
  obtain ⟨n, p, q, r, e⟩ := hr i.toNat (by omega)
  exact cd1 ⟨h0, hl⟩ ⟨n, p, q, r, by rw [e]; rfl, cd1 ⟨h0, hl⟩ ⟨n, p, q, r, by rw [e]; rfl, q4 _ _ _ _ (cdI (by omega) ⟨i + 1, ⟨by omega, by omega⟩, by simp only [plcI]; omega, ⟨⟨trivial, rfl⟩, ⟨trivial, rfl⟩, rfl, trivial⟩, trivial⟩)⟩⟩
def plc_S : Prop := ∀ (gl : Glob) (xs ys : List (List AV)), PlcP xs ys → fnK Tryd.prog { glob := gl, spec := lk [], specH := lk [], shape := [20, 24], nowf := true } { nt := 26, drop := drp [(1, 960), (4, 14336), (5, 98304), (6, 33423360)], tys := [26] } (invs [(4, plcI xs ys)]) 6 Tryd.f26 [.sl 4 false xs, .sl 4 false ys] (.bool true)
set_option maxRecDepth 100000 in
theorem plc_e : plc_T = plc_S := by kernel_rfl
theorem plc_v : plc_S := @Eq.mp (plc_T) (plc_S) (plc_e) plc_P
theorem plc_ok (gl : Glob) : SOK Tryd.prog gl 26 plc_s := by
  refine ⟨fok Tryd.func26 (by kernel_rfl) (by kernel_rfl), ?_⟩
  intro xs pre r h hp
  unfold plc_s at h
  split at h
  · simp only [Option.some.injEq, Prod.mk.injEq] at h
    obtain ⟨h1, h2⟩ := h
    subst h1 h2
    exact fnK_sound (tyOf (by kernel_rfl)) (by exact specOK rfl rfl trivial trivial) (by kernel_rfl) Tryd.func26 rfl (plc_v gl _ _ hp)
  · cases h
def acrS_s (AN AE : Int → Int → Int) : Sp
  | [.int .i64 n, .int .i64 c] => some (True, .tup [.int .i64 (AN n c), .int .i64 (AE n c)])
  | _ => none
def corS_s (K : Int → Nat → Int) (KE : Int → Int) : Sp
  | [.int .i64 n] => some (True, .tup [.agg [.int .i64 (K n 0), .int .i64 (K n 1), .int .i64 (K n 2)], .int .i64 (KE n)])
  | _ => none
def smS_s (SM : Int → Int → Int → Int → Int → Int → Int → Int → Bool) : Sp
  | [.agg [.int .i64 f, .int .i64 a, .int .i64 b, .int .i64 c], .agg [.int .i64 f', .int .i64 a', .int .i64 b', .int .i64 c']] => some (True, .bool (SM f a b c f' a' b' c'))
  | _ => none
def nrS_s (n0 n1 n2 n3 NE : Int → Int → Int → Int → Int) : Sp
  | [.agg [.int .i64 f, .int .i64 a, .int .i64 b, .int .i64 c]] => some (True, .tup [.agg [.int .i64 (n0 f a b c), .int .i64 (n1 f a b c), .int .i64 (n2 f a b c), .int .i64 (n3 f a b c)], .int .i64 (NE f a b c)])
  | _ => none
def adS_s (L : Int → Int → Int → Int → List (List AV)) (NE : Int → Int → Int → Int → Int) : Sp
  | [.agg [.int .i64 f, .int .i64 a, .int .i64 b, .int .i64 c]] => some (True, .tup [.sl 4 false (L f a b c), .int .i64 (NE f a b c)])
  | _ => none
def fmS_s (T : Int → Int → Int → Int → ByteArray) (NE : Int → Int → Int → Int → Int) : Sp
  | [.agg [.int .i64 f, .int .i64 a, .int .i64 b, .int .i64 c]] => some (True, .tup [.str (T f a b c), .int .i64 (NE f a b c)])
  | _ => none
def vlS_s (V : Int → Int → Int → Int → Bool) : Sp
  | [.agg [.int .i64 f, .int .i64 a, .int .i64 b, .int .i64 c]] => some (True, .bool (V f a b c))
  | _ => none
structure AnsP (zs X : List (List AV)) (F A B C J : Int → Int) (L : Int → Int → Int → Int → List (List AV)) : Prop where
  ints : IntsA zs
  tk : zs.take 2000 = X
  src : SrcI X
  jle : ∀ i, 0 ≤ i → 0 ≤ J i
  plc : ∀ f a b c, PlcP (L f a b c) (L f a b c)
set_option maxRecDepth 100000 in
def lAns_T : Prop :=
  ∀ (f0 a0 b0 c0 f1 a1 b1 c1 face cor : Int) (zs X : List (List AV)) (F A B C J : Int → Int) (L : Int → Int → Int → Int → List (List AV)) (T : Int → Int → Int → Int → ByteArray) (V :
  Int → Int → Int → Int → Bool) (NE n0 n1 n2 n3 : Int → Int → Int → Int → Int) (SM : Int → Int → Int → Int → Int → Int → Int → Int → Bool) (K : Int → Nat → Int) (KE : Int → Int) (AN
  AE : Int → Int → Int), AnsP zs X F A B C J L → ((-9223372036854775808 : Int) ≤ f0 ∧ f0 ≤ (9223372036854775807 : Int)) ∧ ((-9223372036854775808 : Int) ≤ a0 ∧ a0 ≤
  (9223372036854775807 : Int)) ∧ ((-9223372036854775808 : Int) ≤ b0 ∧ b0 ≤ (9223372036854775807 : Int)) ∧ ((-9223372036854775808 : Int) ≤ c0 ∧ c0 ≤ (9223372036854775807 : Int)) ∧
  True → ((-9223372036854775808 : Int) ≤ f1 ∧ f1 ≤ (9223372036854775807 : Int)) ∧ ((-9223372036854775808 : Int) ≤ a1 ∧ a1 ≤ (9223372036854775807 : Int)) ∧ ((-9223372036854775808 :
  Int) ≤ b1 ∧ b1 ≤ (9223372036854775807 : Int)) ∧ ((-9223372036854775808 : Int) ≤ c1 ∧ c1 ≤ (9223372036854775807 : Int)) ∧ True → True → (-9223372036854775808 : Int) ≤ face ∧ face ≤
  (9223372036854775807 : Int) → (-9223372036854775808 : Int) ≤ cor ∧ cor ≤ (9223372036854775807 : Int) → List.take (2000 : Nat) zs = X ∧ (X = X ∧ (0 : Int) ≤ (0 : Int)) ∧ (X = X ∧ (0
  : Int) ≤ J (0 : Int)) ∧ ((SrcI X ∧ (0 : Int) ≤ J (J (0 : Int))) ∧ ((-1000000 : Int) ≤ (-1 : Int) ∧ (-1 : Int) ≤ (1000000 : Int)) ∧ (-1 : Int) ≤ (21 : Int) ∧ (21 : Int) ≤ (1000000 :
  Int)) ∧ ((SrcI X ∧ (0 : Int) ≤ rawA X (J (J (0 : Int)))) ∧ ((-1000000 : Int) ≤ (-1 : Int) ∧ (-1 : Int) ≤ (1000000 : Int)) ∧ (-1 : Int) ≤ (841 : Int) ∧ (841 : Int) ≤ (1000000 :
  Int)) ∧ (SrcI X ∧ (0 : Int) ≤ rawA X (rawA X (J (J (0 : Int))))) ∧ (SrcI X ∧ (0 : Int) ≤ rawA X (rawA X (rawA X (J (J (0 : Int)))))) ∧ True ∧ True ∧ True ∧ True ∧ True ∧ True ∧ bif
  !(decide (n0 f0 a0 b0 c0 = n0 f0 a0 b0 c0) && (decide (n1 f0 a0 b0 c0 = n1 f0 a0 b0 c0) && (decide (n2 f0 a0 b0 c0 = n2 f0 a0 b0 c0) && (decide (n3 f0 a0 b0 c0 = n3 f0 a0 b0 c0) &&
  true)))) then false = true else bif decide ¬NE f0 a0 b0 c0 = NE f0 a0 b0 c0 then false = true else bif decide ¬NE f0 a0 b0 c0 = NE f0 a0 b0 c0 then false = true else bif decide ¬NE
  f0 a0 b0 c0 = NE f0 a0 b0 c0 then false = true else bif !decide (T f0 a0 b0 c0 = T f0 a0 b0 c0) then false = true else PlcP (L f0 a0 b0 c0) (L f0 a0 b0 c0) ∧ True ∧ True ∧ bif
  !decide (V f0 a0 b0 c0 = V f0 a0 b0 c0) then false = true else True ∧ True ∧ bif !decide (SM f0 a0 b0 c0 (F (0 : Int)) (A (0 : Int)) (B (0 : Int)) (C (0 : Int)) = SM f0 a0 b0 c0 (F
  (0 : Int)) (A (0 : Int)) (B (0 : Int)) (C (0 : Int))) then false = true else True ∧ True ∧ bif !decide (SM f0 a0 b0 c0 f0 a0 b0 c0 = SM f0 a0 b0 c0 f0 a0 b0 c0) then false = true
  else True ∧ True ∧ True ∧ True ∧ True ∧ True ∧ bif !(decide (n0 f1 a1 b1 c1 = n0 f1 a1 b1 c1) && (decide (n1 f1 a1 b1 c1 = n1 f1 a1 b1 c1) && (decide (n2 f1 a1 b1 c1 = n2 f1 a1 b1
  c1) && (decide (n3 f1 a1 b1 c1 = n3 f1 a1 b1 c1) && true)))) then false = true else bif decide ¬NE f1 a1 b1 c1 = NE f1 a1 b1 c1 then false = true else bif decide ¬NE f1 a1 b1 c1 =
  NE f1 a1 b1 c1 then false = true else bif decide ¬NE f1 a1 b1 c1 = NE f1 a1 b1 c1 then false = true else bif !decide (T f1 a1 b1 c1 = T f1 a1 b1 c1) then false = true else PlcP (L
  f1 a1 b1 c1) (L f1 a1 b1 c1) ∧ True ∧ True ∧ bif !decide (V f1 a1 b1 c1 = V f1 a1 b1 c1) then false = true else True ∧ True ∧ bif !decide (SM f1 a1 b1 c1 (F (0 : Int)) (A (0 :
  Int)) (B (0 : Int)) (C (0 : Int)) = SM f1 a1 b1 c1 (F (0 : Int)) (A (0 : Int)) (B (0 : Int)) (C (0 : Int))) then false = true else True ∧ True ∧ bif !decide (SM f0 a0 b0 c0 f1 a1
  b1 c1 = SM f0 a0 b0 c0 f1 a1 b1 c1) then false = true else True ∧ True ∧ True ∧ True ∧ True ∧ True ∧ bif !(decide (n0 (F (0 : Int)) (A (0 : Int)) (B (0 : Int)) (C (0 : Int)) = n0
  (F (0 : Int)) (A (0 : Int)) (B (0 : Int)) (C (0 : Int))) && (decide (n1 (F (0 : Int)) (A (0 : Int)) (B (0 : Int)) (C (0 : Int)) = n1 (F (0 : Int)) (A (0 : Int)) (B (0 : Int)) (C (0
  : Int))) && (decide (n2 (F (0 : Int)) (A (0 : Int)) (B (0 : Int)) (C (0 : Int)) = n2 (F (0 : Int)) (A (0 : Int)) (B (0 : Int)) (C (0 : Int))) && (decide (n3 (F (0 : Int)) (A (0 :
  Int)) (B (0 : Int)) (C (0 : Int)) = n3 (F (0 : Int)) (A (0 : Int)) (B (0 : Int)) (C (0 : Int))) && true)))) then false = true else bif decide ¬NE (F (0 : Int)) (A (0 : Int)) (B (0
  : Int)) (C (0 : Int)) = NE (F (0 : Int)) (A (0 : Int)) (B (0 : Int)) (C (0 : Int)) then false = true else bif decide ¬NE (F (0 : Int)) (A (0 : Int)) (B (0 : Int)) (C (0 : Int)) =
  NE (F (0 : Int)) (A (0 : Int)) (B (0 : Int)) (C (0 : Int)) then false = true else bif decide ¬NE (F (0 : Int)) (A (0 : Int)) (B (0 : Int)) (C (0 : Int)) = NE (F (0 : Int)) (A (0 :
  Int)) (B (0 : Int)) (C (0 : Int)) then false = true else bif !decide (T (F (0 : Int)) (A (0 : Int)) (B (0 : Int)) (C (0 : Int)) = T (F (0 : Int)) (A (0 : Int)) (B (0 : Int)) (C (0
  : Int))) then false = true else PlcP (L (F (0 : Int)) (A (0 : Int)) (B (0 : Int)) (C (0 : Int))) (L (F (0 : Int)) (A (0 : Int)) (B (0 : Int)) (C (0 : Int))) ∧ True ∧ True ∧ bif
  !decide (V (F (0 : Int)) (A (0 : Int)) (B (0 : Int)) (C (0 : Int)) = V (F (0 : Int)) (A (0 : Int)) (B (0 : Int)) (C (0 : Int))) then false = true else True ∧ True ∧ bif !decide (SM
  (F (0 : Int)) (A (0 : Int)) (B (0 : Int)) (C (0 : Int)) (F (0 : Int)) (A (0 : Int)) (B (0 : Int)) (C (0 : Int)) = SM (F (0 : Int)) (A (0 : Int)) (B (0 : Int)) (C (0 : Int)) (F (0 :
  Int)) (A (0 : Int)) (B (0 : Int)) (C (0 : Int))) then false = true else True ∧ True ∧ bif !decide (SM f0 a0 b0 c0 (F (0 : Int)) (A (0 : Int)) (B (0 : Int)) (C (0 : Int)) = SM f0 a0
  b0 c0 (F (0 : Int)) (A (0 : Int)) (B (0 : Int)) (C (0 : Int))) then false = true else True ∧ True ∧ True ∧ True ∧ True ∧ True ∧ bif !(decide (n0 (F (J (0 : Int))) (A (J (0 : Int)))
  (B (J (0 : Int))) (C (J (0 : Int))) = n0 (F (J (0 : Int))) (A (J (0 : Int))) (B (J (0 : Int))) (C (J (0 : Int)))) && (decide (n1 (F (J (0 : Int))) (A (J (0 : Int))) (B (J (0 :
  Int))) (C (J (0 : Int))) = n1 (F (J (0 : Int))) (A (J (0 : Int))) (B (J (0 : Int))) (C (J (0 : Int)))) && (decide (n2 (F (J (0 : Int))) (A (J (0 : Int))) (B (J (0 : Int))) (C (J (0
  : Int))) = n2 (F (J (0 : Int))) (A (J (0 : Int))) (B (J (0 : Int))) (C (J (0 : Int)))) && (decide (n3 (F (J (0 : Int))) (A (J (0 : Int))) (B (J (0 : Int))) (C (J (0 : Int))) = n3
  (F (J (0 : Int))) (A (J (0 : Int))) (B (J (0 : Int))) (C (J (0 : Int)))) && true)))) then false = true else bif decide ¬NE (F (J (0 : Int))) (A (J (0 : Int))) (B (J (0 : Int))) (C
  (J (0 : Int))) = NE (F (J (0 : Int))) (A (J (0 : Int))) (B (J (0 : Int))) (C (J (0 : Int))) then false = true else bif decide ¬NE (F (J (0 : Int))) (A (J (0 : Int))) (B (J (0 :
  Int))) (C (J (0 : Int))) = NE (F (J (0 : Int))) (A (J (0 : Int))) (B (J (0 : Int))) (C (J (0 : Int))) then false = true else bif decide ¬NE (F (J (0 : Int))) (A (J (0 : Int))) (B
  (J (0 : Int))) (C (J (0 : Int))) = NE (F (J (0 : Int))) (A (J (0 : Int))) (B (J (0 : Int))) (C (J (0 : Int))) then false = true else bif !decide (T (F (J (0 : Int))) (A (J (0 :
  Int))) (B (J (0 : Int))) (C (J (0 : Int))) = T (F (J (0 : Int))) (A (J (0 : Int))) (B (J (0 : Int))) (C (J (0 : Int)))) then false = true else PlcP (L (F (J (0 : Int))) (A (J (0 :
  Int))) (B (J (0 : Int))) (C (J (0 : Int)))) (L (F (J (0 : Int))) (A (J (0 : Int))) (B (J (0 : Int))) (C (J (0 : Int)))) ∧ True ∧ True ∧ bif !decide (V (F (J (0 : Int))) (A (J (0 :
  Int))) (B (J (0 : Int))) (C (J (0 : Int))) = V (F (J (0 : Int))) (A (J (0 : Int))) (B (J (0 : Int))) (C (J (0 : Int)))) then false = true else True ∧ True ∧ bif !decide (SM (F (J
  (0 : Int))) (A (J (0 : Int))) (B (J (0 : Int))) (C (J (0 : Int))) (F (0 : Int)) (A (0 : Int)) (B (0 : Int)) (C (0 : Int)) = SM (F (J (0 : Int))) (A (J (0 : Int))) (B (J (0 : Int)))
  (C (J (0 : Int))) (F (0 : Int)) (A (0 : Int)) (B (0 : Int)) (C (0 : Int))) then false = true else True ∧ True ∧ bif !decide (SM f0 a0 b0 c0 (F (J (0 : Int))) (A (J (0 : Int))) (B
  (J (0 : Int))) (C (J (0 : Int))) = SM f0 a0 b0 c0 (F (J (0 : Int))) (A (J (0 : Int))) (B (J (0 : Int))) (C (J (0 : Int)))) then false = true else True ∧ True ∧ True ∧ True ∧ True ∧
  True ∧ bif !(decide (n0 ((-1 : Int) + srcN X (J (J (0 : Int))) (23 : Int)) ((-1 : Int) + srcN X (rawA X (J (J (0 : Int)))) (843 : Int)) (srcN X (rawA X (rawA X (J (J (0 : Int)))))
  (10 : Int)) (srcN X (rawA X (rawA X (rawA X (J (J (0 : Int)))))) (840 : Int)) = n0 ((-1 : Int) + srcN X (J (J (0 : Int))) (23 : Int)) ((-1 : Int) + srcN X (rawA X (J (J (0 :
  Int)))) (843 : Int)) (srcN X (rawA X (rawA X (J (J (0 : Int))))) (10 : Int)) (srcN X (rawA X (rawA X (rawA X (J (J (0 : Int)))))) (840 : Int))) && (decide (n1 ((-1 : Int) + srcN X
  (J (J (0 : Int))) (23 : Int)) ((-1 : Int) + srcN X (rawA X (J (J (0 : Int)))) (843 : Int)) (srcN X (rawA X (rawA X (J (J (0 : Int))))) (10 : Int)) (srcN X (rawA X (rawA X (rawA X
  (J (J (0 : Int)))))) (840 : Int)) = n1 ((-1 : Int) + srcN X (J (J (0 : Int))) (23 : Int)) ((-1 : Int) + srcN X (rawA X (J (J (0 : Int)))) (843 : Int)) (srcN X (rawA X (rawA X (J (J
  (0 : Int))))) (10 : Int)) (srcN X (rawA X (rawA X (rawA X (J (J (0 : Int)))))) (840 : Int))) && (decide (n2 ((-1 : Int) + srcN X (J (J (0 : Int))) (23 : Int)) ((-1 : Int) + srcN X
  (rawA X (J (J (0 : Int)))) (843 : Int)) (srcN X (rawA X (rawA X (J (J (0 : Int))))) (10 : Int)) (srcN X (rawA X (rawA X (rawA X (J (J (0 : Int)))))) (840 : Int)) = n2 ((-1 : Int) +
  srcN X (J (J (0 : Int))) (23 : Int)) ((-1 : Int) + srcN X (rawA X (J (J (0 : Int)))) (843 : Int)) (srcN X (rawA X (rawA X (J (J (0 : Int))))) (10 : Int)) (srcN X (rawA X (rawA X
  (rawA X (J (J (0 : Int)))))) (840 : Int))) && (decide (n3 ((-1 : Int) + srcN X (J (J (0 : Int))) (23 : Int)) ((-1 : Int) + srcN X (rawA X (J (J (0 : Int)))) (843 : Int)) (srcN X
  (rawA X (rawA X (J (J (0 : Int))))) (10 : Int)) (srcN X (rawA X (rawA X (rawA X (J (J (0 : Int)))))) (840 : Int)) = n3 ((-1 : Int) + srcN X (J (J (0 : Int))) (23 : Int)) ((-1 :
  Int) + srcN X (rawA X (J (J (0 : Int)))) (843 : Int)) (srcN X (rawA X (rawA X (J (J (0 : Int))))) (10 : Int)) (srcN X (rawA X (rawA X (rawA X (J (J (0 : Int)))))) (840 : Int))) &&
  true)))) then false = true else bif decide ¬NE ((-1 : Int) + srcN X (J (J (0 : Int))) (23 : Int)) ((-1 : Int) + srcN X (rawA X (J (J (0 : Int)))) (843 : Int)) (srcN X (rawA X (rawA
  X (J (J (0 : Int))))) (10 : Int)) (srcN X (rawA X (rawA X (rawA X (J (J (0 : Int)))))) (840 : Int)) = NE ((-1 : Int) + srcN X (J (J (0 : Int))) (23 : Int)) ((-1 : Int) + srcN X
  (rawA X (J (J (0 : Int)))) (843 : Int)) (srcN X (rawA X (rawA X (J (J (0 : Int))))) (10 : Int)) (srcN X (rawA X (rawA X (rawA X (J (J (0 : Int)))))) (840 : Int)) then false = true
  else bif decide ¬NE ((-1 : Int) + srcN X (J (J (0 : Int))) (23 : Int)) ((-1 : Int) + srcN X (rawA X (J (J (0 : Int)))) (843 : Int)) (srcN X (rawA X (rawA X (J (J (0 : Int))))) (10
  : Int)) (srcN X (rawA X (rawA X (rawA X (J (J (0 : Int)))))) (840 : Int)) = NE ((-1 : Int) + srcN X (J (J (0 : Int))) (23 : Int)) ((-1 : Int) + srcN X (rawA X (J (J (0 : Int))))
  (843 : Int)) (srcN X (rawA X (rawA X (J (J (0 : Int))))) (10 : Int)) (srcN X (rawA X (rawA X (rawA X (J (J (0 : Int)))))) (840 : Int)) then false = true else bif decide ¬NE ((-1 :
  Int) + srcN X (J (J (0 : Int))) (23 : Int)) ((-1 : Int) + srcN X (rawA X (J (J (0 : Int)))) (843 : Int)) (srcN X (rawA X (rawA X (J (J (0 : Int))))) (10 : Int)) (srcN X (rawA X
  (rawA X (rawA X (J (J (0 : Int)))))) (840 : Int)) = NE ((-1 : Int) + srcN X (J (J (0 : Int))) (23 : Int)) ((-1 : Int) + srcN X (rawA X (J (J (0 : Int)))) (843 : Int)) (srcN X (rawA
  X (rawA X (J (J (0 : Int))))) (10 : Int)) (srcN X (rawA X (rawA X (rawA X (J (J (0 : Int)))))) (840 : Int)) then false = true else bif !decide (T ((-1 : Int) + srcN X (J (J (0 :
  Int))) (23 : Int)) ((-1 : Int) + srcN X (rawA X (J (J (0 : Int)))) (843 : Int)) (srcN X (rawA X (rawA X (J (J (0 : Int))))) (10 : Int)) (srcN X (rawA X (rawA X (rawA X (J (J (0 :
  Int)))))) (840 : Int)) = T ((-1 : Int) + srcN X (J (J (0 : Int))) (23 : Int)) ((-1 : Int) + srcN X (rawA X (J (J (0 : Int)))) (843 : Int)) (srcN X (rawA X (rawA X (J (J (0 :
  Int))))) (10 : Int)) (srcN X (rawA X (rawA X (rawA X (J (J (0 : Int)))))) (840 : Int))) then false = true else PlcP (L ((-1 : Int) + srcN X (J (J (0 : Int))) (23 : Int)) ((-1 :
  Int) + srcN X (rawA X (J (J (0 : Int)))) (843 : Int)) (srcN X (rawA X (rawA X (J (J (0 : Int))))) (10 : Int)) (srcN X (rawA X (rawA X (rawA X (J (J (0 : Int)))))) (840 : Int))) (L
  ((-1 : Int) + srcN X (J (J (0 : Int))) (23 : Int)) ((-1 : Int) + srcN X (rawA X (J (J (0 : Int)))) (843 : Int)) (srcN X (rawA X (rawA X (J (J (0 : Int))))) (10 : Int)) (srcN X
  (rawA X (rawA X (rawA X (J (J (0 : Int)))))) (840 : Int))) ∧ True ∧ True ∧ bif !decide (V ((-1 : Int) + srcN X (J (J (0 : Int))) (23 : Int)) ((-1 : Int) + srcN X (rawA X (J (J (0 :
  Int)))) (843 : Int)) (srcN X (rawA X (rawA X (J (J (0 : Int))))) (10 : Int)) (srcN X (rawA X (rawA X (rawA X (J (J (0 : Int)))))) (840 : Int)) = V ((-1 : Int) + srcN X (J (J (0 :
  Int))) (23 : Int)) ((-1 : Int) + srcN X (rawA X (J (J (0 : Int)))) (843 : Int)) (srcN X (rawA X (rawA X (J (J (0 : Int))))) (10 : Int)) (srcN X (rawA X (rawA X (rawA X (J (J (0 :
  Int)))))) (840 : Int))) then false = true else True ∧ True ∧ bif !decide (SM ((-1 : Int) + srcN X (J (J (0 : Int))) (23 : Int)) ((-1 : Int) + srcN X (rawA X (J (J (0 : Int)))) (843
  : Int)) (srcN X (rawA X (rawA X (J (J (0 : Int))))) (10 : Int)) (srcN X (rawA X (rawA X (rawA X (J (J (0 : Int)))))) (840 : Int)) (F (0 : Int)) (A (0 : Int)) (B (0 : Int)) (C (0 :
  Int)) = SM ((-1 : Int) + srcN X (J (J (0 : Int))) (23 : Int)) ((-1 : Int) + srcN X (rawA X (J (J (0 : Int)))) (843 : Int)) (srcN X (rawA X (rawA X (J (J (0 : Int))))) (10 : Int))
  (srcN X (rawA X (rawA X (rawA X (J (J (0 : Int)))))) (840 : Int)) (F (0 : Int)) (A (0 : Int)) (B (0 : Int)) (C (0 : Int))) then false = true else True ∧ True ∧ bif !decide (SM f0
  a0 b0 c0 ((-1 : Int) + srcN X (J (J (0 : Int))) (23 : Int)) ((-1 : Int) + srcN X (rawA X (J (J (0 : Int)))) (843 : Int)) (srcN X (rawA X (rawA X (J (J (0 : Int))))) (10 : Int))
  (srcN X (rawA X (rawA X (rawA X (J (J (0 : Int)))))) (840 : Int)) = SM f0 a0 b0 c0 ((-1 : Int) + srcN X (J (J (0 : Int))) (23 : Int)) ((-1 : Int) + srcN X (rawA X (J (J (0 :
  Int)))) (843 : Int)) (srcN X (rawA X (rawA X (J (J (0 : Int))))) (10 : Int)) (srcN X (rawA X (rawA X (rawA X (J (J (0 : Int)))))) (840 : Int))) then false = true else (SrcI X ∧ (0
  : Int) ≤ rawA X (rawA X (rawA X (rawA X (J (J (0 : Int))))))) ∧ (SrcI X ∧ (0 : Int) ≤ rawA X (rawA X (rawA X (rawA X (rawA X (J (J (0 : Int)))))))) ∧ (SrcI X ∧ (0 : Int) ≤ rawA X
  (rawA X (rawA X (rawA X (rawA X (rawA X (J (J (0 : Int))))))))) ∧ (SrcI X ∧ (0 : Int) ≤ rawA X (rawA X (rawA X (rawA X (rawA X (rawA X (rawA X (J (J (0 : Int)))))))))) ∧ True ∧
  True ∧ True ∧ True ∧ bif !(decide (K face (0 : Nat) = K face (0 : Nat)) && (decide (K face (1 : Nat) = K face (1 : Nat)) && (decide (K face (2 : Nat) = K face (2 : Nat)) && true)))
  then false = true else bif decide ¬KE face = KE face then false = true else bif decide ¬AN face cor = AN face cor then false = true else bif decide ¬AE face cor = AE face cor then
  false = true else True ∧ True ∧ True ∧ True ∧ bif !(decide (K (srcN X (rawA X (rawA X (rawA X (rawA X (J (J (0 : Int))))))) (20 : Int)) (0 : Nat) = K (srcN X (rawA X (rawA X (rawA
  X (rawA X (J (J (0 : Int))))))) (20 : Int)) (0 : Nat)) && (decide (K (srcN X (rawA X (rawA X (rawA X (rawA X (J (J (0 : Int))))))) (20 : Int)) (1 : Nat) = K (srcN X (rawA X (rawA X
  (rawA X (rawA X (J (J (0 : Int))))))) (20 : Int)) (1 : Nat)) && (decide (K (srcN X (rawA X (rawA X (rawA X (rawA X (J (J (0 : Int))))))) (20 : Int)) (2 : Nat) = K (srcN X (rawA X
  (rawA X (rawA X (rawA X (J (J (0 : Int))))))) (20 : Int)) (2 : Nat)) && true))) then false = true else bif decide ¬KE (srcN X (rawA X (rawA X (rawA X (rawA X (J (J (0 : Int)))))))
  (20 : Int)) = KE (srcN X (rawA X (rawA X (rawA X (rawA X (J (J (0 : Int))))))) (20 : Int)) then false = true else bif decide ¬AN (srcN X (rawA X (rawA X (rawA X (rawA X (J (J (0 :
  Int))))))) (20 : Int)) (srcN X (rawA X (rawA X (rawA X (rawA X (rawA X (J (J (0 : Int)))))))) (3 : Int)) = AN (srcN X (rawA X (rawA X (rawA X (rawA X (J (J (0 : Int))))))) (20 :
  Int)) (srcN X (rawA X (rawA X (rawA X (rawA X (rawA X (J (J (0 : Int)))))))) (3 : Int)) then false = true else bif decide ¬AE (srcN X (rawA X (rawA X (rawA X (rawA X (J (J (0 :
  Int))))))) (20 : Int)) (srcN X (rawA X (rawA X (rawA X (rawA X (rawA X (J (J (0 : Int)))))))) (3 : Int)) = AE (srcN X (rawA X (rawA X (rawA X (rawA X (J (J (0 : Int))))))) (20 :
  Int)) (srcN X (rawA X (rawA X (rawA X (rawA X (rawA X (J (J (0 : Int)))))))) (3 : Int)) then false = true else True ∧ True ∧ True ∧ True ∧ bif !(decide (K (srcN X (rawA X (rawA X
  (rawA X (rawA X (rawA X (rawA X (J (J (0 : Int))))))))) (20 : Int)) (0 : Nat) = K (srcN X (rawA X (rawA X (rawA X (rawA X (rawA X (rawA X (J (J (0 : Int))))))))) (20 : Int)) (0 :
  Nat)) && (decide (K (srcN X (rawA X (rawA X (rawA X (rawA X (rawA X (rawA X (J (J (0 : Int))))))))) (20 : Int)) (1 : Nat) = K (srcN X (rawA X (rawA X (rawA X (rawA X (rawA X (rawA
  X (J (J (0 : Int))))))))) (20 : Int)) (1 : Nat)) && (decide (K (srcN X (rawA X (rawA X (rawA X (rawA X (rawA X (rawA X (J (J (0 : Int))))))))) (20 : Int)) (2 : Nat) = K (srcN X
  (rawA X (rawA X (rawA X (rawA X (rawA X (rawA X (J (J (0 : Int))))))))) (20 : Int)) (2 : Nat)) && true))) then false = true else bif decide ¬KE (srcN X (rawA X (rawA X (rawA X
  (rawA X (rawA X (rawA X (J (J (0 : Int))))))))) (20 : Int)) = KE (srcN X (rawA X (rawA X (rawA X (rawA X (rawA X (rawA X (J (J (0 : Int))))))))) (20 : Int)) then false = true else
  bif decide ¬AN (srcN X (rawA X (rawA X (rawA X (rawA X (rawA X (rawA X (J (J (0 : Int))))))))) (20 : Int)) cor = AN (srcN X (rawA X (rawA X (rawA X (rawA X (rawA X (rawA X (J (J (0
  : Int))))))))) (20 : Int)) cor then false = true else bif decide ¬AE (srcN X (rawA X (rawA X (rawA X (rawA X (rawA X (rawA X (J (J (0 : Int))))))))) (20 : Int)) cor = AE (srcN X
  (rawA X (rawA X (rawA X (rawA X (rawA X (rawA X (J (J (0 : Int))))))))) (20 : Int)) cor then false = true else True ∧ True ∧ True ∧ True ∧ bif !(decide (K face (0 : Nat) = K face
  (0 : Nat)) && (decide (K face (1 : Nat) = K face (1 : Nat)) && (decide (K face (2 : Nat) = K face (2 : Nat)) && true))) then false = true else bif decide ¬KE face = KE face then
  false = true else bif decide ¬AN face (srcN X (rawA X (rawA X (rawA X (rawA X (rawA X (rawA X (rawA X (J (J (0 : Int)))))))))) (3 : Int)) = AN face (srcN X (rawA X (rawA X (rawA X
  (rawA X (rawA X (rawA X (rawA X (J (J (0 : Int)))))))))) (3 : Int)) then false = true else bif decide ¬AE face (srcN X (rawA X (rawA X (rawA X (rawA X (rawA X (rawA X (rawA X (J (J
  (0 : Int)))))))))) (3 : Int)) = AE face (srcN X (rawA X (rawA X (rawA X (rawA X (rawA X (rawA X (rawA X (J (J (0 : Int)))))))))) (3 : Int)) then false = true else True ∧ true =
  true
set_option maxRecDepth 100000 in
theorem lAns_P : lAns_T := by
  unfold lAns_T
  intro f0 a0 b0 c0 f1 a1 b1 c1 face cor zs X F A B C J L T V NE n0 n1 n2 n3 SM K KE AN AE ⟨hz, hX, hs, hj, hp⟩
  intros
  have j1 := hj 0 (by decide)
  have j2 := hj (J 0) j1
  have i1 := rawA_le (xs := X) j2
  have i2 := rawA_le (xs := X) i1
  have i3 := rawA_le (xs := X) i2
  have i4 := rawA_le (xs := X) i3
  have i5 := rawA_le (xs := X) i4
  have i6 := rawA_le (xs := X) i5
  have i7 := rawA_le (xs := X) i6
  refine ⟨hX, ⟨rfl, by decide⟩, ⟨rfl, j1⟩, ⟨⟨hs, j2⟩, by decide, by decide, by decide⟩, ⟨⟨hs, i1⟩, by decide, by decide, by decide⟩, ⟨hs, i2⟩, ⟨hs, i3⟩, ?_⟩
  repeat (first
    | refine ⟨trivial, ?_⟩
    | refine q4 _ _ _ _ ?_
    | refine q3 _ _ _ ?_
    | refine q0 rfl ?_
    | refine q1 rfl ?_
    | refine ⟨hp _ _ _ _, ?_⟩
    | refine ⟨⟨hs, by assumption⟩, ?_⟩)
  rfl
def lAns_S : Prop := ∀ (f0 a0 b0 c0 f1 a1 b1 c1 face cor : Int) (zs X : List (List AV)) (F A B C J : Int → Int) (L : Int → Int → Int → Int → List (List AV)) (T : Int → Int → Int → Int → ByteArray) (V : Int → Int → Int → Int → Bool) (NE n0 n1 n2 n3 : Int → Int → Int → Int → Int) (SM : Int → Int → Int → Int → Int → Int → Int → Int → Bool) (K : Int → Nat → Int) (KE : Int → Int) (AN AE : Int → Int → Int), AnsP zs X F A B C J L → fnK Tryd.prog { glob := glb, spec := lk [(14, awake_s), (26, plc_s), (12, nrS_s n0 n1 n2 n3 NE), (23, nrS_s n0 n1 n2 n3 NE), (11, adS_s L NE), (24, adS_s L NE), (17, fmS_s T NE), (25, fmS_s T NE), (27, vlS_s V), (28, vlS_s V), (13, smS_s SM), (29, smS_s SM), (16, corS_s K KE), (30, corS_s K KE), (20, acrS_s AN AE), (31, acrS_s AN AE)], specH := lk [(21, srcn_s), (22, srcRg_s), (9, newg_s X), (10, swg_s X F A B C J)], nowf := true } { nt := 218, drop := drp [(1, 824633720832), (2, 16492674416640), (3, 144097595889811456), (5, 6917529027641081856), (6, 285924533142498050048), (7, 9149585060559937601536), (8, 292786721937918003249152), (9, 9369175102013376103972864), (10, 299813603264428035327131648), (11, 9594035304461697130468212736), (12, 89202980794122482662622558807551246830927872), (14, 178405961588244985132285746181186892047843328), (15, 23383669385371270201288692751968165940710825000960), (17, 1122433257470133441180429951526105359095756193005568), (18, 94284393627491209059156115928192850164043520212467712), (19, 6034201192159437379785991419404342410498785293597933568), (20, 1563145451683206635525513967693315367291113904627274219520), (21, 400165235630900898694531575729488734026525159584582200197120), (22, 52655744099767528601390128351312130868796917149526109928946663424), (24, 105312291668557186697918027683670432318895095400549111254310977536), (25, 210624583337114373395836055367340864637790190801098222508621955072)], tys := [26, 39] } (fun _ _ => none) 6 Tryd.f8 [.agg [.int .i64 f0, .int .i64 a0, .int .i64 b0, .int .i64 c0], .agg [.int .i64 f1, .int .i64 a1, .int .i64 b1, .int .i64 c1], .sl 1 false zs, .int .i64 face, .int .i64 cor] (.bool true)
set_option maxRecDepth 100000 in
theorem lAns_e : lAns_T = lAns_S := by kernel_rfl
theorem lAns_v : lAns_S := @Eq.mp (lAns_T) (lAns_S) (lAns_e) lAns_P
def anE (n c : Int) : Int := if fac n && decide (0 ≤ c ∧ c < 3) then 0 else 1
def anN (n c : Int) : Int := if fac n && decide (0 ≤ c ∧ c < 3) then acrF n c else 0
theorem adr_plc (f a b c : Int) : PlcP (adr f a b c) (adr f a b c) := by
  refine ⟨rfl, ?_, ?_⟩
  · intro i hi
    by_cases hv : Vld f a b c
    · obtain ⟨l, hl⟩ := adr_rows hv
      rw [hl.adr] at hi ⊢
      rw [List.length_map] at hi
      rw [List.getD_eq_getElem?_getD, List.getElem?_map, List.getElem?_eq_getElem hi]
      exact ⟨_, _, _, _, rfl⟩
    · exfalso
      unfold adr vld at hi
      rw [decide_eq_false hv] at hi
      simp at hi
  · unfold adr
    split
    · exact adr_len f a b c 20
    · simp
theorem answers_law (f0 a0 b0 c0 f1 a1 b1 c1 face cor : Int) (zs : List (List AV)) (hz : IntsA zs) :
    PureC Tryd.prog glb 8 [.agg [.int .i64 f0, .int .i64 a0, .int .i64 b0, .int .i64 c0], .agg [.int .i64 f1, .int .i64 a1, .int .i64 b1, .int .i64 c1], .sl 1 false zs, .int .i64 face, .int .i64 cor] (.bool true) := by
  have sok : ∀ {f : FuncId} {s s' : Sp}, SOK Tryd.prog glb f s → (∀ xs p r, s' xs = some (p, r) → ∃ q, s xs = some (q, r) ∧ q) → SOK Tryd.prog glb f s' :=
    fun h k => ⟨h.1, fun xs p r e _ => by obtain ⟨q, e1, hq⟩ := k xs p r e; exact h.2 xs q r e1 hq⟩
  have a_ok : SOK Tryd.prog glb 20 (acrS_s anN anE) := sok across_ok fun xs p r e => by
    unfold acrS_s at e; split at e
    · simp only [Option.some.injEq, Prod.mk.injEq] at e; obtain ⟨_, rfl⟩ := e; exact ⟨_, rfl, trivial⟩
    · cases e
  have ra_ok : SOK Tryd.prog glb 31 (acrS_s anN anE) := sok (rAcross_ok glb) fun xs p r e => by
    unfold acrS_s at e; split at e
    · simp only [Option.some.injEq, Prod.mk.injEq] at e; obtain ⟨_, rfl⟩ := e; exact ⟨_, rfl, trivial⟩
    · cases e
  have c_ok : SOK Tryd.prog glb 16 (corS_s (fun n i => if fac n then crn n i else 0) (fun n => if fac n then 0 else 1)) := sok corners_ok fun xs p r e => by
    unfold corS_s at e; split at e
    · simp only [Option.some.injEq, Prod.mk.injEq] at e; obtain ⟨_, rfl⟩ := e; exact ⟨_, rfl, trivial⟩
    · cases e
  have rc_ok : SOK Tryd.prog glb 30 (corS_s (fun n i => if fac n then crn n i else 0) (fun n => if fac n then 0 else 1)) := sok (rCorners_ok glb) fun xs p r e => by
    unfold corS_s at e; split at e
    · simp only [Option.some.injEq, Prod.mk.injEq] at e; obtain ⟨_, rfl⟩ := e; exact ⟨_, rfl, trivial⟩
    · cases e
  have s_ok : SOK Tryd.prog glb 13 (smS_s (fun f a b c f' a' b' c' => vld f a b c && vld f' a' b' c' && sameW f a b c f' a' b' c')) := sok same_ok fun xs p r e => by
    unfold smS_s at e; split at e
    · simp only [Option.some.injEq, Prod.mk.injEq] at e; obtain ⟨_, rfl⟩ := e; exact ⟨_, rfl, trivial⟩
    · cases e
  have rs_ok : SOK Tryd.prog glb 29 (smS_s (fun f a b c f' a' b' c' => vld f a b c && vld f' a' b' c' && sameW f a b c f' a' b' c')) := sok (rSame_ok glb) fun xs p r e => by
    unfold smS_s at e; split at e
    · simp only [Option.some.injEq, Prod.mk.injEq] at e; obtain ⟨_, rfl⟩ := e; exact ⟨_, rfl, trivial⟩
    · cases e
  have n_ok : SOK Tryd.prog glb 12 (nrS_s (fun f a b c => (nrm f a b c).1) (fun f a b c => (nrm f a b c).2.1) (fun f a b c => (nrm f a b c).2.2.1) (fun f a b c => (nrm f a b c).2.2.2) (fun f a b c => err (vld f a b c))) := sok normal_ok fun xs p r e => by
    unfold nrS_s at e; split at e
    · simp only [Option.some.injEq, Prod.mk.injEq] at e; obtain ⟨_, rfl⟩ := e; exact ⟨_, rfl, trivial⟩
    · cases e
  have rn_ok : SOK Tryd.prog glb 23 (nrS_s (fun f a b c => (nrm f a b c).1) (fun f a b c => (nrm f a b c).2.1) (fun f a b c => (nrm f a b c).2.2.1) (fun f a b c => (nrm f a b c).2.2.2) (fun f a b c => err (vld f a b c))) := sok (rNormal_ok glb) fun xs p r e => by
    unfold nrS_s at e; split at e
    · simp only [Option.some.injEq, Prod.mk.injEq] at e; obtain ⟨_, rfl⟩ := e; exact ⟨_, rfl, trivial⟩
    · cases e
  have ad_ok : SOK Tryd.prog glb 11 (adS_s adr (fun f a b c => err (vld f a b c))) := sok addresses_ok fun xs p r e => by
    unfold adS_s at e; split at e
    · simp only [Option.some.injEq, Prod.mk.injEq] at e; obtain ⟨_, rfl⟩ := e; exact ⟨_, rfl, trivial⟩
    · cases e
  have rad_ok : SOK Tryd.prog glb 24 (adS_s adr (fun f a b c => err (vld f a b c))) := sok (rAddresses_ok glb) fun xs p r e => by
    unfold adS_s at e; split at e
    · simp only [Option.some.injEq, Prod.mk.injEq] at e; obtain ⟨_, rfl⟩ := e; exact ⟨_, rfl, trivial⟩
    · cases e
  have f_ok : SOK Tryd.prog glb 17 (fmS_s fmt (fun f a b c => err (vld f a b c))) := sok (format_ok glb) fun xs p r e => by
    unfold fmS_s at e; split at e
    · simp only [Option.some.injEq, Prod.mk.injEq] at e; obtain ⟨_, rfl⟩ := e; exact ⟨_, rfl, trivial⟩
    · cases e
  have rf_ok : SOK Tryd.prog glb 25 (fmS_s fmt (fun f a b c => err (vld f a b c))) := sok (rFormat_ok glb) fun xs p r e => by
    unfold fmS_s at e; split at e
    · simp only [Option.some.injEq, Prod.mk.injEq] at e; obtain ⟨_, rfl⟩ := e; exact ⟨_, rfl, trivial⟩
    · cases e
  have v_ok : SOK Tryd.prog glb 27 (vlS_s vld) := sok (valid_ok glb) fun xs p r e => by
    unfold vlS_s at e; split at e
    · simp only [Option.some.injEq, Prod.mk.injEq] at e; obtain ⟨_, rfl⟩ := e; exact ⟨_, rfl, trivial⟩
    · cases e
  have rv_ok : SOK Tryd.prog glb 28 (vlS_s vld) := sok (rValid_ok glb) fun xs p r e => by
    unfold vlS_s at e; split at e
    · simp only [Option.some.injEq, Prod.mk.injEq] at e; obtain ⟨_, rfl⟩ := e; exact ⟨_, rfl, trivial⟩
    · cases e
  have hw := swg_P zs _ rfl
  exact fnK_sound (tyOf (by kernel_rfl)) (by exact specOK rfl rfl ⟨awake_ok, plc_ok glb, n_ok, rn_ok, ad_ok, rad_ok, f_ok, rf_ok, v_ok, rv_ok, s_ok, rs_ok, c_ok, rc_ok, a_ok, ra_ok, trivial⟩ ⟨srcn_ok glb, srcRg_ok glb, newg_ok glb _, swg_ok glb _ (SrcI.take hz), trivial⟩) (by kernel_rfl) Tryd.func8 rfl
    (lAns_v f0 a0 b0 c0 f1 a1 b1 c1 face cor zs _ _ _ _ _ _ adr fmt vld _ _ _ _ _ _ _ _ _ _ ⟨hz, rfl, SrcI.take hz, hw.jle, adr_plc⟩)
end Go.Proofs.YtddmmjkhkoencaaDoor
