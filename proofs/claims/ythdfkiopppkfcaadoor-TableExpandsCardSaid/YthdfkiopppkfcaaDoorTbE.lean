/- Tables: lists of entries alike; the law's example. -/
import Derived.Test.YthdfkiopppkfcaaDoorTbR
namespace Go.Proofs.YthdfkiopppkfcaaDoor
open Go
set_option linter.unusedVariables false
set_option linter.unusedSimpArgs false

def numsR (r : List AV) : List Int := r.map fun y => match y with
  | .int _ n => n
  | _ => 0
def sameE (xs ys : List (List AV)) : Bool := decide (xs.length = ys.length ∧ ∀ j, j < xs.length → numsR (xs.getD j []) = numsR (ys.getD j []))
theorem sameE_rfl (xs : List (List AV)) : sameE xs xs = true := decide_eq_true ⟨rfl, fun _ _ => rfl⟩
structure SmP (xs ys : List (List AV)) (i : Int) : Prop where
  flo : 0 ≤ i
  fhi : i ≤ xs.length
  fe : ∀ j : Nat, (j : Int) < i → numsR (xs.getD j []) = numsR (ys.getD j [])
def smL (f g : Bool) (xs ys : List (List AV)) : LInv := ⟨Int, fun i => ⟨[(0, .sl 5 f xs), (1, .sl 5 g ys), (5, .int .i64 i)], []⟩, SmP xs ys, fun i => (xs.length - i).toNat, none⟩
def smH (f : Bool) (xs ys : List (List AV)) (n : Nat) : LInv := ⟨Int, fun i => ⟨[(0, .sl 5 f xs), (1, .rw 0 5 n), (5, .int .i64 i)], [(0, .row 23 5 ys)]⟩, SmP xs ys, fun i => (xs.length - i).toNat, none⟩
def tsame_s (sameE : List (List AV) → List (List AV) → Bool) : Sp
  | [.sl 5 f xs, .sl 5 g ys] => some (EnsP xs ∧ EnsP ys, .bool (sameE xs ys))
  | _ => none
set_option maxRecDepth 100000 in
def tsame_T (sameE : List (List AV) → List (List AV) → Bool) : Prop :=
  ∀ (gl : Glob) (f g : Bool) (xs ys : List (List AV)), EnsP xs ∧ EnsP ys → True → True → bif decide ¬(↑xs.length : Int) = (↑ys.length : Int) then false = sameE xs ys else (∃ x, SmP
  xs ys x ∧ (((bif f then f = true else True) ∧ xs = xs) ∧ ((bif g then g = true else True) ∧ ys = ys) ∧ (0 : Int) = x ∧ True) ∧ True) ∧ ∀ (x : Int), SmP xs ys x → bif decide (x <
  (↑xs.length : Int)) then bif decide ((0 : Int) ≤ x ∧ x < (↑xs.length : Int)) then ∃ n n_1 n_2 n_3 n_4, List.take [AV.int IntKind.i64 n, AV.int IntKind.i64 n_1, AV.int IntKind.i64
  n_2, AV.int IntKind.i64 n_3, AV.int IntKind.i64 n_4].length (xs.getD x.toNat []) = [AV.int IntKind.i64 n, AV.int IntKind.i64 n_1, AV.int IntKind.i64 n_2, AV.int IntKind.i64 n_3,
  AV.int IntKind.i64 n_4] ∧ bif decide ((0 : Int) ≤ x ∧ x < (↑ys.length : Int)) then ∃ n_5 n_6 n_7 n_8 n_9, List.take [AV.int IntKind.i64 n_5, AV.int IntKind.i64 n_6, AV.int
  IntKind.i64 n_7, AV.int IntKind.i64 n_8, AV.int IntKind.i64 n_9].length (ys.getD x.toNat []) = [AV.int IntKind.i64 n_5, AV.int IntKind.i64 n_6, AV.int IntKind.i64 n_7, AV.int
  IntKind.i64 n_8, AV.int IntKind.i64 n_9] ∧ bif !(decide (n = n_5) && (decide (n_1 = n_6) && (decide (n_2 = n_7) && (decide (n_3 = n_8) && (decide (n_4 = n_9) && true))))) then
  false = sameE xs ys else bif decide (rng IntKind.i64 (x + (1 : Int))) then ∃ y, SmP xs ys y ∧ (smL f g xs ys).m y < (smL f g xs ys).m x ∧ (((bif f then f = true else True) ∧ xs =
  xs) ∧ ((bif g then g = true else True) ∧ ys = ys) ∧ x + (1 : Int) = y ∧ True) ∧ True else False else False else False else true = sameE xs ys
set_option maxRecDepth 100000 in
theorem tsame_P : tsame_T sameE := by
  unfold tsame_T
  intro gl f g xs ys ⟨hx, hy⟩
  intros
  have bf : cond f (f = true) True := by cases f <;> trivial
  have bg : cond g (g = true) True := by cases g <;> trivial
  refine csx (fun h => ?_) (fun h => ⟨⟨0, ⟨by decide, by omega, fun j h => by omega⟩, ⟨⟨bf, rfl⟩, ⟨bg, rfl⟩, rfl, trivial⟩, trivial⟩, ?_⟩)
  · have : sameE xs ys = false := decide_eq_false fun q => by omega
    exact this.symm
  rintro i ⟨i0, i1, ie⟩
  have h := Decidable.not_not.1 h
  have hl := hx.fl
  refine csx (fun hi => cd1 (by omega) ?_) (fun hi => ?_)
  · obtain ⟨a1, a2, a3, a4, a5, ha, _⟩ := hx.fr i.toNat (by omega)
    obtain ⟨b1, b2, b3, b4, b5, hb, _⟩ := hy.fr i.toNat (by omega)
    refine ⟨a1, a2, a3, a4, a5, by rw [ha]; rfl, cd1 (by omega) ⟨b1, b2, b3, b4, b5, by rw [hb]; rfl, csplit (fun q => ?_) (fun q => ?_)⟩⟩
    · have : sameE xs ys = false := decide_eq_false fun w => by
        have := w.2 i.toNat (by omega)
        rw [ha, hb] at this
        simp only [numsR, List.map_cons, List.map_nil, List.cons.injEq] at this
        obtain ⟨e1, e2, e3, e4, e5, _⟩ := this
        rw [e1, e2, e3, e4, e5] at q
        simp at q
      exact this.symm
    · simp only [Bool.not_eq_false', Bool.and_eq_true, decide_eq_true_eq] at q
      obtain ⟨e1, e2, e3, e4, e5, _⟩ := q
      refine cdI (by omega) ⟨i + 1, ⟨by omega, by omega, fun j hj => ?_⟩, by simp only [smL]; omega, ⟨⟨bf, rfl⟩, ⟨bg, rfl⟩, rfl, trivial⟩, trivial⟩
      rcases Nat.lt_or_ge j i.toNat with k | k
      · exact ie j (by omega)
      · rw [show j = i.toNat by omega, ha, hb, e1, e2, e3, e4, e5]
  · have : sameE xs ys = true := decide_eq_true ⟨by omega, fun j hj => ie j (by omega)⟩
    exact this.symm
def tsame_S (sameE : List (List AV) → List (List AV) → Bool) : Prop := ∀ (gl : Glob) (f g : Bool) (xs ys : List (List AV)), EnsP xs ∧ EnsP ys → fnK Tryd.prog { glob := gl, spec := lk [], specH := lk [], shape := [20, 24], nowf := true } { nt := 26, drop := drp [(1, 960), (4, 14336), (5, 98304), (6, 33423360)], tys := [23] } (invs [(4, smL f g xs ys)]) 6 Tryd.f19 [.sl 5 f xs, .sl 5 g ys] (.bool (sameE xs ys))
set_option maxRecDepth 100000 in
theorem tsame_e (sameE : List (List AV) → List (List AV) → Bool) : tsame_T sameE = tsame_S sameE := by kernel_rfl
theorem tsame_v : tsame_S sameE := @Eq.mp (tsame_T sameE) (tsame_S sameE) (tsame_e sameE) (tsame_P)
theorem tsame_ok (gl : Glob) : SOK Tryd.prog gl 19 (tsame_s sameE) := by
  refine ⟨fok Tryd.func19 (by kernel_rfl) (by kernel_rfl), ?_⟩
  intro xs pre r h hp
  unfold tsame_s at h
  split at h
  · simp only [Option.some.injEq, Prod.mk.injEq] at h
    obtain ⟨h1, h2⟩ := h
    subst h1 h2
    exact fnK_sound (tyOf (by kernel_rfl)) (by exact specOK rfl rfl trivial trivial) (by kernel_rfl) Tryd.func19 rfl (tsame_v gl _ _ _ _ hp)
  · cases h
def tsameH_s (sameE : List (List AV) → List (List AV) → Bool) : SpH
  | [.sl 5 f xs, .rw 0 5 n], [.row 23 5 ys] => some ((EnsP xs ∧ EnsP ys) ∧ n = ys.length, .bool (sameE xs ys), [.row 23 5 ys])
  | _, _ => none
set_option maxRecDepth 100000 in
def tsameH_T (sameE : List (List AV) → List (List AV) → Bool) : Prop :=
  ∀ (gl : Glob) (f : Bool) (xs ys : List (List AV)) (n : Nat), (EnsP xs ∧ EnsP ys) ∧ n = ys.length → True → True → bif decide ¬(↑xs.length : Int) = (↑n : Int) then false = sameE xs
  ys ∧ ys = ys ∧ True else (∃ x, SmP xs ys x ∧ (((bif f then f = true else True) ∧ xs = xs) ∧ n = n ∧ (0 : Int) = x ∧ True) ∧ ys = ys ∧ True) ∧ ∀ (x : Int), SmP xs ys x → bif decide
  (x < (↑xs.length : Int)) then bif decide ((0 : Int) ≤ x ∧ x < (↑xs.length : Int)) then ∃ n_1 n_2 n_3 n_4 n_5, List.take [AV.int IntKind.i64 n_1, AV.int IntKind.i64 n_2, AV.int
  IntKind.i64 n_3, AV.int IntKind.i64 n_4, AV.int IntKind.i64 n_5].length (xs.getD x.toNat []) = [AV.int IntKind.i64 n_1, AV.int IntKind.i64 n_2, AV.int IntKind.i64 n_3, AV.int
  IntKind.i64 n_4, AV.int IntKind.i64 n_5] ∧ bif decide ((0 : Int) ≤ x ∧ x < (↑n : Int)) then bif decide (n = ys.length ∧ x.toNat < ys.length) then ∃ n_6 n_7 n_8 n_9 n_10, List.take
  [AV.int IntKind.i64 n_6, AV.int IntKind.i64 n_7, AV.int IntKind.i64 n_8, AV.int IntKind.i64 n_9, AV.int IntKind.i64 n_10].length (List.drop (0 : Nat) (ys.getD x.toNat [])) =
  [AV.int IntKind.i64 n_6, AV.int IntKind.i64 n_7, AV.int IntKind.i64 n_8, AV.int IntKind.i64 n_9, AV.int IntKind.i64 n_10] ∧ bif !(decide (n_1 = n_6) && (decide (n_2 = n_7) &&
  (decide (n_3 = n_8) && (decide (n_4 = n_9) && (decide (n_5 = n_10) && true))))) then false = sameE xs ys ∧ ys = ys ∧ True else bif decide (rng IntKind.i64 (x + (1 : Int))) then ∃
  y, SmP xs ys y ∧ (smH f xs ys n).m y < (smH f xs ys n).m x ∧ (((bif f then f = true else True) ∧ xs = xs) ∧ n = n ∧ x + (1 : Int) = y ∧ True) ∧ ys = ys ∧ True else False else False
  else False else False else true = sameE xs ys ∧ ys = ys ∧ True
set_option maxRecDepth 100000 in
theorem tsameH_P : tsameH_T sameE := by
  unfold tsameH_T
  intro gl f xs ys n ⟨⟨hx, hy⟩, hn⟩
  subst hn
  intros
  have bf : cond f (f = true) True := by cases f <;> trivial
  refine csx (fun h => ?_) (fun h => ⟨⟨0, ⟨by decide, by omega, fun j h => by omega⟩, ⟨⟨bf, rfl⟩, rfl, rfl, trivial⟩, rfl, trivial⟩, ?_⟩)
  · have : sameE xs ys = false := decide_eq_false fun q => by omega
    exact ⟨this.symm, rfl, trivial⟩
  rintro i ⟨i0, i1, ie⟩
  have h := Decidable.not_not.1 h
  have hl := hx.fl
  refine csx (fun hi => cd1 (by omega) ?_) (fun hi => ?_)
  · obtain ⟨a1, a2, a3, a4, a5, ha, _⟩ := hx.fr i.toNat (by omega)
    obtain ⟨b1, b2, b3, b4, b5, hb, _⟩ := hy.fr i.toNat (by omega)
    refine ⟨a1, a2, a3, a4, a5, by rw [ha]; rfl, cd1 (by omega) (cd1 ⟨rfl, by omega⟩ ⟨b1, b2, b3, b4, b5, by rw [hb]; rfl, csplit (fun q => ?_) (fun q => ?_)⟩)⟩
    · have : sameE xs ys = false := decide_eq_false fun w => by
        have := w.2 i.toNat (by omega)
        rw [ha, hb] at this
        simp only [numsR, List.map_cons, List.map_nil, List.cons.injEq] at this
        obtain ⟨e1, e2, e3, e4, e5, _⟩ := this
        rw [e1, e2, e3, e4, e5] at q
        simp at q
      exact ⟨this.symm, rfl, trivial⟩
    · simp only [Bool.not_eq_false', Bool.and_eq_true, decide_eq_true_eq] at q
      obtain ⟨e1, e2, e3, e4, e5, _⟩ := q
      refine cdI (by omega) ⟨i + 1, ⟨by omega, by omega, fun j hj => ?_⟩, by simp only [smH]; omega, ⟨⟨bf, rfl⟩, rfl, rfl, trivial⟩, rfl, trivial⟩
      rcases Nat.lt_or_ge j i.toNat with k | k
      · exact ie j (by omega)
      · rw [show j = i.toNat by omega, ha, hb, e1, e2, e3, e4, e5]
  · have : sameE xs ys = true := decide_eq_true ⟨by omega, fun j hj => ie j (by omega)⟩
    exact ⟨this.symm, rfl, trivial⟩
def tsameH_S (sameE : List (List AV) → List (List AV) → Bool) : Prop := ∀ (gl : Glob) (f : Bool) (xs ys : List (List AV)) (n : Nat), (EnsP xs ∧ EnsP ys) ∧ n = ys.length → fnH Tryd.prog { glob := gl, spec := lk [], specH := lk [], shape := [20, 24], nowf := true } { nt := 26, drop := drp [(1, 960), (4, 14336), (5, 98304), (6, 33423360)], fr := 1000, kp := [0], tys := [23] } (invs [(4, smH f xs ys n)]) 6 Tryd.f19 [.sl 5 f xs, .rw 0 5 n] [.row 23 5 ys] (.bool (sameE xs ys)) [.row 23 5 ys]
set_option maxRecDepth 100000 in
theorem tsameH_e (sameE : List (List AV) → List (List AV) → Bool) : tsameH_T sameE = tsameH_S sameE := by kernel_rfl
theorem tsameH_v : tsameH_S sameE := @Eq.mp (tsameH_T sameE) (tsameH_S sameE) (tsameH_e sameE) (tsameH_P)
theorem tsameH_ok (gl : Glob) : HOK Tryd.prog gl 19 (tsameH_s sameE) := by
  refine ⟨fok Tryd.func19 (by kernel_rfl) (by kernel_rfl), ?_⟩
  intro xs bs pre r bs2 h hp
  unfold tsameH_s at h
  split at h
  · simp only [Option.some.injEq, Prod.mk.injEq] at h
    obtain ⟨h1, h2, h3⟩ := h
    subst h1 h2 h3
    exact fnH_sound (tyOf (by kernel_rfl)) (by exact specOK rfl rfl trivial trivial) (by kernel_rfl) Tryd.func19 (tsameH_v gl _ _ _ _ hp)
  · cases h
def tseven_s : Sp
  | [] => some (True, .agg [.int .i64 7, .int .i64 1, .int .i64 10, .int .i64 5, .int .i64 8000])
  | _ => none
set_option maxRecDepth 100000 in
def tseven_T : Prop :=
  ∀ (gl : Glob), (7 : Int) = (7 : Int) ∧ (1 : Int) = (1 : Int) ∧ (10 : Int) = (10 : Int) ∧ (5 : Int) = (5 : Int) ∧ (8000 : Int) = (8000 : Int) ∧ True
set_option maxRecDepth 100000 in
theorem tseven_P : tseven_T := by
  unfold tseven_T
  intro gl
  exact ⟨rfl, rfl, rfl, rfl, rfl, trivial⟩
def tseven_S : Prop := ∀ (gl : Glob), fnK Tryd.prog { glob := gl, spec := lk [], specH := lk [], nowf := true } { nt := 2, drop := drp [(1, 2)] } (fun _ _ => none) 6 Tryd.f11 [] (.agg [.int .i64 7, .int .i64 1, .int .i64 10, .int .i64 5, .int .i64 8000])
set_option maxRecDepth 100000 in
theorem tseven_e : tseven_T = tseven_S := by kernel_rfl
theorem tseven_v : tseven_S := @Eq.mp (tseven_T) (tseven_S) (tseven_e) (tseven_P)
theorem tseven_ok (gl : Glob) : SOK Tryd.prog gl 11 tseven_s := by
  refine ⟨fok Tryd.func11 (by kernel_rfl) (by kernel_rfl), ?_⟩
  intro xs pre r h hp
  unfold tseven_s at h
  split at h
  · simp only [Option.some.injEq, Prod.mk.injEq] at h
    obtain ⟨h1, h2⟩ := h
    subst h1 h2
    exact fnK_sound tyNil (by exact specOK rfl rfl trivial trivial) (by kernel_rfl) Tryd.func11 rfl (tseven_v gl )
  · cases h
theorem cds_of (l : List Int) (h : ∀ n ∈ l, rng .i64 n) (hl : l.length ≤ 1000) : CdsP (l.map fun n => [AV.int .i64 n]) := by
  refine ⟨fun i hi => ?_, by simp; omega⟩
  have hi' : i < l.length := by simpa using hi
  refine ⟨l[i], ?_, h _ (List.getElem_mem hi')⟩
  rw [List.getD_eq_getElem?_getD, List.getElem?_map, List.getElem?_eq_getElem hi']; rfl
def sevR : List AV := [.int .i64 7, .int .i64 1, .int .i64 10, .int .i64 5, .int .i64 8000]
theorem ens_sev : EnsP [sevR] ∧ EnsP [sevR, sevR] := by
  have row : ∃ c e w sc l : Int, sevR = [.int .i64 c, .int .i64 e, .int .i64 w, .int .i64 sc, .int .i64 l] ∧ rng .i64 c ∧ rng .i64 e ∧ rng .i64 w ∧ rng .i64 sc ∧ rng .i64 l := ⟨7, 1, 10, 5, 8000, rfl, by decide, by decide, by decide, by decide, by decide⟩
  refine ⟨⟨fun i hi => ?_, by simp⟩, ⟨fun i hi => ?_, by simp⟩⟩
  · have : i = 0 := by simp at hi; exact hi
    subst this; exact row
  · have : i = 0 ∨ i = 1 := by simp at hi; omega
    rcases this with rfl | rfl <;> exact row
theorem sqs_nil : SqsP [] := ⟨fun i hi => by simp at hi, by simp⟩
theorem exp_awake : exE [sevR] [] 1 [[.int .i64 20102], [.int .i64 7]] = 0 ∧ exO [sevR] [] 1 [[.int .i64 20102], [.int .i64 7]] = [sevR, sevR] ∧ exE [sevR] [] 1 [[.int .i64 20202], [.int .i64 7]] = 11 := ⟨rfl, rfl, rfl⟩
def tawake_s : Sp
  | [] => some (True, .bool true)
  | _ => none
set_option maxRecDepth 100000 in
def tawake_T (exO : LLA → LLA → Int → LLA → LLA) (exE : LLA → LLA → Int → LLA → Int) : Prop :=
  True ∧ ((EnsP [[AV.int IntKind.i64 (7 : Int), AV.int IntKind.i64 (1 : Int), AV.int IntKind.i64 (10 : Int), AV.int IntKind.i64 (5 : Int), AV.int IntKind.i64 (8000 : Int)]] ∧ SqsP
  []) ∧ CdsP [[AV.int IntKind.i64 (20102 : Int)], [AV.int IntKind.i64 (7 : Int)]]) ∧ ((EnsP [[AV.int IntKind.i64 (7 : Int), AV.int IntKind.i64 (1 : Int), AV.int IntKind.i64 (10 :
  Int), AV.int IntKind.i64 (5 : Int), AV.int IntKind.i64 (8000 : Int)]] ∧ SqsP []) ∧ CdsP [[AV.int IntKind.i64 (20202 : Int)], [AV.int IntKind.i64 (7 : Int)]]) ∧ True ∧ True ∧ True ∧
  True ∧ bif decide (exE [[AV.int IntKind.i64 (7 : Int), AV.int IntKind.i64 (1 : Int), AV.int IntKind.i64 (10 : Int), AV.int IntKind.i64 (5 : Int), AV.int IntKind.i64 (8000 : Int)]]
  [] (1 : Int) [[AV.int IntKind.i64 (20102 : Int)], [AV.int IntKind.i64 (7 : Int)]] = (0 : Int)) then bif decide (exE [[AV.int IntKind.i64 (7 : Int), AV.int IntKind.i64 (1 : Int),
  AV.int IntKind.i64 (10 : Int), AV.int IntKind.i64 (5 : Int), AV.int IntKind.i64 (8000 : Int)]] [] (1 : Int) [[AV.int IntKind.i64 (20202 : Int)], [AV.int IntKind.i64 (7 : Int)]] =
  (11 : Int)) then True ∧ True ∧ ((EnsP (exO [[AV.int IntKind.i64 (7 : Int), AV.int IntKind.i64 (1 : Int), AV.int IntKind.i64 (10 : Int), AV.int IntKind.i64 (5 : Int), AV.int
  IntKind.i64 (8000 : Int)]] [] (1 : Int) [[AV.int IntKind.i64 (20102 : Int)], [AV.int IntKind.i64 (7 : Int)]]) ∧ EnsP [[AV.int IntKind.i64 (7 : Int), AV.int IntKind.i64 (1 : Int),
  AV.int IntKind.i64 (10 : Int), AV.int IntKind.i64 (5 : Int), AV.int IntKind.i64 (8000 : Int)], [AV.int IntKind.i64 (7 : Int), AV.int IntKind.i64 (1 : Int), AV.int IntKind.i64 (10 :
  Int), AV.int IntKind.i64 (5 : Int), AV.int IntKind.i64 (8000 : Int)]]) ∧ (2 : Nat) = (2 : Nat)) ∧ bif sameE (exO [[AV.int IntKind.i64 (7 : Int), AV.int IntKind.i64 (1 : Int),
  AV.int IntKind.i64 (10 : Int), AV.int IntKind.i64 (5 : Int), AV.int IntKind.i64 (8000 : Int)]] [] (1 : Int) [[AV.int IntKind.i64 (20102 : Int)], [AV.int IntKind.i64 (7 : Int)]])
  [[AV.int IntKind.i64 (7 : Int), AV.int IntKind.i64 (1 : Int), AV.int IntKind.i64 (10 : Int), AV.int IntKind.i64 (5 : Int), AV.int IntKind.i64 (8000 : Int)], [AV.int IntKind.i64 (7
  : Int), AV.int IntKind.i64 (1 : Int), AV.int IntKind.i64 (10 : Int), AV.int IntKind.i64 (5 : Int), AV.int IntKind.i64 (8000 : Int)]] then decide ((8020 : Int) = (8020 : Int)) =
  true else false = true else false = true else false = true
set_option maxRecDepth 100000 in
theorem tawake_P : tawake_T exO exE := by
  unfold tawake_T
  have h2 : EnsP (exO [sevR] [] 1 [[.int .i64 20102], [.int .i64 7]]) := by rw [exp_awake.2.1]; exact ens_sev.2
  have h3 : sameE (exO [sevR] [] 1 [[.int .i64 20102], [.int .i64 7]]) [sevR, sevR] = true := by rw [exp_awake.2.1]; exact sameE_rfl _
  refine ⟨trivial, ⟨⟨ens_sev.1, sqs_nil⟩, cds_of [20102, 7] (by decide) (by decide)⟩, ⟨⟨ens_sev.1, sqs_nil⟩, cds_of [20202, 7] (by decide) (by decide)⟩, trivial, trivial, trivial, trivial, cd1 exp_awake.1 (cd1 exp_awake.2.2 ⟨trivial, trivial, ⟨⟨h2, ens_sev.2⟩, rfl⟩, ?_⟩)⟩
  have h3 : sameE (exO [[.int .i64 7, .int .i64 1, .int .i64 10, .int .i64 5, .int .i64 8000]] [] 1 [[.int .i64 20102], [.int .i64 7]]) [[.int .i64 7, .int .i64 1, .int .i64 10, .int .i64 5, .int .i64 8000], [.int .i64 7, .int .i64 1, .int .i64 10, .int .i64 5, .int .i64 8000]] = true := h3
  rw [h3]
  rfl
def tawake_S (exO : LLA → LLA → Int → LLA → LLA) (exE : LLA → LLA → Int → LLA → Int) : Prop := fnK Tryd.prog { glob := glb, spec := lk [(11, tseven_s), (18, (texpand_s exO exE)), (12, (tencode_s Go.Proofs.YthdfkiopppkfcaaDoor.encN Go.Proofs.YthdfkiopppkfcaaDoor.encE)), (14, (tdecode_s Go.Proofs.YthdfkiopppkfcaaDoor.decV Go.Proofs.YthdfkiopppkfcaaDoor.decB))], specH := lk [(19, (tsameH_s Go.Proofs.YthdfkiopppkfcaaDoor.sameE))], nowf := true } { nt := 64, drop := drp [(1, 7168), (2, 516096), (3, 33030144), (4, 1040187392), (5, 67645734912), (6, 18446744004990074880)], frz := fun id => cond (Nat.beq id 2) [1000501, 1000011] [], emp := fun id => cond (Nat.beq id 2) [(1000102, 501, 49, 2)] [] } (fun _ _ => none) 6 Tryd.f16 [] (.bool true)
set_option maxRecDepth 100000 in
theorem tawake_e (exO : LLA → LLA → Int → LLA → LLA) (exE : LLA → LLA → Int → LLA → Int) : tawake_T exO exE = tawake_S exO exE := by kernel_rfl
theorem tawake_v : tawake_S exO exE := @Eq.mp (tawake_T exO exE) (tawake_S exO exE) (tawake_e exO exE) (tawake_P)
theorem tawake_ok : SOK Tryd.prog glb 16 tawake_s := by
  refine ⟨fok Tryd.func16 (by kernel_rfl) (by kernel_rfl), ?_⟩
  intro xs pre r h hp
  unfold tawake_s at h
  split at h
  · simp only [Option.some.injEq, Prod.mk.injEq] at h
    obtain ⟨h1, h2⟩ := h
    subst h1 h2
    exact fnK_sound tyNil (by exact specOK rfl rfl ⟨(tseven_ok glb), (texpand_ok), (tencode_ok), (tdecode_ok), trivial⟩ ⟨(tsameH_ok glb), trivial⟩) (by kernel_rfl) Tryd.func16 rfl (tawake_v  )
  · cases h
end Go.Proofs.YthdfkiopppkfcaaDoor
