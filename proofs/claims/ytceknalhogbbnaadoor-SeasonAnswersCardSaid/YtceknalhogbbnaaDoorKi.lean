/- keep.Ints, keep.In. -/
import Derived.Test.YtceknalhogbbnaaDoorCm
import Derived.Test.YtceknalhogbbnaaDoorKq
namespace Go.Proofs.YtceknalhogbbnaaDoor
open Go
set_option linter.unusedVariables false
set_option linter.unusedSimpArgs false

def intsEq (xs ys : List (List AV)) : Bool := decide (xs.length = ys.length ∧ ∀ j, j < xs.length → cellI (xs.getD j []) = cellI (ys.getD j []))
theorem intsEq_rfl (xs : List (List AV)) : intsEq xs xs = true := decide_eq_true ⟨rfl, fun _ _ => rfl⟩
def inI (xs : List (List AV)) (n : Int) : Bool := xs.any fun r => decide (cellI r = n)
theorem intsB_at {xs : List (List AV)} (h : IntsB xs) {i : Nat} (hi : i < xs.length) : List.take 1 (xs.getD i []) = [.int .i64 (cellI (xs.getD i []))] := by
  have e : xs.getD i [] = xs[i] := by rw [List.getD_eq_getElem?_getD, List.getElem?_eq_getElem hi]; rfl
  rw [e]
  obtain ⟨n, hn, _⟩ := h.fi _ (List.getElem_mem hi)
  rw [hn]; rfl
structure IntsP (xs ys : List (List AV)) (i : Int) : Prop where
  flo : 0 ≤ i
  fhi : i ≤ xs.length
  fe : ∀ j : Nat, (j : Int) < i → cellI (xs.getD j []) = cellI (ys.getD j [])
def intsL (f g : Bool) (xs ys : List (List AV)) : LInv := ⟨Int, fun i => ⟨[(0, .sl 1 f xs), (1, .sl 1 g ys), (5, .int .i64 i)], []⟩, IntsP xs ys, fun i => (xs.length - i).toNat, none⟩
structure Ln (xs : List (List AV)) : Prop where
  fl : xs.length ≤ 9223372036854775807
def kints_s : Sp
  | [.sl 1 f xs, .sl 1 g ys] => some ((IntsB xs ∧ IntsB ys) ∧ Ln xs ∧ Ln ys, .bool (intsEq xs ys))
  | _ => none
set_option maxRecDepth 100000 in
def kints_T : Prop :=
  ∀ (gl : Glob) (f g : Bool) (xs ys : List (List AV)), (IntsB xs ∧ IntsB ys) ∧ Ln xs ∧ Ln ys → True → True → bif decide ¬(↑xs.length : Int) = (↑ys.length : Int) then false = intsEq
  xs ys else (∃ x, IntsP xs ys x ∧ (((bif f then f = true else True) ∧ xs = xs) ∧ ((bif g then g = true else True) ∧ ys = ys) ∧ (0 : Int) = x ∧ True) ∧ True) ∧ ∀ (x : Int), IntsP xs
  ys x → bif decide (x < (↑xs.length : Int)) then bif decide ((0 : Int) ≤ x ∧ x < (↑xs.length : Int)) then ∃ n, List.take [AV.int IntKind.i64 n].length (xs.getD x.toNat []) = [AV.int
  IntKind.i64 n] ∧ bif decide ((0 : Int) ≤ x ∧ x < (↑ys.length : Int)) then ∃ n_1, List.take [AV.int IntKind.i64 n_1].length (ys.getD x.toNat []) = [AV.int IntKind.i64 n_1] ∧ bif
  decide ¬n = n_1 then false = intsEq xs ys else bif decide (rng IntKind.i64 (x + (1 : Int))) then ∃ y, IntsP xs ys y ∧ (intsL f g xs ys).m y < (intsL f g xs ys).m x ∧ (((bif f then
  f = true else True) ∧ xs = xs) ∧ ((bif g then g = true else True) ∧ ys = ys) ∧ x + (1 : Int) = y ∧ True) ∧ True else False else False else False else true = intsEq xs ys
set_option maxRecDepth 100000 in
theorem kints_P : kints_T := by
  unfold kints_T
  intro gl f g xs ys ⟨⟨hx, hy⟩, lx, ly⟩
  intros
  have l1 := lx.fl
  have l2 := ly.fl
  have bf : cond f (f = true) True := by cases f <;> trivial
  have bg : cond g (g = true) True := by cases g <;> trivial
  refine cs (fun h => ?_) (fun h => ⟨⟨0, ⟨by decide, by omega, fun j h => by omega⟩, ⟨⟨bf, rfl⟩, ⟨bg, rfl⟩, rfl, trivial⟩, trivial⟩, ?_⟩)
  · exact (decide_eq_false fun q => by omega).symm
  rintro i ⟨h0, h1, hn⟩
  refine cs (fun hl => cd1 (by omega) ⟨_, intsB_at hx (by omega), cd1 (by omega) ⟨_, intsB_at hy (by omega), cs (fun q => ?_) (fun q => ?_)⟩⟩) (fun hl => ?_)
  · exact (decide_eq_false fun z => q (z.2 i.toNat (by omega))).symm
  · refine cdI (by omega) ⟨i + 1, ⟨by omega, by omega, fun j hj => ?_⟩, by simp only [intsL]; omega, ⟨⟨bf, rfl⟩, ⟨bg, rfl⟩, rfl, trivial⟩, trivial⟩
    rcases Nat.lt_or_ge j i.toNat with k | k
    · exact hn j (by omega)
    · rw [show j = i.toNat by omega]; exact Decidable.not_not.1 q
  · exact (decide_eq_true ⟨by omega, fun j hj => hn j (by omega)⟩).symm
def kints_S : Prop := ∀ (gl : Glob) (f g : Bool) (xs ys : List (List AV)), (IntsB xs ∧ IntsB ys) ∧ Ln xs ∧ Ln ys → fnK Tryd.prog { glob := gl, spec := lk [], specH := lk [], shape := [20, 24], nowf := true } { nt := 26, drop := drp [(1, 960), (4, 14336), (5, 98304), (6, 33423360)] } (invs [(4, intsL f g xs ys)]) 6 Tryd.f19 [.sl 1 f xs, .sl 1 g ys] (.bool (intsEq xs ys))
set_option maxRecDepth 100000 in
theorem kints_e : kints_T = kints_S := by kernel_rfl
theorem kints_v : kints_S := @Eq.mp (kints_T) (kints_S) (kints_e) kints_P
theorem kints_ok (gl : Glob) : SOK Tryd.prog gl 19 kints_s := by
  refine ⟨fok Tryd.func19 (by kernel_rfl) (by kernel_rfl), ?_⟩
  intro xs pre r h hp
  unfold kints_s at h
  split at h
  · simp only [Option.some.injEq, Prod.mk.injEq] at h
    obtain ⟨h1, h2⟩ := h
    subst h1 h2
    exact fnK_sound tyNil (by exact specOK rfl rfl trivial trivial) (by kernel_rfl) Tryd.func19 rfl (kints_v gl _ _ _ _ hp)
  · cases h
structure InP (xs : List (List AV)) (n i : Int) : Prop where
  flo : 0 ≤ i
  fhi : i ≤ xs.length
  fe : ∀ j : Nat, (j : Int) < i → ¬ cellI (xs.getD j []) = n
def inJ (f : Bool) (xs : List (List AV)) (n : Int) : LInv := ⟨Int, fun i => ⟨[(0, .sl 1 f xs), (1, .int .i64 n), (5, .int .i64 i)], []⟩, InP xs n, fun i => (xs.length - i).toNat, none⟩
def kin_s : Sp
  | [.sl 1 f xs, .int .i64 n] => some (IntsB xs ∧ Ln xs, .bool (inI xs n))
  | _ => none
set_option maxRecDepth 100000 in
def kin_T : Prop :=
  ∀ (gl : Glob) (f : Bool) (xs : List (List AV)) (n : Int), IntsB xs ∧ Ln xs → True → (-9223372036854775808 : Int) ≤ n ∧ n ≤ (9223372036854775807 : Int) → (∃ x, InP xs n x ∧ (((bif f
  then f = true else True) ∧ xs = xs) ∧ n = n ∧ (0 : Int) = x ∧ True) ∧ True) ∧ ∀ (x : Int), InP xs n x → bif decide (x < (↑xs.length : Int)) then bif decide ((0 : Int) ≤ x ∧ x <
  (↑xs.length : Int)) then ∃ n_1, List.take [AV.int IntKind.i64 n_1].length (xs.getD x.toNat []) = [AV.int IntKind.i64 n_1] ∧ bif decide (n_1 = n) then true = inI xs n else bif
  decide (rng IntKind.i64 (x + (1 : Int))) then ∃ y, InP xs n y ∧ (inJ f xs n).m y < (inJ f xs n).m x ∧ (((bif f then f = true else True) ∧ xs = xs) ∧ n = n ∧ x + (1 : Int) = y ∧
  True) ∧ True else False else False else false = inI xs n
set_option maxRecDepth 100000 in
theorem kin_P : kin_T := by
  unfold kin_T
  intro gl f xs n ⟨hx, lx⟩
  intros
  have l1 := lx.fl
  have bf : cond f (f = true) True := by cases f <;> trivial
  refine ⟨⟨0, ⟨by decide, by omega, fun j h => by omega⟩, ⟨⟨bf, rfl⟩, rfl, rfl, trivial⟩, trivial⟩, ?_⟩
  rintro i ⟨h0, h1, hn⟩
  refine cs (fun hl => cd1 (by omega) ⟨_, intsB_at hx (by omega), cs (fun q => ?_) (fun q => ?_)⟩) (fun hl => ?_)
  · refine (List.any_eq_true.2 ⟨xs.getD i.toNat [], ?_, decide_eq_true q⟩).symm
    rw [List.getD_eq_getElem?_getD, List.getElem?_eq_getElem (by omega)]; exact List.getElem_mem _
  · refine cdI (by omega) ⟨i + 1, ⟨by omega, by omega, fun j hj => ?_⟩, by simp only [inJ]; omega, ⟨⟨bf, rfl⟩, rfl, rfl, trivial⟩, trivial⟩
    rcases Nat.lt_or_ge j i.toNat with k | k
    · exact hn j (by omega)
    · rw [show j = i.toNat by omega]; exact q
  · unfold inI
    cases e : xs.any fun r => decide (cellI r = n) with
    | false => rfl
    | true =>
      obtain ⟨x, hx', hm⟩ := List.any_eq_true.1 e
      obtain ⟨k, hk, rfl⟩ := List.mem_iff_getElem.1 hx'
      have := hn k (by omega)
      rw [List.getD_eq_getElem?_getD, List.getElem?_eq_getElem hk] at this
      exact absurd (of_decide_eq_true hm) this
def kin_S : Prop := ∀ (gl : Glob) (f : Bool) (xs : List (List AV)) (n : Int), IntsB xs ∧ Ln xs → fnK Tryd.prog { glob := gl, spec := lk [], specH := lk [], shape := [15], nowf := true } { nt := 18, drop := drp [(2, 448), (3, 3072), (4, 126976)] } (invs [(2, inJ f xs n)]) 6 Tryd.f22 [.sl 1 f xs, .int .i64 n] (.bool (inI xs n))
set_option maxRecDepth 100000 in
theorem kin_e : kin_T = kin_S := by kernel_rfl
theorem kin_v : kin_S := @Eq.mp (kin_T) (kin_S) (kin_e) kin_P
theorem kin_ok (gl : Glob) : SOK Tryd.prog gl 22 kin_s := by
  refine ⟨fok Tryd.func22 (by kernel_rfl) (by kernel_rfl), ?_⟩
  intro xs pre r h hp
  unfold kin_s at h
  split at h
  · simp only [Option.some.injEq, Prod.mk.injEq] at h
    obtain ⟨h1, h2⟩ := h
    subst h1 h2
    exact fnK_sound tyNil (by exact specOK rfl rfl trivial trivial) (by kernel_rfl) Tryd.func22 rfl (kin_v gl _ _ _ hp)
  · cases h
end Go.Proofs.YtceknalhogbbnaaDoor
