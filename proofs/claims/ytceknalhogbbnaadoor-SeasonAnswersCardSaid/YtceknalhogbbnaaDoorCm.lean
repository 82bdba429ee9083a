/- Comparing numbers: cmp.Compare, cmp.Or; searching lists. -/
import Derived.Test.YtceknalhogbbnaaDoorElA
namespace Go.Proofs.YtceknalhogbbnaaDoor
open Go
set_option linter.unusedVariables false
set_option linter.unusedSimpArgs false

def cmpI (a b : Int) : Int := if a < b then -1 else if b < a then 1 else 0
theorem cmp_lt {a b : Int} (h : a < b) : cmpI a b = -1 := by unfold cmpI; rw [if_pos h]
theorem cmp_eq {a b : Int} (h : a = b) : cmpI a b = 0 := by unfold cmpI; rw [if_neg (by omega), if_neg (by omega)]
theorem cmp_gt {a b : Int} (h : b < a) : cmpI a b = 1 := by unfold cmpI; rw [if_neg (by omega), if_pos h]
theorem cmp_bd (p q : Int) : -1 ≤ cmpI p q ∧ cmpI p q ≤ 1 := by unfold cmpI; split <;> (try split) <;> omega
theorem cmp_neg (p q : Int) : cmpI p q < 0 ↔ p < q := by unfold cmpI; split <;> (try split) <;> omega
theorem cmp_zero (p q : Int) : cmpI p q = 0 ↔ p = q := by unfold cmpI; split <;> (try split) <;> omega
def nanI_s : Sp
  | [.int .i64 a] => some (True, .bool false)
  | _ => none
set_option maxRecDepth 100000 in
def nanI_T : Prop :=
  ∀ (gl : Glob) (a : Int), (-9223372036854775808 : Int) ≤ a ∧ a ≤ (9223372036854775807 : Int) → (decide ¬a = a) = false
set_option maxRecDepth 100000 in
theorem nanI_P : nanI_T := by
  unfold nanI_T
  intro gl a _
  exact decide_eq_false (fun h => h rfl)
def nanI_S : Prop := ∀ (gl : Glob) (a : Int), fnK Tryd.prog { glob := gl, spec := lk [], specH := lk [] } { nt := 6, drop := drp [(1, 56)] } (fun _ _ => none) 6 Tryd.f82 [.int .i64 a] (.bool false)
set_option maxRecDepth 100000 in
theorem nanI_e : nanI_T = nanI_S := by kernel_rfl
theorem nanI_v : nanI_S := @Eq.mp (nanI_T) (nanI_S) (nanI_e) nanI_P
theorem nanI_ok (gl : Glob) : SOK Tryd.prog gl 82 nanI_s := by
  refine ⟨fok Tryd.func82 (by kernel_rfl) (by kernel_rfl), ?_⟩
  intro xs pre r h hp
  unfold nanI_s at h
  split at h
  · simp only [Option.some.injEq, Prod.mk.injEq] at h
    obtain ⟨h1, h2⟩ := h
    subst h1 h2
    exact fnK_sound tyNil (by exact specOK rfl rfl trivial trivial) (by kernel_rfl) Tryd.func82 rfl (nanI_v gl _)
  · cases h
def fcmpI_s (cmpI : Int → Int → Int) : Sp
  | [.int .i64 a, .int .i64 b] => some (True, .int .i64 (cmpI a b))
  | _ => none
set_option maxRecDepth 100000 in
def fcmpI_T (cmpI : Int → Int → Int) : Prop :=
  ∀ (gl : Glob) (a b : Int), (-9223372036854775808 : Int) ≤ a ∧ a ≤ (9223372036854775807 : Int) → (-9223372036854775808 : Int) ≤ b ∧ b ≤ (9223372036854775807 : Int) → True ∧ True ∧
  bif decide (a < b) then (-1 : Int) = cmpI a b else bif decide (b < a) then (1 : Int) = cmpI a b else (0 : Int) = cmpI a b
set_option maxRecDepth 100000 in
theorem fcmpI_P : fcmpI_T cmpI := by
  unfold fcmpI_T
  intro gl a b _ _
  unfold cmpI
  refine ⟨trivial, trivial, cs (fun h => ?_) (fun h => cs (fun k => ?_) (fun k => ?_))⟩
  · rw [if_pos h]
  · rw [if_neg h, if_pos k]
  · rw [if_neg h, if_neg k]
def fcmpI_S (cmpI : Int → Int → Int) : Prop := ∀ (gl : Glob) (a b : Int), fnK Tryd.prog { glob := gl, spec := lk [(82, nanI_s)], specH := lk [], nowf := true } { nt := 20, drop := drp [(1, 384), (2, 1536), (9, 49152), (11, 393216)] } (fun _ _ => none) 6 Tryd.f77 [.int .i64 a, .int .i64 b] (.int .i64 (cmpI a b))
set_option maxRecDepth 100000 in
theorem fcmpI_e (cmpI : Int → Int → Int) : fcmpI_T cmpI = fcmpI_S cmpI := by kernel_rfl
theorem fcmpI_v : fcmpI_S cmpI := @Eq.mp (fcmpI_T cmpI) (fcmpI_S cmpI) (fcmpI_e cmpI) fcmpI_P
theorem fcmpI_ok (gl : Glob) : SOK Tryd.prog gl 77 (fcmpI_s cmpI) := by
  refine ⟨fok Tryd.func77 (by kernel_rfl) (by kernel_rfl), ?_⟩
  intro xs pre r h hp
  unfold fcmpI_s at h
  split at h
  · simp only [Option.some.injEq, Prod.mk.injEq] at h
    obtain ⟨h1, h2⟩ := h
    subst h1 h2
    exact fnK_sound tyNil (by exact specOK rfl rfl ⟨nanI_ok gl, trivial⟩ trivial) (by kernel_rfl) Tryd.func77 rfl (fcmpI_v gl _ _)
  · cases h
def orI (a b : Int) : Int := if a = 0 then b else a
/-- The first of some numbers that is not 0. -/
def orL : List (List AV) → Int
  | [] => 0
  | x :: l => orI (cellI x) (orL l)
structure OrP (ys : List (List AV)) (i : Int) : Prop where
  flo : 0 ≤ i
  fhi : i ≤ ys.length
  fz : ∀ j : Nat, (j : Int) < i → cellI (ys.getD j []) = 0
def orJ (ys : List (List AV)) : LInv := ⟨Int, fun i => ⟨[(3, .int .i64 0), (6, .rw 0 1 ys.length), (7, .int .i64 ys.length), (8, .int .i64 i)], [(0, .row 3 1 ys)]⟩, OrP ys, fun i => (ys.length - i).toNat, none⟩
structure OrI (ys : List (List AV)) (n : Nat) : Prop where
  fn : n = ys.length
  fl : n ≤ 1000
  fi : ∀ x ∈ ys, ∃ z : Int, x = [.int .i64 z]
theorem orL_at : ∀ {ys : List (List AV)} {i : Nat}, (∀ j, j < i → cellI (ys.getD j []) = 0) → i < ys.length → ¬ cellI (ys.getD i []) = 0 → orL ys = cellI (ys.getD i [])
  | [], i, _, h, _ => by simp at h
  | x :: l, 0, _, _, hz => by
    simp only [orL, orI]
    exact if_neg hz
  | x :: l, i + 1, h, hi, hz => by
    have h0 : cellI x = 0 := h 0 (by omega)
    simp only [orL, orI]
    rw [if_pos h0]
    have := orL_at (ys := l) (i := i) (fun j hj => h (j + 1) (by omega)) (by simpa using hi) hz
    rw [this]; rfl
theorem orL_zero : ∀ {ys : List (List AV)}, (∀ j, j < ys.length → cellI (ys.getD j []) = 0) → orL ys = 0
  | [], _ => rfl
  | x :: l, h => by
    have h0 : cellI x = 0 := h 0 (by simp)
    simp only [orL, orI]
    rw [if_pos h0]
    exact orL_zero fun j hj => h (j + 1) (by simpa using hj)
def for__s (orL : List (List AV) → Int) : SpH
  | [.rw 0 1 n], [.row 3 1 ys] => some (OrI ys n, .int .i64 (orL ys), [.row 3 1 ys])
  | _, _ => none
set_option maxRecDepth 100000 in
def for__T (orL : List (List AV) → Int) : Prop :=
  ∀ (gl : Glob) (ys : List (List AV)) (n : Nat), OrI ys n → True → (∃ x, OrP ys x ∧ ((0 : Int) = (0 : Int) ∧ n = ys.length ∧ (↑n : Int) = (↑ys.length : Int) ∧ (0 : Int) = x ∧ True) ∧
  ys = ys ∧ True) ∧ ∀ (x : Int), OrP ys x → bif decide (x < (↑ys.length : Int)) then bif decide ((0 : Int) ≤ x ∧ x < (↑ys.length : Int)) then bif decide (ys.length = ys.length ∧
  x.toNat < ys.length) then ∃ n, List.take [AV.int IntKind.i64 n].length (List.drop (0 : Nat) (ys.getD x.toNat [])) = [AV.int IntKind.i64 n] ∧ bif decide ¬n = (0 : Int) then n = orL
  ys ∧ ys = ys ∧ True else bif decide (rng IntKind.i64 (x + (1 : Int))) then ∃ y, OrP ys y ∧ (orJ ys).m y < (orJ ys).m x ∧ ((0 : Int) = (0 : Int) ∧ ys.length = ys.length ∧
  (↑ys.length : Int) = (↑ys.length : Int) ∧ x + (1 : Int) = y ∧ True) ∧ ys = ys ∧ True else False else False else False else (0 : Int) = orL ys ∧ ys = ys ∧ True
set_option maxRecDepth 100000 in
theorem for__P : for__T orL := by
  unfold for__T
  intro gl ys n h _
  have hn := h.fn
  have hl := h.fl
  subst hn
  refine ⟨⟨0, ⟨by decide, by omega, fun j h => by omega⟩, ⟨rfl, rfl, rfl, rfl, trivial⟩, rfl, trivial⟩, ?_⟩
  rintro i ⟨h0, h1, hz⟩
  refine cs (fun hi => cd1 ⟨h0, hi⟩ (cd1 ⟨rfl, by omega⟩ ?_)) (fun hi => ⟨(orL_zero fun j hj => hz j (by omega)).symm, rfl, trivial⟩)
  have hm : ys.getD i.toNat [] ∈ ys := by
    rw [List.getD_eq_getElem?_getD, List.getElem?_eq_getElem (by omega)]; exact List.getElem_mem _
  obtain ⟨z, e⟩ := h.fi _ hm
  have ez : cellI (ys.getD i.toNat []) = z := by rw [e]; rfl
  refine ⟨z, by rw [e]; rfl, cs (fun q => ⟨?_, rfl, trivial⟩) (fun q => cdI (by omega) ⟨i + 1, ⟨by omega, by omega, fun j hj => ?_⟩, by simp only [orJ]; omega, ⟨rfl, rfl, rfl, rfl, trivial⟩, rfl, trivial⟩)⟩
  · rw [orL_at (i := i.toNat) (fun j hj => hz j (by omega)) (by omega) (by rw [ez]; exact q), ez]
  · rcases Nat.lt_or_ge j i.toNat with k | k
    · exact hz j (by omega)
    · rw [show j = i.toNat by omega, ez]; exact Decidable.not_not.1 q
def for__S (orL : List (List AV) → Int) : Prop := ∀ (gl : Glob) (ys : List (List AV)) (n : Nat), OrI ys n → fnH Tryd.prog { glob := gl, spec := lk [], specH := lk [], shape := [11], nowf := true } { nt := 18, drop := drp [(4, 3072), (5, 12288), (6, 32768), (7, 65536), (8, 131072)], fr := 1000, kp := [0] } (invs [(3, orJ ys)]) 6 Tryd.f76 [.rw 0 1 n] [.row 3 1 ys] (.int .i64 (orL ys)) [.row 3 1 ys]
set_option maxRecDepth 100000 in
theorem for__e (orL : List (List AV) → Int) : for__T orL = for__S orL := by kernel_rfl
theorem for__v : for__S orL := @Eq.mp (for__T orL) (for__S orL) (for__e orL) for__P
theorem for__ok (gl : Glob) : HOK Tryd.prog gl 76 (for__s orL) := by
  refine ⟨fok Tryd.func76 (by kernel_rfl) (by kernel_rfl), ?_⟩
  intro xs bs pre r bs2 h hp
  unfold for__s at h
  split at h
  · simp only [Option.some.injEq, Prod.mk.injEq] at h
    obtain ⟨h1, h2, h3⟩ := h
    subst h1 h2 h3
    exact fnH_sound tyNil (by exact specOK rfl rfl trivial trivial) (by kernel_rfl) Tryd.func76 (for__v gl _ _ hp)
  · cases h
theorem or3 (a b c : Int) : orL [[.int .i64 a], [.int .i64 b], [.int .i64 c]] = orI a (orI b c) := by
  simp only [orL, orI, cellI]
  by_cases h : c = 0 <;> simp [h]
theorem orI_ok (l : List Int) (h : l.length ≤ 1000) : OrI (irow l) l.length := by
  refine ⟨by simp [irow], h, fun x hx => ?_⟩
  unfold irow at hx
  obtain ⟨n, _, rfl⟩ := List.mem_map.1 hx
  exact ⟨n, rfl⟩
/-- The search for the first element for which p holds. -/
def ixL (k s : Nat) (p : List AV → Bool) (f : Bool) (xs : List (List AV)) (caps : List AV) (hp : List (Nat × Blk)) : LInv := ⟨Int, fun i => ⟨[(0, .sl s f xs), (1, .fn k caps), (7, .int .i64 xs.length), (8, .int .i64 i)], hp⟩, IdxI p xs, fun i => (xs.length - i).toNat, none⟩
end Go.Proofs.YtceknalhogbbnaaDoor
