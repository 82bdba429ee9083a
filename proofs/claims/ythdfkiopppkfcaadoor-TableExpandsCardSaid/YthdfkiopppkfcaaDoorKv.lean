/- The reader of numbers (synoptickeep): New, Raw, N, Mod. -/
import Derived.Test.YthdfkiopppkfcaaDoorVq
import Derived.Test.YthdfkiopppkfcaaDoorProg
namespace Go.Proofs.YthdfkiopppkfcaaDoor
open Go
set_option linter.unusedVariables false
set_option linter.unusedSimpArgs false

def mod_s : Sp
  | [.int .i64 x, .int .i64 n] => some (True, .int .i64 (modZ x n))
  | _ => none
set_option maxRecDepth 100000 in
def mod_T : Prop :=
  ∀ (gl : Glob) (x n : Int), (-9223372036854775808 : Int) ≤ x ∧ x ≤ (9223372036854775807 : Int) → (-9223372036854775808 : Int) ≤ n ∧ n ≤ (9223372036854775807 : Int) → bif decide (n <
  (1 : Int)) then (0 : Int) = modZ x n else bif decide ¬n = (0 : Int) then bif decide (x.tmod n < (0 : Int)) then bif decide (rng IntKind.i64 (x.tmod n + n)) then x.tmod n + n = modZ
  x n else False else x.tmod n = modZ x n else False
set_option maxRecDepth 100000 in
theorem mod_P : mod_T := by
  unfold mod_T
  intro gl x n hx hn
  rw [ccond]
  simp only [decide_eq_true_eq, decide_eq_false_iff_not]
  refine ⟨fun h => by unfold modZ; rw [if_pos h], fun h => ?_⟩
  have h1 := modZ_go x n (by omega)
  have h2 := tmod_bd x n (by omega)
  simp only [↓cdecF, cdec]
  simp only [rng]
  refine ⟨by omega, fun h3 => ⟨by omega, (h1.1 h3).symm⟩, fun h3 => (h1.2 h3).symm⟩
def mod_S : Prop := ∀ (gl : Glob) (x n : Int), fnK Tryd.prog { glob := gl, spec := lk [], specH := lk [] } { nt := 16, drop := drp [(1, 32), (3, 896), (4, 1024), (5, 28672), (6, 32768)] } (fun _ _ => none) 6 Tryd.f32 [.int .i64 x, .int .i64 n] (.int .i64 (modZ x n))
set_option maxRecDepth 100000 in
theorem mod_e : mod_T = mod_S := by kernel_rfl
theorem mod_v : mod_S := @Eq.mp (mod_T) (mod_S) (mod_e) mod_P
theorem mod_ok (gl : Glob) : SOK Tryd.prog gl 32 mod_s := by
  refine ⟨fok Tryd.func32 (by kernel_rfl) (by kernel_rfl), ?_⟩
  intro xs pre r h hp
  unfold mod_s at h
  split at h
  · simp only [Option.some.injEq, Prod.mk.injEq] at h
    obtain ⟨h1, h2⟩ := h
    subst h1 h2
    exact fnK_sound tyNil (by exact specOK rfl rfl trivial trivial) (by kernel_rfl) Tryd.func32 rfl (mod_v gl _ _)
  · cases h
def raw_s : SpH
  | [.ptr 0 0], [.cells [.sl 1 false xs, .int .i64 i]] => some (SrcI xs ∧ 0 ≤ i, .int .i64 (rawV xs i), [.cells [.sl 1 false xs, .int .i64 (rawA xs i)]])
  | _, _ => none
set_option maxRecDepth 100000 in
def raw_T : Prop :=
  ∀ (gl : Glob) (xs : List (List AV)) (i : Int), SrcI xs ∧ (0 : Int) ≤ i → True → True → (-9223372036854775808 : Int) ≤ i ∧ i ≤ (9223372036854775807 : Int) → bif decide ((↑xs.length
  : Int) ≤ i) then (0 : Int) = rawV xs i ∧ ((True ∧ xs = xs) ∧ i = rawA xs i ∧ True) ∧ True else bif decide (rng IntKind.i64 (i + (1 : Int))) then bif decide (rng IntKind.i64 (i + (1
  : Int) - (1 : Int))) then bif decide ((0 : Int) ≤ i + (1 : Int) - (1 : Int) ∧ i + (1 : Int) - (1 : Int) < (↑xs.length : Int)) then ∃ n, List.take [AV.int IntKind.i64 n].length
  (xs.getD (i + (1 : Int) - (1 : Int)).toNat []) = [AV.int IntKind.i64 n] ∧ n = rawV xs i ∧ ((True ∧ xs = xs) ∧ i + (1 : Int) = rawA xs i ∧ True) ∧ True else False else False else
  False
set_option maxRecDepth 100000 in
theorem raw_P : raw_T := by
  unfold raw_T
  intro gl xs i ⟨h, h0⟩ _ _ hi
  simp only [↓cdecF, cdec]
  simp only [rng]
  refine ⟨fun h1 => ⟨?_, ?_, trivial⟩, fun h1 => ?_⟩
  · unfold rawV; rw [if_pos h1]
  · exact ⟨⟨trivial, trivial⟩, by unfold rawA; rw [if_pos h1], trivial⟩
  · have hl := h.short
    have hlt : i.toNat < xs.length := by omega
    obtain ⟨n, hn, hr⟩ := h.ints xs[i.toNat] (List.getElem_mem hlt)
    have hg : xs.getD i.toNat [] = [.int .i64 n] := by rw [List.getD_eq_getElem?_getD, List.getElem?_eq_getElem hlt, hn]; rfl
    refine ⟨by omega, by omega, by omega, n, ?_, ?_, ⟨⟨trivial, trivial⟩, ?_, trivial⟩, trivial⟩
    · rw [show i + 1 - 1 = i by omega, hg]; rfl
    · unfold rawV; rw [if_neg h1, hg]; rfl
    · unfold rawA; rw [if_neg h1]
def raw_S : Prop := ∀ (gl : Glob) (xs : List (List AV)) (i : Int), SrcI xs ∧ 0 ≤ i → fnH Tryd.prog { glob := gl, spec := lk [], specH := lk [], shape := [30] } { nt := 31, drop := drp [(1, 4088), (3, 1040384), (4, 2146435072)], fr := 1000, kp := [0] } (fun _ _ => none) 6 Tryd.f33 [.ptr 0 0] [.cells [.sl 1 false xs, .int .i64 i]] (.int .i64 (rawV xs i)) [.cells [.sl 1 false xs, .int .i64 (rawA xs i)]]
set_option maxRecDepth 100000 in
theorem raw_e : raw_T = raw_S := by kernel_rfl
theorem raw_v : raw_S := @Eq.mp (raw_T) (raw_S) (raw_e) raw_P
theorem raw_ok (gl : Glob) : HOK Tryd.prog gl 33 raw_s := by
  refine ⟨fok Tryd.func33 (by kernel_rfl) (by kernel_rfl), ?_⟩
  intro xs bs pre r bs2 h hp
  unfold raw_s at h
  split at h
  · simp only [Option.some.injEq, Prod.mk.injEq] at h
    obtain ⟨h1, h2, h3⟩ := h
    subst h1 h2 h3
    exact fnH_sound tyNil (by exact specOK rfl rfl trivial trivial) (by kernel_rfl) Tryd.func33 (raw_v gl _ _ hp)
  · cases h
def srcn_s : SpH
  | [.ptr 0 0, .int .i64 n], [.cells [.sl 1 false xs, .int .i64 i]] => some (SrcI xs ∧ 0 ≤ i, .int .i64 (srcN xs i n), [.cells [.sl 1 false xs, .int .i64 (rawA xs i)]])
  | _, _ => none
set_option maxRecDepth 100000 in
def srcn_T : Prop :=
  ∀ (gl : Glob) (xs : List (List AV)) (i n : Int), SrcI xs ∧ (0 : Int) ≤ i → True → (-9223372036854775808 : Int) ≤ n ∧ n ≤ (9223372036854775807 : Int) → True → (-9223372036854775808
  : Int) ≤ i ∧ i ≤ (9223372036854775807 : Int) → (SrcI xs ∧ (0 : Int) ≤ i) ∧ ((-9223372036854775808 : Int) ≤ rawV xs i ∧ rawV xs i ≤ (9223372036854775807 : Int) → True ∧
  ((-9223372036854775808 : Int) ≤ modZ (rawV xs i) n ∧ modZ (rawV xs i) n ≤ (9223372036854775807 : Int) → modZ (rawV xs i) n = srcN xs i n ∧ ((True ∧ xs = xs) ∧ rawA xs i = rawA xs i
  ∧ True) ∧ True))
set_option maxRecDepth 100000 in
theorem srcn_P : srcn_T := by
  unfold srcn_T
  intro gl xs i n h _ hn _ hi
  exact ⟨h, fun _ => ⟨trivial, fun _ => ⟨rfl, ⟨⟨trivial, rfl⟩, rfl, trivial⟩, trivial⟩⟩⟩
def srcn_S : Prop := ∀ (gl : Glob) (xs : List (List AV)) (i n : Int), SrcI xs ∧ 0 ≤ i → fnH Tryd.prog { glob := gl, spec := lk [(32, mod_s)], specH := lk [(33, raw_s)] } { nt := 9, drop := drp [(1, 480)], fr := 1000, kp := [0] } (fun _ _ => none) 6 Tryd.f10 [.ptr 0 0, .int .i64 n] [.cells [.sl 1 false xs, .int .i64 i]] (.int .i64 (srcN xs i n)) [.cells [.sl 1 false xs, .int .i64 (rawA xs i)]]
set_option maxRecDepth 100000 in
theorem srcn_e : srcn_T = srcn_S := by kernel_rfl
theorem srcn_v : srcn_S := @Eq.mp (srcn_T) (srcn_S) (srcn_e) srcn_P
theorem srcn_ok (gl : Glob) : HOK Tryd.prog gl 10 srcn_s := by
  refine ⟨fok Tryd.func10 (by kernel_rfl) (by kernel_rfl), ?_⟩
  intro xs bs pre r bs2 h hp
  unfold srcn_s at h
  split at h
  · simp only [Option.some.injEq, Prod.mk.injEq] at h
    obtain ⟨h1, h2, h3⟩ := h
    subst h1 h2 h3
    exact fnH_sound tyNil (by exact specOK rfl rfl ⟨mod_ok gl, trivial⟩ ⟨raw_ok gl, trivial⟩) (by kernel_rfl) Tryd.func10 (srcn_v gl _ _ _ hp)
  · cases h
def newsrc_s : SpH
  | [.sl 1 false xs], [] => some (True, .ptr 0 0, [.cells [.sl 1 false (xs.take 2000), .int .i64 0]])
  | _, _ => none
set_option maxRecDepth 100000 in
def newsrc_T : Prop :=
  ∀ (gl : Glob) (xs : List (List AV)), True → bif decide ((0 : Int) ≤ min (↑xs.length : Int) (2000 : Int) ∧ min (↑xs.length : Int) (2000 : Int) ≤ (↑xs.length : Int)) then bif decide
  ((0 : Int) ≤ (0 : Int) ∧ (0 : Int) ≤ min (↑xs.length : Int) (2000 : Int)) then (0 : Nat) = (0 : Nat) ∧ ((True ∧ List.drop (0 : Nat) (List.take (min (↑xs.length : Int) (2000 :
  Int)).toNat xs) = List.take (2000 : Nat) xs) ∧ (0 : Int) = (0 : Int) ∧ True) ∧ True else False else False
set_option maxRecDepth 100000 in
theorem newsrc_P : newsrc_T := by
  unfold newsrc_T
  intro gl xs _
  simp only [↓cdecF]
  refine ⟨by omega, by omega, by trivial, ⟨⟨trivial, ?_⟩, by trivial, trivial⟩, trivial⟩
  rw [List.drop_zero]
  by_cases h : xs.length ≤ 2000
  · rw [List.take_of_length_le (by omega), List.take_of_length_le h]
  · rw [show (min (xs.length : Int) 2000).toNat = 2000 by omega]
def newsrc_S : Prop := ∀ (gl : Glob) (xs : List (List AV)), fnH Tryd.prog { glob := gl, spec := lk [], specH := lk [] } { nt := 10, drop := drp [(1, 1016)], fr := 1000, kp := [] } (fun _ _ => none) 6 Tryd.f8 [.sl 1 false xs] [] (.ptr 0 0) [.cells [.sl 1 false (xs.take 2000), .int .i64 0]]
set_option maxRecDepth 100000 in
theorem newsrc_e : newsrc_T = newsrc_S := by kernel_rfl
theorem newsrc_v : newsrc_S := @Eq.mp (newsrc_T) (newsrc_S) (newsrc_e) newsrc_P
theorem newsrc_ok (gl : Glob) : HOK Tryd.prog gl 8 newsrc_s := by
  refine ⟨fok Tryd.func8 (by kernel_rfl) (by kernel_rfl), ?_⟩
  intro xs bs pre r bs2 h hp
  unfold newsrc_s at h
  split at h
  · simp only [Option.some.injEq, Prod.mk.injEq] at h
    obtain ⟨h1, h2, h3⟩ := h
    subst h1 h2 h3
    exact fnH_sound tyNil (by exact specOK rfl rfl trivial trivial) (by kernel_rfl) Tryd.func8 (newsrc_v gl _)
  · cases h
end Go.Proofs.YthdfkiopppkfcaaDoor
