/- The clock: the minutes that the laws draw; the law of going back. -/
import Derived.Test.YtakmploakbaglaaClG
namespace Go.Proofs.Ytakmploakbaglaa
open Go
set_option linter.unusedVariables false
set_option linter.unusedSimpArgs false

theorem modZ_in (x : Int) {n : Int} (hn : 1 ≤ n) : 0 ≤ modZ x n ∧ modZ x n < n := by
  unfold modZ; rw [if_neg (by omega)]; exact ⟨Int.emod_nonneg _ (by omega), Int.emod_lt_of_pos _ (by omega)⟩
def w64 (x : Int) : Int := IntKind.i64.wrap x
def mnV (xs : List (List AV)) (i : Int) : Int :=
  if srcN xs i 4 = 0 then modZ (w64 (w64 (rawV xs (rawA xs i) * 7919) + rawV xs (rawA xs (rawA xs i)))) 52596000
  else if srcN xs i 4 = 1 then min 52595999 (w64 (w64 (srcN xs (rawA xs i) 100 * 525960) + srcN xs (rawA xs (rawA xs i)) 3000))
  else modZ (w64 (rawV xs (rawA xs i) * 104729)) 52596000
def mnA (xs : List (List AV)) (i : Int) : Int :=
  if srcN xs i 4 = 0 then rawA xs (rawA xs (rawA xs i)) else if srcN xs i 4 = 1 then rawA xs (rawA xs (rawA xs i)) else rawA xs (rawA xs i)
theorem w64_id {x : Int} (h : -9223372036854775808 ≤ x ∧ x ≤ 9223372036854775807) : w64 x = x := wrap_eq (k := .i64) h
theorem mnV_in (xs : List (List AV)) (i : Int) : 0 ≤ mnV xs i ∧ mnV xs i ≤ 52595999 := by
  unfold mnV
  have h1 := modZ_in (w64 (w64 (rawV xs (rawA xs i) * 7919) + rawV xs (rawA xs (rawA xs i)))) (n := 52596000) (by decide)
  have h2 := modZ_in (w64 (rawV xs (rawA xs i) * 104729)) (n := 52596000) (by decide)
  split
  · omega
  · split
    · have a := srcN_lt (xs := xs) (i := rawA xs i) (n := 100) (by decide)
      have b := srcN_lt (xs := xs) (i := rawA xs (rawA xs i)) (n := 3000) (by decide)
      rw [w64_id (x := srcN xs (rawA xs i) 100 * 525960) (by omega), w64_id (by omega)]
      omega
    · omega
theorem mnA_le {xs : List (List AV)} {i : Int} (h : 0 ≤ i) : 0 ≤ mnA xs i := by
  have h1 := rawA_le (xs := xs) h
  have h2 := rawA_le (xs := xs) h1
  have h3 := rawA_le (xs := xs) h2
  unfold mnA; split
  · exact h3
  · split
    · exact h3
    · exact h2
def lMinute_s (mnV : List (List AV) → Int → Int) (mnA : List (List AV) → Int → Int) : SpH
  | [.ptr 0 0], [.cells [.sl 1 false xs, .int .i64 i]] => some (SrcI xs ∧ 0 ≤ i, .int .i64 (mnV xs i), [.cells [.sl 1 false xs, .int .i64 (mnA xs i)]])
  | _, _ => none
set_option maxRecDepth 100000 in
def lMinute_T (mnV : List (List AV) → Int → Int) (mnA : List (List AV) → Int → Int) : Prop :=
  ∀ (gl : Glob) (xs : List (List AV)) (i : Int), SrcI xs ∧ (0 : Int) ≤ i → True → True → (-9223372036854775808 : Int) ≤ i ∧ i ≤ (9223372036854775807 : Int) → (SrcI xs ∧ (0 : Int) ≤
  i) ∧ bif decide (srcN xs i (4 : Int) = (0 : Int)) then (SrcI xs ∧ (0 : Int) ≤ rawA xs i) ∧ (SrcI xs ∧ (0 : Int) ≤ rawA xs (rawA xs i)) ∧ True ∧ modZ (IntKind.i64.wrap
  (IntKind.i64.wrap (rawV xs (rawA xs i) * (7919 : Int)) + rawV xs (rawA xs (rawA xs i)))) (52596000 : Int) = mnV xs i ∧ ((True ∧ xs = xs) ∧ rawA xs (rawA xs (rawA xs i)) = mnA xs i
  ∧ True) ∧ True else bif decide (srcN xs i (4 : Int) = (1 : Int)) then (SrcI xs ∧ (0 : Int) ≤ rawA xs i) ∧ (SrcI xs ∧ (0 : Int) ≤ rawA xs (rawA xs i)) ∧ min (52595999 : Int)
  (IntKind.i64.wrap (IntKind.i64.wrap (srcN xs (rawA xs i) (100 : Int) * (525960 : Int)) + srcN xs (rawA xs (rawA xs i)) (3000 : Int))) = mnV xs i ∧ ((True ∧ xs = xs) ∧ rawA xs (rawA
  xs (rawA xs i)) = mnA xs i ∧ True) ∧ True else (SrcI xs ∧ (0 : Int) ≤ rawA xs i) ∧ True ∧ modZ (IntKind.i64.wrap (rawV xs (rawA xs i) * (104729 : Int))) (52596000 : Int) = mnV xs i
  ∧ ((True ∧ xs = xs) ∧ rawA xs (rawA xs i) = mnA xs i ∧ True) ∧ True
set_option maxRecDepth 100000 in
theorem lMinute_P : lMinute_T mnV mnA := by
  unfold lMinute_T
  intro gl xs i ⟨hs, hi⟩ _ _ _
  have p1 := rawA_le (xs := xs) hi
  have p2 := rawA_le (xs := xs) p1
  have eV : mnV xs i = if srcN xs i 4 = 0 then _ else if srcN xs i 4 = 1 then _ else _ := rfl
  have eA : mnA xs i = if srcN xs i 4 = 0 then _ else if srcN xs i 4 = 1 then _ else _ := rfl
  refine ⟨⟨hs, hi⟩, csplit (fun h => ?_) (fun h => csplit (fun h2 => ?_) (fun h2 => ?_))⟩
  · have h := of_decide_eq_true h
    rw [if_pos h] at eV eA
    exact ⟨⟨hs, p1⟩, ⟨hs, p2⟩, trivial, eV.symm, ⟨⟨trivial, rfl⟩, eA.symm, trivial⟩, trivial⟩
  · have h := of_decide_eq_false h
    have h2 := of_decide_eq_true h2
    rw [if_neg h, if_pos h2] at eV eA
    exact ⟨⟨hs, p1⟩, ⟨hs, p2⟩, eV.symm, ⟨⟨trivial, rfl⟩, eA.symm, trivial⟩, trivial⟩
  · have h := of_decide_eq_false h
    have h2 := of_decide_eq_false h2
    rw [if_neg h, if_neg h2] at eV eA
    exact ⟨⟨hs, p1⟩, trivial, eV.symm, ⟨⟨trivial, rfl⟩, eA.symm, trivial⟩, trivial⟩
def lMinute_S (mnV : List (List AV) → Int → Int) (mnA : List (List AV) → Int → Int) : Prop := ∀ (gl : Glob) (xs : List (List AV)) (i : Int), SrcI xs ∧ 0 ≤ i → fnH Try.prog { glob := gl, spec := lk [(25, mod_s)], specH := lk [(26, raw_s), (24, srcn_s)], nowf := true, wrap := true } { nt := 27, drop := drp [(1, 8), (2, 64), (3, 16256), (4, 32768), (5, 8323072), (6, 125829120)], fr := 1000, kp := [0] } (fun _ _ => none) 6 Try.f18 [.ptr 0 0] [.cells [.sl 1 false xs, .int .i64 i]] (.int .i64 (mnV xs i)) [.cells [.sl 1 false xs, .int .i64 (mnA xs i)]]
set_option maxRecDepth 100000 in
theorem lMinute_e (mnV : List (List AV) → Int → Int) (mnA : List (List AV) → Int → Int) : lMinute_T mnV mnA = lMinute_S mnV mnA := by kernel_rfl
theorem lMinute_v : lMinute_S mnV mnA := @Eq.mp (lMinute_T mnV mnA) (lMinute_S mnV mnA) (lMinute_e mnV mnA) lMinute_P
theorem lMinute_ok (gl : Glob) : HOK Try.prog gl 18 (lMinute_s mnV mnA) := by
  refine ⟨fok Try.func18 (by kernel_rfl) (by kernel_rfl), ?_⟩
  intro xs bs pre r bs2 h hp
  unfold lMinute_s at h
  split at h
  · simp only [Option.some.injEq, Prod.mk.injEq] at h
    obtain ⟨h1, h2, h3⟩ := h
    subst h1 h2 h3
    exact fnH_sound tyNil (by exact specOK rfl rfl ⟨mod_ok gl, trivial⟩ ⟨raw_ok gl, srcn_ok gl, trivial⟩) (by kernel_rfl) Try.func18 (lMinute_v gl _ _ hp)
  · cases h
def srcRg_s : SpH
  | [.ptr 0 0, .int .i64 lo, .int .i64 hi], [.cells [.sl 1 false xs, .int .i64 i]] => some ((SrcI xs ∧ 0 ≤ i) ∧ (-1000000 ≤ lo ∧ lo ≤ 1000000) ∧ lo ≤ hi ∧ hi ≤ 1000000, .int .i64 (lo + srcN xs i (hi - lo + 1)), [.cells [.sl 1 false xs, .int .i64 (rawA xs i)]])
  | _, _ => none
set_option maxRecDepth 100000 in
def srcRg_T : Prop :=
  ∀ (gl : Glob) (xs : List (List AV)) (i lo hi : Int), (SrcI xs ∧ (0 : Int) ≤ i) ∧ ((-1000000 : Int) ≤ lo ∧ lo ≤ (1000000 : Int)) ∧ lo ≤ hi ∧ hi ≤ (1000000 : Int) → True →
  (-9223372036854775808 : Int) ≤ lo ∧ lo ≤ (9223372036854775807 : Int) → (-9223372036854775808 : Int) ≤ hi ∧ hi ≤ (9223372036854775807 : Int) → True → (-9223372036854775808 : Int) ≤
  i ∧ i ≤ (9223372036854775807 : Int) → bif decide (rng IntKind.i64 (hi - lo)) then bif decide (rng IntKind.i64 (hi - lo + (1 : Int))) then (SrcI xs ∧ (0 : Int) ≤ i) ∧ bif decide
  (rng IntKind.i64 (lo + srcN xs i (hi - lo + (1 : Int)))) then lo + srcN xs i (hi - lo + (1 : Int)) = lo + srcN xs i (hi - lo + (1 : Int)) ∧ ((True ∧ xs = xs) ∧ rawA xs i = rawA xs
  i ∧ True) ∧ True else False else False else False
set_option maxRecDepth 100000 in
theorem srcRg_P : srcRg_T := by
  unfold srcRg_T
  intro gl xs i lo hi ⟨⟨hs, h0⟩, ⟨l1, l2⟩, l3, l4⟩ _ _ _ _ _
  have h := srcN_lt (xs := xs) (i := i) (n := hi - lo + 1) (by omega)
  exact cdI (by omega) (cdI (by omega) ⟨⟨hs, h0⟩, cdI (by omega) ⟨rfl, ⟨⟨trivial, rfl⟩, rfl, trivial⟩, trivial⟩⟩)
def srcRg_S : Prop := ∀ (gl : Glob) (xs : List (List AV)) (i lo hi : Int), (SrcI xs ∧ 0 ≤ i) ∧ (-1000000 ≤ lo ∧ lo ≤ 1000000) ∧ lo ≤ hi ∧ hi ≤ 1000000 → fnH Try.prog { glob := gl, spec := lk [], specH := lk [(24, srcn_s)], nowf := true } { nt := 15, drop := drp [(1, 32640)], fr := 1000, kp := [0] } (fun _ _ => none) 6 Try.f11 [.ptr 0 0, .int .i64 lo, .int .i64 hi] [.cells [.sl 1 false xs, .int .i64 i]] (.int .i64 (lo + srcN xs i (hi - lo + 1))) [.cells [.sl 1 false xs, .int .i64 (rawA xs i)]]
set_option maxRecDepth 100000 in
theorem srcRg_e : srcRg_T = srcRg_S := by kernel_rfl
theorem srcRg_v : srcRg_S := @Eq.mp (srcRg_T) (srcRg_S) (srcRg_e) srcRg_P
theorem srcRg_ok (gl : Glob) : HOK Try.prog gl 11 srcRg_s := by
  refine ⟨fok Try.func11 (by kernel_rfl) (by kernel_rfl), ?_⟩
  intro xs bs pre r bs2 h hp
  unfold srcRg_s at h
  split at h
  · simp only [Option.some.injEq, Prod.mk.injEq] at h
    obtain ⟨h1, h2, h3⟩ := h
    subst h1 h2 h3
    exact fnH_sound tyNil (by exact specOK rfl rfl trivial ⟨srcn_ok gl, trivial⟩) (by kernel_rfl) Try.func11 (srcRg_v gl _ _ _ _ hp)
  · cases h
end Go.Proofs.Ytakmploakbaglaa
