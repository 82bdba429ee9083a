/- The reader of choices (synopticfield): Mod, New, Left, Next, Signed, Pairs. -/
import Derived.Test.YtjllgdpnbllnjaaVq
import Derived.Test.YtjllgdpnbllnjaaProg
namespace Go.Proofs.Ytjllgdpnbllnjaa
open Go
set_option linter.unusedVariables false
set_option linter.unusedSimpArgs false

theorem cs {p : Prop} [Decidable p] {A B : Prop} (h : p → A) (k : ¬ p → B) : cond (decide p) A B := csplit (fun q => h (of_decide_eq_true q)) (fun q => k (of_decide_eq_false q))
theorem q1 {p : Prop} [Decidable p] {F A : Prop} (h : p) (a : A) : cond (!decide p) F A := by rw [decide_eq_true h]; exact a
theorem q0 {p : Prop} [Decidable p] {F A : Prop} (h : p) (a : A) : cond (decide ¬ p) F A := cd0 (fun k => k h) a
def fmod_s : Sp
  | [.int .i64 x, .int .i64 n] => some (True, .int .i64 (modZ x n))
  | _ => none
set_option maxRecDepth 100000 in
def fmod_T : Prop :=
  ∀ (gl : Glob) (x n : Int), (-9223372036854775808 : Int) ≤ x ∧ x ≤ (9223372036854775807 : Int) → (-9223372036854775808 : Int) ≤ n ∧ n ≤ (9223372036854775807 : Int) → bif decide (n <
  (1 : Int)) then (0 : Int) = modZ x n else bif decide ¬n = (0 : Int) then bif decide (x.tmod n < (0 : Int)) then bif decide (rng IntKind.i64 (x.tmod n + n)) then x.tmod n + n = modZ
  x n else False else x.tmod n = modZ x n else False
set_option maxRecDepth 100000 in
theorem fmod_P : fmod_T := by
  unfold fmod_T
  intro gl x n hx hn
  rw [ccond]
  simp only [decide_eq_true_eq, decide_eq_false_iff_not]
  refine ⟨fun h => by unfold modZ; rw [if_pos h], fun h => ?_⟩
  have h1 := modZ_go x n (by omega)
  have h2 := tmod_bd x n (by omega)
  simp only [↓cdecF, cdec]
  simp only [rng]
  refine ⟨by omega, fun h3 => ⟨by omega, (h1.1 h3).symm⟩, fun h3 => (h1.2 h3).symm⟩
def fmod_S : Prop := ∀ (gl : Glob) (x n : Int), fnK Try.prog { glob := gl, spec := lk [], specH := lk [] } { nt := 16, drop := drp [(1, 32), (3, 896), (4, 1024), (5, 28672), (6, 32768)] } (fun _ _ => none) 6 Try.f10 [.int .i64 x, .int .i64 n] (.int .i64 (modZ x n))
set_option maxRecDepth 100000 in
theorem fmod_e : fmod_T = fmod_S := by kernel_rfl
theorem fmod_v : fmod_S := @Eq.mp (fmod_T) (fmod_S) (fmod_e) fmod_P
theorem fmod_ok (gl : Glob) : SOK Try.prog gl 10 fmod_s := by
  refine ⟨fok Try.func10 (by kernel_rfl) (by kernel_rfl), ?_⟩
  intro xs pre r h hp
  unfold fmod_s at h
  split at h
  · simp only [Option.some.injEq, Prod.mk.injEq] at h
    obtain ⟨h1, h2⟩ := h
    subst h1 h2
    exact fnK_sound tyNil (by exact specOK rfl rfl trivial trivial) (by kernel_rfl) Try.func10 rfl (fmod_v gl _ _)
  · cases h
def BytA (xs : List (List AV)) : Prop := ∀ x ∈ xs, ∃ n : Int, x = [.int .u8 n] ∧ 0 ≤ n ∧ n ≤ 255
structure FldP (xs : List (List AV)) (i : Int) : Prop where
  b : BytA xs
  sm : xs.length ≤ 9223372036854775807
  lo : 0 ≤ i
def fnew_s : SpH
  | [.sl 1 f xs, .int .i64 m], [] => some (0 ≤ m, .ptr 0 0, [.cells [.sl 1 false (xs.take m.toNat), .int .i64 0]])
  | _, _ => none
set_option maxRecDepth 100000 in
def fnew_T : Prop :=
  ∀ (gl : Glob) (f : Bool) (xs : List (List AV)) (m : Int), (0 : Int) ≤ m → True → (-9223372036854775808 : Int) ≤ m ∧ m ≤ (9223372036854775807 : Int) → bif decide (m < (↑xs.length :
  Int)) then bif decide ((0 : Int) ≤ m ∧ m ≤ (↑xs.length : Int)) then bif decide ((0 : Int) ≤ (0 : Int) ∧ (0 : Int) ≤ m) then (0 : Nat) = (0 : Nat) ∧ ((True ∧ List.drop (0 : Nat)
  (List.take m.toNat xs) = List.take m.toNat xs) ∧ (0 : Int) = (0 : Int) ∧ True) ∧ True else False else False else (0 : Nat) = (0 : Nat) ∧ ((True ∧ xs = List.take m.toNat xs) ∧ (0 :
  Int) = (0 : Int) ∧ True) ∧ True
set_option maxRecDepth 100000 in
theorem fnew_P : fnew_T := by
  unfold fnew_T
  intro gl f xs m h0 _ _
  refine cs (fun h => cd1 (by omega) (cd1 (by omega) ⟨rfl, ⟨⟨trivial, List.drop_zero⟩, rfl, trivial⟩, trivial⟩)) (fun h => ⟨rfl, ⟨⟨trivial, (List.take_of_length_le (by omega)).symm⟩, rfl, trivial⟩, trivial⟩)
def fnew_S : Prop := ∀ (gl : Glob) (f : Bool) (xs : List (List AV)) (m : Int), 0 ≤ m → fnH Try.prog { glob := gl, spec := lk [], specH := lk [], nowf := true } { nt := 15, drop := drp [(1, 224), (2, 3584), (3, 28672)], fr := 1000, kp := [] } (fun _ _ => none) 6 Try.f19 [.sl 1 f xs, .int .i64 m] [] (.ptr 0 0) [.cells [.sl 1 false (xs.take m.toNat), .int .i64 0]]
set_option maxRecDepth 100000 in
theorem fnew_e : fnew_T = fnew_S := by kernel_rfl
theorem fnew_v : fnew_S := @Eq.mp (fnew_T) (fnew_S) (fnew_e) fnew_P
theorem fnew_ok (gl : Glob) : HOK Try.prog gl 19 fnew_s := by
  refine ⟨fok Try.func19 (by kernel_rfl) (by kernel_rfl), ?_⟩
  intro xs bs pre r bs2 h hp
  unfold fnew_s at h
  split at h
  · simp only [Option.some.injEq, Prod.mk.injEq] at h
    obtain ⟨h1, h2, h3⟩ := h
    subst h1 h2 h3
    exact fnH_sound tyNil (by exact specOK rfl rfl trivial trivial) (by kernel_rfl) Try.func19 (fnew_v gl _ _ _ hp)
  · cases h
def fleft_s : SpH
  | [.ptr 0 0], [.cells [.sl 1 false xs, .int .i64 i]] => some (True, .bool (decide (i < xs.length)), [.cells [.sl 1 false xs, .int .i64 i]])
  | _, _ => none
set_option maxRecDepth 100000 in
def fleft_T : Prop :=
  ∀ (gl : Glob) (xs : List (List AV)) (i : Int), True → True → (-9223372036854775808 : Int) ≤ i ∧ i ≤ (9223372036854775807 : Int) → decide (i < (↑xs.length : Int)) = decide (i <
  (↑xs.length : Int)) ∧ ((True ∧ xs = xs) ∧ i = i ∧ True) ∧ True
set_option maxRecDepth 100000 in
theorem fleft_P : fleft_T := by
  unfold fleft_T
  intro gl xs i _ _ _
  exact ⟨rfl, ⟨⟨trivial, rfl⟩, rfl, trivial⟩, trivial⟩
def fleft_S : Prop := ∀ (gl : Glob) (xs : List (List AV)) (i : Int), fnH Try.prog { glob := gl, spec := lk [], specH := lk [] } { nt := 13, drop := drp [(1, 8184)], fr := 1000, kp := [0] } (fun _ _ => none) 6 Try.f59 [.ptr 0 0] [.cells [.sl 1 false xs, .int .i64 i]] (.bool (decide (i < xs.length))) [.cells [.sl 1 false xs, .int .i64 i]]
set_option maxRecDepth 100000 in
theorem fleft_e : fleft_T = fleft_S := by kernel_rfl
theorem fleft_v : fleft_S := @Eq.mp (fleft_T) (fleft_S) (fleft_e) fleft_P
theorem fleft_ok (gl : Glob) : HOK Try.prog gl 59 fleft_s := by
  refine ⟨fok Try.func59 (by kernel_rfl) (by kernel_rfl), ?_⟩
  intro xs bs pre r bs2 h hp
  unfold fleft_s at h
  split at h
  · simp only [Option.some.injEq, Prod.mk.injEq] at h
    obtain ⟨h1, h2, h3⟩ := h
    subst h1 h2 h3
    exact fnH_sound tyNil (by exact specOK rfl rfl trivial trivial) (by kernel_rfl) Try.func59 (fleft_v gl _ _)
  · cases h
def nxV (xs : List (List AV)) (i n : Int) : Int := if i < xs.length ∧ 1 ≤ n then (cellI (xs.getD i.toNat [])).tmod n else 0
def nxA (xs : List (List AV)) (i n : Int) : Int := if i < xs.length ∧ 1 ≤ n then i + 1 else i
def fnext_s (nxV : List (List AV) → Int → Int → Int) (nxA : List (List AV) → Int → Int → Int) : SpH
  | [.ptr 0 0, .int .i64 n], [.cells [.sl 1 false xs, .int .i64 i]] => some (FldP xs i, .int .i64 (nxV xs i n), [.cells [.sl 1 false xs, .int .i64 (nxA xs i n)]])
  | _, _ => none
set_option maxRecDepth 100000 in
def fnext_T (nxV : List (List AV) → Int → Int → Int) (nxA : List (List AV) → Int → Int → Int) : Prop :=
  ∀ (gl : Glob) (xs : List (List AV)) (i n : Int), FldP xs i → True → (-9223372036854775808 : Int) ≤ n ∧ n ≤ (9223372036854775807 : Int) → True → (-9223372036854775808 : Int) ≤ i ∧ i
  ≤ (9223372036854775807 : Int) → True ∧ bif !decide (i < (↑xs.length : Int)) then (0 : Int) = nxV xs i n ∧ ((True ∧ xs = xs) ∧ i = nxA xs i n ∧ True) ∧ True else bif decide (n < (1
  : Int)) then (0 : Int) = nxV xs i n ∧ ((True ∧ xs = xs) ∧ i = nxA xs i n ∧ True) ∧ True else bif decide (rng IntKind.i64 (i + (1 : Int))) then bif decide (rng IntKind.i64 (i + (1 :
  Int) - (1 : Int))) then bif decide ((0 : Int) ≤ i + (1 : Int) - (1 : Int) ∧ i + (1 : Int) - (1 : Int) < (↑xs.length : Int)) then ∃ n_1, List.take [AV.int IntKind.u8 n_1].length
  (xs.getD (i + (1 : Int) - (1 : Int)).toNat []) = [AV.int IntKind.u8 n_1] ∧ bif decide ¬n = (0 : Int) then n_1.tmod n = nxV xs i n ∧ ((True ∧ xs = xs) ∧ i + (1 : Int) = nxA xs i n ∧
  True) ∧ True else False else False else False else False
set_option maxRecDepth 100000 in
theorem fnext_P : fnext_T nxV nxA := by
  unfold fnext_T
  intro gl xs i n ⟨hb, hs, h0⟩ _ _ _ _
  have no : ¬ (i < xs.length ∧ 1 ≤ n) → 0 = nxV xs i n ∧ ((True ∧ xs = xs) ∧ i = nxA xs i n ∧ True) ∧ True := fun h => by
    unfold nxV nxA; rw [if_neg h, if_neg h]; exact ⟨rfl, ⟨⟨trivial, rfl⟩, rfl, trivial⟩, trivial⟩
  refine ⟨trivial, csplit (fun h => no (fun k => by simp only [decide_eq_true k.1] at h; cases h)) (fun h => cs (fun k => no (by omega)) (fun k => ?_))⟩
  have h : i < (xs.length : Int) := by simpa using h
  have hi : i.toNat < xs.length := by omega
  obtain ⟨z, hz, z0, z1⟩ := hb xs[i.toNat] (List.getElem_mem hi)
  have hg : xs.getD i.toNat [] = [.int .u8 z] := by rw [List.getD_eq_getElem?_getD, List.getElem?_eq_getElem hi, hz]; rfl
  have ei : i + 1 - 1 = i := by omega
  refine cdI (by omega) (cdI (by omega) (cd1 (by omega) ⟨z, by rw [ei, hg]; rfl, cs (fun _ => ?_) (fun q => absurd (show ¬ n = 0 by omega) q)⟩))
  unfold nxV nxA
  rw [if_pos ⟨h, by omega⟩, if_pos ⟨h, by omega⟩, hg]
  exact ⟨rfl, ⟨⟨trivial, rfl⟩, rfl, trivial⟩, trivial⟩
def fnext_S (nxV : List (List AV) → Int → Int → Int) (nxA : List (List AV) → Int → Int → Int) : Prop := ∀ (gl : Glob) (xs : List (List AV)) (i n : Int), FldP xs i → fnH Try.prog { glob := gl, spec := lk [], specH := lk [(59, fleft_s)], shape := [29], nowf := true } { nt := 33, drop := drp [(1, 2016), (3, 520192), (4, 8589410304)], fr := 1000, kp := [0] } (fun _ _ => none) 6 Try.f42 [.ptr 0 0, .int .i64 n] [.cells [.sl 1 false xs, .int .i64 i]] (.int .i64 (nxV xs i n)) [.cells [.sl 1 false xs, .int .i64 (nxA xs i n)]]
set_option maxRecDepth 100000 in
theorem fnext_e (nxV : List (List AV) → Int → Int → Int) (nxA : List (List AV) → Int → Int → Int) : fnext_T nxV nxA = fnext_S nxV nxA := by kernel_rfl
theorem fnext_v : fnext_S nxV nxA := @Eq.mp (fnext_T nxV nxA) (fnext_S nxV nxA) (fnext_e nxV nxA) fnext_P
theorem fnext_ok (gl : Glob) : HOK Try.prog gl 42 (fnext_s nxV nxA) := by
  refine ⟨fok Try.func42 (by kernel_rfl) (by kernel_rfl), ?_⟩
  intro xs bs pre r bs2 h hp
  unfold fnext_s at h
  split at h
  · simp only [Option.some.injEq, Prod.mk.injEq] at h
    obtain ⟨h1, h2, h3⟩ := h
    subst h1 h2 h3
    exact fnH_sound tyNil (by exact specOK rfl rfl trivial ⟨fleft_ok gl, trivial⟩) (by kernel_rfl) Try.func42 (fnext_v gl _ _ _ hp)
  · cases h
theorem nxV_bd {xs : List (List AV)} {i n : Int} (h : BytA xs) (hi : 0 ≤ i) : 0 ≤ nxV xs i n ∧ nxV xs i n ≤ 255 ∧ (1 ≤ n → nxV xs i n < n) := by
  unfold nxV
  split
  · next q =>
    have hl : i.toNat < xs.length := by omega
    obtain ⟨z, hz, z0, z1⟩ := h xs[i.toNat] (List.getElem_mem hl)
    have hg : xs.getD i.toNat [] = [.int .u8 z] := by rw [List.getD_eq_getElem?_getD, List.getElem?_eq_getElem hl, hz]; rfl
    rw [hg]
    show 0 ≤ z.tmod n ∧ z.tmod n ≤ 255 ∧ (1 ≤ n → z.tmod n < n)
    rw [Int.tmod_eq_emod_of_nonneg z0]
    have a := Int.emod_nonneg z (show n ≠ 0 by omega)
    have b := Int.emod_lt_of_pos z (show 0 < n by omega)
    have c : z % n ≤ z := by
      rw [← Int.tmod_eq_emod_of_nonneg z0]
      have h1 : (z.tmod n).natAbs ≤ z.natAbs := by rw [Int.natAbs_tmod]; exact Nat.mod_le _ _
      omega
    omega
  · omega
theorem nxA_le {xs : List (List AV)} {i n : Int} (h : 0 ≤ i) : 0 ≤ nxA xs i n := by unfold nxA; split <;> omega
theorem tmd (x : Int) {m : Int} (h : 1 ≤ m) : -m < x.tmod m ∧ x.tmod m < m := by
  have h1 : (x.tmod m).natAbs < m.natAbs := by rw [Int.natAbs_tmod]; exact Nat.mod_lt _ (by omega)
  omega
theorem tdv (x : Int) : (x.tdiv 2).natAbs ≤ x.natAbs := by
  rw [Int.natAbs_tdiv]; exact Nat.div_le_self _ _
def s24 (xs : List (List AV)) (i : Int) : Int := bits .or .i64 (bits .or .i64 (nxV xs i 256 * 2 ^ 16) (nxV xs (nxA xs i 256) 256 * 2 ^ 8)) (nxV xs (nxA xs (nxA xs i 256) 256) 256)
def sg3 (xs : List (List AV)) (i : Int) : Int := nxA xs (nxA xs (nxA xs i 256) 256) 256
def sgV (xs : List (List AV)) (i m : Int) : Int := if nxV xs (sg3 xs i) 2 = 1 then 0 - (s24 xs i).tmod (m + 1) else (s24 xs i).tmod (m + 1)
def sgA (xs : List (List AV)) (i : Int) : Int := nxA xs (sg3 xs i) 2
def fsigned_s (sgV : List (List AV) → Int → Int → Int) (sgA : List (List AV) → Int → Int) : SpH
  | [.ptr 0 0, .int .i64 m], [.cells [.sl 1 false xs, .int .i64 i]] => some (FldP xs i ∧ 0 ≤ m ∧ m ≤ 1000000000, .int .i64 (sgV xs i m), [.cells [.sl 1 false xs, .int .i64 (sgA xs i)]])
  | _, _ => none
set_option maxRecDepth 100000 in
def fsigned_T (sgV : List (List AV) → Int → Int → Int) (sgA : List (List AV) → Int → Int) : Prop :=
  ∀ (gl : Glob) (xs : List (List AV)) (i m : Int), FldP xs i ∧ (0 : Int) ≤ m ∧ m ≤ (1000000000 : Int) → True → (-9223372036854775808 : Int) ≤ m ∧ m ≤ (9223372036854775807 : Int) →
  True → (-9223372036854775808 : Int) ≤ i ∧ i ≤ (9223372036854775807 : Int) → FldP xs i ∧ bif decide (rng IntKind.i64 (nxV xs i (256 : Int) * (65536 : Int))) then FldP xs (nxA xs i
  (256 : Int)) ∧ bif decide (rng IntKind.i64 (nxV xs (nxA xs i (256 : Int)) (256 : Int) * (256 : Int))) then FldP xs (nxA xs (nxA xs i (256 : Int)) (256 : Int)) ∧ bif decide (rng
  IntKind.i64 (m + (1 : Int))) then bif decide ¬m + (1 : Int) = (0 : Int) then FldP xs (nxA xs (nxA xs (nxA xs i (256 : Int)) (256 : Int)) (256 : Int)) ∧ bif decide (nxV xs (nxA xs
  (nxA xs (nxA xs i (256 : Int)) (256 : Int)) (256 : Int)) (2 : Int) = (1 : Int)) then bif decide (rng IntKind.i64 ((0 : Int) - (bits BinOp.or IntKind.i64 (bits BinOp.or IntKind.i64
  (nxV xs i (256 : Int) * (65536 : Int)) (nxV xs (nxA xs i (256 : Int)) (256 : Int) * (256 : Int))) (nxV xs (nxA xs (nxA xs i (256 : Int)) (256 : Int)) (256 : Int))).tmod (m + (1 :
  Int)))) then (0 : Int) - (bits BinOp.or IntKind.i64 (bits BinOp.or IntKind.i64 (nxV xs i (256 : Int) * (65536 : Int)) (nxV xs (nxA xs i (256 : Int)) (256 : Int) * (256 : Int)))
  (nxV xs (nxA xs (nxA xs i (256 : Int)) (256 : Int)) (256 : Int))).tmod (m + (1 : Int)) = sgV xs i m ∧ ((True ∧ xs = xs) ∧ nxA xs (nxA xs (nxA xs (nxA xs i (256 : Int)) (256 : Int))
  (256 : Int)) (2 : Int) = sgA xs i ∧ True) ∧ True else False else (bits BinOp.or IntKind.i64 (bits BinOp.or IntKind.i64 (nxV xs i (256 : Int) * (65536 : Int)) (nxV xs (nxA xs i (256
  : Int)) (256 : Int) * (256 : Int))) (nxV xs (nxA xs (nxA xs i (256 : Int)) (256 : Int)) (256 : Int))).tmod (m + (1 : Int)) = sgV xs i m ∧ ((True ∧ xs = xs) ∧ nxA xs (nxA xs (nxA xs
  (nxA xs i (256 : Int)) (256 : Int)) (256 : Int)) (2 : Int) = sgA xs i ∧ True) ∧ True else False else False else False else False
set_option maxRecDepth 100000 in
theorem fsigned_P : fsigned_T sgV sgA := by
  unfold fsigned_T
  intro gl xs i m ⟨hf, h0, h1⟩ _ _ _ _
  have i1 := nxA_le (xs := xs) (n := 256) hf.lo
  have i2 := nxA_le (xs := xs) (n := 256) i1
  have i3 := nxA_le (xs := xs) (n := 256) i2
  have a1 := nxV_bd (n := 256) hf.b hf.lo
  have a2 := nxV_bd (n := 256) hf.b i1
  have a3 := nxV_bd (n := 256) hf.b i2
  have b := tmd (s24 xs i) (m := m + 1) (by omega)
  have e : (s24 xs i).tmod (m + 1) = (bits BinOp.or .i64 (bits BinOp.or .i64 (nxV xs i 256 * 65536) (nxV xs (nxA xs i 256) 256 * 256)) (nxV xs (nxA xs (nxA xs i 256) 256) 256)).tmod (m + 1) := rfl
  rw [← e]
  refine ⟨hf, cdI (by omega) ⟨⟨hf.b, hf.sm, i1⟩, cdI (by omega) ⟨⟨hf.b, hf.sm, i2⟩, cdI (by omega) (cs (fun _ => ⟨⟨hf.b, hf.sm, i3⟩, ?_⟩) (fun q => absurd (show ¬ m + 1 = 0 by omega) q))⟩⟩⟩
  unfold sgV sgA sg3
  refine cs (fun q => cdI (by omega) ?_) (fun q => ?_)
  · rw [if_pos q]; exact ⟨rfl, ⟨⟨trivial, rfl⟩, rfl, trivial⟩, trivial⟩
  · rw [if_neg q]; exact ⟨rfl, ⟨⟨trivial, rfl⟩, rfl, trivial⟩, trivial⟩
def fsigned_S (sgV : List (List AV) → Int → Int → Int) (sgA : List (List AV) → Int → Int) : Prop := ∀ (gl : Glob) (xs : List (List AV)) (i m : Int), FldP xs i ∧ 0 ≤ m ∧ m ≤ 1000000000 → fnH Try.prog { glob := gl, spec := lk [], specH := lk [(42, (fnext_s Go.Proofs.Ytjllgdpnbllnjaa.nxV Go.Proofs.Ytjllgdpnbllnjaa.nxA))], nowf := true } { nt := 25, drop := drp [(1, 524224), (2, 1572864), (3, 12582912), (4, 16777216)], fr := 1000, kp := [0] } (fun _ _ => none) 6 Try.f43 [.ptr 0 0, .int .i64 m] [.cells [.sl 1 false xs, .int .i64 i]] (.int .i64 (sgV xs i m)) [.cells [.sl 1 false xs, .int .i64 (sgA xs i)]]
set_option maxRecDepth 100000 in
theorem fsigned_e (sgV : List (List AV) → Int → Int → Int) (sgA : List (List AV) → Int → Int) : fsigned_T sgV sgA = fsigned_S sgV sgA := by kernel_rfl
theorem fsigned_v : fsigned_S sgV sgA := @Eq.mp (fsigned_T sgV sgA) (fsigned_S sgV sgA) (fsigned_e sgV sgA) fsigned_P
theorem fsigned_ok (gl : Glob) : HOK Try.prog gl 43 (fsigned_s sgV sgA) := by
  refine ⟨fok Try.func43 (by kernel_rfl) (by kernel_rfl), ?_⟩
  intro xs bs pre r bs2 h hp
  unfold fsigned_s at h
  split at h
  · simp only [Option.some.injEq, Prod.mk.injEq] at h
    obtain ⟨h1, h2, h3⟩ := h
    subst h1 h2 h3
    exact fnH_sound tyNil (by exact specOK rfl rfl trivial ⟨fnext_ok gl, trivial⟩) (by kernel_rfl) Try.func43 (fsigned_v gl _ _ _ hp)
  · cases h
theorem sgV_bd {xs : List (List AV)} {i m : Int} (h : 0 ≤ m) : -m ≤ sgV xs i m ∧ sgV xs i m ≤ m := by
  have b := tmd (s24 xs i) (m := m + 1) (by omega)
  unfold sgV
  split <;> omega
theorem sgA_le {xs : List (List AV)} {i : Int} (h : 0 ≤ i) : 0 ≤ sgA xs i := nxA_le (nxA_le (nxA_le (nxA_le h)))
def pF (xs : List (List AV)) (i : Int) : Int := nxV xs i 9
def pi1 (xs : List (List AV)) (i : Int) : Int := nxA xs i 9
def pi2 (xs : List (List AV)) (i : Int) : Int := nxA xs (pi1 xs i) 9
def pi3 (xs : List (List AV)) (i : Int) : Int := nxA xs (pi2 xs i) 20
def pO (xs : List (List AV)) (i : Int) : Int := nxV xs (pi1 xs i) 9 + ((nxV xs (pi2 xs i) 20).tdiv 19 * sgV xs (pi3 xs i) 1000000).tdiv 2
def pA (xs : List (List AV)) (i : Int) : Int := sgA xs (pi3 xs i)
def prL (xs : List (List AV)) : Nat → Int → List (List AV)
  | 0, _ => []
  | n + 1, i => [.int .i64 (pF xs i), .int .i64 (pO xs i)] :: prL xs n (pA xs i)
def prA (xs : List (List AV)) : Nat → Int → Int
  | 0, i => i
  | n + 1, i => prA xs n (pA xs i)
structure PrsI (xs : List (List AV)) (n0 : Nat) (i0 : Int) (x : Int × Int × List (List AV)) : Prop where
  lo : 0 ≤ x.1
  hi : x.1 ≤ n0
  at0 : 0 ≤ x.2.1
  row : x.2.2 ++ prL xs x.1.toNat x.2.1 = prL xs n0 i0
  ed : prA xs x.1.toNat x.2.1 = prA xs n0 i0
  len : x.2.2.length + x.1.toNat = n0
def prsI (xs : List (List AV)) (n0 : Nat) (i0 : Int) : LInv := ⟨Int × Int × List (List AV), fun x => ⟨[(0, .ptr 0 0), (5, .rw 500 2 x.2.2.length), (6, .int .i64 x.1)], [(0, .cells [.sl 1 false xs, .int .i64 x.2.1]), (500, .row 40 2 x.2.2)]⟩, PrsI xs n0 i0, fun x => x.1.toNat, none⟩
def prsN (xs : List (List AV)) (i m : Int) : Nat := (nxV xs i (m + 1)).toNat
def prsV (xs : List (List AV)) (i m : Int) : List (List AV) := prL xs (prsN xs i m) (nxA xs i (m + 1))
def prsA (xs : List (List AV)) (i m : Int) : Int := prA xs (prsN xs i m) (nxA xs i (m + 1))
def fpairs_s (prsV : List (List AV) → Int → Int → List (List AV)) (prsA : List (List AV) → Int → Int → Int) : SpH
  | [.ptr 0 0, .int .i64 m], [.cells [.sl 1 false xs, .int .i64 i]] => some (FldP xs i ∧ 0 ≤ m ∧ m ≤ 10000, .sl 2 false (prsV xs i m), [.cells [.sl 1 false xs, .int .i64 (prsA xs i m)]])
  | _, _ => none
set_option maxRecDepth 100000 in
def fpairs_T (prsV : List (List AV) → Int → Int → List (List AV)) (prsA : List (List AV) → Int → Int → Int) : Prop :=
  ∀ (gl : Glob) (xs : List (List AV)) (i m : Int), FldP xs i ∧ (0 : Int) ≤ m ∧ m ≤ (10000 : Int) → True → (-9223372036854775808 : Int) ≤ m ∧ m ≤ (9223372036854775807 : Int) → True →
  (-9223372036854775808 : Int) ≤ i ∧ i ≤ (9223372036854775807 : Int) → bif decide (rng IntKind.i64 (m + (1 : Int))) then FldP xs i ∧ (∃ x, PrsI xs (prsN xs i m) (nxA xs i (m + (1 :
  Int))) x ∧ ((0 : Nat) = (0 : Nat) ∧ (0 : Nat) = x.snd.snd.length ∧ nxV xs i (m + (1 : Int)) = x.fst ∧ True) ∧ ((True ∧ xs = xs) ∧ nxA xs i (m + (1 : Int)) = x.snd.fst ∧ True) ∧ []
  = x.snd.snd ∧ True) ∧ ∀ (x : Int × Int × List (List AV)), PrsI xs (prsN xs i m) (nxA xs i (m + (1 : Int))) x → bif decide ((0 : Int) < x.fst) then FldP xs x.snd.fst ∧ FldP xs (nxA
  xs x.snd.fst (9 : Int)) ∧ FldP xs (nxA xs (nxA xs x.snd.fst (9 : Int)) (9 : Int)) ∧ bif decide (rng IntKind.i64 ((nxV xs (nxA xs (nxA xs x.snd.fst (9 : Int)) (9 : Int)) (20 :
  Int)).tdiv (19 : Int))) then (FldP xs (nxA xs (nxA xs (nxA xs x.snd.fst (9 : Int)) (9 : Int)) (20 : Int)) ∧ (0 : Int) ≤ (1000000 : Int) ∧ (1000000 : Int) ≤ (1000000000 : Int)) ∧
  bif decide (rng IntKind.i64 ((nxV xs (nxA xs (nxA xs x.snd.fst (9 : Int)) (9 : Int)) (20 : Int)).tdiv (19 : Int) * sgV xs (nxA xs (nxA xs (nxA xs x.snd.fst (9 : Int)) (9 : Int))
  (20 : Int)) (1000000 : Int))) then bif decide (rng IntKind.i64 (((nxV xs (nxA xs (nxA xs x.snd.fst (9 : Int)) (9 : Int)) (20 : Int)).tdiv (19 : Int) * sgV xs (nxA xs (nxA xs (nxA
  xs x.snd.fst (9 : Int)) (9 : Int)) (20 : Int)) (1000000 : Int)).tdiv (2 : Int))) then bif decide (rng IntKind.i64 (nxV xs (nxA xs x.snd.fst (9 : Int)) (9 : Int) + ((nxV xs (nxA xs
  (nxA xs x.snd.fst (9 : Int)) (9 : Int)) (20 : Int)).tdiv (19 : Int) * sgV xs (nxA xs (nxA xs (nxA xs x.snd.fst (9 : Int)) (9 : Int)) (20 : Int)) (1000000 : Int)).tdiv (2 : Int)))
  then bif decide (x.snd.snd.length = x.snd.snd.length ∧ x.snd.snd.length + [[AV.int IntKind.i64 (nxV xs x.snd.fst (9 : Int)), AV.int IntKind.i64 (nxV xs (nxA xs x.snd.fst (9 : Int))
  (9 : Int) + ((nxV xs (nxA xs (nxA xs x.snd.fst (9 : Int)) (9 : Int)) (20 : Int)).tdiv (19 : Int) * sgV xs (nxA xs (nxA xs (nxA xs x.snd.fst (9 : Int)) (9 : Int)) (20 : Int))
  (1000000 : Int)).tdiv (2 : Int))]].length ≤ (9223372036854775807 : Nat) ∧ (x.snd.snd.length + [[AV.int IntKind.i64 (nxV xs x.snd.fst (9 : Int)), AV.int IntKind.i64 (nxV xs (nxA xs
  x.snd.fst (9 : Int)) (9 : Int) + ((nxV xs (nxA xs (nxA xs x.snd.fst (9 : Int)) (9 : Int)) (20 : Int)).tdiv (19 : Int) * sgV xs (nxA xs (nxA xs (nxA xs x.snd.fst (9 : Int)) (9 :
  Int)) (20 : Int)) (1000000 : Int)).tdiv (2 : Int))]].length) * (16 : Nat) ≤ (140737488355328 : Nat)) then bif decide (rng IntKind.i64 (x.fst - (1 : Int))) then ∃ y, PrsI xs (prsN
  xs i m) (nxA xs i (m + (1 : Int))) y ∧ (prsI xs (prsN xs i m) (nxA xs i (m + (1 : Int)))).m y < (prsI xs (prsN xs i m) (nxA xs i (m + (1 : Int)))).m x ∧ ((0 : Nat) = (0 : Nat) ∧
  (x.snd.snd ++ [[AV.int IntKind.i64 (nxV xs x.snd.fst (9 : Int)), AV.int IntKind.i64 (nxV xs (nxA xs x.snd.fst (9 : Int)) (9 : Int) + ((nxV xs (nxA xs (nxA xs x.snd.fst (9 : Int))
  (9 : Int)) (20 : Int)).tdiv (19 : Int) * sgV xs (nxA xs (nxA xs (nxA xs x.snd.fst (9 : Int)) (9 : Int)) (20 : Int)) (1000000 : Int)).tdiv (2 : Int))]]).length = y.snd.snd.length ∧
  x.fst - (1 : Int) = y.fst ∧ True) ∧ ((True ∧ xs = xs) ∧ sgA xs (nxA xs (nxA xs (nxA xs x.snd.fst (9 : Int)) (9 : Int)) (20 : Int)) = y.snd.fst ∧ True) ∧ x.snd.snd ++ [[AV.int
  IntKind.i64 (nxV xs x.snd.fst (9 : Int)), AV.int IntKind.i64 (nxV xs (nxA xs x.snd.fst (9 : Int)) (9 : Int) + ((nxV xs (nxA xs (nxA xs x.snd.fst (9 : Int)) (9 : Int)) (20 :
  Int)).tdiv (19 : Int) * sgV xs (nxA xs (nxA xs (nxA xs x.snd.fst (9 : Int)) (9 : Int)) (20 : Int)) (1000000 : Int)).tdiv (2 : Int))]] = y.snd.snd ∧ True else False else False else
  False else False else False else False else bif decide (x.snd.snd.length = x.snd.snd.length) then (True ∧ x.snd.snd = prsV xs i m) ∧ ((True ∧ xs = xs) ∧ x.snd.fst = prsA xs i m ∧
  True) ∧ True else False else False
set_option maxRecDepth 100000 in
theorem fpairs_P : fpairs_T prsV prsA := by
  unfold fpairs_T
  intro gl xs i m ⟨hf, h0, h1⟩ _ _ _ _
  have a1 := nxV_bd (n := m + 1) hf.b hf.lo
  have i1 := nxA_le (xs := xs) (n := m + 1) hf.lo
  have hN : ((prsN xs i m : Nat) : Int) = nxV xs i (m + 1) := by unfold prsN; omega
  refine cdI (by omega) ⟨hf, ⟨(nxV xs i (m + 1), nxA xs i (m + 1), []), ⟨a1.1, by dsimp only; omega, i1, rfl, rfl, by simp [prsN]⟩, ⟨rfl, rfl, rfl, trivial⟩, ⟨⟨trivial, rfl⟩, rfl, trivial⟩, rfl, trivial⟩, ?_⟩
  have hv : prsV xs i m = prL xs (prsN xs i m) (nxA xs i (m + 1)) := rfl
  have hva : prsA xs i m = prA xs (prsN xs i m) (nxA xs i (m + 1)) := rfl
  rw [hv, hva]
  have hbd : (prsN xs i m : Int) ≤ 255 := by omega
  generalize prsN xs i m = N at *
  generalize nxA xs i (m + 1) = s at *
  clear hv hva hN a1 i1
  rintro ⟨n, a, rows⟩ ⟨p0, p1, p2, p3, p4, p5⟩
  dsimp only at p0 p1 p2 p3 p4 p5
  dsimp only
  refine cs (fun hn => ?_) (fun hn => ?_)
  · obtain ⟨k, hk⟩ : ∃ k : Nat, n.toNat = k + 1 := ⟨n.toNat - 1, by omega⟩
    have hk2 : (n - 1).toNat = k := by omega
    rw [hk] at p3 p4 p5
    simp only [prL, prA] at p3 p4
    have j1 := nxA_le (xs := xs) (n := 9) p2
    have j2 := nxA_le (xs := xs) (n := 9) j1
    have j3 := nxA_le (xs := xs) (n := 20) j2
    have j4 := sgA_le (xs := xs) j3
    have v1 := nxV_bd (n := 9) hf.b p2
    have v2 := nxV_bd (n := 9) hf.b j1
    have v3 := nxV_bd (n := 20) hf.b j2
    have v4 := sgV_bd (xs := xs) (i := nxA xs (nxA xs (nxA xs a 9) 9) 20) (m := 1000000) (by decide)
    have eF : pF xs a = nxV xs a 9 := rfl
    have eO : pO xs a = nxV xs (nxA xs a 9) 9 + ((nxV xs (nxA xs (nxA xs a 9) 9) 20).tdiv 19 * sgV xs (nxA xs (nxA xs (nxA xs a 9) 9) 20) 1000000).tdiv 2 := rfl
    have eA : pA xs a = sgA xs (nxA xs (nxA xs (nxA xs a 9) 9) 20) := rfl
    rw [eF, eO, eA] at p3
    rw [eA] at p4
    have hq : (nxV xs (nxA xs (nxA xs a 9) 9) 20).tdiv 19 = 0 ∨ (nxV xs (nxA xs (nxA xs a 9) 9) 20).tdiv 19 = 1 := by
      rw [Int.tdiv_eq_ediv_of_nonneg v3.1]; omega
    have hp : ∀ g : Int, g = 0 ∨ g = 1 → -1000000 ≤ g * sgV xs (nxA xs (nxA xs (nxA xs a 9) 9) 20) 1000000 ∧ g * sgV xs (nxA xs (nxA xs (nxA xs a 9) 9) 20) 1000000 ≤ 1000000 := by
      rintro g (rfl | rfl) <;> omega
    have hp := hp _ hq
    have hd := tdv ((nxV xs (nxA xs (nxA xs a 9) 9) 20).tdiv 19 * sgV xs (nxA xs (nxA xs (nxA xs a 9) 9) 20) 1000000)
    generalize (nxV xs (nxA xs (nxA xs a 9) 9) 20).tdiv 19 = q at *
    generalize q * sgV xs (nxA xs (nxA xs (nxA xs a 9) 9) 20) 1000000 = g at *
    refine ⟨⟨hf.b, hf.sm, p2⟩, ⟨hf.b, hf.sm, j1⟩, ⟨hf.b, hf.sm, j2⟩, cdI (by omega) ⟨⟨⟨hf.b, hf.sm, j3⟩, by decide, by decide⟩, cdI (by omega) (cdI (by omega) (cdI (by omega) (cd1 ?_ (cdI (by omega) ⟨(n - 1, _, rows ++ [[.int .i64 (nxV xs a 9), .int .i64 (nxV xs (nxA xs a 9) 9 + g.tdiv 2)]]), ⟨by dsimp only; omega, by dsimp only; omega, j4, ?_, ?_, ?_⟩, by simp only [prsI]; omega, ⟨rfl, rfl, rfl, trivial⟩, ⟨⟨trivial, rfl⟩, rfl, trivial⟩, rfl, trivial⟩))))⟩⟩
    · simp only [List.length_singleton]; exact ⟨by trivial, by omega, by omega⟩
    · dsimp only; rw [hk2, List.append_assoc]; exact p3
    · dsimp only; rw [hk2]; exact p4
    · dsimp only; rw [hk2, List.length_append, List.length_singleton]; omega
  · have hz : n.toNat = 0 := by omega
    rw [hz] at p3 p4
    simp only [prL, prA, List.append_nil] at p3 p4
    exact cd1 rfl ⟨⟨trivial, p3⟩, ⟨⟨trivial, rfl⟩, p4, trivial⟩, trivial⟩
def fpairs_S (prsV : List (List AV) → Int → Int → List (List AV)) (prsA : List (List AV) → Int → Int → Int) : Prop := ∀ (gl : Glob) (xs : List (List AV)) (i m : Int), FldP xs i ∧ 0 ≤ m ∧ m ≤ 10000 → fnH Try.prog { glob := gl, spec := lk [], specH := lk [(42, (fnext_s Go.Proofs.Ytjllgdpnbllnjaa.nxV Go.Proofs.Ytjllgdpnbllnjaa.nxA)), (43, (fsigned_s Go.Proofs.Ytjllgdpnbllnjaa.sgV Go.Proofs.Ytjllgdpnbllnjaa.sgA))], nowf := true } { nt := 32, drop := drp [(2, 1920), (3, 2048), (4, 24576), (5, 2147450880), (6, 2147483648)], fr := 1000, kp := [0], emp := fun id => cond (Nat.beq id 2) [(5, 500, 40, 2)] [] } (invs [(3, prsI xs (prsN xs i m) (nxA xs i (m + 1)))]) 6 Try.f20 [.ptr 0 0, .int .i64 m] [.cells [.sl 1 false xs, .int .i64 i]] (.sl 2 false (prsV xs i m)) [.cells [.sl 1 false xs, .int .i64 (prsA xs i m)]]
set_option maxRecDepth 100000 in
theorem fpairs_e (prsV : List (List AV) → Int → Int → List (List AV)) (prsA : List (List AV) → Int → Int → Int) : fpairs_T prsV prsA = fpairs_S prsV prsA := by kernel_rfl
theorem fpairs_v : fpairs_S prsV prsA := @Eq.mp (fpairs_T prsV prsA) (fpairs_S prsV prsA) (fpairs_e prsV prsA) fpairs_P
theorem fpairs_ok (gl : Glob) : HOK Try.prog gl 20 (fpairs_s prsV prsA) := by
  refine ⟨fok Try.func20 (by kernel_rfl) (by kernel_rfl), ?_⟩
  intro xs bs pre r bs2 h hp
  unfold fpairs_s at h
  split at h
  · simp only [Option.some.injEq, Prod.mk.injEq] at h
    obtain ⟨h1, h2, h3⟩ := h
    subst h1 h2 h3
    exact fnH_sound tyNil (by exact specOK rfl rfl trivial ⟨fnext_ok gl, fsigned_ok gl, trivial⟩) (by kernel_rfl) Try.func20 (fpairs_v gl _ _ _ hp)
  · cases h
end Go.Proofs.Ytjllgdpnbllnjaa
