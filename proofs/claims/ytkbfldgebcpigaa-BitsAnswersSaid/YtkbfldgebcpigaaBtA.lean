/- Bits: the program's functions, over bytes as rows of one number. -/
import Derived.Test.YtkbfldgebcpigaaKv
import Derived.Test.YtkbfldgebcpigaaBitsLaw
namespace Go.Proofs.Ytkbfldgebcpigaa
open Go
set_option linter.unusedVariables false
set_option linter.unusedSimpArgs false

theorem cs {p : Prop} [Decidable p] {A B : Prop} (h : p → A) (k : ¬ p → B) : cond (decide p) A B := csplit (fun q => h (of_decide_eq_true q)) (fun q => k (of_decide_eq_false q))
/-- Rows of bytes. -/
structure BytP (ys : List (List AV)) : Prop where
  fr : ∀ i, i < ys.length → ∃ n : Nat, ys.getD i [] = [.int .u8 n] ∧ n < 256
  fl : ys.length ≤ 9223372036854775807
def bn (ys : List (List AV)) : List Nat := ys.map fun r => (cellI r).toNat
def br (l : List Nat) : List (List AV) := l.map fun n : Nat => [.int .u8 (n : Int)]
def szV (n : Int) : Int := IntKind.i64.wrap ((IntKind.i64.wrap (n + 7)).tdiv 8)
theorem bn_len (ys : List (List AV)) : (bn ys).length = ys.length := by simp [bn]
theorem bn_at {ys : List (List AV)} (h : BytP ys) {j : Nat} (hj : j < ys.length) : ys.getD j [] = [.int .u8 (((bn ys).getD j 0 : Nat) : Int)] ∧ (bn ys).getD j 0 < 256 := by
  obtain ⟨n, h1, h2⟩ := h.fr j hj
  have e : (bn ys).getD j 0 = n := by
    have hg : ys.getD j [] = ys[j] := by rw [List.getD_eq_getElem?_getD, List.getElem?_eq_getElem hj]; rfl
    rw [hg] at h1
    unfold bn
    rw [List.getD_eq_getElem?_getD, List.getElem?_map, List.getElem?_eq_getElem hj, h1]
    simp [cellI]
  rw [e]; exact ⟨h1, h2⟩
theorem bn_bytes {ys : List (List AV)} (h : BytP ys) : Bytes (bn ys) := fun i => by
  by_cases hi : i < ys.length
  · exact (bn_at h hi).2
  · rw [getD_out (by rw [bn_len]; omega)]; decide
theorem shr_and : ∀ k, k < 8 → ∀ z, z < 256 → bits .and .i64 (((z : Nat) : Int) / 2 ^ k) 1 = ((z / 2 ^ k % 2 : Nat) : Int) := by decide +kernel
theorem low_and : ∀ f, f < 8 → ∀ z, z < 256 → bits .and .u8 ((z : Nat) : Int) (IntKind.u8.wrap (IntKind.u8.wrap (1 * 2 ^ f) - 1)) = ((z % 2 ^ f : Nat) : Int) := by decide +kernel
theorem szV_eq {n : Int} (h0 : 0 ≤ n) (h1 : n ≤ 1000000000) : szV n = (n + 7) / 8 := by
  unfold szV
  rw [wrap_eq (n := n + 7) (by show _ ∧ _; omega), Int.tdiv_eq_ediv_of_nonneg (by omega), wrap_eq (by show _ ∧ _; omega)]
def bsize_s : Sp
  | [.int .i64 n] => some (True, .int .i64 (szV n))
  | _ => none
set_option maxRecDepth 100000 in
def bsize_T : Prop :=
  ∀ (gl : Glob) (n : Int), (-9223372036854775808 : Int) ≤ n ∧ n ≤ (9223372036854775807 : Int) → IntKind.i64.wrap ((IntKind.i64.wrap (n + (7 : Int))).tdiv (8 : Int)) = szV n
set_option maxRecDepth 100000 in
theorem bsize_P : bsize_T := by
  unfold bsize_T
  intro gl n _
  rfl
def bsize_S : Prop := ∀ (gl : Glob) (n : Int), fnK Try.prog { glob := gl, spec := lk [], specH := lk [], nowf := true, wrap := true } { nt := 6, drop := drp [(1, 56)] } (fun _ _ => none) 6 Try.f29 [.int .i64 n] (.int .i64 (szV n))
set_option maxRecDepth 100000 in
theorem bsize_e : bsize_T = bsize_S := by kernel_rfl
theorem bsize_v : bsize_S := @Eq.mp (bsize_T) (bsize_S) (bsize_e) bsize_P
theorem bsize_ok (gl : Glob) : SOK Try.prog gl 29 bsize_s := by
  refine ⟨fok Try.func29 (by kernel_rfl) (by kernel_rfl), ?_⟩
  intro xs pre r h hp
  unfold bsize_s at h
  split at h
  · simp only [Option.some.injEq, Prod.mk.injEq] at h
    obtain ⟨h1, h2⟩ := h
    subst h1 h2
    exact fnK_sound tyNil (by exact specOK rfl rfl trivial trivial) (by kernel_rfl) Try.func29 rfl (bsize_v gl _)
  · cases h
def bbit_s : Sp
  | [.agg [.sl 1 f ys, .int .i64 n], .int .i64 i] => some (BytP ys ∧ 0 ≤ i ∧ i < 8 * ys.length, .int .i64 (bitOf (bn ys) i.toNat))
  | _ => none
set_option maxRecDepth 100000 in
def bbit_T : Prop :=
  ∀ (gl : Glob) (f : Bool) (ys : List (List AV)) (n i : Int), BytP ys ∧ (0 : Int) ≤ i ∧ i < (8 : Int) * (↑ys.length : Int) → True ∧ ((-9223372036854775808 : Int) ≤ n ∧ n ≤
  (9223372036854775807 : Int)) ∧ True → (-9223372036854775808 : Int) ≤ i ∧ i ≤ (9223372036854775807 : Int) → bif decide (rng IntKind.i64 (i.tdiv (8 : Int))) then bif decide ((0 :
  Int) ≤ i.tdiv (8 : Int) ∧ i.tdiv (8 : Int) < (↑ys.length : Int)) then ∃ n, List.take [AV.int IntKind.u8 n].length (ys.getD (i.tdiv (8 : Int)).toNat []) = [AV.int IntKind.u8 n] ∧
  bif decide (rng IntKind.i64 ((7 : Int) - i.tmod (8 : Int))) then bif decide ((0 : Int) ≤ (7 : Int) - i.tmod (8 : Int)) then bits BinOp.and IntKind.i64 (n / (2 : Int) ^ min ((7 :
  Int) - i.tmod (8 : Int)).toNat (8 : Nat)) (1 : Int) = (↑(bitOf (bn ys) i.toNat) : Int) else False else False else False else False
set_option maxRecDepth 100000 in
theorem bbit_P : bbit_T := by
  unfold bbit_T
  intro gl f ys n i ⟨hb, h0, h1⟩ _ _
  have e1 : i.tdiv 8 = i / 8 := Int.tdiv_eq_ediv_of_nonneg h0
  have e2 : i.tmod 8 = i % 8 := Int.tmod_eq_emod_of_nonneg h0
  have hl := hb.fl
  rw [e1, e2]
  obtain ⟨a1, a2⟩ := bn_at hb (j := (i / 8).toNat) (by omega)
  refine cdI (by omega) (cd1 (by omega) ⟨_, by rw [a1]; rfl, cdI (by omega) (cd1 (by omega) ?_)⟩)
  have e3 : min (7 - i % 8).toNat 8 = 7 - i.toNat % 8 := by omega
  rw [e3, shr_and _ (by omega) _ a2]
  unfold bitOf
  rw [show (i / 8).toNat = i.toNat / 8 by omega]
def bbit_S : Prop := ∀ (gl : Glob) (f : Bool) (ys : List (List AV)) (n i : Int), BytP ys ∧ 0 ≤ i ∧ i < 8 * ys.length → fnK Try.prog { glob := gl, spec := lk [], specH := lk [], shape := [10], nowf := true } { nt := 17, drop := drp [(1, 131040)] } (fun _ _ => none) 6 Try.f32 [.agg [.sl 1 f ys, .int .i64 n], .int .i64 i] (.int .i64 (bitOf (bn ys) i.toNat))
set_option maxRecDepth 100000 in
theorem bbit_e : bbit_T = bbit_S := by kernel_rfl
theorem bbit_v : bbit_S := @Eq.mp (bbit_T) (bbit_S) (bbit_e) bbit_P
theorem bbit_ok (gl : Glob) : SOK Try.prog gl 32 bbit_s := by
  refine ⟨fok Try.func32 (by kernel_rfl) (by kernel_rfl), ?_⟩
  intro xs pre r h hp
  unfold bbit_s at h
  split at h
  · simp only [Option.some.injEq, Prod.mk.injEq] at h
    obtain ⟨h1, h2⟩ := h
    subst h1 h2
    exact fnK_sound tyNil (by exact specOK rfl rfl trivial trivial) (by kernel_rfl) Try.func32 rfl (bbit_v gl _ _ _ _ hp)
  · cases h
def bvalid_s : Sp
  | [.agg [.sl 1 f ys, .int .i64 n]] => some (BytP ys, .bool (validB (bn ys) n))
  | _ => none
set_option maxRecDepth 100000 in
def bvalid_T : Prop :=
  ∀ (gl : Glob) (f : Bool) (ys : List (List AV)) (n : Int), BytP ys → True ∧ ((-9223372036854775808 : Int) ≤ n ∧ n ≤ (9223372036854775807 : Int)) ∧ True → bif decide (n < (0 : Int))
  then false = validB (bn ys) n else bif decide ((40000 : Int) < n) then false = validB (bn ys) n else True ∧ bif decide ¬(↑ys.length : Int) = szV n then false = validB (bn ys) n
  else bif decide (rng IntKind.i64 ((8 : Int) * (↑ys.length : Int))) then bif decide (rng IntKind.i64 ((8 : Int) * (↑ys.length : Int) - n)) then bif decide ((8 : Int) * (↑ys.length :
  Int) - n = (0 : Int)) then true = validB (bn ys) n else bif decide (rng IntKind.i64 ((↑ys.length : Int) - (1 : Int))) then bif decide ((0 : Int) ≤ (↑ys.length : Int) - (1 : Int) ∧
  (↑ys.length : Int) - (1 : Int) < (↑ys.length : Int)) then ∃ n_1, List.take [AV.int IntKind.u8 n_1].length (ys.getD ((↑ys.length : Int) - (1 : Int)).toNat []) = [AV.int IntKind.u8
  n_1] ∧ bif decide ((0 : Int) ≤ (8 : Int) * (↑ys.length : Int) - n) then decide (bits BinOp.and IntKind.u8 n_1 (IntKind.u8.wrap (IntKind.u8.wrap ((1 : Int) * (2 : Int) ^ min ((8 :
  Int) * (↑ys.length : Int) - n).toNat (8 : Nat)) - (1 : Int))) = (0 : Int)) = validB (bn ys) n else False else False else False else False else False
set_option maxRecDepth 100000 in
theorem bvalid_P : bvalid_T := by
  unfold bvalid_T
  intro gl f ys n hb _
  have hl := hb.fl
  have hbl := bn_len ys
  refine cs (fun h => ?_) (fun h0 => cs (fun h => ?_) (fun h1 => ⟨trivial, cs (fun h => ?_) (fun h2 => ?_)⟩))
  · unfold validB; rw [decide_eq_false (by omega)]; rfl
  · unfold validB; rw [decide_eq_false (show ¬ n ≤ 40000 by omega), Bool.and_false]; rfl
  · rw [szV_eq (by omega) (by omega)] at h
    unfold validB; rw [hbl, decide_eq_false h, Bool.and_false]; rfl
  · have h2 := Decidable.not_not.1 h2
    rw [szV_eq (by omega) (by omega)] at h2
    refine cdI (by omega) (cdI (by omega) (cs (fun h3 => ?_) (fun h3 => cdI (by omega) (cd1 (by omega) ?_))))
    · refine (validB_iff.2 ⟨by omega, by omega, by rw [hbl]; exact h2, ?_⟩).symm
      rw [hbl, h3]; exact Nat.mod_one _
    · obtain ⟨a1, a2⟩ := bn_at hb (j := ((ys.length : Int) - 1).toNat) (by omega)
      refine ⟨_, by rw [a1]; rfl, cd1 (by omega) ?_⟩
      rw [show min (8 * (ys.length : Int) - n).toNat 8 = (8 * (ys.length : Int) - n).toNat by omega, low_and _ (by omega) _ a2]
      unfold validB
      rw [decide_eq_true (show 0 ≤ n by omega), decide_eq_true (show n ≤ 40000 by omega), hbl, decide_eq_true h2, show ((ys.length : Int) - 1).toNat = ys.length - 1 by omega, Bool.true_and, Bool.true_and, Bool.true_and]
      exact decide_eq_decide.2 Int.natCast_eq_zero
def bvalid_S : Prop := ∀ (gl : Glob) (f : Bool) (ys : List (List AV)) (n : Int), BytP ys → fnK Try.prog { glob := gl, spec := lk [(29, bsize_s)], specH := lk [], shape := [38], nowf := true } { nt := 45, drop := drp [(1, 1048560), (3, 266338304), (4, 35184103653376)] } (fun _ _ => none) 6 Try.f27 [.agg [.sl 1 f ys, .int .i64 n]] (.bool (validB (bn ys) n))
set_option maxRecDepth 100000 in
theorem bvalid_e : bvalid_T = bvalid_S := by kernel_rfl
theorem bvalid_v : bvalid_S := @Eq.mp (bvalid_T) (bvalid_S) (bvalid_e) bvalid_P
theorem bvalid_ok (gl : Glob) : SOK Try.prog gl 27 bvalid_s := by
  refine ⟨fok Try.func27 (by kernel_rfl) (by kernel_rfl), ?_⟩
  intro xs pre r h hp
  unfold bvalid_s at h
  split at h
  · simp only [Option.some.injEq, Prod.mk.injEq] at h
    obtain ⟨h1, h2⟩ := h
    subst h1 h2
    exact fnK_sound tyNil (by exact specOK rfl rfl ⟨(bsize_ok gl), trivial⟩ trivial) (by kernel_rfl) Try.func27 rfl (bvalid_v gl _ _ _ hp)
  · cases h
def bcopied_s : SpH
  | [.agg [.sl 1 f ys, .int .i64 n]], [] => some (BytP ys ∧ ys.length ≤ 1000000, .ptr 0 0, [.cells [.rw 1 1 ys.length, .int .i64 n], .row 5 1 ys])
  | _, _ => none
set_option maxRecDepth 100000 in
def bcopied_T : Prop :=
  ∀ (gl : Glob) (f : Bool) (ys : List (List AV)) (n : Int), BytP ys ∧ ys.length ≤ (1000000 : Nat) → True ∧ ((-9223372036854775808 : Int) ≤ n ∧ n ≤ (9223372036854775807 : Int)) ∧ True
  → bif decide ((0 : Int) ≤ (↑ys.length : Int) ∧ (↑ys.length : Int) ≤ (↑ys.length : Int) ∧ (1 : Int) * (↑ys.length : Int) ≤ (281474976710656 : Int) ∧ (↑ys.length : Int) ≤
  (9223372036854775807 : Int)) then bif decide ((↑ys.length : Int).toNat = (List.replicate (↑ys.length : Int).toNat [AV.int IntKind.u8 (0 : Int)]).length ∧ ys.length ≤
  (List.replicate (↑ys.length : Int).toNat [AV.int IntKind.u8 (0 : Int)]).length) then (0 : Nat) = (0 : Nat) ∧ ((↑ys.length : Int).toNat = ys.length ∧ n = n ∧ True) ∧ ys ++ List.drop
  ys.length (List.replicate (↑ys.length : Int).toNat [AV.int IntKind.u8 (0 : Int)]) = ys ∧ True else False else False
set_option maxRecDepth 100000 in
theorem bcopied_P : bcopied_T := by
  unfold bcopied_T
  intro gl f ys n ⟨hb, hl⟩ _
  refine cd1 (by omega) (cd1 (by simp) ⟨rfl, ⟨by simp, rfl, trivial⟩, ?_, trivial⟩)
  rw [List.drop_eq_nil_of_le (by simp), List.append_nil]
def bcopied_S : Prop := ∀ (gl : Glob) (f : Bool) (ys : List (List AV)) (n : Int), BytP ys ∧ ys.length ≤ 1000000 → fnH Try.prog { glob := gl, spec := lk [], specH := lk [] } { nt := 18, drop := drp [(1, 240), (2, 1792), (3, 258048)], fr := 1000, kp := [] } (fun _ _ => none) 6 Try.f30 [.agg [.sl 1 f ys, .int .i64 n]] [] (.ptr 0 0) [.cells [.rw 1 1 ys.length, .int .i64 n], .row 5 1 ys]
set_option maxRecDepth 100000 in
theorem bcopied_e : bcopied_T = bcopied_S := by kernel_rfl
theorem bcopied_v : bcopied_S := @Eq.mp (bcopied_T) (bcopied_S) (bcopied_e) bcopied_P
theorem bcopied_ok (gl : Glob) : HOK Try.prog gl 30 bcopied_s := by
  refine ⟨fok Try.func30 (by kernel_rfl) (by kernel_rfl), ?_⟩
  intro xs bs pre r bs2 h hp
  unfold bcopied_s at h
  split at h
  · simp only [Option.some.injEq, Prod.mk.injEq] at h
    obtain ⟨h1, h2, h3⟩ := h
    subst h1 h2 h3
    exact fnH_sound tyNil (by exact specOK rfl rfl trivial trivial) (by kernel_rfl) Try.func30 (bcopied_v gl _ _ _ hp)
  · cases h
end Go.Proofs.Ytkbfldgebcpigaa
