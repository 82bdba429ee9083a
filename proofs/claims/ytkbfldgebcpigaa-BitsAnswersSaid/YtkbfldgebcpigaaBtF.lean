/- Bits: the reference's Of, Append, Join, Pad, Read. -/
import Derived.Test.YtkbfldgebcpigaaBtE
namespace Go.Proofs.Ytkbfldgebcpigaa
open Go
set_option linter.unusedVariables false
set_option linter.unusedSimpArgs false

/-- Rows of bits as numbers. -/
structure BitP (xs : List (List AV)) : Prop where
  fr : ∀ i, i < xs.length → ∃ b : Nat, xs.getD i [] = [.int .i64 b] ∧ b < 2
  fl : xs.length ≤ 1000000
def inn (xs : List (List AV)) : List Nat := xs.map fun r => (cellI r).toNat
def pkR (l : List Nat) (q i : Nat) : List Nat := (List.range q).map (byteOf (l.take i))
theorem inn_len (xs : List (List AV)) : (inn xs).length = xs.length := by simp [inn]
theorem inn_at {xs : List (List AV)} (h : BitP xs) {i : Nat} (hi : i < xs.length) : xs.getD i [] = [.int .i64 (((inn xs).getD i 0 : Nat) : Int)] ∧ (inn xs).getD i 0 < 2 := by
  obtain ⟨n, h1, h2⟩ := h.fr i hi
  have e : (inn xs).getD i 0 = n := by
    have hg : xs.getD i [] = xs[i] := by rw [List.getD_eq_getElem?_getD, List.getElem?_eq_getElem hi]; rfl
    rw [hg] at h1
    unfold inn
    rw [List.getD_eq_getElem?_getD, List.getElem?_map, List.getElem?_eq_getElem hi, h1]
    simp [cellI]
  rw [e]; exact ⟨h1, h2⟩
theorem inn_b01 {xs : List (List AV)} (h : BitP xs) : B01 (inn xs) := fun i => by
  by_cases hi : i < xs.length
  · have := (inn_at h hi).2; omega
  · rw [getD_out (by rw [inn_len]; omega)]; decide
theorem b01_take {l : List Nat} (h : B01 l) (n : Nat) : B01 (l.take n) := fun i => by
  rw [List.getD_eq_getElem?_getD, List.getElem?_take]
  split
  · rw [← List.getD_eq_getElem?_getD]; exact h i
  · simp
theorem len_pkR (l : List Nat) (q i : Nat) : (pkR l q i).length = q := by simp [pkR]
theorem at_pkR {l : List Nat} {q i k : Nat} (h : k < q) : (pkR l q i).getD k 0 = byteOf (l.take i) k := by
  unfold pkR
  rw [getD_map_range, if_pos h]
theorem take_snoc {l : List Nat} {i : Nat} (h : i < l.length) : l.take (i + 1) = l.take i ++ [l.getD i 0] := by
  rw [List.take_add_one, List.getElem?_eq_getElem h, List.getD_eq_getElem?_getD, List.getElem?_eq_getElem h]; rfl
theorem pkR_step {l : List Nat} {q i : Nat} (h : i < l.length) (hq : i / 8 < q) : pkR l q (i + 1) = (pkR l q i).set (i / 8) ((pkR l q i).getD (i / 8) 0 + l.getD i 0 * 2 ^ (7 - i % 8)) := by
  refine ext_getD (by simp [pkR]) fun k hk => ?_
  rw [len_pkR] at hk
  have hl : (l.take i).length = i := by rw [List.length_take]; omega
  rw [at_pkR hk, take_snoc h, byteOf_snoc, hl, getD_set _ _ _ _ (by rw [len_pkR]; exact hq), at_pkR hq]
  by_cases hki : k = i / 8
  · rw [if_pos hki, if_pos hki, hki]
  · rw [if_neg hki, if_neg hki, at_pkR hk]; rfl
theorem pkR_all {l : List Nat} {q i : Nat} (hq : q = (l.length + 7) / 8) (hi : l.length ≤ i) : pkR l q i = pack l := by
  unfold pkR pack
  rw [List.take_of_length_le hi, hq]
theorem pkR_zero (l : List Nat) (q : Nat) : br (pkR l q 0) = List.replicate q [.int .u8 0] := by
  unfold br pkR
  rw [List.map_map, List.take_zero]
  have : ∀ k, ((fun n : Nat => [AV.int .u8 (n : Int)]) ∘ byteOf []) k = [.int .u8 0] := fun k => by
    show [AV.int .u8 ((byteOf [] k : Nat) : Int)] = _
    rw [byteOf_out (by simp)]; rfl
  rw [List.map_congr_left (fun k _ => this k), List.map_const', List.length_range]
theorem or_set : ∀ j, j < 8 → ∀ z, z < 256 → z % 2 ^ (j + 1) = 0 → bits .or .u8 ((z : Nat) : Int) (IntKind.u8.wrap (1 * 2 ^ j)) = ((z + 1 * 2 ^ j : Nat) : Int) := by decide +kernel
structure OfP (xs : List (List AV)) (x : Int × List (List AV)) : Prop where
  flo : 0 ≤ x.1
  fhi : x.1 ≤ xs.length
  fz : x.2 = br (pkR (inn xs) ((xs.length + 7) / 8) x.1.toNat)
def ofI (xs : List (List AV)) : LInv := ⟨Int × List (List AV), fun x => ⟨[(0, .rw 0 1 xs.length), (2, .ptr 1002 0), (3, .ptr 1003 0), (4, .int .i64 x.1)], [(0, .row 3 1 xs), (1002, .cells [.nils, .int .i64 0]), (1003, .cells [.rw 1009 1 x.2.length, .int .i64 xs.length]), (1009, .row 5 1 x.2)]⟩, OfP xs, fun x => (xs.length - x.1).toNat, none⟩
def rbof_s : SpH
  | [.rw 0 1 m], [.row 3 1 xs] => some (BitP xs ∧ m = xs.length, .agg [.sl 1 false (br (pack (inn xs))), .int .i64 xs.length], [.row 3 1 xs])
  | _, _ => none
set_option maxRecDepth 100000 in
def rbof_T : Prop :=
  ∀ (gl : Glob) (xs : List (List AV)) (m : Nat), BitP xs ∧ m = xs.length → True → bif decide (rng IntKind.i64 ((↑m : Int) + (7 : Int))) then bif decide (rng IntKind.i64 (((↑m : Int)
  + (7 : Int)).tdiv (8 : Int))) then bif decide ((0 : Int) ≤ ((↑m : Int) + (7 : Int)).tdiv (8 : Int) ∧ ((↑m : Int) + (7 : Int)).tdiv (8 : Int) ≤ ((↑m : Int) + (7 : Int)).tdiv (8 :
  Int) ∧ (1 : Int) * ((↑m : Int) + (7 : Int)).tdiv (8 : Int) ≤ (281474976710656 : Int) ∧ ((↑m : Int) + (7 : Int)).tdiv (8 : Int) ≤ (9223372036854775807 : Int)) then (∃ x, OfP xs x ∧
  (m = xs.length ∧ (0 : Nat) = (0 : Nat) ∧ (0 : Nat) = (0 : Nat) ∧ (0 : Int) = x.fst ∧ True) ∧ xs = xs ∧ (True ∧ (0 : Int) = (0 : Int) ∧ True) ∧ ((((↑m : Int) + (7 : Int)).tdiv (8 :
  Int)).toNat = x.snd.length ∧ (↑m : Int) = (↑xs.length : Int) ∧ True) ∧ List.replicate (((↑m : Int) + (7 : Int)).tdiv (8 : Int)).toNat [AV.int IntKind.u8 (0 : Int)] = x.snd ∧ True)
  ∧ ∀ (x : Int × List (List AV)), OfP xs x → bif decide (x.fst < (↑xs.length : Int)) then bif decide ((0 : Int) ≤ x.fst ∧ x.fst < (↑xs.length : Int)) then bif decide (xs.length =
  xs.length ∧ x.fst.toNat < xs.length) then ∃ n, List.take [AV.int IntKind.i64 n].length (List.drop (0 : Nat) (xs.getD x.fst.toNat [])) = [AV.int IntKind.i64 n] ∧ bif decide (n = (1
  : Int)) then bif decide (rng IntKind.i64 (x.fst.tdiv (8 : Int))) then bif decide ((0 : Int) ≤ x.fst.tdiv (8 : Int) ∧ x.fst.tdiv (8 : Int) < (↑x.snd.length : Int)) then bif decide
  (x.snd.length = x.snd.length ∧ (x.fst.tdiv (8 : Int)).toNat < x.snd.length) then ∃ n, List.take [AV.int IntKind.u8 n].length (List.drop (0 : Nat) (x.snd.getD (x.fst.tdiv (8 :
  Int)).toNat [])) = [AV.int IntKind.u8 n] ∧ bif decide (rng IntKind.i64 ((7 : Int) - x.fst.tmod (8 : Int))) then bif decide ((0 : Int) ≤ IntKind.u64.wrap ((7 : Int) - x.fst.tmod (8
  : Int))) then bif decide ((0 : Int) ≤ x.fst.tdiv (8 : Int) ∧ x.fst.tdiv (8 : Int) < (↑x.snd.length : Int)) then bif decide (x.snd.length = x.snd.length ∧ (x.fst.tdiv (8 :
  Int)).toNat < x.snd.length) then bif decide (rng IntKind.i64 (x.fst + (1 : Int))) then ∃ y, OfP xs y ∧ (ofI xs).m y < (ofI xs).m x ∧ (xs.length = xs.length ∧ (0 : Nat) = (0 : Nat)
  ∧ (0 : Nat) = (0 : Nat) ∧ x.fst + (1 : Int) = y.fst ∧ True) ∧ xs = xs ∧ (True ∧ (0 : Int) = (0 : Int) ∧ True) ∧ (x.snd.length = y.snd.length ∧ (↑xs.length : Int) = (↑xs.length :
  Int) ∧ True) ∧ setEl x.snd (x.fst.tdiv (8 : Int)).toNat (0 : Nat) [AV.int IntKind.u8 (bits BinOp.or IntKind.u8 n (IntKind.u8.wrap ((1 : Int) * (2 : Int) ^ min (IntKind.u64.wrap ((7
  : Int) - x.fst.tmod (8 : Int))).toNat (8 : Nat))))] = y.snd ∧ True else False else False else False else False else False else False else False else False else bif decide (rng
  IntKind.i64 (x.fst + (1 : Int))) then ∃ y, OfP xs y ∧ (ofI xs).m y < (ofI xs).m x ∧ (xs.length = xs.length ∧ (0 : Nat) = (0 : Nat) ∧ (0 : Nat) = (0 : Nat) ∧ x.fst + (1 : Int) =
  y.fst ∧ True) ∧ xs = xs ∧ (True ∧ (0 : Int) = (0 : Int) ∧ True) ∧ (x.snd.length = y.snd.length ∧ (↑xs.length : Int) = (↑xs.length : Int) ∧ True) ∧ x.snd = y.snd ∧ True else False
  else False else False else bif decide (x.snd.length = x.snd.length) then ((True ∧ x.snd = br (pack (inn xs))) ∧ (↑xs.length : Int) = (↑xs.length : Int) ∧ True) ∧ xs = xs ∧ True
  else False else False else False else False
set_option maxRecDepth 100000 in
theorem rbof_P : rbof_T := by
  unfold rbof_T
  intro gl xs m ⟨hb, hm⟩ _
  subst hm
  have hl := hb.fl
  have e1 : ((xs.length : Int) + 7).tdiv 8 = ((xs.length + 7) / 8 : Nat) := by rw [Int.tdiv_eq_ediv_of_nonneg (by omega)]; omega
  rw [e1, Int.toNat_natCast]
  obtain ⟨Q, hQ⟩ : ∃ Q, Q = (xs.length + 7) / 8 := ⟨_, rfl⟩
  rw [← hQ]
  refine cdI (by omega) (cdI (by omega) (cd1 (by omega) ⟨⟨(0, _), ⟨by simp only; omega, by simp only; omega, ?_⟩, ⟨rfl, rfl, rfl, rfl, trivial⟩, rfl, ⟨trivial, rfl, trivial⟩, ⟨?_, rfl, trivial⟩, rfl, trivial⟩, ?_⟩))
  · simp only; rw [← hQ]; exact (pkR_zero _ _).symm
  · simp
  rintro ⟨i, zs⟩ ⟨i0, i1, hz⟩
  simp only at i0 i1 hz
  rw [← hQ] at hz
  dsimp only
  have zl : zs.length = Q := by rw [hz, br_len, len_pkR]
  refine cs (fun hi => cd1 (by omega) (cd1 (by omega) ?_)) (fun hi => cd1 rfl ?_)
  · have hi' : i.toNat < xs.length := by omega
    obtain ⟨a1, a2⟩ := inn_at hb hi'
    have st := pkR_step (l := inn xs) (q := Q) (i := i.toNat) (by rw [inn_len]; exact hi') (by omega)
    have en : (i + 1).toNat = i.toNat + 1 := by omega
    refine ⟨_, by rw [a1]; rfl, cs (fun q => ?_) (fun q => ?_)⟩
    · have d1 : i.tdiv 8 = i / 8 := Int.tdiv_eq_ediv_of_nonneg i0
      have d2 : i.tmod 8 = i % 8 := Int.tmod_eq_emod_of_nonneg i0
      have ew : IntKind.u64.wrap (7 - i % 8) = 7 - i % 8 := wrap_eq (by show _ ∧ _; omega)
      rw [d1, d2, ew, show min (7 - i % 8).toNat 8 = 7 - i.toNat % 8 by omega, show (i / 8).toNat = i.toNat / 8 by omega]
      have hj : i.toNat / 8 < Q := by omega
      have at0 : zs.getD (i.toNat / 8) [] = [.int .u8 (((pkR (inn xs) Q i.toNat).getD (i.toNat / 8) 0 : Nat) : Int)] := by rw [hz]; exact br_at (by rw [len_pkR]; exact hj)
      have zlt : (pkR (inn xs) Q i.toNat).getD (i.toNat / 8) 0 < 256 := by rw [at_pkR hj]; exact byteOf_lt (b01_take (inn_b01 hb) _) _
      have low : (pkR (inn xs) Q i.toNat).getD (i.toNat / 8) 0 % 2 ^ (7 - i.toNat % 8 + 1) = 0 := by
        rw [at_pkR hj]
        exact byteOf_low (by rw [List.length_take]; omega) (by omega)
      have q1 : (inn xs).getD i.toNat 0 = 1 := by omega
      rw [q1] at st
      have fin : setEl zs (i.toNat / 8) 0 [.int .u8 (bits .or .u8 (((pkR (inn xs) Q i.toNat).getD (i.toNat / 8) 0 : Nat) : Int) (IntKind.u8.wrap (1 * 2 ^ (7 - i.toNat % 8))))] = br (pkR (inn xs) Q (i.toNat + 1)) := by
        rw [or_set _ (by omega) _ zlt low, hz, setEl_br (by rw [len_pkR]; exact hj), st]
      refine cdI (by omega) (cd1 (by omega) (cd1 (by omega) ⟨_, by rw [at0]; rfl, cdI (by omega) (cd1 (by omega) (cd1 (by omega) (cd1 (by omega) (cdI (by omega) ⟨(i + 1, _), ⟨by simp only; omega, by simp only; omega, by simp only; rw [← hQ, en]; exact fin⟩, by simp only [ofI]; omega, ⟨rfl, rfl, rfl, rfl, trivial⟩, rfl, ⟨trivial, rfl, trivial⟩, ⟨(List.length_set ..).symm, rfl, trivial⟩, rfl, trivial⟩))))⟩))
    · have q0 : (inn xs).getD i.toNat 0 = 0 := by omega
      rw [q0, Nat.zero_mul, Nat.add_zero] at st
      have same : pkR (inn xs) Q (i.toNat + 1) = pkR (inn xs) Q i.toNat := by
        rw [st]
        refine ext_getD (by simp) fun k hk => ?_
        rw [getD_set _ _ _ _ (by rw [len_pkR]; omega)]
        by_cases hki : k = i.toNat / 8
        · rw [if_pos hki, hki, Nat.add_zero]
        · rw [if_neg hki]
      exact cdI (by omega) ⟨(i + 1, zs), ⟨by simp only; omega, by simp only; omega, by simp only; rw [← hQ, en, same]; exact hz⟩, by simp only [ofI]; omega, ⟨rfl, rfl, rfl, rfl, trivial⟩, rfl, ⟨trivial, rfl, trivial⟩, ⟨rfl, rfl, trivial⟩, rfl, trivial⟩
  · refine ⟨⟨⟨trivial, ?_⟩, rfl, trivial⟩, rfl, trivial⟩
    rw [hz, pkR_all (by rw [inn_len]; exact hQ) (by rw [inn_len]; omega)]
def rbof_S : Prop := ∀ (gl : Glob) (xs : List (List AV)) (m : Nat), BitP xs ∧ m = xs.length → fnH Try.prog { glob := gl, spec := lk [], specH := lk [], shape := [22, 29] } { nt := 38, drop := drp [(1, 8160), (3, 57344), (4, 393216), (5, 7864320), (6, 137422176256), (7, 137438953472)], fr := 1000, kp := [0], frz := fun id => cond (Nat.beq id 7) [1001009] [] } (invs [(3, ofI xs)]) 6 Try.f10 [.rw 0 1 m] [.row 3 1 xs] (.agg [.sl 1 false (br (pack (inn xs))), .int .i64 xs.length]) [.row 3 1 xs]
set_option maxRecDepth 100000 in
theorem rbof_e : rbof_T = rbof_S := by kernel_rfl
theorem rbof_v : rbof_S := @Eq.mp (rbof_T) (rbof_S) (rbof_e) rbof_P
theorem rbof_ok (gl : Glob) : HOK Try.prog gl 10 rbof_s := by
  refine ⟨fok Try.func10 (by kernel_rfl) (by kernel_rfl), ?_⟩
  intro xs bs pre r bs2 h hp
  unfold rbof_s at h
  split at h
  · simp only [Option.some.injEq, Prod.mk.injEq] at h
    obtain ⟨h1, h2, h3⟩ := h
    subst h1 h2 h3
    exact fnH_sound tyNil (by exact specOK rfl rfl trivial trivial) (by kernel_rfl) Try.func10 (rbof_v gl _ _ hp)
  · cases h
end Go.Proofs.Ytkbfldgebcpigaa
