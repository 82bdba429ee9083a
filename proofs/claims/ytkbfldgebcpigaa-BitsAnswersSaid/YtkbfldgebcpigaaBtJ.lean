/- Bits: the law's example and its lists. -/
import Derived.Test.YtkbfldgebcpigaaBtI
import Derived.Test.YtkbfldgebcpigaaKq
namespace Go.Proofs.Ytkbfldgebcpigaa
open Go
set_option linter.unusedVariables false
set_option linter.unusedSimpArgs false

structure LiQ (ys : List (List AV)) (j : Int) : Prop where
  fb : BytP ys
  fl : ys.length ≤ 10
  fj : 0 ≤ j
structure LiP (x : Int × Int × List (List AV)) : Prop where
  fi : 0 ≤ x.1 ∧ x.1 ≤ 40
  fj : 0 ≤ x.2.1
  fb : BitP x.2.2
  fl : x.1 + x.2.2.length ≤ 40
def rbofO_s : SpH
  | [.rw 0 1 m], [.row 3 1 xs] => some (BitP xs ∧ m = xs.length, .agg [.rw 1 1 (br (pack (inn xs))).length, .int .i64 xs.length], [.row 3 1 xs, .row 5 1 (br (pack (inn xs)))])
  | _, _ => none
set_option maxRecDepth 100000 in
def rbofO_T : Prop :=
  ∀ (gl : Glob) (xs : List (List AV)) (m : Nat), BitP xs ∧ m = xs.length → True → bif decide (rng IntKind.i64 ((↑m : Int) + (7 : Int))) then bif decide (rng IntKind.i64 (((↑m : Int)
  + (7 : Int)).tdiv (8 : Int))) then bif decide ((0 : Int) ≤ ((↑m : Int) + (7 : Int)).tdiv (8 : Int) ∧ ((↑m : Int) + (7 : Int)).tdiv (8 : Int) ≤ ((↑m : Int) + (7 : Int)).tdiv (8 :
  Int) ∧ (1 : Int) * ((↑m : Int) + (7 : Int)).tdiv (8 : Int) ≤ (281474976710656 : Int) ∧ ((↑m : Int) + (7 : Int)).tdiv (8 : Int) ≤ (9223372036854775807 : Int)) then (∃ x, OfP xs x ∧
  (m = xs.length ∧ (0 : Nat) = (0 : Nat) ∧ (0 : Nat) = (0 : Nat) ∧ (0 : Int) = x.fst ∧ True) ∧ xs = xs ∧ (True ∧ (0 : Int) = (0 : Int) ∧ True) ∧ ((((↑m : Int) + (7 : Int)).tdiv (8 :
  Int)).toNat = x.snd.length ∧ (↑m : Int) = (↑xs.length : Int) ∧ True) ∧ List.replicate (((↑m : Int) + (7 : Int)).tdiv (8 : Int)).toNat [AV.int IntKind.u8 (0 : Int)] = x.snd ∧ True)
  ∧ ∀ (x : Int × List (List AV)), OfP xs x → bif decide (x.fst < (↑xs.length : Int)) then bif decide ((0 : Int) ≤ x.fst ∧ x.fst < (↑xs.length : Int)) then bif decide (xs.length =
  xs.length ∧ x.fst.toNat < xs.length) then ∃ n, List.take [AV.int IntKind.i64 n].length (List.drop (0 : Nat) (xs.getD x.fst.toNat [])) = [AV.int IntKind.i64 n] ∧ bif decide (n = (1
  : Int)) then bif decide (rng IntKind.i64 (x.fst.tdiv (8 : Int))) then bif decide ((0 : Int) ≤ x.fst.tdiv (8 : Int) ∧ x.fst.tdiv (8 : Int) < (↑x.snd.length : Int)) then bif decide
  (x.snd.length = x.snd.length ∧ (x.fst.tdiv (8 : Int)).toNat < x.snd.length) then ∃ n, List.take [AV.int IntKind.u8 n].length (List.drop (0 : Nat) (x.snd.getD (x.fst.tdiv (8 :
  Int)).toNat [])) = [AV.int IntKind.u8 n] ∧ bif decide (rng IntKind.i64 ((7 : Int) - x.fst.tmod (8 : Int))) then bif decide ((0 : Int) ≤ IntKind.u64.wrap ((7 : Int) - x.fst.tmod (8
  : Int))) then bif decide ((0 : Int) ≤ x.fst.tdiv (8 : Int) ∧ x.fst.tdiv (8 : Int) < (↑x.snd.length : Int)) then bif decide (x.snd.length = x.snd.length ∧ (x.fst.tdiv (8 :
  Int)).toNat < x.snd.length) then bif decide (rng IntKind.i64 (x.fst + (1 : Int))) then ∃ y, OfP xs y ∧ (ofI xs).m y < (ofI xs).m x ∧ (xs.length = xs.length ∧ (0 : Nat) = (0 : Nat)
  ∧ (0 : Nat) = (0 : Nat) ∧ x.fst + (1 : Int) = y.fst ∧ True) ∧ xs = xs ∧ (True ∧ (0 : Int) = (0 : Int) ∧ True) ∧ (x.snd.length = y.snd.length ∧ (↑xs.length : Int) = (↑xs.length :
  Int) ∧ True) ∧ setEl x.snd (x.fst.tdiv (8 : Int)).toNat (0 : Nat) [AV.int IntKind.u8 (bits BinOp.or IntKind.u8 n (IntKind.u8.wrap ((1 : Int) * (2 : Int) ^ min (IntKind.u64.wrap ((7
  : Int) - x.fst.tmod (8 : Int))).toNat (8 : Nat))))] = y.snd ∧ True else False else False else False else False else False else False else False else False else bif decide (rng
  IntKind.i64 (x.fst + (1 : Int))) then ∃ y, OfP xs y ∧ (ofI xs).m y < (ofI xs).m x ∧ (xs.length = xs.length ∧ (0 : Nat) = (0 : Nat) ∧ (0 : Nat) = (0 : Nat) ∧ x.fst + (1 : Int) =
  y.fst ∧ True) ∧ xs = xs ∧ (True ∧ (0 : Int) = (0 : Int) ∧ True) ∧ (x.snd.length = y.snd.length ∧ (↑xs.length : Int) = (↑xs.length : Int) ∧ True) ∧ x.snd = y.snd ∧ True else False
  else False else False else (x.snd.length = (br (pack (inn xs))).length ∧ (↑xs.length : Int) = (↑xs.length : Int) ∧ True) ∧ xs = xs ∧ x.snd = br (pack (inn xs)) ∧ True else False
  else False else False
set_option maxRecDepth 100000 in
theorem rbofO_P : rbofO_T := by
  unfold rbofO_T
  intro gl xs m ⟨hb, hm⟩ _
  subst hm
  have hl := hb.fl
  have e1 : ((xs.length : Int) + 7).tdiv 8 = ((xs.length + 7) / 8 : Nat) := by rw [Int.tdiv_eq_ediv_of_nonneg (by omega)]; omega
  rw [e1, Int.toNat_natCast]
  obtain ⟨Q, hQ⟩ : ∃ Q, Q = (xs.length + 7) / 8 := ⟨_, rfl⟩
  rw [← hQ]
  refine cdI (by omega) (cdI (by omega) (cd1 (by omega) ⟨⟨(0, _), ⟨by simp only; omega, by simp only; omega, ?_⟩, ⟨rfl, rfl, rfl, rfl, trivial⟩, rfl, ⟨trivial, rfl, trivial⟩, ⟨?_, rfl, trivial⟩, rfl, trivial⟩, ?_⟩))
  · simp only; rw [← hQ]; exact (pkR_zero _ _).symm
  · simp
  rintro ⟨i, zs⟩ ⟨i0, i1, hz⟩
  simp only at i0 i1 hz
  rw [← hQ] at hz
  dsimp only
  have zl : zs.length = Q := by rw [hz, br_len, len_pkR]
  refine cs (fun hi => cd1 (by omega) (cd1 (by omega) ?_)) (fun hi => ?_)
  · have hi' : i.toNat < xs.length := by omega
    obtain ⟨a1, a2⟩ := inn_at hb hi'
    have st := pkR_step (l := inn xs) (q := Q) (i := i.toNat) (by rw [inn_len]; exact hi') (by omega)
    have en : (i + 1).toNat = i.toNat + 1 := by omega
    refine ⟨_, by rw [a1]; rfl, cs (fun q => ?_) (fun q => ?_)⟩
    · have d1 : i.tdiv 8 = i / 8 := Int.tdiv_eq_ediv_of_nonneg i0
      have d2 : i.tmod 8 = i % 8 := Int.tmod_eq_emod_of_nonneg i0
      have ew : IntKind.u64.wrap (7 - i % 8) = 7 - i % 8 := wrap_eq (by show _ ∧ _; omega)
      rw [d1, d2, ew, show min (7 - i % 8).toNat 8 = 7 - i.toNat % 8 by omega, show (i / 8).toNat = i.toNat / 8 by omega]
      have hj : i.toNat / 8 < Q := by omega
      have at0 : zs.getD (i.toNat / 8) [] = [.int .u8 (((pkR (inn xs) Q i.toNat).getD (i.toNat / 8) 0 : Nat) : Int)] := by rw [hz]; exact br_at (by rw [len_pkR]; exact hj)
      have zlt : (pkR (inn xs) Q i.toNat).getD (i.toNat / 8) 0 < 256 := by rw [at_pkR hj]; exact byteOf_lt (b01_take (inn_b01 hb) _) _
      have low : (pkR (inn xs) Q i.toNat).getD (i.toNat / 8) 0 % 2 ^ (7 - i.toNat % 8 + 1) = 0 := by
        rw [at_pkR hj]
        exact byteOf_low (by rw [List.length_take]; omega) (by omega)
      have q1 : (inn xs).getD i.toNat 0 = 1 := by omega
      rw [q1] at st
      have fin : setEl zs (i.toNat / 8) 0 [.int .u8 (bits .or .u8 (((pkR (inn xs) Q i.toNat).getD (i.toNat / 8) 0 : Nat) : Int) (IntKind.u8.wrap (1 * 2 ^ (7 - i.toNat % 8))))] = br (pkR (inn xs) Q (i.toNat + 1)) := by
        rw [or_set _ (by omega) _ zlt low, hz, setEl_br (by rw [len_pkR]; exact hj), st]
      refine cdI (by omega) (cd1 (by omega) (cd1 (by omega) ⟨_, by rw [at0]; rfl, cdI (by omega) (cd1 (by omega) (cd1 (by omega) (cd1 (by omega) (cdI (by omega) ⟨(i + 1, _), ⟨by simp only; omega, by simp only; omega, by simp only; rw [← hQ, en]; exact fin⟩, by simp only [ofI]; omega, ⟨rfl, rfl, rfl, rfl, trivial⟩, rfl, ⟨trivial, rfl, trivial⟩, ⟨(List.length_set ..).symm, rfl, trivial⟩, rfl, trivial⟩))))⟩))
    · have q0 : (inn xs).getD i.toNat 0 = 0 := by omega
      rw [q0, Nat.zero_mul, Nat.add_zero] at st
      have same : pkR (inn xs) Q (i.toNat + 1) = pkR (inn xs) Q i.toNat := by
        rw [st]
        refine ext_getD (by simp) fun k hk => ?_
        rw [getD_set _ _ _ _ (by rw [len_pkR]; omega)]
        by_cases hki : k = i.toNat / 8
        · rw [if_pos hki, hki, Nat.add_zero]
        · rw [if_neg hki]
      exact cdI (by omega) ⟨(i + 1, zs), ⟨by simp only; omega, by simp only; omega, by simp only; rw [← hQ, en, same]; exact hz⟩, by simp only [ofI]; omega, ⟨rfl, rfl, rfl, rfl, trivial⟩, rfl, ⟨trivial, rfl, trivial⟩, ⟨rfl, rfl, trivial⟩, rfl, trivial⟩
  · have e : zs = br (pack (inn xs)) := by rw [hz, pkR_all (by rw [inn_len]; exact hQ) (by rw [inn_len]; omega)]
    rw [e]
    exact ⟨⟨rfl, rfl, trivial⟩, rfl, rfl, trivial⟩
def rbofO_S : Prop := ∀ (gl : Glob) (xs : List (List AV)) (m : Nat), BitP xs ∧ m = xs.length → fnH Try.prog { glob := gl, spec := lk [], specH := lk [], shape := [22, 29] } { nt := 38, drop := drp [(1, 8160), (3, 57344), (4, 393216), (5, 7864320), (6, 137422176256), (7, 137438953472)], fr := 1000, kp := [0], own := true } (invs [(3, ofI xs)]) 6 Try.f10 [.rw 0 1 m] [.row 3 1 xs] (.agg [.rw 1 1 (br (pack (inn xs))).length, .int .i64 xs.length]) [.row 3 1 xs, .row 5 1 (br (pack (inn xs)))]
set_option maxRecDepth 100000 in
theorem rbofO_e : rbofO_T = rbofO_S := by kernel_rfl
theorem rbofO_v : rbofO_S := @Eq.mp (rbofO_T) (rbofO_S) (rbofO_e) rbofO_P
theorem rbofO_ok (gl : Glob) : HOK Try.prog gl 10 rbofO_s := by
  refine ⟨fok Try.func10 (by kernel_rfl) (by kernel_rfl), ?_⟩
  intro xs bs pre r bs2 h hp
  unfold rbofO_s at h
  split at h
  · simp only [Option.some.injEq, Prod.mk.injEq] at h
    obtain ⟨h1, h2, h3⟩ := h
    subst h1 h2 h3
    exact fnH_sound tyNil (by exact specOK rfl rfl trivial trivial) (by kernel_rfl) Try.func10 (rbofO_v gl _ _ hp)
  · cases h
end Go.Proofs.Ytkbfldgebcpigaa
