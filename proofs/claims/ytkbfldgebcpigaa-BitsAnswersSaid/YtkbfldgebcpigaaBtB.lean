/- Bits: write, Append, Read, Join, Pad, Same. -/
import Derived.Test.YtkbfldgebcpigaaBtA
namespace Go.Proofs.Ytkbfldgebcpigaa
open Go
set_option linter.unusedVariables false
set_option linter.unusedSimpArgs false

theorem br_len (l : List Nat) : (br l).length = l.length := by simp [br]
theorem br_at {l : List Nat} {j : Nat} (hj : j < l.length) : (br l).getD j [] = [.int .u8 ((l.getD j 0 : Nat) : Int)] := by
  unfold br
  rw [List.getD_eq_getElem?_getD, List.getElem?_map, List.getD_eq_getElem?_getD, List.getElem?_eq_getElem hj]
  rfl
theorem bn_br (l : List Nat) : bn (br l) = l := by
  unfold bn br
  rw [List.map_map]
  have : ((fun r => (cellI r).toNat) ∘ fun n : Nat => [AV.int .u8 (n : Int)]) = id := by
    funext n; simp [cellI]
  rw [this, List.map_id]
theorem br_bytes {l : List Nat} (h : Bytes l) (hl : l.length ≤ 9223372036854775807) : BytP (br l) := by
  refine ⟨fun i hi => ?_, by rw [br_len]; exact hl⟩
  rw [br_len] at hi
  exact ⟨l.getD i 0, br_at hi, h i⟩
theorem br_bn {ys : List (List AV)} (h : BytP ys) : br (bn ys) = ys := by
  apply List.ext_getElem (by rw [br_len, bn_len])
  intro i h1 h2
  have a := (bn_at h h2).1
  have b := br_at (l := bn ys) (j := i) (by rw [bn_len]; exact h2)
  rw [← a, List.getD_eq_getElem?_getD, List.getElem?_eq_getElem h1, List.getD_eq_getElem?_getD, List.getElem?_eq_getElem h2] at b
  simpa using b
theorem ofInt_i64 (a : Nat) (ha : a < 9223372036854775808) : (BitVec.ofInt 64 (a : Int)).toNat = a := by
  rw [BitVec.ofInt_natCast, BitVec.toNat_ofNat]; exact Nat.mod_eq_of_lt (by omega)
theorem and_one_i64 (q : Nat) (hq : q < 9223372036854775808) : bits .and .i64 ((q : Nat) : Int) 1 = ((q % 2 : Nat) : Int) := by
  have h1 : (BitVec.ofInt 64 (1 : Int)).toNat = 1 := by decide
  show IntKind.i64.wrap ((BitVec.ofInt 64 (q : Int) &&& BitVec.ofInt 64 (1 : Int)).toNat : Int) = _
  rw [BitVec.toNat_and, ofInt_i64 q hq, h1, Nat.and_one_is_mod]
  exact wrap_eq (by show _ ∧ _; omega)
theorem and_shift (value s : Nat) (hv : value < 16777216) : bits .and .i64 (((value : Nat) : Int) / 2 ^ s) 1 = ((value / 2 ^ s % 2 : Nat) : Int) := by
  have e : ((value : Nat) : Int) / 2 ^ s = ((value / 2 ^ s : Nat) : Int) := by push_cast; rfl
  have h1 : value / 2 ^ s ≤ value := Nat.div_le_self _ _
  rw [e, and_one_i64 _ (by omega)]
theorem or_fin : ∀ j, j < 8 → ∀ x, x < 2 → ∀ z, z < 256 → z % 2 ^ (j + 1) = 0 → bits .or .u8 ((z : Nat) : Int) (IntKind.u8.wrap (IntKind.u8.wrap ((x : Nat) : Int) * 2 ^ j)) = ((z + x * 2 ^ j : Nat) : Int) := by decide +kernel
theorem setEl_br {g : List Nat} {j y : Nat} (hj : j < g.length) : setEl (br g) j 0 [.int .u8 (y : Int)] = br (g.set j y) := by
  unfold setEl
  rw [br_at hj]
  show (br g).set j [.int .u8 (y : Int)] = _
  unfold br
  rw [List.map_set]
theorem wr_row {l : List Nat} {b : Nat} (h : B01 l) (hb : b < 2) : setEl (br (grow l)) (l.length / 8) 0 [.int .u8 (bits .or .u8 (((grow l).getD (l.length / 8) 0 : Nat) : Int) (IntKind.u8.wrap (IntKind.u8.wrap (b : Int) * 2 ^ (7 - l.length % 8))))] = br (pack (l ++ [b])) := by
  have hlow := grow_low l
  rw [show 8 - l.length % 8 = 7 - l.length % 8 + 1 by omega] at hlow
  rw [or_fin _ (by omega) b hb _ (by rw [getD_grow]; exact byteOf_lt h _) hlow, setEl_br (by rw [length_grow]; omega), ← pack_snoc]
/-- The bits of a list, and those of a number. -/
def ub (ys : List (List AV)) (n : Int) : List Nat := unpack (bn ys) n.toNat
structure WrtP (l : List Nat) (v w : Int) (x : Int × List (List AV)) : Prop where
  flo : -1 ≤ x.1
  fhi : x.1 < w
  fz : x.2 = br (pack (l ++ nb v.toNat w.toNat (w - 1 - x.1).toNat))
def wrtI (l : List Nat) (n v w : Int) : LInv := ⟨Int × List (List AV), fun x => ⟨[(0, .ptr 0 0), (1, .int .i64 v), (2, .int .i64 w), (6, .int .i64 x.1)], [(0, .cells [.rw 1 1 x.2.length, .int .i64 (n + (w - 1 - x.1))]), (1, .row 5 1 x.2)]⟩, WrtP l v w, fun x => (x.1 + 1).toNat, none⟩
def bwrite_s : SpH
  | [.ptr 0 0, .int .i64 v, .int .i64 w], [.cells [.rw 1 1 m, .int .i64 n], .row 5 1 ys] => some ((BytP ys ∧ validB (bn ys) n = true ∧ m = ys.length) ∧ (1 ≤ w ∧ w ≤ 24) ∧ (0 ≤ v ∧ v < 16777216) ∧ n + w ≤ 40000, .tup [], [.cells [.rw 1 1 (br (pack (ub ys n ++ nb v.toNat w.toNat w.toNat))).length, .int .i64 (n + w)], .row 5 1 (br (pack (ub ys n ++ nb v.toNat w.toNat w.toNat)))])
  | _, _ => none
set_option maxRecDepth 100000 in
def bwrite_T : Prop :=
  ∀ (gl : Glob) (ys : List (List AV)) (n v w : Int) (m : Nat), (BytP ys ∧ validB (bn ys) n = true ∧ m = ys.length) ∧ ((1 : Int) ≤ w ∧ w ≤ (24 : Int)) ∧ ((0 : Int) ≤ v ∧ v < (16777216
  : Int)) ∧ n + w ≤ (40000 : Int) → True → (-9223372036854775808 : Int) ≤ v ∧ v ≤ (9223372036854775807 : Int) → (-9223372036854775808 : Int) ≤ w ∧ w ≤ (9223372036854775807 : Int) →
  True → (-9223372036854775808 : Int) ≤ n ∧ n ≤ (9223372036854775807 : Int) → bif decide (rng IntKind.i64 (w - (1 : Int))) then (∃ x, WrtP (ub ys n) v w x ∧ ((0 : Nat) = (0 : Nat) ∧
  v = v ∧ w = w ∧ w - (1 : Int) = x.fst ∧ True) ∧ (m = x.snd.length ∧ n = n + (w - (1 : Int) - x.fst) ∧ True) ∧ ys = x.snd ∧ True) ∧ ∀ (x : Int × List (List AV)), WrtP (ub ys n) v w
  x → bif decide ((0 : Int) ≤ x.fst) then bif decide ((n + (w - (1 : Int) - x.fst)).tmod (8 : Int) = (0 : Int)) then bif decide (x.snd.length = x.snd.length ∧ x.snd.length + (1 :
  Nat) ≤ (9223372036854775807 : Nat) ∧ (x.snd.length + (1 : Nat)) * (1 : Nat) ≤ (140737488355328 : Nat)) then bif decide (rng IntKind.i64 ((n + (w - (1 : Int) - x.fst)).tdiv (8 :
  Int))) then bif decide ((0 : Int) ≤ (n + (w - (1 : Int) - x.fst)).tdiv (8 : Int) ∧ (n + (w - (1 : Int) - x.fst)).tdiv (8 : Int) < (↑(x.snd ++ [[AV.int IntKind.u8 (0 :
  Int)]]).length : Int)) then bif decide ((x.snd ++ [[AV.int IntKind.u8 (0 : Int)]]).length = (x.snd ++ [[AV.int IntKind.u8 (0 : Int)]]).length ∧ ((n + (w - (1 : Int) - x.fst)).tdiv
  (8 : Int)).toNat < (x.snd ++ [[AV.int IntKind.u8 (0 : Int)]]).length) then ∃ n_1, List.take [AV.int IntKind.u8 n_1].length (List.drop (0 : Nat) ((x.snd ++ [[AV.int IntKind.u8 (0 :
  Int)]]).getD ((n + (w - (1 : Int) - x.fst)).tdiv (8 : Int)).toNat [])) = [AV.int IntKind.u8 n_1] ∧ bif decide ((0 : Int) ≤ x.fst) then bif decide (rng IntKind.i64 ((7 : Int) - (n +
  (w - (1 : Int) - x.fst)).tmod (8 : Int))) then bif decide ((0 : Int) ≤ (7 : Int) - (n + (w - (1 : Int) - x.fst)).tmod (8 : Int)) then bif decide ((0 : Int) ≤ (n + (w - (1 : Int) -
  x.fst)).tdiv (8 : Int) ∧ (n + (w - (1 : Int) - x.fst)).tdiv (8 : Int) < (↑(x.snd ++ [[AV.int IntKind.u8 (0 : Int)]]).length : Int)) then bif decide ((x.snd ++ [[AV.int IntKind.u8
  (0 : Int)]]).length = (x.snd ++ [[AV.int IntKind.u8 (0 : Int)]]).length ∧ ((n + (w - (1 : Int) - x.fst)).tdiv (8 : Int)).toNat < (x.snd ++ [[AV.int IntKind.u8 (0 : Int)]]).length)
  then bif decide (rng IntKind.i64 (n + (w - (1 : Int) - x.fst) + (1 : Int))) then bif decide (rng IntKind.i64 (x.fst - (1 : Int))) then ∃ y, WrtP (ub ys n) v w y ∧ (wrtI (ub ys n) n
  v w).m y < (wrtI (ub ys n) n v w).m x ∧ ((0 : Nat) = (0 : Nat) ∧ v = v ∧ w = w ∧ x.fst - (1 : Int) = y.fst ∧ True) ∧ ((x.snd ++ [[AV.int IntKind.u8 (0 : Int)]]).length =
  y.snd.length ∧ n + (w - (1 : Int) - x.fst) + (1 : Int) = n + (w - (1 : Int) - y.fst) ∧ True) ∧ setEl (x.snd ++ [[AV.int IntKind.u8 (0 : Int)]]) ((n + (w - (1 : Int) - x.fst)).tdiv
  (8 : Int)).toNat (0 : Nat) [AV.int IntKind.u8 (bits BinOp.or IntKind.u8 n_1 (IntKind.u8.wrap (IntKind.u8.wrap (bits BinOp.and IntKind.i64 (v / (2 : Int) ^ min x.fst.toNat (64 :
  Nat)) (1 : Int)) * (2 : Int) ^ min ((7 : Int) - (n + (w - (1 : Int) - x.fst)).tmod (8 : Int)).toNat (8 : Nat))))] = y.snd ∧ True else False else False else False else False else
  False else False else False else False else False else False else False else bif decide (rng IntKind.i64 ((n + (w - (1 : Int) - x.fst)).tdiv (8 : Int))) then bif decide ((0 : Int)
  ≤ (n + (w - (1 : Int) - x.fst)).tdiv (8 : Int) ∧ (n + (w - (1 : Int) - x.fst)).tdiv (8 : Int) < (↑x.snd.length : Int)) then bif decide (x.snd.length = x.snd.length ∧ ((n + (w - (1
  : Int) - x.fst)).tdiv (8 : Int)).toNat < x.snd.length) then ∃ n_1, List.take [AV.int IntKind.u8 n_1].length (List.drop (0 : Nat) (x.snd.getD ((n + (w - (1 : Int) - x.fst)).tdiv (8
  : Int)).toNat [])) = [AV.int IntKind.u8 n_1] ∧ bif decide ((0 : Int) ≤ x.fst) then bif decide (rng IntKind.i64 ((7 : Int) - (n + (w - (1 : Int) - x.fst)).tmod (8 : Int))) then bif
  decide ((0 : Int) ≤ (7 : Int) - (n + (w - (1 : Int) - x.fst)).tmod (8 : Int)) then bif decide ((0 : Int) ≤ (n + (w - (1 : Int) - x.fst)).tdiv (8 : Int) ∧ (n + (w - (1 : Int) -
  x.fst)).tdiv (8 : Int) < (↑x.snd.length : Int)) then bif decide (x.snd.length = x.snd.length ∧ ((n + (w - (1 : Int) - x.fst)).tdiv (8 : Int)).toNat < x.snd.length) then bif decide
  (rng IntKind.i64 (n + (w - (1 : Int) - x.fst) + (1 : Int))) then bif decide (rng IntKind.i64 (x.fst - (1 : Int))) then ∃ y, WrtP (ub ys n) v w y ∧ (wrtI (ub ys n) n v w).m y <
  (wrtI (ub ys n) n v w).m x ∧ ((0 : Nat) = (0 : Nat) ∧ v = v ∧ w = w ∧ x.fst - (1 : Int) = y.fst ∧ True) ∧ (x.snd.length = y.snd.length ∧ n + (w - (1 : Int) - x.fst) + (1 : Int) = n
  + (w - (1 : Int) - y.fst) ∧ True) ∧ setEl x.snd ((n + (w - (1 : Int) - x.fst)).tdiv (8 : Int)).toNat (0 : Nat) [AV.int IntKind.u8 (bits BinOp.or IntKind.u8 n_1 (IntKind.u8.wrap
  (IntKind.u8.wrap (bits BinOp.and IntKind.i64 (v / (2 : Int) ^ min x.fst.toNat (64 : Nat)) (1 : Int)) * (2 : Int) ^ min ((7 : Int) - (n + (w - (1 : Int) - x.fst)).tmod (8 :
  Int)).toNat (8 : Nat))))] = y.snd ∧ True else False else False else False else False else False else False else False else False else False else False else True ∧ (x.snd.length =
  (br (pack (ub ys n ++ nb v.toNat w.toNat w.toNat))).length ∧ n + (w - (1 : Int) - x.fst) = n + w ∧ True) ∧ x.snd = br (pack (ub ys n ++ nb v.toNat w.toNat w.toNat)) ∧ True else
  False
set_option maxRecDepth 100000 in
theorem bwrite_P : bwrite_T := by
  unfold bwrite_T
  intro gl ys n v w m ⟨⟨hb, hv, hm⟩, hw, hvv, hn⟩ _ _ _ _ _
  subst hm
  have hvb := validB_iff.1 hv
  have hl : (ub ys n).length = n.toNat := by simp [ub, unpack]
  have h01 : B01 (ub ys n) := b01_unpack _ _
  refine cdI (by omega) ⟨⟨(w - 1, ys), ⟨by simp only; omega, by simp only; omega, ?_⟩, ⟨rfl, rfl, rfl, rfl, trivial⟩, ⟨rfl, by simp only; omega, trivial⟩, rfl, trivial⟩, ?_⟩
  · simp only
    rw [show (w - 1 - (w - 1)).toNat = 0 by omega, show nb v.toNat w.toNat 0 = [] from rfl, List.append_nil]
    unfold ub
    rw [pack_unpack (bn_bytes hb) hv, br_bn hb]
  rintro ⟨i, zs⟩ ⟨i0, i1, hz⟩
  simp only at i0 i1 hz
  dsimp only
  obtain ⟨k, hk⟩ : ∃ k : Nat, k = (w - 1 - i).toNat := ⟨_, rfl⟩
  rw [← hk] at hz
  obtain ⟨l, hl'⟩ : ∃ l, l = ub ys n ++ nb v.toNat w.toNat k := ⟨_, rfl⟩
  have hN : n + (w - 1 - i) = (l.length : Int) := by rw [hl', List.length_append, hl, length_nb]; omega
  have b01 : B01 l := by rw [hl']; exact b01_append h01 (b01_nb _ _ _)
  rw [← hl'] at hz
  rw [hN]
  have em : (l.length : Int).tmod 8 = ((l.length % 8 : Nat) : Int) := by rw [Int.tmod_eq_emod_of_nonneg (by omega)]; omega
  have ed : (l.length : Int).tdiv 8 = ((l.length / 8 : Nat) : Int) := by rw [Int.tdiv_eq_ediv_of_nonneg (by omega)]; omega
  rw [em, ed]
  have hgl := length_grow l
  have hpl := length_pack l
  refine cs (fun hi => ?_) (fun hi => ?_)
  · have nx : br (pack (ub ys n ++ nb v.toNat w.toNat (w - 1 - (i - 1)).toNat)) = br (pack (l ++ [v.toNat / 2 ^ i.toNat % 2])) := by
      rw [show (w - 1 - (i - 1)).toNat = k + 1 by omega, nb_succ, hl', List.append_assoc, show w.toNat - 1 - k = i.toNat by omega]
    have ev : v = ((v.toNat : Nat) : Int) := by omega
    have eb : bits .and .i64 (v / 2 ^ min i.toNat 64) 1 = ((v.toNat / 2 ^ i.toNat % 2 : Nat) : Int) := by
      rw [show min i.toNat 64 = i.toNat by omega]
      conv => lhs; rw [ev]
      exact and_shift _ _ (by omega)
    have es : min (7 - ((l.length % 8 : Nat) : Int)).toNat 8 = 7 - l.length % 8 := by omega
    rw [eb, es, Int.toNat_natCast]
    have at0 : (br (grow l)).getD (l.length / 8) [] = [.int .u8 (((grow l).getD (l.length / 8) 0 : Nat) : Int)] := br_at (by omega)
    have hwr := wr_row b01 (b := v.toNat / 2 ^ i.toNat % 2) (by omega)
    refine cs (fun h8 => cd1 ⟨rfl, by rw [hz, br_len]; omega, by rw [hz, br_len]; omega⟩ ?_) (fun h8 => ?_)
    · have hR : zs ++ [[.int .u8 0]] = br (grow l) := by
        rw [hz]; unfold grow; rw [if_pos (by omega)]; simp [br]
      rw [hR]
      refine cdI (by omega) (cd1 (by rw [br_len]; omega) (cd1 ⟨rfl, by rw [br_len]; omega⟩ ⟨_, by rw [at0]; rfl, cd1 hi (cdI (by omega) (cd1 (by omega) (cd1 (by rw [br_len]; omega) (cd1 ⟨rfl, by rw [br_len]; omega⟩ (cdI (by omega) (cdI (by omega) ⟨(i - 1, _), ⟨by simp only; omega, by simp only; omega, hwr.trans nx.symm⟩, by simp only [wrtI]; omega, ⟨rfl, rfl, rfl, rfl, trivial⟩, ⟨?_, by simp only; omega, trivial⟩, rfl, trivial⟩))))))⟩))
      exact (List.length_set ..).symm
    · have hR : zs = br (grow l) := by
        rw [hz]; unfold grow; rw [if_neg (by omega)]
      rw [hR]
      refine cdI (by omega) (cd1 (by rw [br_len]; omega) (cd1 ⟨rfl, by rw [br_len]; omega⟩ ⟨_, by rw [at0]; rfl, cd1 hi (cdI (by omega) (cd1 (by omega) (cd1 (by rw [br_len]; omega) (cd1 ⟨rfl, by rw [br_len]; omega⟩ (cdI (by omega) (cdI (by omega) ⟨(i - 1, _), ⟨by simp only; omega, by simp only; omega, hwr.trans nx.symm⟩, by simp only [wrtI]; omega, ⟨rfl, rfl, rfl, rfl, trivial⟩, ⟨?_, by simp only; omega, trivial⟩, rfl, trivial⟩))))))⟩))
      exact (List.length_set ..).symm
  · have hi1 : i = -1 := by omega
    have hkw : k = w.toNat := by omega
    rw [hkw] at hl'
    rw [hz, ← hl']
    exact ⟨trivial, ⟨rfl, by omega, trivial⟩, rfl, trivial⟩
def bwrite_S : Prop := ∀ (gl : Glob) (ys : List (List AV)) (n v w : Int) (m : Nat), (BytP ys ∧ validB (bn ys) n = true ∧ m = ys.length) ∧ (1 ≤ w ∧ w ≤ 24) ∧ (0 ≤ v ∧ v < 16777216) ∧ n + w ≤ 40000 → fnH Try.prog { glob := gl, spec := lk [], specH := lk [], shape := [43] } { nt := 68, drop := drp [(0, 384), (1, 512), (2, 6144), (3, 516096), (4, 2146435072), (5, 576460750155939840), (6, 294571444427049402368)], fr := 1000, kp := [0, 1] } (invs [(1, wrtI (ub ys n) n v w)]) 6 Try.f31 [.ptr 0 0, .int .i64 v, .int .i64 w] [.cells [.rw 1 1 m, .int .i64 n], .row 5 1 ys] (.tup []) [.cells [.rw 1 1 (br (pack (ub ys n ++ nb v.toNat w.toNat w.toNat))).length, .int .i64 (n + w)], .row 5 1 (br (pack (ub ys n ++ nb v.toNat w.toNat w.toNat)))]
set_option maxRecDepth 100000 in
theorem bwrite_e : bwrite_T = bwrite_S := by kernel_rfl
theorem bwrite_v : bwrite_S := @Eq.mp (bwrite_T) (bwrite_S) (bwrite_e) bwrite_P
theorem bwrite_ok (gl : Glob) : HOK Try.prog gl 31 bwrite_s := by
  refine ⟨fok Try.func31 (by kernel_rfl) (by kernel_rfl), ?_⟩
  intro xs bs pre r bs2 h hp
  unfold bwrite_s at h
  split at h
  · simp only [Option.some.injEq, Prod.mk.injEq] at h
    obtain ⟨h1, h2, h3⟩ := h
    subst h1 h2 h3
    exact fnH_sound tyNil (by exact specOK rfl rfl trivial trivial) (by kernel_rfl) Try.func31 (bwrite_v gl _ _ _ _ _ hp)
  · cases h
end Go.Proofs.Ytkbfldgebcpigaa
