/- The law that Check and Far answer as the reference. -/
import Derived.Test.YtceknalhogbbnaaDoorSeN
namespace Go.Proofs.YtceknalhogbbnaaDoor
open Go
set_option linter.unusedVariables false
set_option linter.unusedSimpArgs false

def rowsC : Option Blk → Option (List (List AV))
  | some (.cells [.sl _ _ xs]) => some xs
  | some (.cells [.frz _ _ _ xs]) => some xs
  | _ => none
theorem nrs_set {ys : List (List AV)} {i : Nat} {e g q a s : Int} (h : NrsP ys) (hi : i < ys.length) (hr : rng .i64 e ∧ rng .i64 g ∧ rng .i64 q ∧ rng .i64 a ∧ rng .i64 s) : NrsP (ys.set i [.int .i64 e, .int .i64 g, .int .i64 q, .int .i64 a, .int .i64 s]) := by
  refine ⟨fun k hk => ?_, by have := h.fs; simp; omega⟩
  rw [List.length_set] at hk
  rw [gD_set hi]
  by_cases hki : k = i
  · rw [if_pos hki]; exact ⟨e, g, q, a, s, rfl, hr⟩
  · rw [if_neg hki]; exact h.fr k hk
theorem nrs_up {ys : List (List AV)} {i : Nat} {v : Int} {k : Nat} (hk : k = 2 ∨ k = 4) (h : NrsP ys) (hi : i < ys.length) (hv : rng .i64 v) : NrsP (setEl ys i k [.int .i64 v]) ∧ (setEl ys i k [.int .i64 v]).length = ys.length := by
  refine ⟨?_, List.length_set ..⟩
  obtain ⟨e, g, q, a, s, he, r1, r2, r3, r4, r5⟩ := h.fr i hi
  rcases hk with rfl | rfl
  · have e1 : setEl ys i 2 [.int .i64 v] = ys.set i [.int .i64 e, .int .i64 g, .int .i64 v, .int .i64 a, .int .i64 s] := by unfold setEl; rw [he]; rfl
    rw [e1]; exact nrs_set h hi ⟨r1, r2, hv, r4, r5⟩
  · have e1 : setEl ys i 4 [.int .i64 v] = ys.set i [.int .i64 e, .int .i64 g, .int .i64 q, .int .i64 a, .int .i64 v] := by unfold setEl; rw [he]; rfl
    rw [e1]; exact nrs_set h hi ⟨r1, r2, r3, r4, hv⟩
structure AnL (L : List (List AV)) : Prop where
  fr : ∀ i, i < L.length → ∃ k nm t f a b c rd, L.getD i [] = rpA k nm t f a b c rd ∧ RdsP rd
  fl : L.length ≤ 1000
structure AnP1 (n : Nat) (x : Int × Int × List (List AV)) : Prop where
  flo : 0 ≤ x.1
  fhi : x.1 ≤ n
  fj : 0 ≤ x.2.1
  fl : x.2.2.length = n
  fp : NrsP x.2.2
structure AnP2 (x : Int × List (List AV) × List (List AV)) : Prop where
  fj : 0 ≤ x.1
  fp : NrsP x.2.1
  fL : AnL x.2.2
structure AnP3 (L : List (List AV)) (x : Int × Int) : Prop where
  flo : 0 ≤ x.1
  fhi : x.1 ≤ L.length
  fj : 0 ≤ x.2
def rowsT : Option AV → Option (List (List AV))
  | some (.sl _ _ xs) => some xs
  | some (.frz _ _ _ xs) => some xs
  | _ => none
def an1I (zc rd rs xs : List (List AV)) (k : Int) (nm : ByteArray) (t f a b c code m : Int) (n : Nat) : LInv := ⟨Int × Int × List (List AV), fun x => ⟨[(3, .int .i64 code), (4, .ptr 4 0), (5, .ptr 5 0), (9, .ptr 41 0), (10, .int .i64 m), (11, .sl 8 false rs), (12, .ptr 12 0), (54, .int .i64 n), (55, .int .i64 x.1)], [(4, .cells [.sl 5 false zc]), (5, .cells [.int .i64 k, .str nm, .int .i64 t, .int .i64 f, .int .i64 a, .int .i64 b, .int .i64 c, .sl 2 false rd]), (41, .cells [.sl 1 false xs, .int .i64 x.2.1]), (12, .cells [.rw 49 5 n]), (49, .row 43 5 x.2.2)]⟩, AnP1 n, fun x => (n - x.1).toNat, none⟩
def an2I (zc xs : List (List AV)) (code : Int) : LInv := ⟨Int × List (List AV) × List (List AV), fun x => ⟨[(3, .int .i64 code), (4, .ptr 4 0), (9, .ptr 41 0), (12, .ptr 12 0), (15, .rw 85 8 x.2.2.length)], [(85, .row 29 8 x.2.2), (4, .cells [.sl 5 false zc]), (41, .cells [.sl 1 false xs, .int .i64 x.1]), (12, .cells [.sl 5 false x.2.1])]⟩, AnP2, fun x => 0, none⟩
def an3I (xs L d rws : List (List AV)) (code q : Int) : LInv := ⟨Int × Int, fun x => ⟨[(3, .int .i64 code), (9, .ptr 41 0), (15, .sl 8 false L), (17, .ptr 17 0), (90, .rw 90 1 2), (91, .int .i64 2), (92, .int .i64 q), (96, .sl 8 false L), (97, .int .i64 L.length), (98, .int .i64 x.1)], [(41, .cells [.sl 1 false xs, .int .i64 x.2]), (17, .cells [.sl 5 false d]), (90, .row 24 1 rws)]⟩, AnP3 L, fun x => (L.length - x.1).toNat, none⟩
def anJ (id : Nat) (st : St) : Option LInv := match lk st.tmps 3, lk st.heap 41 with
  | some (.int _ code), some (.cells [.sl _ _ xs, .int _ _]) =>
    cond (Nat.beq id 8) (match lk st.tmps 10, lk st.tmps 11, lk st.heap 4, lk st.heap 5, lk st.heap 49 with
      | some (.int _ m), some (.sl _ _ rs), some (.cells [.sl _ _ zc]), some (.cells [.int _ k, .str nm, .int _ t, .int _ f, .int _ a, .int _ b, .int _ c, .sl _ _ rd]), some (.row _ _ ys) => some (an1I zc rd rs xs k nm t f a b c code m ys.length)
      | _, _, _, _, _ => none) (cond (Nat.beq id 100015) (match lk st.heap 4 with
      | some (.cells [.sl _ _ zc]) => some (an2I zc xs code)
      | _ => none) (cond (Nat.beq id 19) (match lk st.tmps 92, rowsT (lk st.tmps 96), rowsC (lk st.heap 17), lk st.heap 90 with
      | some (.int _ q), some L, some d, some (.row _ _ rws) => some (an3I xs L d rws code q)
      | _, _, _, _ => none) none))
  | _, _ => none
def lansw_s (exE : List (List AV) → List (List AV) → Int → Int → Int → Int → Int → Int) (chL : List (List AV) → List (List AV) → Int → Int → Int → Int → Int → List (List AV)) (farV : List (List AV) → List (List AV) → Int → Int → Int → Int → Int → Int → Int) (farB : List (List AV) → List (List AV) → Int → Int → Int → Int → Int → Int → Bool) : Sp
  | [.agg [.sl 5 false zc], .agg [.int .i64 k, .str nm, .int .i64 t, .int .i64 f, .int .i64 a, .int .i64 b, .int .i64 c, .sl 2 false rd], .sl 1 false xs, .int .i64 code] => some (IntsA xs ∧ NrsP zc ∧ RdsP rd, .bool true)
  | _ => none
set_option maxRecDepth 100000 in
def lansw_T (exE : List (List AV) → List (List AV) → Int → Int → Int → Int → Int → Int) (chL : List (List AV) → List (List AV) → Int → Int → Int → Int → Int → List (List AV)) (farV : List (List AV) → List (List AV) → Int → Int → Int → Int → Int → Int → Int) (farB : List (List AV) → List (List AV) → Int → Int → Int → Int → Int → Int → Bool) : Prop :=
  ∀ (zc rd xs : List (List AV)) (k t f a b c code : Int) (nm : ByteArray), (∀ (x : List AV), List.Mem x xs → ∃ n, x = [AV.int IntKind.i64 n] ∧ rng IntKind.i64 n) ∧ NrsP zc ∧ RdsP rd
  → True ∧ True → ((-9223372036854775808 : Int) ≤ k ∧ k ≤ (9223372036854775807 : Int)) ∧ nm.size.le (9223372036854775807 : Nat) ∧ ((-9223372036854775808 : Int) ≤ t ∧ t ≤
  (9223372036854775807 : Int)) ∧ ((-9223372036854775808 : Int) ≤ f ∧ f ≤ (9223372036854775807 : Int)) ∧ ((-9223372036854775808 : Int) ≤ a ∧ a ≤ (9223372036854775807 : Int)) ∧
  ((-9223372036854775808 : Int) ≤ b ∧ b ≤ (9223372036854775807 : Int)) ∧ ((-9223372036854775808 : Int) ≤ c ∧ c ≤ (9223372036854775807 : Int)) ∧ True ∧ True → True →
  (-9223372036854775808 : Int) ≤ code ∧ code ≤ (9223372036854775807 : Int) → bif decide ((300 : Int) < (↑zc.length : Int)) then True ∧ true = true else True ∧ bif !(decide (nm.size ≤
  (40 : Nat)) && decide ((↑rd.length : Int) ≤ (40 : Int))) then True ∧ true = true else True ∧ SrcQ (List.take (2000 : Nat) xs) (0 : Int) ∧ ∀ (m j : Int), MinQ m j → (SrcQ (List.take
  (2000 : Nat) xs) j ∧ ((0 : Int) ≤ m ∧ m ≤ (52595999 : Int)) ∧ (0 : Int) ≤ (6 : Int) ∧ (6 : Int) ≤ (1000 : Int)) ∧ ∀ (ys : List (List AV)) (j : Int), PlcQ (6 : Int) ys j → (RpsV ys
  ∧ ys.length ≤ (1000 : Nat)) ∧ ∀ (ys_1 : List (List AV)) (e : Int), LrnQ ys ys_1 e → (∃ x, AnP1 ys_1.length x ∧ (code = code ∧ (0 : Nat) = (0 : Nat) ∧ (0 : Nat) = (0 : Nat) ∧ (0 :
  Nat) = (0 : Nat) ∧ m = m ∧ (True ∧ ys = ys) ∧ (0 : Nat) = (0 : Nat) ∧ (↑ys_1.length : Int) = (↑ys_1.length : Int) ∧ (0 : Int) = x.fst ∧ True) ∧ ((True ∧ zc = zc) ∧ True) ∧ (k = k ∧
  nm = nm ∧ t = t ∧ f = f ∧ a = a ∧ b = b ∧ c = c ∧ (True ∧ rd = rd) ∧ True) ∧ ((True ∧ List.take (2000 : Nat) xs = List.take (2000 : Nat) xs) ∧ j = x.snd.fst ∧ True) ∧ (ys_1.length
  = ys_1.length ∧ True) ∧ ys_1 = x.snd.snd ∧ True) ∧ ∀ (x : Int × Int × List (List AV)), AnP1 ys_1.length x → bif decide (x.fst < (↑ys_1.length : Int)) then SrcQ (List.take (2000 :
  Nat) xs) x.snd.fst ∧ ∀ (v j : Int), NumQ (100 : Int) v j → bif decide ((0 : Int) ≤ x.fst ∧ x.fst < (↑ys_1.length : Int)) then bif decide (ys_1.length = x.snd.snd.length ∧
  x.fst.toNat < x.snd.snd.length) then SrcQ (List.take (2000 : Nat) xs) j ∧ ∀ (v_1 j : Int), NumQ (9 : Int) v_1 j → bif decide (v_1 = (0 : Int)) then (SrcQ (List.take (2000 : Nat)
  xs) j ∧ (0 : Int) ≤ (13 : Int) ∧ (-1000000000 : Int) ≤ (0 : Int) ∧ (13 : Int) ≤ (1000000000 : Int)) ∧ ∀ (v_2 j : Int), ((0 : Int) ≤ v_2 ∧ v_2 ≤ (13 : Int)) ∧ (0 : Int) ≤ j → bif
  decide ((0 : Int) ≤ x.fst ∧ x.fst < (↑ys_1.length : Int)) then bif decide (ys_1.length = (setEl x.snd.snd x.fst.toNat (4 : Nat) [AV.int IntKind.i64 v]).length ∧ x.fst.toNat <
  (setEl x.snd.snd x.fst.toNat (4 : Nat) [AV.int IntKind.i64 v]).length) then bif decide (rng IntKind.i64 (x.fst + (1 : Int))) then ∃ y, AnP1 ys_1.length y ∧ (an1I zc rd ys
  (List.take (2000 : Nat) xs) k nm t f a b c code m ys_1.length).m y < (an1I zc rd ys (List.take (2000 : Nat) xs) k nm t f a b c code m ys_1.length).m x ∧ (code = code ∧ (0 : Nat) =
  (0 : Nat) ∧ (0 : Nat) = (0 : Nat) ∧ (0 : Nat) = (0 : Nat) ∧ m = m ∧ (True ∧ ys = ys) ∧ (0 : Nat) = (0 : Nat) ∧ (↑ys_1.length : Int) = (↑ys_1.length : Int) ∧ x.fst + (1 : Int) =
  y.fst ∧ True) ∧ ((True ∧ zc = zc) ∧ True) ∧ (k = k ∧ nm = nm ∧ t = t ∧ f = f ∧ a = a ∧ b = b ∧ c = c ∧ (True ∧ rd = rd) ∧ True) ∧ ((True ∧ List.take (2000 : Nat) xs = List.take
  (2000 : Nat) xs) ∧ j = y.snd.fst ∧ True) ∧ (ys_1.length = ys_1.length ∧ True) ∧ setEl (setEl x.snd.snd x.fst.toNat (4 : Nat) [AV.int IntKind.i64 v]) x.fst.toNat (2 : Nat) [AV.int
  IntKind.i64 v_2] = y.snd.snd ∧ True else False else False else False else bif decide (rng IntKind.i64 (x.fst + (1 : Int))) then ∃ y, AnP1 ys_1.length y ∧ (an1I zc rd ys (List.take
  (2000 : Nat) xs) k nm t f a b c code m ys_1.length).m y < (an1I zc rd ys (List.take (2000 : Nat) xs) k nm t f a b c code m ys_1.length).m x ∧ (code = code ∧ (0 : Nat) = (0 : Nat) ∧
  (0 : Nat) = (0 : Nat) ∧ (0 : Nat) = (0 : Nat) ∧ m = m ∧ (True ∧ ys = ys) ∧ (0 : Nat) = (0 : Nat) ∧ (↑ys_1.length : Int) = (↑ys_1.length : Int) ∧ x.fst + (1 : Int) = y.fst ∧ True) ∧
  ((True ∧ zc = zc) ∧ True) ∧ (k = k ∧ nm = nm ∧ t = t ∧ f = f ∧ a = a ∧ b = b ∧ c = c ∧ (True ∧ rd = rd) ∧ True) ∧ ((True ∧ List.take (2000 : Nat) xs = List.take (2000 : Nat) xs) ∧
  j = y.snd.fst ∧ True) ∧ (ys_1.length = ys_1.length ∧ True) ∧ setEl x.snd.snd x.fst.toNat (4 : Nat) [AV.int IntKind.i64 v] = y.snd.snd ∧ True else False else False else False else
  ((SrcQ (List.take (2000 : Nat) xs) x.snd.fst ∧ (0 : Int) ≤ m ∧ m ≤ (52595999 : Int)) ∧ ∀ (k_1 : Int) (nm_1 : ByteArray) (t_1 f_1 a_10 b_1 c_1 : Int) (ys_2 : List (List AV)) (j :
  Int), RepQ k_1 nm_1 t_1 f_1 a_10 b_1 c_1 ys_2 j → (SrcQ (List.take (2000 : Nat) xs) j ∧ (0 : Int) ≤ m ∧ m ≤ (52595999 : Int)) ∧ ∀ (k_2 : Int) (nm_2 : ByteArray) (t_2 f_2 a_12 b_2
  c_2 : Int) (ys_3 : List (List AV)) (j : Int), RepQ k_2 nm_2 t_2 f_2 a_12 b_2 c_2 ys_3 j → (SrcQ (List.take (2000 : Nat) xs) j ∧ RdsP ys_3 ∧ ys_3.length ≤ (100 : Nat)) ∧ ∀ (k1 :
  Int) (nm1 : ByteArray) (t1 f1 a1 b1 c1 : Int) (ys_4 : List (List AV)) (j : Int), BntQ t1 f1 a1 b1 c1 ys_4 j → bif decide ((3 : Nat) = [[AV.int IntKind.i64 k, AV.str nm, AV.int
  IntKind.i64 t, AV.int IntKind.i64 f, AV.int IntKind.i64 a, AV.int IntKind.i64 b, AV.int IntKind.i64 c, AV.sl (2 : Nat) false rd], [AV.int IntKind.i64 k_1, AV.str nm_1, AV.int
  IntKind.i64 t_1, AV.int IntKind.i64 f_1, AV.int IntKind.i64 a_10, AV.int IntKind.i64 b_1, AV.int IntKind.i64 c_1, AV.sl (2 : Nat) false ys_2], [AV.int IntKind.i64 k1, AV.str nm1,
  AV.int IntKind.i64 t1, AV.int IntKind.i64 f1, AV.int IntKind.i64 a1, AV.int IntKind.i64 b1, AV.int IntKind.i64 c1, AV.sl (2 : Nat) false ys_4]].length ∧ [[AV.int IntKind.i64 k,
  AV.str nm, AV.int IntKind.i64 t, AV.int IntKind.i64 f, AV.int IntKind.i64 a, AV.int IntKind.i64 b, AV.int IntKind.i64 c, AV.sl (2 : Nat) false rd], [AV.int IntKind.i64 k_1, AV.str
  nm_1, AV.int IntKind.i64 t_1, AV.int IntKind.i64 f_1, AV.int IntKind.i64 a_10, AV.int IntKind.i64 b_1, AV.int IntKind.i64 c_1, AV.sl (2 : Nat) false ys_2], [AV.int IntKind.i64 k1,
  AV.str nm1, AV.int IntKind.i64 t1, AV.int IntKind.i64 f1, AV.int IntKind.i64 a1, AV.int IntKind.i64 b1, AV.int IntKind.i64 c1, AV.sl (2 : Nat) false ys_4]].length + ys.length ≤
  (9223372036854775807 : Nat) ∧ ([[AV.int IntKind.i64 k, AV.str nm, AV.int IntKind.i64 t, AV.int IntKind.i64 f, AV.int IntKind.i64 a, AV.int IntKind.i64 b, AV.int IntKind.i64 c,
  AV.sl (2 : Nat) false rd], [AV.int IntKind.i64 k_1, AV.str nm_1, AV.int IntKind.i64 t_1, AV.int IntKind.i64 f_1, AV.int IntKind.i64 a_10, AV.int IntKind.i64 b_1, AV.int IntKind.i64
  c_1, AV.sl (2 : Nat) false ys_2], [AV.int IntKind.i64 k1, AV.str nm1, AV.int IntKind.i64 t1, AV.int IntKind.i64 f1, AV.int IntKind.i64 a1, AV.int IntKind.i64 b1, AV.int IntKind.i64
  c1, AV.sl (2 : Nat) false ys_4]].length + ys.length) * (88 : Nat) ≤ (140737488355328 : Nat)) then ∃ x_1, AnP2 x_1 ∧ (code = code ∧ (0 : Nat) = (0 : Nat) ∧ (0 : Nat) = (0 : Nat) ∧
  (0 : Nat) = (0 : Nat) ∧ ([[AV.int IntKind.i64 k, AV.str nm, AV.int IntKind.i64 t, AV.int IntKind.i64 f, AV.int IntKind.i64 a, AV.int IntKind.i64 b, AV.int IntKind.i64 c, AV.sl (2 :
  Nat) false rd], [AV.int IntKind.i64 k_1, AV.str nm_1, AV.int IntKind.i64 t_1, AV.int IntKind.i64 f_1, AV.int IntKind.i64 a_10, AV.int IntKind.i64 b_1, AV.int IntKind.i64 c_1, AV.sl
  (2 : Nat) false ys_2], [AV.int IntKind.i64 k1, AV.str nm1, AV.int IntKind.i64 t1, AV.int IntKind.i64 f1, AV.int IntKind.i64 a1, AV.int IntKind.i64 b1, AV.int IntKind.i64 c1, AV.sl
  (2 : Nat) false ys_4]] ++ ys).length = x_1.snd.snd.length ∧ True) ∧ [[AV.int IntKind.i64 k, AV.str nm, AV.int IntKind.i64 t, AV.int IntKind.i64 f, AV.int IntKind.i64 a, AV.int
  IntKind.i64 b, AV.int IntKind.i64 c, AV.sl (2 : Nat) false rd], [AV.int IntKind.i64 k_1, AV.str nm_1, AV.int IntKind.i64 t_1, AV.int IntKind.i64 f_1, AV.int IntKind.i64 a_10,
  AV.int IntKind.i64 b_1, AV.int IntKind.i64 c_1, AV.sl (2 : Nat) false ys_2], [AV.int IntKind.i64 k1, AV.str nm1, AV.int IntKind.i64 t1, AV.int IntKind.i64 f1, AV.int IntKind.i64
  a1, AV.int IntKind.i64 b1, AV.int IntKind.i64 c1, AV.sl (2 : Nat) false ys_4]] ++ ys = x_1.snd.snd ∧ ((True ∧ zc = zc) ∧ True) ∧ ((True ∧ List.take (2000 : Nat) xs = List.take
  (2000 : Nat) xs) ∧ j = x_1.fst ∧ True) ∧ ((ys_1.length = x.snd.snd.length ∧ x.snd.snd = x_1.snd.fst) ∧ True) ∧ True else False) ∧ ∀ (x : Int × List (List AV) × List (List AV)),
  AnP2 x → bif decide (x.snd.snd.length = x.snd.snd.length) then (∃ x_1, AnP3 x.snd.snd x_1 ∧ (code = code ∧ (0 : Nat) = (0 : Nat) ∧ (x.snd.snd.length = x.snd.snd.length ∧ x.snd.snd
  = x.snd.snd) ∧ (0 : Nat) = (0 : Nat) ∧ (2 : Nat) = (2 : Nat) ∧ (2 : Int) = (2 : Int) ∧ (0 : Int) = (0 : Int) ∧ (x.snd.snd.length = x.snd.snd.length ∧ x.snd.snd = x.snd.snd) ∧
  (↑x.snd.snd.length : Int) = (↑x.snd.snd.length : Int) ∧ (0 : Int) = x_1.fst ∧ True) ∧ ((True ∧ List.take (2000 : Nat) xs = List.take (2000 : Nat) xs) ∧ x.fst = x_1.snd ∧ True) ∧
  ((True ∧ zc = zc) ∧ True) ∧ [[AV.sl (5 : Nat) false zc], [AV.sl (5 : Nat) false x.snd.fst]] = [[AV.sl (5 : Nat) false zc], [AV.sl (5 : Nat) false x.snd.fst]] ∧ True) ∧ ∀ (x_1 : Int
  × Int), AnP3 x.snd.snd x_1 → bif decide (x_1.fst < (↑x.snd.snd.length : Int)) then bif decide ((0 : Int) ≤ x_1.fst ∧ x_1.fst < (↑x.snd.snd.length : Int)) then ∃ n s n_1 n_2 n_3 n_4
  n_5 xs_1, List.take [AV.int IntKind.i64 n, AV.str s, AV.int IntKind.i64 n_1, AV.int IntKind.i64 n_2, AV.int IntKind.i64 n_3, AV.int IntKind.i64 n_4, AV.int IntKind.i64 n_5, AV.sl
  (2 : Nat) false xs_1].length (x.snd.snd.getD x_1.fst.toNat []) = [AV.int IntKind.i64 n, AV.str s, AV.int IntKind.i64 n_1, AV.int IntKind.i64 n_2, AV.int IntKind.i64 n_3, AV.int
  IntKind.i64 n_4, AV.int IntKind.i64 n_5, AV.sl (2 : Nat) false xs_1] ∧ (NrsP zc ∧ RdsP xs_1) ∧ (NrsP zc ∧ RdsP xs_1) ∧ bif decide ¬YtceknalhogbbnaaDoor.exE zc xs_1 n_1 n_2 n_3 n_4
  n_5 = YtceknalhogbbnaaDoor.exE zc xs_1 n_1 n_2 n_3 n_4 n_5 then false = true else ((IntsB (YtceknalhogbbnaaDoor.chL zc xs_1 n_1 n_2 n_3 n_4 n_5) ∧ IntsB (YtceknalhogbbnaaDoor.chL
  zc xs_1 n_1 n_2 n_3 n_4 n_5)) ∧ Ln (YtceknalhogbbnaaDoor.chL zc xs_1 n_1 n_2 n_3 n_4 n_5) ∧ Ln (YtceknalhogbbnaaDoor.chL zc xs_1 n_1 n_2 n_3 n_4 n_5)) ∧ bif !intsEq
  (YtceknalhogbbnaaDoor.chL zc xs_1 n_1 n_2 n_3 n_4 n_5) (YtceknalhogbbnaaDoor.chL zc xs_1 n_1 n_2 n_3 n_4 n_5) then false = true else (SrcQ (List.take (2000 : Nat) xs) x_1.snd ∧ (1
  : Int) ≤ (11 : Int) ∧ (-1000000000 : Int) ≤ (1 : Int) ∧ (11 : Int) ≤ (1000000000 : Int)) ∧ ∀ (v j : Int), ((1 : Int) ≤ v ∧ v ≤ (11 : Int)) ∧ (0 : Int) ≤ j → (NrsP zc ∧ RdsP xs_1) ∧
  (NrsP zc ∧ RdsP xs_1) ∧ bif decide ¬YtceknalhogbbnaaDoor.farV zc xs_1 n_1 n_2 n_3 n_4 n_5 code = YtceknalhogbbnaaDoor.farV zc xs_1 n_1 n_2 n_3 n_4 n_5 code then false = true else
  bif !decide (YtceknalhogbbnaaDoor.farB zc xs_1 n_1 n_2 n_3 n_4 n_5 code = YtceknalhogbbnaaDoor.farB zc xs_1 n_1 n_2 n_3 n_4 n_5 code) then false = true else (NrsP zc ∧ RdsP xs_1) ∧
  (NrsP zc ∧ RdsP xs_1) ∧ bif decide ¬YtceknalhogbbnaaDoor.farV zc xs_1 n_1 n_2 n_3 n_4 n_5 v = YtceknalhogbbnaaDoor.farV zc xs_1 n_1 n_2 n_3 n_4 n_5 v then false = true else bif
  !decide (YtceknalhogbbnaaDoor.farB zc xs_1 n_1 n_2 n_3 n_4 n_5 v = YtceknalhogbbnaaDoor.farB zc xs_1 n_1 n_2 n_3 n_4 n_5 v) then false = true else bif decide (rng IntKind.i64
  (x_1.fst + (1 : Int))) then ∃ y, AnP3 x.snd.snd y ∧ (an3I (List.take (2000 : Nat) xs) x.snd.snd zc [[AV.sl (5 : Nat) false zc], [AV.sl (5 : Nat) false x.snd.fst]] code (0 : Int)).m
  y < (an3I (List.take (2000 : Nat) xs) x.snd.snd zc [[AV.sl (5 : Nat) false zc], [AV.sl (5 : Nat) false x.snd.fst]] code (0 : Int)).m x_1 ∧ (code = code ∧ (0 : Nat) = (0 : Nat) ∧
  (True ∧ x.snd.snd = x.snd.snd) ∧ (0 : Nat) = (0 : Nat) ∧ (2 : Nat) = (2 : Nat) ∧ (2 : Int) = (2 : Int) ∧ (0 : Int) = (0 : Int) ∧ (True ∧ x.snd.snd = x.snd.snd) ∧ (↑x.snd.snd.length
  : Int) = (↑x.snd.snd.length : Int) ∧ x_1.fst + (1 : Int) = y.fst ∧ True) ∧ ((True ∧ List.take (2000 : Nat) xs = List.take (2000 : Nat) xs) ∧ j = y.snd ∧ True) ∧ ((True ∧ zc = zc) ∧
  True) ∧ [[AV.sl (5 : Nat) false zc], [AV.sl (5 : Nat) false x.snd.fst]] = [[AV.sl (5 : Nat) false zc], [AV.sl (5 : Nat) false x.snd.fst]] ∧ True else False else False else (∃ x_2,
  AnP3 x.snd.snd x_2 ∧ (code = code ∧ (0 : Nat) = (0 : Nat) ∧ (True ∧ x.snd.snd = x.snd.snd) ∧ (0 : Nat) = (0 : Nat) ∧ (2 : Nat) = (2 : Nat) ∧ (2 : Int) = (2 : Int) ∧ (1 : Int) = (1
  : Int) ∧ (True ∧ x.snd.snd = x.snd.snd) ∧ (↑x.snd.snd.length : Int) = (↑x.snd.snd.length : Int) ∧ (0 : Int) = x_2.fst ∧ True) ∧ ((True ∧ List.take (2000 : Nat) xs = List.take (2000
  : Nat) xs) ∧ x_1.snd = x_2.snd ∧ True) ∧ ((True ∧ x.snd.fst = x.snd.fst) ∧ True) ∧ [[AV.sl (5 : Nat) false zc], [AV.sl (5 : Nat) false x.snd.fst]] = [[AV.sl (5 : Nat) false zc],
  [AV.sl (5 : Nat) false x.snd.fst]] ∧ True) ∧ ∀ (x_2 : Int × Int), AnP3 x.snd.snd x_2 → bif decide (x_2.fst < (↑x.snd.snd.length : Int)) then bif decide ((0 : Int) ≤ x_2.fst ∧
  x_2.fst < (↑x.snd.snd.length : Int)) then ∃ n s n_1 n_2 n_3 n_4 n_5 xs_1, List.take [AV.int IntKind.i64 n, AV.str s, AV.int IntKind.i64 n_1, AV.int IntKind.i64 n_2, AV.int
  IntKind.i64 n_3, AV.int IntKind.i64 n_4, AV.int IntKind.i64 n_5, AV.sl (2 : Nat) false xs_1].length (x.snd.snd.getD x_2.fst.toNat []) = [AV.int IntKind.i64 n, AV.str s, AV.int
  IntKind.i64 n_1, AV.int IntKind.i64 n_2, AV.int IntKind.i64 n_3, AV.int IntKind.i64 n_4, AV.int IntKind.i64 n_5, AV.sl (2 : Nat) false xs_1] ∧ (NrsP x.snd.fst ∧ RdsP xs_1) ∧ (NrsP
  x.snd.fst ∧ RdsP xs_1) ∧ bif decide ¬YtceknalhogbbnaaDoor.exE x.snd.fst xs_1 n_1 n_2 n_3 n_4 n_5 = YtceknalhogbbnaaDoor.exE x.snd.fst xs_1 n_1 n_2 n_3 n_4 n_5 then false = true
  else ((IntsB (YtceknalhogbbnaaDoor.chL x.snd.fst xs_1 n_1 n_2 n_3 n_4 n_5) ∧ IntsB (YtceknalhogbbnaaDoor.chL x.snd.fst xs_1 n_1 n_2 n_3 n_4 n_5)) ∧ Ln (YtceknalhogbbnaaDoor.chL
  x.snd.fst xs_1 n_1 n_2 n_3 n_4 n_5) ∧ Ln (YtceknalhogbbnaaDoor.chL x.snd.fst xs_1 n_1 n_2 n_3 n_4 n_5)) ∧ bif !intsEq (YtceknalhogbbnaaDoor.chL x.snd.fst xs_1 n_1 n_2 n_3 n_4 n_5)
  (YtceknalhogbbnaaDoor.chL x.snd.fst xs_1 n_1 n_2 n_3 n_4 n_5) then false = true else (SrcQ (List.take (2000 : Nat) xs) x_2.snd ∧ (1 : Int) ≤ (11 : Int) ∧ (-1000000000 : Int) ≤ (1 :
  Int) ∧ (11 : Int) ≤ (1000000000 : Int)) ∧ ∀ (v j : Int), ((1 : Int) ≤ v ∧ v ≤ (11 : Int)) ∧ (0 : Int) ≤ j → (NrsP x.snd.fst ∧ RdsP xs_1) ∧ (NrsP x.snd.fst ∧ RdsP xs_1) ∧ bif decide
  ¬YtceknalhogbbnaaDoor.farV x.snd.fst xs_1 n_1 n_2 n_3 n_4 n_5 code = YtceknalhogbbnaaDoor.farV x.snd.fst xs_1 n_1 n_2 n_3 n_4 n_5 code then false = true else bif !decide
  (YtceknalhogbbnaaDoor.farB x.snd.fst xs_1 n_1 n_2 n_3 n_4 n_5 code = YtceknalhogbbnaaDoor.farB x.snd.fst xs_1 n_1 n_2 n_3 n_4 n_5 code) then false = true else (NrsP x.snd.fst ∧
  RdsP xs_1) ∧ (NrsP x.snd.fst ∧ RdsP xs_1) ∧ bif decide ¬YtceknalhogbbnaaDoor.farV x.snd.fst xs_1 n_1 n_2 n_3 n_4 n_5 v = YtceknalhogbbnaaDoor.farV x.snd.fst xs_1 n_1 n_2 n_3 n_4
  n_5 v then false = true else bif !decide (YtceknalhogbbnaaDoor.farB x.snd.fst xs_1 n_1 n_2 n_3 n_4 n_5 v = YtceknalhogbbnaaDoor.farB x.snd.fst xs_1 n_1 n_2 n_3 n_4 n_5 v) then
  false = true else bif decide (rng IntKind.i64 (x_2.fst + (1 : Int))) then ∃ y, AnP3 x.snd.snd y ∧ (an3I (List.take (2000 : Nat) xs) x.snd.snd x.snd.fst [[AV.sl (5 : Nat) false zc],
  [AV.sl (5 : Nat) false x.snd.fst]] code (1 : Int)).m y < (an3I (List.take (2000 : Nat) xs) x.snd.snd x.snd.fst [[AV.sl (5 : Nat) false zc], [AV.sl (5 : Nat) false x.snd.fst]] code
  (1 : Int)).m x_2 ∧ (code = code ∧ (0 : Nat) = (0 : Nat) ∧ (True ∧ x.snd.snd = x.snd.snd) ∧ (0 : Nat) = (0 : Nat) ∧ (2 : Nat) = (2 : Nat) ∧ (2 : Int) = (2 : Int) ∧ (1 : Int) = (1 :
  Int) ∧ (True ∧ x.snd.snd = x.snd.snd) ∧ (↑x.snd.snd.length : Int) = (↑x.snd.snd.length : Int) ∧ x_2.fst + (1 : Int) = y.fst ∧ True) ∧ ((True ∧ List.take (2000 : Nat) xs = List.take
  (2000 : Nat) xs) ∧ j = y.snd ∧ True) ∧ ((True ∧ x.snd.fst = x.snd.fst) ∧ True) ∧ [[AV.sl (5 : Nat) false zc], [AV.sl (5 : Nat) false x.snd.fst]] = [[AV.sl (5 : Nat) false zc],
  [AV.sl (5 : Nat) false x.snd.fst]] ∧ True else False else False else True ∧ true = true else False
set_option maxRecDepth 100000 in
theorem lansw_P : lansw_T exE chL farV farB := by
  unfold lansw_T
  intro zc rd xs k t f a b c code nm ⟨hz0, hzc, hrd⟩ _ _ _ hcode
  have hz : IntsA xs := hz0
  have hs : SrcI (List.take 2000 xs) := SrcI.take hz
  clear hz hz0
  refine cs (fun _ => ⟨trivial, rfl⟩) (fun _ => ⟨trivial, csplit (fun _ => ⟨trivial, rfl⟩) (fun _ => ⟨trivial, ⟨hs, by decide⟩, fun m j q1 => ⟨⟨⟨hs, q1.fj⟩, q1.fm, by decide, by decide⟩, fun rs j q2 => ⟨⟨q2.fr, by have := q2.fl; omega⟩, fun ys e q3 => ?_⟩⟩⟩)⟩)
  have hny : NrsP ys := (cv_ok q3.fl (fun k hk => by
    obtain ⟨e, g, q, a, s, h1, h2, h3, h4, h5, h6, _⟩ := q3.fn.frow k hk
    exact ⟨e, g, q, a, s, h1, h2, h3, h4, by omega, by omega⟩) q3.fn.ford).2
  have hyl := q3.fl
  refine ⟨⟨(0, j, ys), ⟨by simp, by simp, q2.fj, rfl, hny⟩, ⟨rfl, rfl, rfl, rfl, rfl, ⟨trivial, rfl⟩, rfl, rfl, rfl, trivial⟩, ⟨⟨trivial, rfl⟩, trivial⟩, ⟨rfl, rfl, rfl, rfl, rfl, rfl, rfl, ⟨trivial, rfl⟩, trivial⟩, ⟨⟨trivial, rfl⟩, rfl, trivial⟩, ⟨rfl, trivial⟩, rfl, trivial⟩, ?_⟩
  rintro ⟨i, j, zs⟩ ⟨i0, i1, hj, zl, hp⟩
  simp only at i0 i1 hj zl hp
  dsimp only
  refine cs (fun hi => ⟨⟨hs, hj⟩, fun v j p1 => ?_⟩) (fun hi => ⟨⟨⟨⟨hs, hj⟩, q1.fm⟩, fun k1 nm1 t1 f1 a1 b1 c1 rd1 j p1 => ⟨⟨⟨hs, p1.fj⟩, q1.fm⟩, fun k2 nm2 t2 f2 a2 b2 c2 rd2 j p2 => ⟨⟨⟨hs, p2.fj⟩, (rdV_ok p2.fr).1, ?_⟩, fun k3 nm3 t3 f3 a3 b3 c3 rd3 j p3 => ?_⟩⟩⟩, ?_⟩)
  · have hiz : i.toNat < zs.length := by omega
    have hv := p1.fv (by omega)
    obtain ⟨u1, u2⟩ := nrs_up (k := 4) (v := v) (.inr rfl) hp hiz (by show _ ∧ _; omega)
    refine cd1 (by omega) (cd1 (by omega) ⟨⟨hs, p1.fj⟩, fun v1 j p2 => cs (fun _ => ⟨⟨⟨hs, p2.fj⟩, by decide, by decide, by decide⟩, fun v2 j p3 => ?_⟩) (fun _ => cdI (by omega) ⟨(i + 1, j, _), ⟨by simp only; omega, by simp only; omega, p2.fj, u2.trans zl, u1⟩, by simp only [an1I]; omega, ⟨rfl, rfl, rfl, rfl, rfl, ⟨trivial, rfl⟩, rfl, rfl, rfl, trivial⟩, ⟨⟨trivial, rfl⟩, trivial⟩, ⟨rfl, rfl, rfl, rfl, rfl, rfl, rfl, ⟨trivial, rfl⟩, trivial⟩, ⟨⟨trivial, rfl⟩, rfl, trivial⟩, ⟨rfl, trivial⟩, rfl, trivial⟩)⟩)
    obtain ⟨w1, w2⟩ := nrs_up (i := i.toNat) (k := 2) (v := v2) (.inl rfl) u1 (by omega) (by show _ ∧ _; omega)
    exact cd1 (by omega) (cd1 (by omega) (cdI (by omega) ⟨(i + 1, j, _), ⟨by simp only; omega, by simp only; omega, p3.2, (w2.trans u2).trans zl, w1⟩, by simp only [an1I]; omega, ⟨rfl, rfl, rfl, rfl, rfl, ⟨trivial, rfl⟩, rfl, rfl, rfl, trivial⟩, ⟨⟨trivial, rfl⟩, trivial⟩, ⟨rfl, rfl, rfl, rfl, rfl, rfl, rfl, ⟨trivial, rfl⟩, trivial⟩, ⟨⟨trivial, rfl⟩, rfl, trivial⟩, ⟨rfl, trivial⟩, rfl, trivial⟩))
  · have := p2.fr.flen; omega
  · have rl := q2.fl
    refine cd1 ⟨rfl, by simp; omega, by simp; omega⟩ ⟨(j, zs, _), ⟨p3.fj, hp, ⟨fun i hi => ?_, by simp; omega⟩⟩, ⟨rfl, rfl, rfl, rfl, rfl, trivial⟩, rfl, ⟨⟨trivial, rfl⟩, trivial⟩, ⟨⟨trivial, rfl⟩, rfl, trivial⟩, ⟨⟨zl.symm, rfl⟩, trivial⟩, trivial⟩
    rcases i with _ | _ | _ | i
    · exact ⟨k, nm, t, f, a, b, c, rd, rfl, hrd⟩
    · exact ⟨k1, nm1, t1, f1, a1, b1, c1, rd1, rfl, (rdV_ok p1.fr).1⟩
    · exact ⟨k3, nm3, t3, f3, a3, b3, c3, rd3, rfl, p3.fr⟩
    · obtain ⟨k, nm, t, f, a, b, c, rd, he, hr⟩ := q2.fr.frow i (by simp at hi; omega)
      exact ⟨k, nm, t, f, a, b, c, rd, he, (rdV_ok hr.fr).1⟩
  · clear hj zl hp hi i0 i1
    rintro ⟨j, zd, L⟩ ⟨hj, hd, hL⟩
    simp only at hj hd hL
    dsimp only
    refine cd1 rfl ⟨⟨(0, j), ⟨by simp, by simp, hj⟩, ⟨rfl, rfl, ⟨rfl, rfl⟩, rfl, rfl, rfl, rfl, ⟨rfl, rfl⟩, rfl, rfl, trivial⟩, ⟨⟨⟨trivial, rfl⟩, rfl, trivial⟩, ⟨⟨trivial, rfl⟩, trivial⟩, rfl, trivial⟩⟩, ?_⟩
    clear hj
    rintro ⟨i, j⟩ ⟨i0, i1, hj⟩
    simp only at i0 i1 hj
    dsimp only
    refine cs (fun hi => cd1 (by omega) ?_) (fun hi => ?_)
    · obtain ⟨k1, nm1, t1, f1, a1, b1, c1, rd1, he, hr1⟩ := hL.fr i.toNat (by omega)
      refine ⟨k1, nm1, t1, f1, a1, b1, c1, rd1, by rw [he]; rfl, ⟨hzc, hr1⟩, ⟨hzc, hr1⟩, cs (fun q => absurd rfl q) (fun _ => ⟨⟨⟨(chL_ints hr1).1, (chL_ints hr1).1⟩, (chL_ints hr1).2, (chL_ints hr1).2⟩, csplit (fun q => by rw [intsEq_rfl] at q; cases q) (fun _ => ⟨⟨⟨hs, hj⟩, by decide, by decide, by decide⟩, fun v j p => ⟨⟨hzc, hr1⟩, ⟨hzc, hr1⟩, cs (fun q => absurd rfl q) (fun _ => csplit (fun q => by simp at q) (fun _ => ⟨⟨hzc, hr1⟩, ⟨hzc, hr1⟩, cs (fun q => absurd rfl q) (fun _ => csplit (fun q => by simp at q) (fun _ => cdI (by have := hL.fl; omega) ⟨(i + 1, j), ⟨by simp only; omega, by simp only; omega, p.2⟩, by simp only [an3I]; omega, ⟨rfl, rfl, ⟨trivial, rfl⟩, rfl, rfl, rfl, rfl, ⟨trivial, rfl⟩, rfl, rfl, trivial⟩, ⟨⟨⟨trivial, rfl⟩, rfl, trivial⟩, ⟨⟨trivial, rfl⟩, trivial⟩, rfl, trivial⟩⟩))⟩))⟩⟩)⟩)⟩
    · refine ⟨⟨(0, j), ⟨by simp, by simp, hj⟩, ⟨rfl, rfl, ⟨trivial, rfl⟩, rfl, rfl, rfl, rfl, ⟨trivial, rfl⟩, rfl, rfl, trivial⟩, ⟨⟨⟨trivial, rfl⟩, rfl, trivial⟩, ⟨⟨trivial, rfl⟩, trivial⟩, rfl, trivial⟩⟩, ?_⟩
      clear hj hi i0 i1
      rintro ⟨i, j⟩ ⟨i0, i1, hj⟩
      simp only at i0 i1 hj
      dsimp only
      refine cs (fun hi => cd1 (by omega) ?_) (fun hi => ⟨trivial, rfl⟩)
      obtain ⟨k1, nm1, t1, f1, a1, b1, c1, rd1, he, hr1⟩ := hL.fr i.toNat (by omega)
      refine ⟨k1, nm1, t1, f1, a1, b1, c1, rd1, by rw [he]; rfl, ⟨hd, hr1⟩, ⟨hd, hr1⟩, cs (fun q => absurd rfl q) (fun _ => ⟨⟨⟨(chL_ints hr1).1, (chL_ints hr1).1⟩, (chL_ints hr1).2, (chL_ints hr1).2⟩, csplit (fun q => by rw [intsEq_rfl] at q; cases q) (fun _ => ⟨⟨⟨hs, hj⟩, by decide, by decide, by decide⟩, fun v j p => ⟨⟨hd, hr1⟩, ⟨hd, hr1⟩, cs (fun q => absurd rfl q) (fun _ => csplit (fun q => by simp at q) (fun _ => ⟨⟨hd, hr1⟩, ⟨hd, hr1⟩, cs (fun q => absurd rfl q) (fun _ => csplit (fun q => by simp at q) (fun _ => cdI (by have := hL.fl; omega) ⟨(i + 1, j), ⟨by simp only; omega, by simp only; omega, p.2⟩, by simp only [an3I]; omega, ⟨rfl, rfl, ⟨trivial, rfl⟩, rfl, rfl, rfl, rfl, ⟨trivial, rfl⟩, rfl, rfl, trivial⟩, ⟨⟨⟨trivial, rfl⟩, rfl, trivial⟩, ⟨⟨trivial, rfl⟩, trivial⟩, rfl, trivial⟩⟩))⟩))⟩⟩)⟩)⟩
def lansw_S (exE : List (List AV) → List (List AV) → Int → Int → Int → Int → Int → Int) (chL : List (List AV) → List (List AV) → Int → Int → Int → Int → Int → List (List AV)) (farV : List (List AV) → List (List AV) → Int → Int → Int → Int → Int → Int → Int) (farB : List (List AV) → List (List AV) → Int → Int → Int → Int → Int → Int → Bool) : Prop := ∀ (zc rd xs : List (List AV)) (k t f a b c code : Int) (nm : ByteArray), IntsA xs ∧ NrsP zc ∧ RdsP rd → fnK Tryd.prog { glob := glb, spec := lk [(8, (sawake_s Go.Proofs.YtceknalhogbbnaaDoor.exE Go.Proofs.YtceknalhogbbnaaDoor.chL Go.Proofs.YtceknalhogbbnaaDoor.farV Go.Proofs.YtceknalhogbbnaaDoor.farB)), (17, (scheck_s Go.Proofs.YtceknalhogbbnaaDoor.exE Go.Proofs.YtceknalhogbbnaaDoor.lkE Go.Proofs.YtceknalhogbbnaaDoor.lkN)), (18, rcheck_s), (20, sfar_s), (21, rfar_s), (19, kints_s), (7, dsmall_s)], specH := lk [(9, newsrc_s)], specQ := lk [(13, qn_s), (14, qrange_s), (10, qminute_s), (11, qplaced_s), (12, qlearn_s), (15, qreport_s), (16, qbent_s)], shape := [101], slz := [(101, [2])], nowf := true } { nt := 158, drop := drp [(1, 273804165120), (2, 549755813888), (3, 3298534883328), (4, 13194139533312), (5, 123145302310912), (6, 4362862139015168), (7, 13510798882111488), (9, 144115188075855872), (10, 36605257771267391488), (11, 110680464442257309696), (12, 37483783957777808883712), (13, 37778931862957161709568), (14, 309409451957619154401361920), (15, 928455029464035206174343168), (17, 59421121885698253195157962752), (20, 3802951800684688204490109616128), (21, 319447951257513809177169207754752), (22, 20444668880480883787338829296304128), (23, 5296142795705524181101106255804497920), (25, 74436767763955288882613195375699296256), (27, 4083388403051261561560495289181218537472), (28, 691453769583346957757577202301353005678592), (29, 88506082506668410592969881894573184726859776), (30, 11328778560853556555900144882505367645038051328), (32, 22835963083295358096932575511191922182123945984), (33, 45671926166590716193865151022383844364247891968), (34, 91343852333181432387730302044767688728495783936), (35, 182687704666362864775460604089535377456991567872)], frz := fun id => cond (Nat.beq id 14) [1000049] (cond (Nat.beq id 15) [1000085] []) } (anJ) 6 Tryd.f3 [.agg [.sl 5 false zc], .agg [.int .i64 k, .str nm, .int .i64 t, .int .i64 f, .int .i64 a, .int .i64 b, .int .i64 c, .sl 2 false rd], .sl 1 false xs, .int .i64 code] (.bool true)
set_option maxRecDepth 100000 in
theorem lansw_e (exE : List (List AV) → List (List AV) → Int → Int → Int → Int → Int → Int) (chL : List (List AV) → List (List AV) → Int → Int → Int → Int → Int → List (List AV)) (farV : List (List AV) → List (List AV) → Int → Int → Int → Int → Int → Int → Int) (farB : List (List AV) → List (List AV) → Int → Int → Int → Int → Int → Int → Bool) : lansw_T exE chL farV farB = lansw_S exE chL farV farB := by kernel_rfl
theorem lansw_v : lansw_S exE chL farV farB := @Eq.mp (lansw_T exE chL farV farB) (lansw_S exE chL farV farB) (lansw_e exE chL farV farB) lansw_P
theorem lansw_ok : SOK Tryd.prog glb 3 (lansw_s exE chL farV farB) := by
  refine ⟨fok Tryd.func3 (by kernel_rfl) (by kernel_rfl), ?_⟩
  intro xs pre r h hp
  unfold lansw_s at h
  split at h
  · simp only [Option.some.injEq, Prod.mk.injEq] at h
    obtain ⟨h1, h2⟩ := h
    subst h1 h2
    exact fnK_sound tyNil (by exact specOK rfl rfl ⟨(sawake_ok), (scheck_ok), (rcheck_ok glb), (sfar_ok), (rfar_ok glb), (kints_ok glb), (dsmall_ok glb), trivial⟩ ⟨(newsrc_ok glb), trivial⟩ (d := qsOf rfl ⟨(qn_ok glb), (qrange_ok glb), (qminute_ok glb), (qplaced_ok glb), (qlearn_ok glb), (qreport_ok glb), (qbent_ok glb), trivial⟩)) (by kernel_rfl) Tryd.func3 rfl (lansw_v  _ _ _ _ _ _ _ _ _ _ _ hp)
  · cases h
theorem nrs_of {xs : List (List AV)} (hl : xs.length ≤ 9223372036854775807) (h : ∀ x3 ∈ xs, ∃ ys5 zs5, (∃ z6, rng .i64 z6 ∧ ys5 = [.int .i64 z6]) ∧ (∃ ys7 zs7, (∃ z8, rng .i64 z8 ∧ ys7 = [.int .i64 z8]) ∧ (∃ ys9 zs9, (∃ z10, rng .i64 z10 ∧ ys9 = [.int .i64 z10]) ∧ (∃ ys11 zs11, (∃ z12, rng .i64 z12 ∧ ys11 = [.int .i64 z12]) ∧ (∃ ys13 zs13, (∃ z14, rng .i64 z14 ∧ ys13 = [.int .i64 z14]) ∧ (zs13 = []) ∧ zs11 = ys13 ++ zs13) ∧ zs9 = ys11 ++ zs11) ∧ zs7 = ys9 ++ zs9) ∧ zs5 = ys7 ++ zs7) ∧ x3 = ys5 ++ zs5) : NrsP xs := by
  refine ⟨fun i hi => ?_, hl⟩
  obtain ⟨_, _, ⟨e, h1, rfl⟩, ⟨_, _, ⟨g, h2, rfl⟩, ⟨_, _, ⟨q, h3, rfl⟩, ⟨_, _, ⟨a, h4, rfl⟩, ⟨_, _, ⟨s, h5, rfl⟩, rfl, rfl⟩, rfl⟩, rfl⟩, rfl⟩, he⟩ := h xs[i] (List.getElem_mem hi)
  exact ⟨e, g, q, a, s, by rw [gD2 hi, he]; rfl, h1, h2, h3, h4, h5⟩
theorem rds_of {xs : List (List AV)} (hl : xs.length ≤ 9223372036854775807) (h : ∀ x20 ∈ xs, ∃ ys22 zs22, (∃ z23, rng .i64 z23 ∧ ys22 = [.int .i64 z23]) ∧ (∃ ys24 zs24, (∃ z25, rng .i64 z25 ∧ ys24 = [.int .i64 z25]) ∧ (zs24 = []) ∧ zs22 = ys24 ++ zs24) ∧ x20 = ys22 ++ zs22) : RdsP xs := by
  refine ⟨fun i hi => ?_, hl⟩
  obtain ⟨_, _, ⟨e, h1, rfl⟩, ⟨_, _, ⟨v, h2, rfl⟩, rfl, rfl⟩, he⟩ := h xs[i] (List.getElem_mem hi)
  exact ⟨e, v, by rw [gD2 hi, he]; rfl, h1, h2⟩
end Go.Proofs.YtceknalhogbbnaaDoor
