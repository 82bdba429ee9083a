/- The law that all functions answer as the reference. -/
import Derived.Test.YtkbfldgebcpigaaBtM
namespace Go.Proofs.Ytkbfldgebcpigaa
open Go
set_option linter.unusedVariables false
set_option linter.unusedSimpArgs false

structure AnQ (N : Int) (x : Int × Int) : Prop where
  flo : 0 ≤ x.1
  fhi : x.1 ≤ N
  fj : 0 ≤ x.2
structure AnK (N : Int) (x : Int) : Prop where
  flo : 0 ≤ x
  fhi : x ≤ N
def an8 (R zs xs : List (List AV)) (m v w a v1 w1 : Int) : LInv := ⟨Int × Int, fun x => ⟨[(2, .int .i64 v), (3, .int .i64 w), (4, .int .i64 a), (11, .ptr 44 0), (12, .ptr 12 0), (14, .int .i64 w1), (15, .int .i64 v1), (59, .rw 59 2 3), (60, .int .i64 3), (61, .int .i64 x.1)], [(44, .cells [.sl 1 false xs, .int .i64 x.2]), (12, .cells [.sl 1 false zs, .int .i64 m]), (59, .row 28 2 R)]⟩, AnQ 3, fun x => (3 - x.1).toNat, none⟩
def an11 (R N zs xs bs : List (List AV)) (m v w a v1 w1 i bl : Int) : LInv := ⟨Int × Int, fun x => ⟨[(2, .int .i64 v), (3, .int .i64 w), (4, .int .i64 a), (11, .ptr 44 0), (12, .ptr 12 0), (14, .int .i64 w1), (15, .int .i64 v1), (17, .ptr 17 0), (59, .rw 59 2 3), (60, .int .i64 3), (61, .int .i64 i), (81, .rw 81 2 4), (82, .int .i64 4), (83, .int .i64 x.1)], [(44, .cells [.sl 1 false xs, .int .i64 x.2]), (12, .cells [.sl 1 false zs, .int .i64 m]), (17, .cells [.sl 1 false bs, .int .i64 bl]), (59, .row 28 2 R), (81, .row 49 2 N)]⟩, AnQ 4, fun x => (4 - x.1).toNat, none⟩
def an18 (R N zs xs bs K : List (List AV)) (m v w a v1 w1 i bl k j p q : Int) : LInv := ⟨Int, fun x => ⟨[(2, .int .i64 v), (3, .int .i64 w), (4, .int .i64 a), (11, .ptr 44 0), (12, .ptr 12 0), (14, .int .i64 w1), (15, .int .i64 v1), (17, .ptr 17 0), (19, .ptr 19 0), (59, .rw 59 2 3), (60, .int .i64 3), (61, .int .i64 i), (81, .rw 81 2 4), (82, .int .i64 4), (83, .int .i64 k), (122, .rw 122 1 3), (123, .int .i64 3), (124, .int .i64 x)], [(44, .cells [.sl 1 false xs, .int .i64 j]), (12, .cells [.sl 1 false zs, .int .i64 m]), (17, .cells [.sl 1 false bs, .int .i64 bl]), (19, .cells [.int .i64 p, .int .i64 q]), (59, .row 28 2 R), (81, .row 49 2 N), (122, .row 3 1 K)]⟩, AnK 3, fun x => (3 - x).toNat, none⟩
def anJ (id : Nat) (st : St) : Option LInv := match lk st.tmps 2, lk st.tmps 3, lk st.tmps 4, lk st.tmps 14, lk st.tmps 15, lk st.tmps 61, lk st.heap 44, lk st.heap 12, lk st.heap 59 with
  | some (.int _ v), some (.int _ w), some (.int _ a), some (.int _ w1), some (.int _ v1), some (.int _ i), some (.cells [.sl _ _ xs, .int _ j]), some (.cells [.sl _ _ zs, .int _ m]), some (.row _ _ R) =>
    cond (Nat.beq id 8) (some (an8 R zs xs m v w a v1 w1)) (cond (Nat.beq id 11) (match lk st.heap 17, lk st.heap 81 with
      | some (.cells [.sl _ _ bs, .int _ bl]), some (.row _ _ N) => some (an11 R N zs xs bs m v w a v1 w1 i bl)
      | _, _ => none) (cond (Nat.beq id 18) (match lk st.heap 17, lk st.heap 81, lk st.tmps 83, lk st.heap 19, lk st.heap 122 with
      | some (.cells [.sl _ _ bs, .int _ bl]), some (.row _ _ N), some (.int _ k), some (.cells [.int _ p, .int _ q]), some (.row _ _ K) => some (an18 R N zs xs bs K m v w a v1 w1 i bl k j p q)
      | _, _, _, _, _ => none) none))
  | _, _, _, _, _, _, _, _, _ => none
theorem byt_nil : BytP [] := ⟨fun i hi => by simp at hi, by simp⟩
theorem appR_byt2 (ys : List (List AV)) (n v w : Int) : BytP (appR ys n v w) := by
  by_cases h : appE ys n v w = 0
  · have h1 : validB (bn ys) n = true := by
      cases q : validB (bn ys) n
      · rw [appE, q] at h; exact absurd h (by simp)
      · rfl
    have h2 : widB w = true := by
      cases q : widB w
      · rw [appE, q, h1] at h; exact absurd h (by simp)
      · rfl
    have h3 := validB_iff.1 h1
    have h4 := of_decide_eq_true h2
    exact appR_byt (by omega)
  · unfold appR; rw [if_neg h]; exact byt_nil
theorem joR_byt (ys zs : List (List AV)) (n m : Int) : BytP (joR ys zs n m) := by
  by_cases h : joE ys zs n m = 0
  · have h1 : validB (bn ys) n = true := by
      cases q : validB (bn ys) n
      · rw [joE, q] at h; exact absurd h (by simp)
      · rfl
    have h2 : validB (bn zs) m = true := by
      cases q : validB (bn zs) m
      · rw [joE, q, h1] at h; exact absurd h (by simp)
      · rfl
    have h5 : n + m ≤ 40000 := by
      rw [joE, h1, h2] at h
      by_cases q : n + m ≤ 40000
      · exact q
      · rw [if_neg q] at h; exact absurd h (by simp)
    have h3 := validB_iff.1 h1
    have h4 := validB_iff.1 h2
    unfold joR
    rw [if_pos h]
    refine (pk_ok (b01_append (b01_unpack _ _) (b01_unpack _ _)) ?_).1
    rw [List.length_append, len_unpack, len_unpack]
    omega
  · unfold joR; rw [if_neg h]; exact byt_nil
theorem paR_byt {ys : List (List AV)} (hb : BytP ys) (n : Int) : BytP (paR ys n) := by
  unfold paR
  split
  · exact hb
  · exact byt_nil
def lansw_s : Sp
  | [.agg [.sl 1 false ys, .int .i64 n], .sl 1 false xs, .int .i64 v, .int .i64 w, .int .i64 a] => some (IntsA xs ∧ BytP ys, .bool true)
  | _ => none
set_option maxRecDepth 100000 in
def lansw_T : Prop :=
  ∀ (gl : Glob) (ys xs : List (List AV)) (n v w a : Int), (∀ (x : List AV), List.Mem x xs → ∃ n, x = [AV.int IntKind.i64 n] ∧ rng IntKind.i64 n) ∧ BytP ys → True ∧
  ((-9223372036854775808 : Int) ≤ n ∧ n ≤ (9223372036854775807 : Int)) ∧ True → True → (-9223372036854775808 : Int) ≤ v ∧ v ≤ (9223372036854775807 : Int) → (-9223372036854775808 :
  Int) ≤ w ∧ w ≤ (9223372036854775807 : Int) → (-9223372036854775808 : Int) ≤ a ∧ a ≤ (9223372036854775807 : Int) → bif decide ((6000 : Int) < (↑ys.length : Int)) then True ∧ true =
  true else True ∧ SrcQ (List.take (2000 : Nat) xs) (0 : Int) ∧ ∀ (ys_1 : List (List AV)) (n_1 j : Int), LiQ ys_1 j → SrcQ (List.take (2000 : Nat) xs) j ∧ ∀ (ys_2 : List (List AV))
  (n_2 j : Int), LiQ ys_2 j → (SrcQ (List.take (2000 : Nat) xs) j ∧ (1 : Int) ≤ (24 : Int) ∧ (-1000000000 : Int) ≤ (1 : Int) ∧ (24 : Int) ≤ (1000000000 : Int)) ∧ ∀ (v_1 j : Int), ((1
  : Int) ≤ v_1 ∧ v_1 ≤ (24 : Int)) ∧ (0 : Int) ≤ j → bif decide ((0 : Int) ≤ IntKind.u64.wrap v_1) then SrcQ (List.take (2000 : Nat) xs) j ∧ ∀ (v_2 j : Int), NumQ (IntKind.i64.wrap
  ((1 : Int) * (2 : Int) ^ min (IntKind.u64.wrap v_1).toNat (64 : Nat))) v_2 j → (∃ x, AnQ (3 : Int) x ∧ (v = v ∧ w = w ∧ a = a ∧ (0 : Nat) = (0 : Nat) ∧ (0 : Nat) = (0 : Nat) ∧ v_1
  = v_1 ∧ v_2 = v_2 ∧ (3 : Nat) = (3 : Nat) ∧ (3 : Int) = (3 : Int) ∧ (0 : Int) = x.fst ∧ True) ∧ ((True ∧ List.take (2000 : Nat) xs = List.take (2000 : Nat) xs) ∧ j = x.snd ∧ True)
  ∧ ((True ∧ ys_1 = ys_1) ∧ n_1 = n_1 ∧ True) ∧ [[AV.sl (1 : Nat) false ys, AV.int IntKind.i64 n], [AV.sl (1 : Nat) false ys_1, AV.int IntKind.i64 n_1], [AV.sl (1 : Nat) false ys_2,
  AV.int IntKind.i64 n_2]] = [[AV.sl (1 : Nat) false ys, AV.int IntKind.i64 n], [AV.sl (1 : Nat) false ys_1, AV.int IntKind.i64 n_1], [AV.sl (1 : Nat) false ys_2, AV.int IntKind.i64
  n_2]] ∧ True) ∧ ∀ (x : Int × Int), AnQ (3 : Int) x → bif decide (x.fst < (3 : Int)) then bif decide ((0 : Int) ≤ x.fst ∧ x.fst < (3 : Int)) then bif decide ((3 : Nat) = [[AV.sl (1
  : Nat) false ys, AV.int IntKind.i64 n], [AV.sl (1 : Nat) false ys_1, AV.int IntKind.i64 n_1], [AV.sl (1 : Nat) false ys_2, AV.int IntKind.i64 n_2]].length ∧ x.fst.toNat < [[AV.sl
  (1 : Nat) false ys, AV.int IntKind.i64 n], [AV.sl (1 : Nat) false ys_1, AV.int IntKind.i64 n_1], [AV.sl (1 : Nat) false ys_2, AV.int IntKind.i64 n_2]].length) then ∃ xs_1 n_3,
  List.take [AV.sl (1 : Nat) false xs_1, AV.int IntKind.i64 n_3].length (List.drop (0 : Nat) ([[AV.sl (1 : Nat) false ys, AV.int IntKind.i64 n], [AV.sl (1 : Nat) false ys_1, AV.int
  IntKind.i64 n_1], [AV.sl (1 : Nat) false ys_2, AV.int IntKind.i64 n_2]].getD x.fst.toNat [])) = [AV.sl (1 : Nat) false xs_1, AV.int IntKind.i64 n_3] ∧ SrcQ (List.take (2000 : Nat)
  xs) x.snd ∧ ∀ (v_3 j : Int), NumQ (2 : Int) v_3 j → (SrcQ (List.take (2000 : Nat) xs) j ∧ (0 : Int) ≤ (25 : Int) ∧ (-1000000000 : Int) ≤ (0 : Int) ∧ (25 : Int) ≤ (1000000000 :
  Int)) ∧ ∀ (v_4 j : Int), ((0 : Int) ≤ v_4 ∧ v_4 ≤ (25 : Int)) ∧ (0 : Int) ≤ j → (∃ x_1, AnQ (4 : Int) x_1 ∧ (v = v ∧ w = w ∧ a = a ∧ (0 : Nat) = (0 : Nat) ∧ (0 : Nat) = (0 : Nat) ∧
  v_1 = v_1 ∧ v_2 = v_2 ∧ (0 : Nat) = (0 : Nat) ∧ (3 : Nat) = (3 : Nat) ∧ (3 : Int) = (3 : Int) ∧ x.fst = x.fst ∧ (4 : Nat) = (4 : Nat) ∧ (4 : Int) = (4 : Int) ∧ (0 : Int) = x_1.fst
  ∧ True) ∧ ((True ∧ List.take (2000 : Nat) xs = List.take (2000 : Nat) xs) ∧ j = x_1.snd ∧ True) ∧ ((True ∧ ys_1 = ys_1) ∧ n_1 = n_1 ∧ True) ∧ ((True ∧ xs_1 = xs_1) ∧ n_3 = n_3 ∧
  True) ∧ [[AV.sl (1 : Nat) false ys, AV.int IntKind.i64 n], [AV.sl (1 : Nat) false ys_1, AV.int IntKind.i64 n_1], [AV.sl (1 : Nat) false ys_2, AV.int IntKind.i64 n_2]] = [[AV.sl (1
  : Nat) false ys, AV.int IntKind.i64 n], [AV.sl (1 : Nat) false ys_1, AV.int IntKind.i64 n_1], [AV.sl (1 : Nat) false ys_2, AV.int IntKind.i64 n_2]] ∧ [[AV.int IntKind.i64 v, AV.int
  IntKind.i64 w], [AV.int IntKind.i64 v_2, AV.int IntKind.i64 v_1], [AV.int IntKind.i64 v_2, AV.int IntKind.i64 w], [AV.int IntKind.i64 (IntKind.i64.wrap (v_2 + v_3)), AV.int
  IntKind.i64 v_4]] = [[AV.int IntKind.i64 v, AV.int IntKind.i64 w], [AV.int IntKind.i64 v_2, AV.int IntKind.i64 v_1], [AV.int IntKind.i64 v_2, AV.int IntKind.i64 w], [AV.int
  IntKind.i64 (IntKind.i64.wrap (v_2 + v_3)), AV.int IntKind.i64 v_4]] ∧ True) ∧ ∀ (x_1 : Int × Int), AnQ (4 : Int) x_1 → bif decide (x_1.fst < (4 : Int)) then bif decide ((0 : Int)
  ≤ x_1.fst ∧ x_1.fst < (4 : Int)) then bif decide ((4 : Nat) = [[AV.int IntKind.i64 v, AV.int IntKind.i64 w], [AV.int IntKind.i64 v_2, AV.int IntKind.i64 v_1], [AV.int IntKind.i64
  v_2, AV.int IntKind.i64 w], [AV.int IntKind.i64 (IntKind.i64.wrap (v_2 + v_3)), AV.int IntKind.i64 v_4]].length ∧ x_1.fst.toNat < [[AV.int IntKind.i64 v, AV.int IntKind.i64 w],
  [AV.int IntKind.i64 v_2, AV.int IntKind.i64 v_1], [AV.int IntKind.i64 v_2, AV.int IntKind.i64 w], [AV.int IntKind.i64 (IntKind.i64.wrap (v_2 + v_3)), AV.int IntKind.i64
  v_4]].length) then ∃ n_4 n_5, List.take [AV.int IntKind.i64 n_4, AV.int IntKind.i64 n_5].length (List.drop (0 : Nat) ([[AV.int IntKind.i64 v, AV.int IntKind.i64 w], [AV.int
  IntKind.i64 v_2, AV.int IntKind.i64 v_1], [AV.int IntKind.i64 v_2, AV.int IntKind.i64 w], [AV.int IntKind.i64 (IntKind.i64.wrap (v_2 + v_3)), AV.int IntKind.i64 v_4]].getD
  x_1.fst.toNat [])) = [AV.int IntKind.i64 n_4, AV.int IntKind.i64 n_5] ∧ BytP xs_1 ∧ BytP xs_1 ∧ bif decide ¬appE xs_1 n_3 n_4 n_5 = appE xs_1 n_3 n_4 n_5 then false = true else
  (BytP (appR xs_1 n_3 n_4 n_5) ∧ BytP (appR xs_1 n_3 n_4 n_5)) ∧ bif !(decide (appL xs_1 n_3 n_4 n_5 = appL xs_1 n_3 n_4 n_5) && decide (bn (appR xs_1 n_3 n_4 n_5) = bn (appR xs_1
  n_3 n_4 n_5))) then false = true else (SrcQ (List.take (2000 : Nat) xs) x_1.snd ∧ (-1 : Int) ≤ (40 : Int) ∧ (-1000000000 : Int) ≤ (-1 : Int) ∧ (40 : Int) ≤ (1000000000 : Int)) ∧ ∀
  (v_5 j : Int), ((-1 : Int) ≤ v_5 ∧ v_5 ≤ (40 : Int)) ∧ (0 : Int) ≤ j → (∃ x_2, AnK (3 : Int) x_2 ∧ (v = v ∧ w = w ∧ a = a ∧ (0 : Nat) = (0 : Nat) ∧ (0 : Nat) = (0 : Nat) ∧ v_1 =
  v_1 ∧ v_2 = v_2 ∧ (0 : Nat) = (0 : Nat) ∧ (0 : Nat) = (0 : Nat) ∧ (3 : Nat) = (3 : Nat) ∧ (3 : Int) = (3 : Int) ∧ x.fst = x.fst ∧ (4 : Nat) = (4 : Nat) ∧ (4 : Int) = (4 : Int) ∧
  x_1.fst = x_1.fst ∧ (3 : Nat) = (3 : Nat) ∧ (3 : Int) = (3 : Int) ∧ (0 : Int) = x_2 ∧ True) ∧ ((True ∧ List.take (2000 : Nat) xs = List.take (2000 : Nat) xs) ∧ j = j ∧ True) ∧
  ((True ∧ ys_1 = ys_1) ∧ n_1 = n_1 ∧ True) ∧ ((True ∧ xs_1 = xs_1) ∧ n_3 = n_3 ∧ True) ∧ (n_4 = n_4 ∧ n_5 = n_5 ∧ True) ∧ [[AV.sl (1 : Nat) false ys, AV.int IntKind.i64 n], [AV.sl
  (1 : Nat) false ys_1, AV.int IntKind.i64 n_1], [AV.sl (1 : Nat) false ys_2, AV.int IntKind.i64 n_2]] = [[AV.sl (1 : Nat) false ys, AV.int IntKind.i64 n], [AV.sl (1 : Nat) false
  ys_1, AV.int IntKind.i64 n_1], [AV.sl (1 : Nat) false ys_2, AV.int IntKind.i64 n_2]] ∧ [[AV.int IntKind.i64 v, AV.int IntKind.i64 w], [AV.int IntKind.i64 v_2, AV.int IntKind.i64
  v_1], [AV.int IntKind.i64 v_2, AV.int IntKind.i64 w], [AV.int IntKind.i64 (IntKind.i64.wrap (v_2 + v_3)), AV.int IntKind.i64 v_4]] = [[AV.int IntKind.i64 v, AV.int IntKind.i64 w],
  [AV.int IntKind.i64 v_2, AV.int IntKind.i64 v_1], [AV.int IntKind.i64 v_2, AV.int IntKind.i64 w], [AV.int IntKind.i64 (IntKind.i64.wrap (v_2 + v_3)), AV.int IntKind.i64 v_4]] ∧
  [[AV.int IntKind.i64 a], [AV.int IntKind.i64 v_5], [AV.int IntKind.i64 (IntKind.i64.wrap (n_3 - n_5))]] = [[AV.int IntKind.i64 a], [AV.int IntKind.i64 v_5], [AV.int IntKind.i64
  (IntKind.i64.wrap (n_3 - n_5))]] ∧ True) ∧ ∀ (x_2 : Int), AnK (3 : Int) x_2 → bif decide (x_2 < (3 : Int)) then bif decide ((0 : Int) ≤ x_2 ∧ x_2 < (3 : Int)) then bif decide ((3 :
  Nat) = [[AV.int IntKind.i64 a], [AV.int IntKind.i64 v_5], [AV.int IntKind.i64 (IntKind.i64.wrap (n_3 - n_5))]].length ∧ x_2.toNat < [[AV.int IntKind.i64 a], [AV.int IntKind.i64
  v_5], [AV.int IntKind.i64 (IntKind.i64.wrap (n_3 - n_5))]].length) then ∃ n_6, List.take [AV.int IntKind.i64 n_6].length (List.drop (0 : Nat) ([[AV.int IntKind.i64 a], [AV.int
  IntKind.i64 v_5], [AV.int IntKind.i64 (IntKind.i64.wrap (n_3 - n_5))]].getD x_2.toNat [])) = [AV.int IntKind.i64 n_6] ∧ BytP xs_1 ∧ BytP xs_1 ∧ bif decide ¬rdV xs_1 n_3 n_6 n_5 =
  rdV xs_1 n_3 n_6 n_5 then false = true else bif decide ¬rdE xs_1 n_3 n_6 n_5 = rdE xs_1 n_3 n_6 n_5 then false = true else ∃ y, AnK (3 : Int) y ∧ (an18 [[AV.sl (1 : Nat) false ys,
  AV.int IntKind.i64 n], [AV.sl (1 : Nat) false ys_1, AV.int IntKind.i64 n_1], [AV.sl (1 : Nat) false ys_2, AV.int IntKind.i64 n_2]] [[AV.int IntKind.i64 v, AV.int IntKind.i64 w],
  [AV.int IntKind.i64 v_2, AV.int IntKind.i64 v_1], [AV.int IntKind.i64 v_2, AV.int IntKind.i64 w], [AV.int IntKind.i64 (IntKind.i64.wrap (v_2 + v_3)), AV.int IntKind.i64 v_4]] ys_1
  (List.take (2000 : Nat) xs) xs_1 [[AV.int IntKind.i64 a], [AV.int IntKind.i64 v_5], [AV.int IntKind.i64 (IntKind.i64.wrap (n_3 - n_5))]] n_1 v w a v_2 v_1 x.fst n_3 x_1.fst j n_4
  n_5).m y < (an18 [[AV.sl (1 : Nat) false ys, AV.int IntKind.i64 n], [AV.sl (1 : Nat) false ys_1, AV.int IntKind.i64 n_1], [AV.sl (1 : Nat) false ys_2, AV.int IntKind.i64 n_2]]
  [[AV.int IntKind.i64 v, AV.int IntKind.i64 w], [AV.int IntKind.i64 v_2, AV.int IntKind.i64 v_1], [AV.int IntKind.i64 v_2, AV.int IntKind.i64 w], [AV.int IntKind.i64
  (IntKind.i64.wrap (v_2 + v_3)), AV.int IntKind.i64 v_4]] ys_1 (List.take (2000 : Nat) xs) xs_1 [[AV.int IntKind.i64 a], [AV.int IntKind.i64 v_5], [AV.int IntKind.i64
  (IntKind.i64.wrap (n_3 - n_5))]] n_1 v w a v_2 v_1 x.fst n_3 x_1.fst j n_4 n_5).m x_2 ∧ (v = v ∧ w = w ∧ a = a ∧ (0 : Nat) = (0 : Nat) ∧ (0 : Nat) = (0 : Nat) ∧ v_1 = v_1 ∧ v_2 =
  v_2 ∧ (0 : Nat) = (0 : Nat) ∧ (0 : Nat) = (0 : Nat) ∧ (3 : Nat) = (3 : Nat) ∧ (3 : Int) = (3 : Int) ∧ x.fst = x.fst ∧ (4 : Nat) = (4 : Nat) ∧ (4 : Int) = (4 : Int) ∧ x_1.fst =
  x_1.fst ∧ (3 : Nat) = (3 : Nat) ∧ (3 : Int) = (3 : Int) ∧ IntKind.i64.wrap (x_2 + (1 : Int)) = y ∧ True) ∧ ((True ∧ List.take (2000 : Nat) xs = List.take (2000 : Nat) xs) ∧ j = j ∧
  True) ∧ ((True ∧ ys_1 = ys_1) ∧ n_1 = n_1 ∧ True) ∧ ((True ∧ xs_1 = xs_1) ∧ n_3 = n_3 ∧ True) ∧ (n_4 = n_4 ∧ n_5 = n_5 ∧ True) ∧ [[AV.sl (1 : Nat) false ys, AV.int IntKind.i64 n],
  [AV.sl (1 : Nat) false ys_1, AV.int IntKind.i64 n_1], [AV.sl (1 : Nat) false ys_2, AV.int IntKind.i64 n_2]] = [[AV.sl (1 : Nat) false ys, AV.int IntKind.i64 n], [AV.sl (1 : Nat)
  false ys_1, AV.int IntKind.i64 n_1], [AV.sl (1 : Nat) false ys_2, AV.int IntKind.i64 n_2]] ∧ [[AV.int IntKind.i64 v, AV.int IntKind.i64 w], [AV.int IntKind.i64 v_2, AV.int
  IntKind.i64 v_1], [AV.int IntKind.i64 v_2, AV.int IntKind.i64 w], [AV.int IntKind.i64 (IntKind.i64.wrap (v_2 + v_3)), AV.int IntKind.i64 v_4]] = [[AV.int IntKind.i64 v, AV.int
  IntKind.i64 w], [AV.int IntKind.i64 v_2, AV.int IntKind.i64 v_1], [AV.int IntKind.i64 v_2, AV.int IntKind.i64 w], [AV.int IntKind.i64 (IntKind.i64.wrap (v_2 + v_3)), AV.int
  IntKind.i64 v_4]] ∧ [[AV.int IntKind.i64 a], [AV.int IntKind.i64 v_5], [AV.int IntKind.i64 (IntKind.i64.wrap (n_3 - n_5))]] = [[AV.int IntKind.i64 a], [AV.int IntKind.i64 v_5],
  [AV.int IntKind.i64 (IntKind.i64.wrap (n_3 - n_5))]] ∧ True else False else False else ∃ y, AnQ (4 : Int) y ∧ (an11 [[AV.sl (1 : Nat) false ys, AV.int IntKind.i64 n], [AV.sl (1 :
  Nat) false ys_1, AV.int IntKind.i64 n_1], [AV.sl (1 : Nat) false ys_2, AV.int IntKind.i64 n_2]] [[AV.int IntKind.i64 v, AV.int IntKind.i64 w], [AV.int IntKind.i64 v_2, AV.int
  IntKind.i64 v_1], [AV.int IntKind.i64 v_2, AV.int IntKind.i64 w], [AV.int IntKind.i64 (IntKind.i64.wrap (v_2 + v_3)), AV.int IntKind.i64 v_4]] ys_1 (List.take (2000 : Nat) xs) xs_1
  n_1 v w a v_2 v_1 x.fst n_3).m y < (an11 [[AV.sl (1 : Nat) false ys, AV.int IntKind.i64 n], [AV.sl (1 : Nat) false ys_1, AV.int IntKind.i64 n_1], [AV.sl (1 : Nat) false ys_2,
  AV.int IntKind.i64 n_2]] [[AV.int IntKind.i64 v, AV.int IntKind.i64 w], [AV.int IntKind.i64 v_2, AV.int IntKind.i64 v_1], [AV.int IntKind.i64 v_2, AV.int IntKind.i64 w], [AV.int
  IntKind.i64 (IntKind.i64.wrap (v_2 + v_3)), AV.int IntKind.i64 v_4]] ys_1 (List.take (2000 : Nat) xs) xs_1 n_1 v w a v_2 v_1 x.fst n_3).m x_1 ∧ (v = v ∧ w = w ∧ a = a ∧ (0 : Nat) =
  (0 : Nat) ∧ (0 : Nat) = (0 : Nat) ∧ v_1 = v_1 ∧ v_2 = v_2 ∧ (0 : Nat) = (0 : Nat) ∧ (3 : Nat) = (3 : Nat) ∧ (3 : Int) = (3 : Int) ∧ x.fst = x.fst ∧ (4 : Nat) = (4 : Nat) ∧ (4 :
  Int) = (4 : Int) ∧ IntKind.i64.wrap (x_1.fst + (1 : Int)) = y.fst ∧ True) ∧ ((True ∧ List.take (2000 : Nat) xs = List.take (2000 : Nat) xs) ∧ j = y.snd ∧ True) ∧ ((True ∧ ys_1 =
  ys_1) ∧ n_1 = n_1 ∧ True) ∧ ((True ∧ xs_1 = xs_1) ∧ n_3 = n_3 ∧ True) ∧ [[AV.sl (1 : Nat) false ys, AV.int IntKind.i64 n], [AV.sl (1 : Nat) false ys_1, AV.int IntKind.i64 n_1],
  [AV.sl (1 : Nat) false ys_2, AV.int IntKind.i64 n_2]] = [[AV.sl (1 : Nat) false ys, AV.int IntKind.i64 n], [AV.sl (1 : Nat) false ys_1, AV.int IntKind.i64 n_1], [AV.sl (1 : Nat)
  false ys_2, AV.int IntKind.i64 n_2]] ∧ [[AV.int IntKind.i64 v, AV.int IntKind.i64 w], [AV.int IntKind.i64 v_2, AV.int IntKind.i64 v_1], [AV.int IntKind.i64 v_2, AV.int IntKind.i64
  w], [AV.int IntKind.i64 (IntKind.i64.wrap (v_2 + v_3)), AV.int IntKind.i64 v_4]] = [[AV.int IntKind.i64 v, AV.int IntKind.i64 w], [AV.int IntKind.i64 v_2, AV.int IntKind.i64 v_1],
  [AV.int IntKind.i64 v_2, AV.int IntKind.i64 w], [AV.int IntKind.i64 (IntKind.i64.wrap (v_2 + v_3)), AV.int IntKind.i64 v_4]] ∧ True else False else False else (BytP xs_1 ∧ BytP
  ys_1) ∧ (BytP xs_1 ∧ BytP ys_1) ∧ BytP xs_1 ∧ BytP xs_1 ∧ bif decide ¬joE xs_1 ys_1 n_3 n_1 = joE xs_1 ys_1 n_3 n_1 then false = true else bif decide ¬paE xs_1 n_3 = paE xs_1 n_3
  then false = true else (BytP (joR xs_1 ys_1 n_3 n_1) ∧ BytP (joR xs_1 ys_1 n_3 n_1)) ∧ bif !(decide (joL xs_1 ys_1 n_3 n_1 = joL xs_1 ys_1 n_3 n_1) && decide (bn (joR xs_1 ys_1 n_3
  n_1) = bn (joR xs_1 ys_1 n_3 n_1))) then false = true else (BytP (paR xs_1 n_3) ∧ BytP (paR xs_1 n_3)) ∧ bif !(decide (paL xs_1 n_3 = paL xs_1 n_3) && decide (bn (paR xs_1 n_3) =
  bn (paR xs_1 n_3))) then false = true else BytP xs_1 ∧ BytP xs_1 ∧ bif !decide (validB (bn xs_1) n_3 = validB (bn xs_1) n_3) then false = true else (BytP xs_1 ∧ BytP ys_1) ∧ (BytP
  xs_1 ∧ BytP ys_1) ∧ bif !decide ((decide (n_3 = n_1) && decide (bn xs_1 = bn ys_1)) = (decide (n_3 = n_1) && decide (bn xs_1 = bn ys_1))) then false = true else ∃ y, AnQ (3 : Int)
  y ∧ (an8 [[AV.sl (1 : Nat) false ys, AV.int IntKind.i64 n], [AV.sl (1 : Nat) false ys_1, AV.int IntKind.i64 n_1], [AV.sl (1 : Nat) false ys_2, AV.int IntKind.i64 n_2]] ys_1
  (List.take (2000 : Nat) xs) n_1 v w a v_2 v_1).m y < (an8 [[AV.sl (1 : Nat) false ys, AV.int IntKind.i64 n], [AV.sl (1 : Nat) false ys_1, AV.int IntKind.i64 n_1], [AV.sl (1 : Nat)
  false ys_2, AV.int IntKind.i64 n_2]] ys_1 (List.take (2000 : Nat) xs) n_1 v w a v_2 v_1).m x ∧ (v = v ∧ w = w ∧ a = a ∧ (0 : Nat) = (0 : Nat) ∧ (0 : Nat) = (0 : Nat) ∧ v_1 = v_1 ∧
  v_2 = v_2 ∧ (3 : Nat) = (3 : Nat) ∧ (3 : Int) = (3 : Int) ∧ IntKind.i64.wrap (x.fst + (1 : Int)) = y.fst ∧ True) ∧ ((True ∧ List.take (2000 : Nat) xs = List.take (2000 : Nat) xs) ∧
  x_1.snd = y.snd ∧ True) ∧ ((True ∧ ys_1 = ys_1) ∧ n_1 = n_1 ∧ True) ∧ [[AV.sl (1 : Nat) false ys, AV.int IntKind.i64 n], [AV.sl (1 : Nat) false ys_1, AV.int IntKind.i64 n_1],
  [AV.sl (1 : Nat) false ys_2, AV.int IntKind.i64 n_2]] = [[AV.sl (1 : Nat) false ys, AV.int IntKind.i64 n], [AV.sl (1 : Nat) false ys_1, AV.int IntKind.i64 n_1], [AV.sl (1 : Nat)
  false ys_2, AV.int IntKind.i64 n_2]] ∧ True else False else False else True ∧ true = true else False
set_option maxRecDepth 100000 in
theorem lansw_P : lansw_T := by
  unfold lansw_T
  intro gl ys xs n v w a ⟨hz, hb⟩ hn _ hv hw ha
  have hs : SrcI (List.take 2000 xs) := SrcI.take hz
  refine cs (fun _ => ⟨trivial, rfl⟩) (fun _ => ⟨trivial, ⟨hs, by decide⟩, fun y1 n1 j q1 => ⟨⟨hs, q1.fj⟩, fun y2 n2 j q2 => ⟨⟨⟨hs, q2.fj⟩, by decide, by decide, by decide⟩, fun w1 j q3 => cd1 ?_ ⟨⟨hs, q3.2⟩, fun v1 j q4 => ⟨⟨(0, j), ⟨by simp, by simp, q4.fj⟩, ⟨rfl, rfl, rfl, rfl, rfl, rfl, rfl, rfl, rfl, rfl, trivial⟩, ⟨⟨trivial, rfl⟩, rfl, trivial⟩, ⟨⟨trivial, rfl⟩, rfl, trivial⟩, rfl, trivial⟩, ?_⟩⟩⟩⟩⟩)
  · rw [wrap_eq (by show _ ∧ _; omega)]; omega
  have c1 := q1.fb
  have c2 := q2.fb
  clear q1 q2 q3 q4
  rintro ⟨i, j⟩ ⟨i0, i1, hj⟩
  simp only at i0 i1 hj
  dsimp only
  refine cs (fun hi => cd1 (by omega) (cd1 ⟨rfl, by show _ < 3; omega⟩ ?_)) (fun hi => ⟨trivial, rfl⟩)
  obtain ⟨bs, bl, he, h⟩ : ∃ bs bl, [[AV.sl 1 false ys, .int .i64 n], [.sl 1 false y1, .int .i64 n1], [.sl 1 false y2, .int .i64 n2]].getD i.toNat [] = [.sl 1 false bs, .int .i64 bl] ∧ BytP bs := by
    have : i.toNat < 3 := by omega
    generalize i.toNat = k at this
    rcases k with _ | _ | _ | k
    · exact ⟨_, _, rfl, hb⟩
    · exact ⟨_, _, rfl, c1⟩
    · exact ⟨_, _, rfl, c2⟩
    · omega
  refine ⟨bs, bl, by rw [he]; rfl, ⟨hs, hj⟩, fun d j q5 => ⟨⟨⟨hs, q5.fj⟩, by decide, by decide, by decide⟩, fun e j q6 => ⟨⟨(0, j), ⟨by simp, by simp, q6.2⟩, ⟨rfl, rfl, rfl, rfl, rfl, rfl, rfl, rfl, rfl, rfl, rfl, rfl, rfl, rfl, trivial⟩, ⟨⟨trivial, rfl⟩, rfl, trivial⟩, ⟨⟨trivial, rfl⟩, rfl, trivial⟩, ⟨⟨trivial, rfl⟩, rfl, trivial⟩, rfl, rfl, trivial⟩, ?_⟩⟩⟩
  clear q5 q6 hj
  have ei : IntKind.i64.wrap (i + 1) = i + 1 := wrap_eq (by show _ ∧ _; omega)
  rintro ⟨k, j⟩ ⟨k0, k1, hj⟩
  simp only at k0 k1 hj
  dsimp only
  have ek : IntKind.i64.wrap (k + 1) = k + 1 := wrap_eq (by show _ ∧ _; omega)
  refine cs (fun hk => cd1 (by omega) (cd1 ⟨rfl, by show _ < 4; omega⟩ ?_)) (fun hk => ?_)
  · obtain ⟨p, q, hpq⟩ : ∃ p q : Int, [[AV.int .i64 v, .int .i64 w], [.int .i64 v1, .int .i64 w1], [.int .i64 v1, .int .i64 w], [.int .i64 (IntKind.i64.wrap (v1 + d)), .int .i64 e]].getD k.toNat [] = [.int .i64 p, .int .i64 q] := by
      have : k.toNat < 4 := by omega
      generalize k.toNat = k at this
      rcases k with _ | _ | _ | _ | k
      · exact ⟨_, _, rfl⟩
      · exact ⟨_, _, rfl⟩
      · exact ⟨_, _, rfl⟩
      · exact ⟨_, _, rfl⟩
      · omega
    refine ⟨p, q, by rw [hpq]; rfl, h, h, cs (fun q => absurd rfl q) (fun _ => ⟨⟨appR_byt2 _ _ _ _, appR_byt2 _ _ _ _⟩, csplit (fun q => by simp at q) (fun _ => ⟨⟨⟨hs, hj⟩, by decide, by decide, by decide⟩, fun z j q7 => ⟨⟨0, ⟨by simp, by simp⟩, ⟨rfl, rfl, rfl, rfl, rfl, rfl, rfl, rfl, rfl, rfl, rfl, rfl, rfl, rfl, rfl, rfl, rfl, rfl, trivial⟩, ⟨⟨trivial, rfl⟩, rfl, trivial⟩, ⟨⟨trivial, rfl⟩, rfl, trivial⟩, ⟨⟨trivial, rfl⟩, rfl, trivial⟩, ⟨rfl, rfl, trivial⟩, rfl, rfl, rfl, trivial⟩, ?_⟩⟩)⟩)⟩
    rintro t ⟨t0, t1⟩
    have et : IntKind.i64.wrap (t + 1) = t + 1 := wrap_eq (by show _ ∧ _; omega)
    refine cs (fun ht => cd1 (by omega) (cd1 ⟨rfl, by show _ < 3; omega⟩ ?_)) (fun ht => ?_)
    · obtain ⟨y, hy⟩ : ∃ y : Int, [[AV.int .i64 a], [.int .i64 z], [.int .i64 (IntKind.i64.wrap (bl - q))]].getD t.toNat [] = [.int .i64 y] := by
        have : t.toNat < 3 := by omega
        generalize t.toNat = k at this
        rcases k with _ | _ | _ | k
        · exact ⟨_, rfl⟩
        · exact ⟨_, rfl⟩
        · exact ⟨_, rfl⟩
        · omega
      refine ⟨y, by rw [hy]; rfl, h, h, cs (fun q => absurd rfl q) (fun _ => cs (fun q => absurd rfl q) (fun _ => ⟨t + 1, ⟨by omega, by omega⟩, by simp only [an18]; omega, ⟨rfl, rfl, rfl, rfl, rfl, rfl, rfl, rfl, rfl, rfl, rfl, rfl, rfl, rfl, rfl, rfl, rfl, et, trivial⟩, ⟨⟨trivial, rfl⟩, rfl, trivial⟩, ⟨⟨trivial, rfl⟩, rfl, trivial⟩, ⟨⟨trivial, rfl⟩, rfl, trivial⟩, ⟨rfl, rfl, trivial⟩, rfl, rfl, rfl, trivial⟩))⟩
    · exact ⟨(k + 1, j), ⟨by simp only; omega, by simp only; omega, q7.2⟩, by simp only [an11]; omega, ⟨rfl, rfl, rfl, rfl, rfl, rfl, rfl, rfl, rfl, rfl, rfl, rfl, rfl, ek, trivial⟩, ⟨⟨trivial, rfl⟩, rfl, trivial⟩, ⟨⟨trivial, rfl⟩, rfl, trivial⟩, ⟨⟨trivial, rfl⟩, rfl, trivial⟩, rfl, rfl, trivial⟩
  · refine ⟨⟨h, c1⟩, ⟨h, c1⟩, h, h, cs (fun q => absurd rfl q) (fun _ => cs (fun q => absurd rfl q) (fun _ => ⟨⟨joR_byt _ _ _ _, joR_byt _ _ _ _⟩, csplit (fun q => by simp at q) (fun _ => ⟨⟨paR_byt h _, paR_byt h _⟩, csplit (fun q => by simp at q) (fun _ => ⟨h, h, csplit (fun q => by simp at q) (fun _ => ⟨⟨h, c1⟩, ⟨h, c1⟩, csplit (fun q => by simp at q) (fun _ => ?_)⟩)⟩)⟩)⟩))⟩
    exact ⟨(i + 1, j), ⟨by simp only; omega, by simp only; omega, hj⟩, by simp only [an8]; omega, ⟨rfl, rfl, rfl, rfl, rfl, rfl, rfl, rfl, rfl, ei, trivial⟩, ⟨⟨trivial, rfl⟩, rfl, trivial⟩, ⟨⟨trivial, rfl⟩, rfl, trivial⟩, rfl, trivial⟩
def lansw_S : Prop := ∀ (gl : Glob) (ys xs : List (List AV)) (n v w a : Int), IntsA xs ∧ BytP ys → fnK Try.prog { glob := gl, spec := lk [(15, bawake_s), (17, bappend_s), (22, rbappend_s), (21, bread_s), (24, rbread_s), (16, bjoin_s), (25, rbjoin_s), (11, bpad_s), (26, rbpad_s), (27, bvalid_s), (12, rbvalid_s), (28, bsame_s), (13, rbsame_s)], specH := lk [(8, newsrc_s)], specQ := lk [(23, blist_s), (18, qrange_s), (9, qn_s)], shape := [64, 86, 127], slz := [(64, [1])], nowf := true, wrap := true } { nt := 214, drop := drp [(1, 1924145348608), (2, 4398046511104), (3, 26388279066624), (4, 527765581332480), (5, 1688849860263936), (6, 69805794224242688), (7, 504403158265495552), (9, 27670116110564327424), (10, 2417814745741110930309120), (12, 116056878683004400771792896), (13, 79073420009353665059181559808), (14, 40485591044789076510300958621696), (15, 10344028897862351916213098155868160), (17, 5296142795705524181101106255804497920), (19, 255211775190703847597530955573826158592), (20, 86772003564839308183160524895100893921280), (21, 22213632912598862894889094373145828843847680), (22, 2832194640213389138975036220626341911259512832), (24, 5708990770823839524233143877797980545530986496), (25, 11417981541647679048466287755595961091061972992), (26, 1438665674247607560106752257205091097473808596992), (27, 92074603151846883846832144461125830238323750207488), (28, 2899619248464511389716110708109105510997370165264384), (29, 92787815950864364470915542659491376351915845288460288), (30, 3291009114546631113005820311467304320768577407290988531560742912), (32, 6582018229284824168619876730229402019930943462534319453394436096), (33, 13164036458569648337239753460458804039861886925068638906788872192)] } (anJ) 6 Try.f7 [.agg [.sl 1 false ys, .int .i64 n], .sl 1 false xs, .int .i64 v, .int .i64 w, .int .i64 a] (.bool true)
set_option maxRecDepth 100000 in
theorem lansw_e : lansw_T = lansw_S := by kernel_rfl
theorem lansw_v : lansw_S := @Eq.mp (lansw_T) (lansw_S) (lansw_e) lansw_P
theorem lansw_ok (gl : Glob) : SOK Try.prog gl 7 lansw_s := by
  refine ⟨fok Try.func7 (by kernel_rfl) (by kernel_rfl), ?_⟩
  intro xs pre r h hp
  unfold lansw_s at h
  split at h
  · simp only [Option.some.injEq, Prod.mk.injEq] at h
    obtain ⟨h1, h2⟩ := h
    subst h1 h2
    exact fnK_sound tyNil (by exact specOK rfl rfl ⟨(bawake_ok gl), (bappend_ok gl), (rbappend_ok gl), (bread_ok gl), (rbread_ok gl), (bjoin_ok gl), (rbjoin_ok gl), (bpad_ok gl), (rbpad_ok gl), (bvalid_ok gl), (rbvalid_ok gl), (bsame_ok gl), (rbsame_ok gl), trivial⟩ ⟨(newsrc_ok gl), trivial⟩ (d := qsOf rfl ⟨(blist_ok gl), (qrange_ok gl), (qn_ok gl), trivial⟩)) (by kernel_rfl) Try.func7 rfl (lansw_v gl _ _ _ _ _ _ hp)
  · cases h
theorem byt_of {xs : List (List AV)} (hl : xs.length ≤ 9223372036854775807) (h : ∀ x ∈ xs, ∃ n, rng .u8 n ∧ x = [.int .u8 n]) : BytP xs := by
  refine ⟨fun i hi => ?_, hl⟩
  obtain ⟨n, ⟨h1, h2⟩, he⟩ := h xs[i] (List.getElem_mem hi)
  refine ⟨n.toNat, ?_, by have h1 : 0 ≤ n := h1; have h2 : n ≤ 255 := h2; omega⟩
  rw [List.getD_eq_getElem?_getD, List.getElem?_eq_getElem hi]
  show xs[i] = _
  rw [he, Int.toNat_of_nonneg h1]
end Go.Proofs.Ytkbfldgebcpigaa
