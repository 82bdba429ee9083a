/- The law of numbers: Encode and Decode answer as the reference and are inverse. -/
import Derived.Test.YthdfkiopppkfcaaDoorTbE
import Derived.Test.YthdfkiopppkfcaaDoorTbT
namespace Go.Proofs.YthdfkiopppkfcaaDoor
open Go
set_option linter.unusedVariables false
set_option linter.unusedSimpArgs false

theorem csn {p : Prop} [Decidable p] {A B : Prop} (h : p → A) (k : ¬ p → B) : cond (decide p) A B := csplit (fun q => h (of_decide_eq_true q)) (fun q => k (of_decide_eq_false q))
theorem enc_dec {c e w sc l v : Int} (h : encB c e w sc l v = true) : decB c e w sc l (encN c e w sc l v) = true ∧ decV c e w sc l (encN c e w sc l v) ≤ v ∧ v - decV c e w sc l (encN c e w sc l v) < sc ∧ sc ≤ 1000 := by
  have h0 := h
  unfold encB at h
  simp only [Bool.and_eq_true, decide_eq_true_eq] at h
  obtain ⟨⟨⟨h1, h2⟩, h3⟩, h4⟩ := h
  have q := enV_iff.1 h2
  have e1 : encN c e w sc l v = (v - l) / sc := by unfold encN; rw [h0]; rfl
  have d0 : 0 ≤ (v - l) / sc := Int.ediv_nonneg (by omega) (by omega)
  have d2 : (v - l) / sc < lastV w + 1 ↔ v - l < (lastV w + 1) * sc := Int.ediv_lt_iff_lt_mul (by omega)
  rw [Int.mul_comm (lastV w + 1) sc] at d2
  have d3 := d2.2 (by omega)
  have e2 : decB c e w sc l ((v - l) / sc) = true := by
    unfold decB
    rw [h1, h2, decide_eq_true d0, decide_eq_true (show (v - l) / sc ≤ lastV w by omega)]; rfl
  have e3 : decV c e w sc l ((v - l) / sc) = l + sc * ((v - l) / sc) := by unfold decV; rw [e2]; rfl
  have e4 := Int.mul_ediv_add_emod (v - l) sc
  have e5 := Int.emod_nonneg (v - l) (show sc ≠ 0 by omega)
  have e6 := Int.emod_lt_of_pos (v - l) (show 0 < sc by omega)
  rw [e1, e2, e3]
  exact ⟨rfl, by omega, by omega, by omega⟩
theorem dec_enc {c e w sc l n : Int} (h : decB c e w sc l n = true) : encE c e w sc l (decV c e w sc l n) = 0 ∧ encN c e w sc l (decV c e w sc l n) = n := by
  have h0 := h
  unfold decB at h
  simp only [Bool.and_eq_true, decide_eq_true_eq] at h
  obtain ⟨⟨⟨h1, h2⟩, h3⟩, h4⟩ := h
  have q := enV_iff.1 h2
  have e1 : decV c e w sc l n = l + sc * n := by unfold decV; rw [h0]; rfl
  have m1 : 0 ≤ sc * n := Int.mul_nonneg (by omega) h3
  have m2 : sc * n < sc * (lastV w + 1) := Int.mul_lt_mul_of_pos_left (by omega) (by omega)
  have e2 : encB c e w sc l (l + sc * n) = true := by
    unfold encB
    rw [h1, h2, decide_eq_true (show l ≤ l + sc * n by omega), decide_eq_true (show l + sc * n < l + sc * (lastV w + 1) by omega)]; rfl
  rw [e1]
  unfold encE encN
  rw [e2]
  refine ⟨rfl, ?_⟩
  rw [if_pos rfl, show l + sc * n - l = sc * n by omega, Int.mul_ediv_cancel_left _ (by omega)]
structure NuQ (N : Int) (x : Int × Int) : Prop where
  flo : 0 ≤ x.1
  fhi : x.1 ≤ N
  fj : 0 ≤ x.2
structure NuK (N : Int) (x : Int) : Prop where
  flo : 0 ≤ x
  fhi : x ≤ N
def nu6 (R xs : List (List AV)) (a b v c e w sc l : Int) : LInv := ⟨Int × Int, fun x => ⟨[(1, .int .i64 a), (2, .int .i64 b), (9, .ptr 32 0), (11, .ptr 11 0), (12, .int .i64 v), (58, .rw 58 5 3), (59, .int .i64 3), (60, .int .i64 x.1)], [(32, .cells [.sl 1 false xs, .int .i64 x.2]), (11, .cells [.int .i64 c, .int .i64 e, .int .i64 w, .int .i64 sc, .int .i64 l]), (58, .row 23 5 R)]⟩, NuQ 3, fun x => (3 - x.1).toNat, none⟩
def nu9 (R K xs : List (List AV)) (a b v c e w sc l i j c1 e1 w1 s1 l1 : Int) : LInv := ⟨Int, fun x => ⟨[(1, .int .i64 a), (2, .int .i64 b), (9, .ptr 32 0), (11, .ptr 11 0), (12, .int .i64 v), (14, .ptr 14 0), (58, .rw 58 5 3), (59, .int .i64 3), (60, .int .i64 i), (80, .rw 80 1 4), (81, .int .i64 4), (82, .int .i64 x)], [(32, .cells [.sl 1 false xs, .int .i64 j]), (11, .cells [.int .i64 c, .int .i64 e, .int .i64 w, .int .i64 sc, .int .i64 l]), (14, .cells [.int .i64 c1, .int .i64 e1, .int .i64 w1, .int .i64 s1, .int .i64 l1]), (58, .row 23 5 R), (80, .row 3 1 K)]⟩, NuK 4, fun x => (4 - x).toNat, none⟩
def nu21 (R K xs : List (List AV)) (a b v c e w sc l i j c1 e1 w1 s1 l1 : Int) : LInv := ⟨Int, fun x => ⟨[(1, .int .i64 a), (2, .int .i64 b), (9, .ptr 32 0), (11, .ptr 11 0), (12, .int .i64 v), (14, .ptr 14 0), (58, .rw 58 5 3), (59, .int .i64 3), (60, .int .i64 i), (143, .rw 143 1 4), (144, .int .i64 4), (145, .int .i64 x)], [(32, .cells [.sl 1 false xs, .int .i64 j]), (11, .cells [.int .i64 c, .int .i64 e, .int .i64 w, .int .i64 sc, .int .i64 l]), (14, .cells [.int .i64 c1, .int .i64 e1, .int .i64 w1, .int .i64 s1, .int .i64 l1]), (58, .row 23 5 R), (143, .row 3 1 K)]⟩, NuK 4, fun x => (4 - x).toNat, none⟩
def nuJ (id : Nat) (st : St) : Option LInv := match lk st.tmps 1, lk st.tmps 2, lk st.tmps 12, lk st.tmps 60, lk st.heap 32, lk st.heap 11, lk st.heap 58 with
  | some (.int _ a), some (.int _ b), some (.int _ v), some (.int _ i), some (.cells [.sl _ _ xs, .int _ j]), some (.cells [.int _ c, .int _ e, .int _ w, .int _ sc, .int _ l]), some (.row _ _ R) =>
    cond (Nat.beq id 6) (some (nu6 R xs a b v c e w sc l)) (match lk st.heap 14 with
      | some (.cells [.int _ c1, .int _ e1, .int _ w1, .int _ s1, .int _ l1]) => cond (Nat.beq id 9) (match lk st.heap 80 with
        | some (.row _ _ K) => some (nu9 R K xs a b v c e w sc l i j c1 e1 w1 s1 l1)
        | _ => none) (cond (Nat.beq id 21) (match lk st.heap 143 with
        | some (.row _ _ K) => some (nu21 R K xs a b v c e w sc l i j c1 e1 w1 s1 l1)
        | _ => none) none)
      | _ => none)
  | _, _, _, _, _, _, _ => none
theorem row4 (a b c d : Int) {k : Nat} (h : k < 4) : ∃ y : Int, [[AV.int .i64 a], [.int .i64 b], [.int .i64 c], [.int .i64 d]].getD k [] = [.int .i64 y] := by
  rcases k with _ | _ | _ | _ | k
  · exact ⟨_, rfl⟩
  · exact ⟨_, rfl⟩
  · exact ⟨_, rfl⟩
  · exact ⟨_, rfl⟩
  · omega
theorem row3 (a1 a2 a3 a4 a5 b1 b2 b3 b4 b5 c1 c2 c3 c4 c5 : Int) {k : Nat} (h : k < 3) : ∃ x1 x2 x3 x4 x5 : Int, [[AV.int .i64 a1, .int .i64 a2, .int .i64 a3, .int .i64 a4, .int .i64 a5], [.int .i64 b1, .int .i64 b2, .int .i64 b3, .int .i64 b4, .int .i64 b5], [.int .i64 c1, .int .i64 c2, .int .i64 c3, .int .i64 c4, .int .i64 c5]].getD k [] = [.int .i64 x1, .int .i64 x2, .int .i64 x3, .int .i64 x4, .int .i64 x5] := by
  rcases k with _ | _ | _ | k
  · exact ⟨_, _, _, _, _, rfl⟩
  · exact ⟨_, _, _, _, _, rfl⟩
  · exact ⟨_, _, _, _, _, rfl⟩
  · omega
def lnum_s : Sp
  | [.agg [.int .i64 c0, .int .i64 e0, .int .i64 w0, .int .i64 s0, .int .i64 l0], .int .i64 a, .int .i64 b, .sl 1 false xs] => some (IntsA xs, .bool true)
  | _ => none
set_option maxRecDepth 100000 in
def lnum_T (encN : Int → Int → Int → Int → Int → Int → Int) (encE : Int → Int → Int → Int → Int → Int → Int) (decV : Int → Int → Int → Int → Int → Int → Int) (decB : Int → Int → Int → Int → Int → Int → Bool) : Prop :=
  ∀ (xs : List (List AV)) (c0 e0 w0 s0 l0 a b : Int), (∀ (x : List AV), List.Mem x xs → ∃ n, x = [AV.int IntKind.i64 n] ∧ rng IntKind.i64 n) → ((-9223372036854775808 : Int) ≤ c0 ∧ c0
  ≤ (9223372036854775807 : Int)) ∧ ((-9223372036854775808 : Int) ≤ e0 ∧ e0 ≤ (9223372036854775807 : Int)) ∧ ((-9223372036854775808 : Int) ≤ w0 ∧ w0 ≤ (9223372036854775807 : Int)) ∧
  ((-9223372036854775808 : Int) ≤ s0 ∧ s0 ≤ (9223372036854775807 : Int)) ∧ ((-9223372036854775808 : Int) ≤ l0 ∧ l0 ≤ (9223372036854775807 : Int)) ∧ True → (-9223372036854775808 :
  Int) ≤ a ∧ a ≤ (9223372036854775807 : Int) → (-9223372036854775808 : Int) ≤ b ∧ b ≤ (9223372036854775807 : Int) → True → True ∧ SrcQ (List.take (2000 : Nat) xs) (0 : Int) ∧ ∀ (es
  ss : List (List AV)) (j : Int), TabQ es ss j → SrcQ (List.take (2000 : Nat) xs) j ∧ ∀ (v j : Int), NumQ (↑es.length : Int) v j → bif decide ((0 : Int) ≤ v ∧ v < (↑es.length : Int))
  then ∃ n n_1 n_2 n_3 n_4, List.take [AV.int IntKind.i64 n, AV.int IntKind.i64 n_1, AV.int IntKind.i64 n_2, AV.int IntKind.i64 n_3, AV.int IntKind.i64 n_4].length (es.getD v.toNat
  []) = [AV.int IntKind.i64 n, AV.int IntKind.i64 n_1, AV.int IntKind.i64 n_2, AV.int IntKind.i64 n_3, AV.int IntKind.i64 n_4] ∧ bif decide ((0 : Int) ≤ IntKind.u64.wrap n_2) then
  SrcQ (List.take (2000 : Nat) xs) j ∧ ∀ (v j : Int), NumQ (IntKind.i64.wrap (n_3 * (2 : Int) ^ min (IntKind.u64.wrap n_2).toNat (64 : Nat))) v j → True ∧ (∃ x, NuQ (3 : Int) x ∧ (a
  = a ∧ b = b ∧ (0 : Nat) = (0 : Nat) ∧ (0 : Nat) = (0 : Nat) ∧ IntKind.i64.wrap (n_4 + v) = IntKind.i64.wrap (n_4 + v) ∧ (3 : Nat) = (3 : Nat) ∧ (3 : Int) = (3 : Int) ∧ (0 : Int) =
  x.fst ∧ True) ∧ ((True ∧ List.take (2000 : Nat) xs = List.take (2000 : Nat) xs) ∧ j = x.snd ∧ True) ∧ (n = n ∧ n_1 = n_1 ∧ n_2 = n_2 ∧ n_3 = n_3 ∧ n_4 = n_4 ∧ True) ∧ [[AV.int
  IntKind.i64 c0, AV.int IntKind.i64 e0, AV.int IntKind.i64 w0, AV.int IntKind.i64 s0, AV.int IntKind.i64 l0], [AV.int IntKind.i64 n, AV.int IntKind.i64 n_1, AV.int IntKind.i64 n_2,
  AV.int IntKind.i64 n_3, AV.int IntKind.i64 n_4], [AV.int IntKind.i64 (7 : Int), AV.int IntKind.i64 (1 : Int), AV.int IntKind.i64 (10 : Int), AV.int IntKind.i64 (5 : Int), AV.int
  IntKind.i64 (8000 : Int)]] = [[AV.int IntKind.i64 c0, AV.int IntKind.i64 e0, AV.int IntKind.i64 w0, AV.int IntKind.i64 s0, AV.int IntKind.i64 l0], [AV.int IntKind.i64 n, AV.int
  IntKind.i64 n_1, AV.int IntKind.i64 n_2, AV.int IntKind.i64 n_3, AV.int IntKind.i64 n_4], [AV.int IntKind.i64 (7 : Int), AV.int IntKind.i64 (1 : Int), AV.int IntKind.i64 (10 :
  Int), AV.int IntKind.i64 (5 : Int), AV.int IntKind.i64 (8000 : Int)]] ∧ True) ∧ ∀ (x : Int × Int), NuQ (3 : Int) x → bif decide (x.fst < (3 : Int)) then bif decide ((0 : Int) ≤
  x.fst ∧ x.fst < (3 : Int)) then bif decide ((3 : Nat) = [[AV.int IntKind.i64 c0, AV.int IntKind.i64 e0, AV.int IntKind.i64 w0, AV.int IntKind.i64 s0, AV.int IntKind.i64 l0],
  [AV.int IntKind.i64 n, AV.int IntKind.i64 n_1, AV.int IntKind.i64 n_2, AV.int IntKind.i64 n_3, AV.int IntKind.i64 n_4], [AV.int IntKind.i64 (7 : Int), AV.int IntKind.i64 (1 : Int),
  AV.int IntKind.i64 (10 : Int), AV.int IntKind.i64 (5 : Int), AV.int IntKind.i64 (8000 : Int)]].length ∧ x.fst.toNat < [[AV.int IntKind.i64 c0, AV.int IntKind.i64 e0, AV.int
  IntKind.i64 w0, AV.int IntKind.i64 s0, AV.int IntKind.i64 l0], [AV.int IntKind.i64 n, AV.int IntKind.i64 n_1, AV.int IntKind.i64 n_2, AV.int IntKind.i64 n_3, AV.int IntKind.i64
  n_4], [AV.int IntKind.i64 (7 : Int), AV.int IntKind.i64 (1 : Int), AV.int IntKind.i64 (10 : Int), AV.int IntKind.i64 (5 : Int), AV.int IntKind.i64 (8000 : Int)]].length) then ∃ n_5
  n_6 n_7 n_8 n_9, List.take [AV.int IntKind.i64 n_5, AV.int IntKind.i64 n_6, AV.int IntKind.i64 n_7, AV.int IntKind.i64 n_8, AV.int IntKind.i64 n_9].length (List.drop (0 : Nat)
  ([[AV.int IntKind.i64 c0, AV.int IntKind.i64 e0, AV.int IntKind.i64 w0, AV.int IntKind.i64 s0, AV.int IntKind.i64 l0], [AV.int IntKind.i64 n, AV.int IntKind.i64 n_1, AV.int
  IntKind.i64 n_2, AV.int IntKind.i64 n_3, AV.int IntKind.i64 n_4], [AV.int IntKind.i64 (7 : Int), AV.int IntKind.i64 (1 : Int), AV.int IntKind.i64 (10 : Int), AV.int IntKind.i64 (5
  : Int), AV.int IntKind.i64 (8000 : Int)]].getD x.fst.toNat [])) = [AV.int IntKind.i64 n_5, AV.int IntKind.i64 n_6, AV.int IntKind.i64 n_7, AV.int IntKind.i64 n_8, AV.int
  IntKind.i64 n_9] ∧ bif decide ((0 : Int) ≤ IntKind.u64.wrap n_2) then (∃ x_1, NuK (4 : Int) x_1 ∧ (a = a ∧ b = b ∧ (0 : Nat) = (0 : Nat) ∧ (0 : Nat) = (0 : Nat) ∧ IntKind.i64.wrap
  (n_4 + v) = IntKind.i64.wrap (n_4 + v) ∧ (0 : Nat) = (0 : Nat) ∧ (3 : Nat) = (3 : Nat) ∧ (3 : Int) = (3 : Int) ∧ x.fst = x.fst ∧ (4 : Nat) = (4 : Nat) ∧ (4 : Int) = (4 : Int) ∧ (0
  : Int) = x_1 ∧ True) ∧ ((True ∧ List.take (2000 : Nat) xs = List.take (2000 : Nat) xs) ∧ x.snd = x.snd ∧ True) ∧ (n = n ∧ n_1 = n_1 ∧ n_2 = n_2 ∧ n_3 = n_3 ∧ n_4 = n_4 ∧ True) ∧
  (n_5 = n_5 ∧ n_6 = n_6 ∧ n_7 = n_7 ∧ n_8 = n_8 ∧ n_9 = n_9 ∧ True) ∧ [[AV.int IntKind.i64 c0, AV.int IntKind.i64 e0, AV.int IntKind.i64 w0, AV.int IntKind.i64 s0, AV.int
  IntKind.i64 l0], [AV.int IntKind.i64 n, AV.int IntKind.i64 n_1, AV.int IntKind.i64 n_2, AV.int IntKind.i64 n_3, AV.int IntKind.i64 n_4], [AV.int IntKind.i64 (7 : Int), AV.int
  IntKind.i64 (1 : Int), AV.int IntKind.i64 (10 : Int), AV.int IntKind.i64 (5 : Int), AV.int IntKind.i64 (8000 : Int)]] = [[AV.int IntKind.i64 c0, AV.int IntKind.i64 e0, AV.int
  IntKind.i64 w0, AV.int IntKind.i64 s0, AV.int IntKind.i64 l0], [AV.int IntKind.i64 n, AV.int IntKind.i64 n_1, AV.int IntKind.i64 n_2, AV.int IntKind.i64 n_3, AV.int IntKind.i64
  n_4], [AV.int IntKind.i64 (7 : Int), AV.int IntKind.i64 (1 : Int), AV.int IntKind.i64 (10 : Int), AV.int IntKind.i64 (5 : Int), AV.int IntKind.i64 (8000 : Int)]] ∧ [[AV.int
  IntKind.i64 a], [AV.int IntKind.i64 (IntKind.i64.wrap (n_4 + v))], [AV.int IntKind.i64 (IntKind.i64.wrap (n_4 - (1 : Int)))], [AV.int IntKind.i64 (IntKind.i64.wrap (n_4 +
  IntKind.i64.wrap (n_3 * IntKind.i64.wrap (IntKind.i64.wrap ((1 : Int) * (2 : Int) ^ min (IntKind.u64.wrap n_2).toNat (64 : Nat)) - (1 : Int)))))]] = [[AV.int IntKind.i64 a],
  [AV.int IntKind.i64 (IntKind.i64.wrap (n_4 + v))], [AV.int IntKind.i64 (IntKind.i64.wrap (n_4 - (1 : Int)))], [AV.int IntKind.i64 (IntKind.i64.wrap (n_4 + IntKind.i64.wrap (n_3 *
  IntKind.i64.wrap (IntKind.i64.wrap ((1 : Int) * (2 : Int) ^ min (IntKind.u64.wrap n_2).toNat (64 : Nat)) - (1 : Int)))))]] ∧ True) ∧ ∀ (x_1 : Int), NuK (4 : Int) x_1 → bif decide
  (x_1 < (4 : Int)) then bif decide ((0 : Int) ≤ x_1 ∧ x_1 < (4 : Int)) then bif decide ((4 : Nat) = [[AV.int IntKind.i64 a], [AV.int IntKind.i64 (IntKind.i64.wrap (n_4 + v))],
  [AV.int IntKind.i64 (IntKind.i64.wrap (n_4 - (1 : Int)))], [AV.int IntKind.i64 (IntKind.i64.wrap (n_4 + IntKind.i64.wrap (n_3 * IntKind.i64.wrap (IntKind.i64.wrap ((1 : Int) * (2 :
  Int) ^ min (IntKind.u64.wrap n_2).toNat (64 : Nat)) - (1 : Int)))))]].length ∧ x_1.toNat < [[AV.int IntKind.i64 a], [AV.int IntKind.i64 (IntKind.i64.wrap (n_4 + v))], [AV.int
  IntKind.i64 (IntKind.i64.wrap (n_4 - (1 : Int)))], [AV.int IntKind.i64 (IntKind.i64.wrap (n_4 + IntKind.i64.wrap (n_3 * IntKind.i64.wrap (IntKind.i64.wrap ((1 : Int) * (2 : Int) ^
  min (IntKind.u64.wrap n_2).toNat (64 : Nat)) - (1 : Int)))))]].length) then ∃ n_10, List.take [AV.int IntKind.i64 n_10].length (List.drop (0 : Nat) ([[AV.int IntKind.i64 a],
  [AV.int IntKind.i64 (IntKind.i64.wrap (n_4 + v))], [AV.int IntKind.i64 (IntKind.i64.wrap (n_4 - (1 : Int)))], [AV.int IntKind.i64 (IntKind.i64.wrap (n_4 + IntKind.i64.wrap (n_3 *
  IntKind.i64.wrap (IntKind.i64.wrap ((1 : Int) * (2 : Int) ^ min (IntKind.u64.wrap n_2).toNat (64 : Nat)) - (1 : Int)))))]].getD x_1.toNat [])) = [AV.int IntKind.i64 n_10] ∧ True ∧
  True ∧ bif decide ¬encN n_5 n_6 n_7 n_8 n_9 n_10 = encN n_5 n_6 n_7 n_8 n_9 n_10 then false = true else bif decide ¬encE n_5 n_6 n_7 n_8 n_9 n_10 = encE n_5 n_6 n_7 n_8 n_9 n_10
  then false = true else bif decide ¬encE n_5 n_6 n_7 n_8 n_9 n_10 = (0 : Int) then ∃ y, NuK (4 : Int) y ∧ (nu9 [[AV.int IntKind.i64 c0, AV.int IntKind.i64 e0, AV.int IntKind.i64 w0,
  AV.int IntKind.i64 s0, AV.int IntKind.i64 l0], [AV.int IntKind.i64 n, AV.int IntKind.i64 n_1, AV.int IntKind.i64 n_2, AV.int IntKind.i64 n_3, AV.int IntKind.i64 n_4], [AV.int
  IntKind.i64 (7 : Int), AV.int IntKind.i64 (1 : Int), AV.int IntKind.i64 (10 : Int), AV.int IntKind.i64 (5 : Int), AV.int IntKind.i64 (8000 : Int)]] [[AV.int IntKind.i64 a], [AV.int
  IntKind.i64 (IntKind.i64.wrap (n_4 + v))], [AV.int IntKind.i64 (IntKind.i64.wrap (n_4 - (1 : Int)))], [AV.int IntKind.i64 (IntKind.i64.wrap (n_4 + IntKind.i64.wrap (n_3 *
  IntKind.i64.wrap (IntKind.i64.wrap ((1 : Int) * (2 : Int) ^ min (IntKind.u64.wrap n_2).toNat (64 : Nat)) - (1 : Int)))))]] (List.take (2000 : Nat) xs) a b (IntKind.i64.wrap (n_4 +
  v)) n n_1 n_2 n_3 n_4 x.fst x.snd n_5 n_6 n_7 n_8 n_9).m y < (nu9 [[AV.int IntKind.i64 c0, AV.int IntKind.i64 e0, AV.int IntKind.i64 w0, AV.int IntKind.i64 s0, AV.int IntKind.i64
  l0], [AV.int IntKind.i64 n, AV.int IntKind.i64 n_1, AV.int IntKind.i64 n_2, AV.int IntKind.i64 n_3, AV.int IntKind.i64 n_4], [AV.int IntKind.i64 (7 : Int), AV.int IntKind.i64 (1 :
  Int), AV.int IntKind.i64 (10 : Int), AV.int IntKind.i64 (5 : Int), AV.int IntKind.i64 (8000 : Int)]] [[AV.int IntKind.i64 a], [AV.int IntKind.i64 (IntKind.i64.wrap (n_4 + v))],
  [AV.int IntKind.i64 (IntKind.i64.wrap (n_4 - (1 : Int)))], [AV.int IntKind.i64 (IntKind.i64.wrap (n_4 + IntKind.i64.wrap (n_3 * IntKind.i64.wrap (IntKind.i64.wrap ((1 : Int) * (2 :
  Int) ^ min (IntKind.u64.wrap n_2).toNat (64 : Nat)) - (1 : Int)))))]] (List.take (2000 : Nat) xs) a b (IntKind.i64.wrap (n_4 + v)) n n_1 n_2 n_3 n_4 x.fst x.snd n_5 n_6 n_7 n_8
  n_9).m x_1 ∧ (a = a ∧ b = b ∧ (0 : Nat) = (0 : Nat) ∧ (0 : Nat) = (0 : Nat) ∧ IntKind.i64.wrap (n_4 + v) = IntKind.i64.wrap (n_4 + v) ∧ (0 : Nat) = (0 : Nat) ∧ (3 : Nat) = (3 :
  Nat) ∧ (3 : Int) = (3 : Int) ∧ x.fst = x.fst ∧ (4 : Nat) = (4 : Nat) ∧ (4 : Int) = (4 : Int) ∧ IntKind.i64.wrap (x_1 + (1 : Int)) = y ∧ True) ∧ ((True ∧ List.take (2000 : Nat) xs =
  List.take (2000 : Nat) xs) ∧ x.snd = x.snd ∧ True) ∧ (n = n ∧ n_1 = n_1 ∧ n_2 = n_2 ∧ n_3 = n_3 ∧ n_4 = n_4 ∧ True) ∧ (n_5 = n_5 ∧ n_6 = n_6 ∧ n_7 = n_7 ∧ n_8 = n_8 ∧ n_9 = n_9 ∧
  True) ∧ [[AV.int IntKind.i64 c0, AV.int IntKind.i64 e0, AV.int IntKind.i64 w0, AV.int IntKind.i64 s0, AV.int IntKind.i64 l0], [AV.int IntKind.i64 n, AV.int IntKind.i64 n_1, AV.int
  IntKind.i64 n_2, AV.int IntKind.i64 n_3, AV.int IntKind.i64 n_4], [AV.int IntKind.i64 (7 : Int), AV.int IntKind.i64 (1 : Int), AV.int IntKind.i64 (10 : Int), AV.int IntKind.i64 (5
  : Int), AV.int IntKind.i64 (8000 : Int)]] = [[AV.int IntKind.i64 c0, AV.int IntKind.i64 e0, AV.int IntKind.i64 w0, AV.int IntKind.i64 s0, AV.int IntKind.i64 l0], [AV.int
  IntKind.i64 n, AV.int IntKind.i64 n_1, AV.int IntKind.i64 n_2, AV.int IntKind.i64 n_3, AV.int IntKind.i64 n_4], [AV.int IntKind.i64 (7 : Int), AV.int IntKind.i64 (1 : Int), AV.int
  IntKind.i64 (10 : Int), AV.int IntKind.i64 (5 : Int), AV.int IntKind.i64 (8000 : Int)]] ∧ [[AV.int IntKind.i64 a], [AV.int IntKind.i64 (IntKind.i64.wrap (n_4 + v))], [AV.int
  IntKind.i64 (IntKind.i64.wrap (n_4 - (1 : Int)))], [AV.int IntKind.i64 (IntKind.i64.wrap (n_4 + IntKind.i64.wrap (n_3 * IntKind.i64.wrap (IntKind.i64.wrap ((1 : Int) * (2 : Int) ^
  min (IntKind.u64.wrap n_2).toNat (64 : Nat)) - (1 : Int)))))]] = [[AV.int IntKind.i64 a], [AV.int IntKind.i64 (IntKind.i64.wrap (n_4 + v))], [AV.int IntKind.i64 (IntKind.i64.wrap
  (n_4 - (1 : Int)))], [AV.int IntKind.i64 (IntKind.i64.wrap (n_4 + IntKind.i64.wrap (n_3 * IntKind.i64.wrap (IntKind.i64.wrap ((1 : Int) * (2 : Int) ^ min (IntKind.u64.wrap
  n_2).toNat (64 : Nat)) - (1 : Int)))))]] ∧ True else True ∧ bif !decB n_5 n_6 n_7 n_8 n_9 (encN n_5 n_6 n_7 n_8 n_9 n_10) then false = true else bif decide (n_10 < decV n_5 n_6 n_7
  n_8 n_9 (encN n_5 n_6 n_7 n_8 n_9 n_10)) then false = true else bif decide (n_8 ≤ IntKind.i64.wrap (n_10 - decV n_5 n_6 n_7 n_8 n_9 (encN n_5 n_6 n_7 n_8 n_9 n_10))) then false =
  true else ∃ y, NuK (4 : Int) y ∧ (nu9 [[AV.int IntKind.i64 c0, AV.int IntKind.i64 e0, AV.int IntKind.i64 w0, AV.int IntKind.i64 s0, AV.int IntKind.i64 l0], [AV.int IntKind.i64 n,
  AV.int IntKind.i64 n_1, AV.int IntKind.i64 n_2, AV.int IntKind.i64 n_3, AV.int IntKind.i64 n_4], [AV.int IntKind.i64 (7 : Int), AV.int IntKind.i64 (1 : Int), AV.int IntKind.i64 (10
  : Int), AV.int IntKind.i64 (5 : Int), AV.int IntKind.i64 (8000 : Int)]] [[AV.int IntKind.i64 a], [AV.int IntKind.i64 (IntKind.i64.wrap (n_4 + v))], [AV.int IntKind.i64
  (IntKind.i64.wrap (n_4 - (1 : Int)))], [AV.int IntKind.i64 (IntKind.i64.wrap (n_4 + IntKind.i64.wrap (n_3 * IntKind.i64.wrap (IntKind.i64.wrap ((1 : Int) * (2 : Int) ^ min
  (IntKind.u64.wrap n_2).toNat (64 : Nat)) - (1 : Int)))))]] (List.take (2000 : Nat) xs) a b (IntKind.i64.wrap (n_4 + v)) n n_1 n_2 n_3 n_4 x.fst x.snd n_5 n_6 n_7 n_8 n_9).m y <
  (nu9 [[AV.int IntKind.i64 c0, AV.int IntKind.i64 e0, AV.int IntKind.i64 w0, AV.int IntKind.i64 s0, AV.int IntKind.i64 l0], [AV.int IntKind.i64 n, AV.int IntKind.i64 n_1, AV.int
  IntKind.i64 n_2, AV.int IntKind.i64 n_3, AV.int IntKind.i64 n_4], [AV.int IntKind.i64 (7 : Int), AV.int IntKind.i64 (1 : Int), AV.int IntKind.i64 (10 : Int), AV.int IntKind.i64 (5
  : Int), AV.int IntKind.i64 (8000 : Int)]] [[AV.int IntKind.i64 a], [AV.int IntKind.i64 (IntKind.i64.wrap (n_4 + v))], [AV.int IntKind.i64 (IntKind.i64.wrap (n_4 - (1 : Int)))],
  [AV.int IntKind.i64 (IntKind.i64.wrap (n_4 + IntKind.i64.wrap (n_3 * IntKind.i64.wrap (IntKind.i64.wrap ((1 : Int) * (2 : Int) ^ min (IntKind.u64.wrap n_2).toNat (64 : Nat)) - (1 :
  Int)))))]] (List.take (2000 : Nat) xs) a b (IntKind.i64.wrap (n_4 + v)) n n_1 n_2 n_3 n_4 x.fst x.snd n_5 n_6 n_7 n_8 n_9).m x_1 ∧ (a = a ∧ b = b ∧ (0 : Nat) = (0 : Nat) ∧ (0 :
  Nat) = (0 : Nat) ∧ IntKind.i64.wrap (n_4 + v) = IntKind.i64.wrap (n_4 + v) ∧ (0 : Nat) = (0 : Nat) ∧ (3 : Nat) = (3 : Nat) ∧ (3 : Int) = (3 : Int) ∧ x.fst = x.fst ∧ (4 : Nat) = (4
  : Nat) ∧ (4 : Int) = (4 : Int) ∧ IntKind.i64.wrap (x_1 + (1 : Int)) = y ∧ True) ∧ ((True ∧ List.take (2000 : Nat) xs = List.take (2000 : Nat) xs) ∧ x.snd = x.snd ∧ True) ∧ (n = n ∧
  n_1 = n_1 ∧ n_2 = n_2 ∧ n_3 = n_3 ∧ n_4 = n_4 ∧ True) ∧ (n_5 = n_5 ∧ n_6 = n_6 ∧ n_7 = n_7 ∧ n_8 = n_8 ∧ n_9 = n_9 ∧ True) ∧ [[AV.int IntKind.i64 c0, AV.int IntKind.i64 e0, AV.int
  IntKind.i64 w0, AV.int IntKind.i64 s0, AV.int IntKind.i64 l0], [AV.int IntKind.i64 n, AV.int IntKind.i64 n_1, AV.int IntKind.i64 n_2, AV.int IntKind.i64 n_3, AV.int IntKind.i64
  n_4], [AV.int IntKind.i64 (7 : Int), AV.int IntKind.i64 (1 : Int), AV.int IntKind.i64 (10 : Int), AV.int IntKind.i64 (5 : Int), AV.int IntKind.i64 (8000 : Int)]] = [[AV.int
  IntKind.i64 c0, AV.int IntKind.i64 e0, AV.int IntKind.i64 w0, AV.int IntKind.i64 s0, AV.int IntKind.i64 l0], [AV.int IntKind.i64 n, AV.int IntKind.i64 n_1, AV.int IntKind.i64 n_2,
  AV.int IntKind.i64 n_3, AV.int IntKind.i64 n_4], [AV.int IntKind.i64 (7 : Int), AV.int IntKind.i64 (1 : Int), AV.int IntKind.i64 (10 : Int), AV.int IntKind.i64 (5 : Int), AV.int
  IntKind.i64 (8000 : Int)]] ∧ [[AV.int IntKind.i64 a], [AV.int IntKind.i64 (IntKind.i64.wrap (n_4 + v))], [AV.int IntKind.i64 (IntKind.i64.wrap (n_4 - (1 : Int)))], [AV.int
  IntKind.i64 (IntKind.i64.wrap (n_4 + IntKind.i64.wrap (n_3 * IntKind.i64.wrap (IntKind.i64.wrap ((1 : Int) * (2 : Int) ^ min (IntKind.u64.wrap n_2).toNat (64 : Nat)) - (1 :
  Int)))))]] = [[AV.int IntKind.i64 a], [AV.int IntKind.i64 (IntKind.i64.wrap (n_4 + v))], [AV.int IntKind.i64 (IntKind.i64.wrap (n_4 - (1 : Int)))], [AV.int IntKind.i64
  (IntKind.i64.wrap (n_4 + IntKind.i64.wrap (n_3 * IntKind.i64.wrap (IntKind.i64.wrap ((1 : Int) * (2 : Int) ^ min (IntKind.u64.wrap n_2).toNat (64 : Nat)) - (1 : Int)))))]] ∧ True
  else False else False else SrcQ (List.take (2000 : Nat) xs) x.snd ∧ ∀ (v_1 j : Int), NumQ (1048576 : Int) v_1 j → bif decide ((0 : Int) ≤ IntKind.u64.wrap n_2) then bif decide ((0
  : Int) ≤ IntKind.u64.wrap n_2) then (∃ x_2, NuK (4 : Int) x_2 ∧ (a = a ∧ b = b ∧ (0 : Nat) = (0 : Nat) ∧ (0 : Nat) = (0 : Nat) ∧ IntKind.i64.wrap (n_4 + v) = IntKind.i64.wrap (n_4
  + v) ∧ (0 : Nat) = (0 : Nat) ∧ (3 : Nat) = (3 : Nat) ∧ (3 : Int) = (3 : Int) ∧ x.fst = x.fst ∧ (4 : Nat) = (4 : Nat) ∧ (4 : Int) = (4 : Int) ∧ (0 : Int) = x_2 ∧ True) ∧ ((True ∧
  List.take (2000 : Nat) xs = List.take (2000 : Nat) xs) ∧ j = j ∧ True) ∧ (n = n ∧ n_1 = n_1 ∧ n_2 = n_2 ∧ n_3 = n_3 ∧ n_4 = n_4 ∧ True) ∧ (n_5 = n_5 ∧ n_6 = n_6 ∧ n_7 = n_7 ∧ n_8 =
  n_8 ∧ n_9 = n_9 ∧ True) ∧ [[AV.int IntKind.i64 c0, AV.int IntKind.i64 e0, AV.int IntKind.i64 w0, AV.int IntKind.i64 s0, AV.int IntKind.i64 l0], [AV.int IntKind.i64 n, AV.int
  IntKind.i64 n_1, AV.int IntKind.i64 n_2, AV.int IntKind.i64 n_3, AV.int IntKind.i64 n_4], [AV.int IntKind.i64 (7 : Int), AV.int IntKind.i64 (1 : Int), AV.int IntKind.i64 (10 :
  Int), AV.int IntKind.i64 (5 : Int), AV.int IntKind.i64 (8000 : Int)]] = [[AV.int IntKind.i64 c0, AV.int IntKind.i64 e0, AV.int IntKind.i64 w0, AV.int IntKind.i64 s0, AV.int
  IntKind.i64 l0], [AV.int IntKind.i64 n, AV.int IntKind.i64 n_1, AV.int IntKind.i64 n_2, AV.int IntKind.i64 n_3, AV.int IntKind.i64 n_4], [AV.int IntKind.i64 (7 : Int), AV.int
  IntKind.i64 (1 : Int), AV.int IntKind.i64 (10 : Int), AV.int IntKind.i64 (5 : Int), AV.int IntKind.i64 (8000 : Int)]] ∧ [[AV.int IntKind.i64 b], [AV.int IntKind.i64 v_1], [AV.int
  IntKind.i64 (IntKind.i64.wrap (IntKind.i64.wrap ((1 : Int) * (2 : Int) ^ min (IntKind.u64.wrap n_2).toNat (64 : Nat)) - (1 : Int)))], [AV.int IntKind.i64 (IntKind.i64.wrap
  (IntKind.i64.wrap ((1 : Int) * (2 : Int) ^ min (IntKind.u64.wrap n_2).toNat (64 : Nat)) - (2 : Int)))]] = [[AV.int IntKind.i64 b], [AV.int IntKind.i64 v_1], [AV.int IntKind.i64
  (IntKind.i64.wrap (IntKind.i64.wrap ((1 : Int) * (2 : Int) ^ min (IntKind.u64.wrap n_2).toNat (64 : Nat)) - (1 : Int)))], [AV.int IntKind.i64 (IntKind.i64.wrap (IntKind.i64.wrap
  ((1 : Int) * (2 : Int) ^ min (IntKind.u64.wrap n_2).toNat (64 : Nat)) - (2 : Int)))]] ∧ True) ∧ ∀ (x_2 : Int), NuK (4 : Int) x_2 → bif decide (x_2 < (4 : Int)) then bif decide ((0
  : Int) ≤ x_2 ∧ x_2 < (4 : Int)) then bif decide ((4 : Nat) = [[AV.int IntKind.i64 b], [AV.int IntKind.i64 v_1], [AV.int IntKind.i64 (IntKind.i64.wrap (IntKind.i64.wrap ((1 : Int) *
  (2 : Int) ^ min (IntKind.u64.wrap n_2).toNat (64 : Nat)) - (1 : Int)))], [AV.int IntKind.i64 (IntKind.i64.wrap (IntKind.i64.wrap ((1 : Int) * (2 : Int) ^ min (IntKind.u64.wrap
  n_2).toNat (64 : Nat)) - (2 : Int)))]].length ∧ x_2.toNat < [[AV.int IntKind.i64 b], [AV.int IntKind.i64 v_1], [AV.int IntKind.i64 (IntKind.i64.wrap (IntKind.i64.wrap ((1 : Int) *
  (2 : Int) ^ min (IntKind.u64.wrap n_2).toNat (64 : Nat)) - (1 : Int)))], [AV.int IntKind.i64 (IntKind.i64.wrap (IntKind.i64.wrap ((1 : Int) * (2 : Int) ^ min (IntKind.u64.wrap
  n_2).toNat (64 : Nat)) - (2 : Int)))]].length) then ∃ n_10, List.take [AV.int IntKind.i64 n_10].length (List.drop (0 : Nat) ([[AV.int IntKind.i64 b], [AV.int IntKind.i64 v_1],
  [AV.int IntKind.i64 (IntKind.i64.wrap (IntKind.i64.wrap ((1 : Int) * (2 : Int) ^ min (IntKind.u64.wrap n_2).toNat (64 : Nat)) - (1 : Int)))], [AV.int IntKind.i64 (IntKind.i64.wrap
  (IntKind.i64.wrap ((1 : Int) * (2 : Int) ^ min (IntKind.u64.wrap n_2).toNat (64 : Nat)) - (2 : Int)))]].getD x_2.toNat [])) = [AV.int IntKind.i64 n_10] ∧ True ∧ True ∧ bif decide
  ¬decV n_5 n_6 n_7 n_8 n_9 n_10 = decV n_5 n_6 n_7 n_8 n_9 n_10 then false = true else bif !decide (decB n_5 n_6 n_7 n_8 n_9 n_10 = decB n_5 n_6 n_7 n_8 n_9 n_10) then false = true
  else True ∧ bif decB n_5 n_6 n_7 n_8 n_9 n_10 then bif decide ¬encE n_5 n_6 n_7 n_8 n_9 (decV n_5 n_6 n_7 n_8 n_9 n_10) = (0 : Int) then false = true else bif decide ¬encN n_5 n_6
  n_7 n_8 n_9 (decV n_5 n_6 n_7 n_8 n_9 n_10) = n_10 then false = true else ∃ y, NuK (4 : Int) y ∧ (nu21 [[AV.int IntKind.i64 c0, AV.int IntKind.i64 e0, AV.int IntKind.i64 w0, AV.int
  IntKind.i64 s0, AV.int IntKind.i64 l0], [AV.int IntKind.i64 n, AV.int IntKind.i64 n_1, AV.int IntKind.i64 n_2, AV.int IntKind.i64 n_3, AV.int IntKind.i64 n_4], [AV.int IntKind.i64
  (7 : Int), AV.int IntKind.i64 (1 : Int), AV.int IntKind.i64 (10 : Int), AV.int IntKind.i64 (5 : Int), AV.int IntKind.i64 (8000 : Int)]] [[AV.int IntKind.i64 b], [AV.int IntKind.i64
  v_1], [AV.int IntKind.i64 (IntKind.i64.wrap (IntKind.i64.wrap ((1 : Int) * (2 : Int) ^ min (IntKind.u64.wrap n_2).toNat (64 : Nat)) - (1 : Int)))], [AV.int IntKind.i64
  (IntKind.i64.wrap (IntKind.i64.wrap ((1 : Int) * (2 : Int) ^ min (IntKind.u64.wrap n_2).toNat (64 : Nat)) - (2 : Int)))]] (List.take (2000 : Nat) xs) a b (IntKind.i64.wrap (n_4 +
  v)) n n_1 n_2 n_3 n_4 x.fst j n_5 n_6 n_7 n_8 n_9).m y < (nu21 [[AV.int IntKind.i64 c0, AV.int IntKind.i64 e0, AV.int IntKind.i64 w0, AV.int IntKind.i64 s0, AV.int IntKind.i64 l0],
  [AV.int IntKind.i64 n, AV.int IntKind.i64 n_1, AV.int IntKind.i64 n_2, AV.int IntKind.i64 n_3, AV.int IntKind.i64 n_4], [AV.int IntKind.i64 (7 : Int), AV.int IntKind.i64 (1 : Int),
  AV.int IntKind.i64 (10 : Int), AV.int IntKind.i64 (5 : Int), AV.int IntKind.i64 (8000 : Int)]] [[AV.int IntKind.i64 b], [AV.int IntKind.i64 v_1], [AV.int IntKind.i64
  (IntKind.i64.wrap (IntKind.i64.wrap ((1 : Int) * (2 : Int) ^ min (IntKind.u64.wrap n_2).toNat (64 : Nat)) - (1 : Int)))], [AV.int IntKind.i64 (IntKind.i64.wrap (IntKind.i64.wrap
  ((1 : Int) * (2 : Int) ^ min (IntKind.u64.wrap n_2).toNat (64 : Nat)) - (2 : Int)))]] (List.take (2000 : Nat) xs) a b (IntKind.i64.wrap (n_4 + v)) n n_1 n_2 n_3 n_4 x.fst j n_5 n_6
  n_7 n_8 n_9).m x_2 ∧ (a = a ∧ b = b ∧ (0 : Nat) = (0 : Nat) ∧ (0 : Nat) = (0 : Nat) ∧ IntKind.i64.wrap (n_4 + v) = IntKind.i64.wrap (n_4 + v) ∧ (0 : Nat) = (0 : Nat) ∧ (3 : Nat) =
  (3 : Nat) ∧ (3 : Int) = (3 : Int) ∧ x.fst = x.fst ∧ (4 : Nat) = (4 : Nat) ∧ (4 : Int) = (4 : Int) ∧ IntKind.i64.wrap (x_2 + (1 : Int)) = y ∧ True) ∧ ((True ∧ List.take (2000 : Nat)
  xs = List.take (2000 : Nat) xs) ∧ j = j ∧ True) ∧ (n = n ∧ n_1 = n_1 ∧ n_2 = n_2 ∧ n_3 = n_3 ∧ n_4 = n_4 ∧ True) ∧ (n_5 = n_5 ∧ n_6 = n_6 ∧ n_7 = n_7 ∧ n_8 = n_8 ∧ n_9 = n_9 ∧
  True) ∧ [[AV.int IntKind.i64 c0, AV.int IntKind.i64 e0, AV.int IntKind.i64 w0, AV.int IntKind.i64 s0, AV.int IntKind.i64 l0], [AV.int IntKind.i64 n, AV.int IntKind.i64 n_1, AV.int
  IntKind.i64 n_2, AV.int IntKind.i64 n_3, AV.int IntKind.i64 n_4], [AV.int IntKind.i64 (7 : Int), AV.int IntKind.i64 (1 : Int), AV.int IntKind.i64 (10 : Int), AV.int IntKind.i64 (5
  : Int), AV.int IntKind.i64 (8000 : Int)]] = [[AV.int IntKind.i64 c0, AV.int IntKind.i64 e0, AV.int IntKind.i64 w0, AV.int IntKind.i64 s0, AV.int IntKind.i64 l0], [AV.int
  IntKind.i64 n, AV.int IntKind.i64 n_1, AV.int IntKind.i64 n_2, AV.int IntKind.i64 n_3, AV.int IntKind.i64 n_4], [AV.int IntKind.i64 (7 : Int), AV.int IntKind.i64 (1 : Int), AV.int
  IntKind.i64 (10 : Int), AV.int IntKind.i64 (5 : Int), AV.int IntKind.i64 (8000 : Int)]] ∧ [[AV.int IntKind.i64 b], [AV.int IntKind.i64 v_1], [AV.int IntKind.i64 (IntKind.i64.wrap
  (IntKind.i64.wrap ((1 : Int) * (2 : Int) ^ min (IntKind.u64.wrap n_2).toNat (64 : Nat)) - (1 : Int)))], [AV.int IntKind.i64 (IntKind.i64.wrap (IntKind.i64.wrap ((1 : Int) * (2 :
  Int) ^ min (IntKind.u64.wrap n_2).toNat (64 : Nat)) - (2 : Int)))]] = [[AV.int IntKind.i64 b], [AV.int IntKind.i64 v_1], [AV.int IntKind.i64 (IntKind.i64.wrap (IntKind.i64.wrap ((1
  : Int) * (2 : Int) ^ min (IntKind.u64.wrap n_2).toNat (64 : Nat)) - (1 : Int)))], [AV.int IntKind.i64 (IntKind.i64.wrap (IntKind.i64.wrap ((1 : Int) * (2 : Int) ^ min
  (IntKind.u64.wrap n_2).toNat (64 : Nat)) - (2 : Int)))]] ∧ True else ∃ y, NuK (4 : Int) y ∧ (nu21 [[AV.int IntKind.i64 c0, AV.int IntKind.i64 e0, AV.int IntKind.i64 w0, AV.int
  IntKind.i64 s0, AV.int IntKind.i64 l0], [AV.int IntKind.i64 n, AV.int IntKind.i64 n_1, AV.int IntKind.i64 n_2, AV.int IntKind.i64 n_3, AV.int IntKind.i64 n_4], [AV.int IntKind.i64
  (7 : Int), AV.int IntKind.i64 (1 : Int), AV.int IntKind.i64 (10 : Int), AV.int IntKind.i64 (5 : Int), AV.int IntKind.i64 (8000 : Int)]] [[AV.int IntKind.i64 b], [AV.int IntKind.i64
  v_1], [AV.int IntKind.i64 (IntKind.i64.wrap (IntKind.i64.wrap ((1 : Int) * (2 : Int) ^ min (IntKind.u64.wrap n_2).toNat (64 : Nat)) - (1 : Int)))], [AV.int IntKind.i64
  (IntKind.i64.wrap (IntKind.i64.wrap ((1 : Int) * (2 : Int) ^ min (IntKind.u64.wrap n_2).toNat (64 : Nat)) - (2 : Int)))]] (List.take (2000 : Nat) xs) a b (IntKind.i64.wrap (n_4 +
  v)) n n_1 n_2 n_3 n_4 x.fst j n_5 n_6 n_7 n_8 n_9).m y < (nu21 [[AV.int IntKind.i64 c0, AV.int IntKind.i64 e0, AV.int IntKind.i64 w0, AV.int IntKind.i64 s0, AV.int IntKind.i64 l0],
  [AV.int IntKind.i64 n, AV.int IntKind.i64 n_1, AV.int IntKind.i64 n_2, AV.int IntKind.i64 n_3, AV.int IntKind.i64 n_4], [AV.int IntKind.i64 (7 : Int), AV.int IntKind.i64 (1 : Int),
  AV.int IntKind.i64 (10 : Int), AV.int IntKind.i64 (5 : Int), AV.int IntKind.i64 (8000 : Int)]] [[AV.int IntKind.i64 b], [AV.int IntKind.i64 v_1], [AV.int IntKind.i64
  (IntKind.i64.wrap (IntKind.i64.wrap ((1 : Int) * (2 : Int) ^ min (IntKind.u64.wrap n_2).toNat (64 : Nat)) - (1 : Int)))], [AV.int IntKind.i64 (IntKind.i64.wrap (IntKind.i64.wrap
  ((1 : Int) * (2 : Int) ^ min (IntKind.u64.wrap n_2).toNat (64 : Nat)) - (2 : Int)))]] (List.take (2000 : Nat) xs) a b (IntKind.i64.wrap (n_4 + v)) n n_1 n_2 n_3 n_4 x.fst j n_5 n_6
  n_7 n_8 n_9).m x_2 ∧ (a = a ∧ b = b ∧ (0 : Nat) = (0 : Nat) ∧ (0 : Nat) = (0 : Nat) ∧ IntKind.i64.wrap (n_4 + v) = IntKind.i64.wrap (n_4 + v) ∧ (0 : Nat) = (0 : Nat) ∧ (3 : Nat) =
  (3 : Nat) ∧ (3 : Int) = (3 : Int) ∧ x.fst = x.fst ∧ (4 : Nat) = (4 : Nat) ∧ (4 : Int) = (4 : Int) ∧ IntKind.i64.wrap (x_2 + (1 : Int)) = y ∧ True) ∧ ((True ∧ List.take (2000 : Nat)
  xs = List.take (2000 : Nat) xs) ∧ j = j ∧ True) ∧ (n = n ∧ n_1 = n_1 ∧ n_2 = n_2 ∧ n_3 = n_3 ∧ n_4 = n_4 ∧ True) ∧ (n_5 = n_5 ∧ n_6 = n_6 ∧ n_7 = n_7 ∧ n_8 = n_8 ∧ n_9 = n_9 ∧
  True) ∧ [[AV.int IntKind.i64 c0, AV.int IntKind.i64 e0, AV.int IntKind.i64 w0, AV.int IntKind.i64 s0, AV.int IntKind.i64 l0], [AV.int IntKind.i64 n, AV.int IntKind.i64 n_1, AV.int
  IntKind.i64 n_2, AV.int IntKind.i64 n_3, AV.int IntKind.i64 n_4], [AV.int IntKind.i64 (7 : Int), AV.int IntKind.i64 (1 : Int), AV.int IntKind.i64 (10 : Int), AV.int IntKind.i64 (5
  : Int), AV.int IntKind.i64 (8000 : Int)]] = [[AV.int IntKind.i64 c0, AV.int IntKind.i64 e0, AV.int IntKind.i64 w0, AV.int IntKind.i64 s0, AV.int IntKind.i64 l0], [AV.int
  IntKind.i64 n, AV.int IntKind.i64 n_1, AV.int IntKind.i64 n_2, AV.int IntKind.i64 n_3, AV.int IntKind.i64 n_4], [AV.int IntKind.i64 (7 : Int), AV.int IntKind.i64 (1 : Int), AV.int
  IntKind.i64 (10 : Int), AV.int IntKind.i64 (5 : Int), AV.int IntKind.i64 (8000 : Int)]] ∧ [[AV.int IntKind.i64 b], [AV.int IntKind.i64 v_1], [AV.int IntKind.i64 (IntKind.i64.wrap
  (IntKind.i64.wrap ((1 : Int) * (2 : Int) ^ min (IntKind.u64.wrap n_2).toNat (64 : Nat)) - (1 : Int)))], [AV.int IntKind.i64 (IntKind.i64.wrap (IntKind.i64.wrap ((1 : Int) * (2 :
  Int) ^ min (IntKind.u64.wrap n_2).toNat (64 : Nat)) - (2 : Int)))]] = [[AV.int IntKind.i64 b], [AV.int IntKind.i64 v_1], [AV.int IntKind.i64 (IntKind.i64.wrap (IntKind.i64.wrap ((1
  : Int) * (2 : Int) ^ min (IntKind.u64.wrap n_2).toNat (64 : Nat)) - (1 : Int)))], [AV.int IntKind.i64 (IntKind.i64.wrap (IntKind.i64.wrap ((1 : Int) * (2 : Int) ^ min
  (IntKind.u64.wrap n_2).toNat (64 : Nat)) - (2 : Int)))]] ∧ True else False else False else ∃ y, NuQ (3 : Int) y ∧ (nu6 [[AV.int IntKind.i64 c0, AV.int IntKind.i64 e0, AV.int
  IntKind.i64 w0, AV.int IntKind.i64 s0, AV.int IntKind.i64 l0], [AV.int IntKind.i64 n, AV.int IntKind.i64 n_1, AV.int IntKind.i64 n_2, AV.int IntKind.i64 n_3, AV.int IntKind.i64
  n_4], [AV.int IntKind.i64 (7 : Int), AV.int IntKind.i64 (1 : Int), AV.int IntKind.i64 (10 : Int), AV.int IntKind.i64 (5 : Int), AV.int IntKind.i64 (8000 : Int)]] (List.take (2000 :
  Nat) xs) a b (IntKind.i64.wrap (n_4 + v)) n n_1 n_2 n_3 n_4).m y < (nu6 [[AV.int IntKind.i64 c0, AV.int IntKind.i64 e0, AV.int IntKind.i64 w0, AV.int IntKind.i64 s0, AV.int
  IntKind.i64 l0], [AV.int IntKind.i64 n, AV.int IntKind.i64 n_1, AV.int IntKind.i64 n_2, AV.int IntKind.i64 n_3, AV.int IntKind.i64 n_4], [AV.int IntKind.i64 (7 : Int), AV.int
  IntKind.i64 (1 : Int), AV.int IntKind.i64 (10 : Int), AV.int IntKind.i64 (5 : Int), AV.int IntKind.i64 (8000 : Int)]] (List.take (2000 : Nat) xs) a b (IntKind.i64.wrap (n_4 + v)) n
  n_1 n_2 n_3 n_4).m x ∧ (a = a ∧ b = b ∧ (0 : Nat) = (0 : Nat) ∧ (0 : Nat) = (0 : Nat) ∧ IntKind.i64.wrap (n_4 + v) = IntKind.i64.wrap (n_4 + v) ∧ (3 : Nat) = (3 : Nat) ∧ (3 : Int)
  = (3 : Int) ∧ IntKind.i64.wrap (x.fst + (1 : Int)) = y.fst ∧ True) ∧ ((True ∧ List.take (2000 : Nat) xs = List.take (2000 : Nat) xs) ∧ j = y.snd ∧ True) ∧ (n = n ∧ n_1 = n_1 ∧ n_2
  = n_2 ∧ n_3 = n_3 ∧ n_4 = n_4 ∧ True) ∧ [[AV.int IntKind.i64 c0, AV.int IntKind.i64 e0, AV.int IntKind.i64 w0, AV.int IntKind.i64 s0, AV.int IntKind.i64 l0], [AV.int IntKind.i64 n,
  AV.int IntKind.i64 n_1, AV.int IntKind.i64 n_2, AV.int IntKind.i64 n_3, AV.int IntKind.i64 n_4], [AV.int IntKind.i64 (7 : Int), AV.int IntKind.i64 (1 : Int), AV.int IntKind.i64 (10
  : Int), AV.int IntKind.i64 (5 : Int), AV.int IntKind.i64 (8000 : Int)]] = [[AV.int IntKind.i64 c0, AV.int IntKind.i64 e0, AV.int IntKind.i64 w0, AV.int IntKind.i64 s0, AV.int
  IntKind.i64 l0], [AV.int IntKind.i64 n, AV.int IntKind.i64 n_1, AV.int IntKind.i64 n_2, AV.int IntKind.i64 n_3, AV.int IntKind.i64 n_4], [AV.int IntKind.i64 (7 : Int), AV.int
  IntKind.i64 (1 : Int), AV.int IntKind.i64 (10 : Int), AV.int IntKind.i64 (5 : Int), AV.int IntKind.i64 (8000 : Int)]] ∧ True else False else False else False else False else False
  else True ∧ true = true else False else False
set_option maxRecDepth 100000 in
theorem lnum_P : lnum_T encN encE decV decB := by
  unfold lnum_T
  intro xs c0 e0 w0 s0 l0 a b hz _ _ _ _
  have hs : SrcI (List.take 2000 xs) := SrcI.take hz
  have wu : ∀ z : Int, 0 ≤ IntKind.u64.wrap z := fun z => (wrap_rng .u64 z).1
  refine ⟨trivial, ⟨hs, by decide⟩, fun es ss j t => ⟨⟨hs, t.fj⟩, fun v j q1 => ?_⟩⟩
  have hl := t.fl
  have hv := q1.fv (by omega)
  obtain ⟨w, sc, hr, _⟩ := t.fe.fr v.toNat (by omega)
  refine csn (fun _ => ⟨_, _, w, sc, _, by rw [hr]; rfl, csn (fun _ => ⟨⟨hs, q1.fj⟩, fun v2 j q2 => ⟨trivial, ⟨(0, j), ⟨by simp, by simp, q2.fj⟩, ⟨rfl, rfl, rfl, rfl, rfl, rfl, rfl, rfl, trivial⟩, ⟨⟨trivial, rfl⟩, rfl, trivial⟩, ⟨rfl, rfl, rfl, rfl, rfl, trivial⟩, rfl, trivial⟩, ?_⟩⟩) (fun h => absurd (wu w) h)⟩) (fun h => absurd ⟨hv.1, by omega⟩ h)
  have hj := q2.fj
  clear q1 q2 hr
  generalize (100 * (((v.toNat : Nat) : Int) + 1)) = c1
  generalize (((v.toNat : Nat) : Int) + 1) = e1
  generalize inLo e1 = l1
  rintro ⟨i, j⟩ ⟨i0, i1, hj⟩
  simp only at i0 i1 hj
  dsimp only
  refine csn (fun hi => cd1 (by omega) (cd1 ⟨rfl, by show _ < 3; omega⟩ ?_)) (fun hi => ⟨trivial, rfl⟩)
  obtain ⟨c, e, w', sc', l, hR⟩ := row3 c0 e0 w0 s0 l0 c1 e1 w sc l1 7 1 10 5 8000 (k := i.toNat) (by omega)
  refine ⟨c, e, w', sc', l, by rw [hR]; rfl, csn (fun _ => ⟨⟨0, ⟨by simp, by simp⟩, ⟨rfl, rfl, rfl, rfl, rfl, rfl, rfl, rfl, rfl, rfl, rfl, rfl, trivial⟩, ⟨⟨trivial, rfl⟩, rfl, trivial⟩, ⟨rfl, rfl, rfl, rfl, rfl, trivial⟩, ⟨rfl, rfl, rfl, rfl, rfl, trivial⟩, rfl, rfl, trivial⟩, ?_⟩) (fun h => absurd (wu w) h)⟩
  have ei : IntKind.i64.wrap (i + 1) = i + 1 := wrap_eq (by show _ ∧ _; omega)
  rintro k ⟨k0, k1⟩
  have ek : IntKind.i64.wrap (k + 1) = k + 1 := wrap_eq (by show _ ∧ _; omega)
  refine csn (fun hk => cd1 (by omega) (cd1 ⟨rfl, by show _ < 4; omega⟩ ?_)) (fun hk => ⟨⟨hs, hj⟩, fun v3 j q3 => csn (fun _ => csn (fun _ => ?_) (fun h => absurd (wu w) h)) (fun h => absurd (wu w) h)⟩)
  · obtain ⟨y, hK⟩ := row4 a (IntKind.i64.wrap (l1 + v2)) (IntKind.i64.wrap (l1 - 1)) (IntKind.i64.wrap (l1 + IntKind.i64.wrap (sc * IntKind.i64.wrap (IntKind.i64.wrap (1 * 2 ^ min (IntKind.u64.wrap w).toNat 64) - 1)))) (k := k.toNat) (by omega)
    have nx : ∀ {A : Prop}, A → A := fun h => h
    refine ⟨y, by rw [hK]; rfl, trivial, trivial, csn (fun q => absurd rfl q) (fun _ => csn (fun q => absurd rfl q) (fun _ => csn (fun h => ?_) (fun h => ?_)))⟩
    · exact ⟨k + 1, ⟨by omega, by omega⟩, by simp only [nu9]; omega, ⟨rfl, rfl, rfl, rfl, rfl, rfl, rfl, rfl, rfl, rfl, rfl, ek, trivial⟩, ⟨⟨trivial, rfl⟩, rfl, trivial⟩, ⟨rfl, rfl, rfl, rfl, rfl, trivial⟩, ⟨rfl, rfl, rfl, rfl, rfl, trivial⟩, rfl, rfl, trivial⟩
    · have hb : encB c e w' sc' l y = true := by
        cases hq : encB c e w' sc' l y with
        | true => rfl
        | false => exact absurd (by unfold encE; rw [hq]; decide) h
      obtain ⟨d1, d2, d3, d4⟩ := enc_dec hb
      rw [d1]
      have ew : IntKind.i64.wrap (y - decV c e w' sc' l (encN c e w' sc' l y)) = y - decV c e w' sc' l (encN c e w' sc' l y) := wrap_eq (by show _ ∧ _; omega)
      rw [ew]
      exact ⟨trivial, csn (fun q => absurd q (by omega)) (fun _ => csn (fun q => absurd q (by omega)) (fun _ => ⟨k + 1, ⟨by omega, by omega⟩, by simp only [nu9]; omega, ⟨rfl, rfl, rfl, rfl, rfl, rfl, rfl, rfl, rfl, rfl, rfl, ek, trivial⟩, ⟨⟨trivial, rfl⟩, rfl, trivial⟩, ⟨rfl, rfl, rfl, rfl, rfl, trivial⟩, ⟨rfl, rfl, rfl, rfl, rfl, trivial⟩, rfl, rfl, trivial⟩))⟩
  · refine ⟨⟨0, ⟨by simp, by simp⟩, ⟨rfl, rfl, rfl, rfl, rfl, rfl, rfl, rfl, rfl, rfl, rfl, rfl, trivial⟩, ⟨⟨trivial, rfl⟩, rfl, trivial⟩, ⟨rfl, rfl, rfl, rfl, rfl, trivial⟩, ⟨rfl, rfl, rfl, rfl, rfl, trivial⟩, rfl, rfl, trivial⟩, ?_⟩
    have hj := q3.fj
    clear q3 hk k0 k1 ek
    rintro k ⟨k0, k1⟩
    have ek : IntKind.i64.wrap (k + 1) = k + 1 := wrap_eq (by show _ ∧ _; omega)
    refine csn (fun hk => cd1 (by omega) (cd1 ⟨rfl, by show _ < 4; omega⟩ ?_)) (fun hk => ⟨(i + 1, j), ⟨by simp only; omega, by simp only; omega, hj⟩, by simp only [nu6]; omega, ⟨rfl, rfl, rfl, rfl, rfl, rfl, rfl, ei, trivial⟩, ⟨⟨trivial, rfl⟩, rfl, trivial⟩, ⟨rfl, rfl, rfl, rfl, rfl, trivial⟩, rfl, trivial⟩)
    obtain ⟨y, hK⟩ := row4 b v3 (IntKind.i64.wrap (IntKind.i64.wrap (1 * 2 ^ min (IntKind.u64.wrap w).toNat 64) - 1)) (IntKind.i64.wrap (IntKind.i64.wrap (1 * 2 ^ min (IntKind.u64.wrap w).toNat 64) - 2)) (k := k.toNat) (by omega)
    refine ⟨y, by rw [hK]; rfl, trivial, trivial, csn (fun q => absurd rfl q) (fun _ => csplit (fun q => by simp at q) (fun _ => ⟨trivial, csplit (fun hb => ?_) (fun hb => ?_)⟩))⟩
    · obtain ⟨d1, d2⟩ := dec_enc hb
      rw [d1, d2]
      exact csn (fun q => absurd rfl q) (fun _ => csn (fun q => absurd rfl q) (fun _ => ⟨k + 1, ⟨by omega, by omega⟩, by simp only [nu21]; omega, ⟨rfl, rfl, rfl, rfl, rfl, rfl, rfl, rfl, rfl, rfl, rfl, ek, trivial⟩, ⟨⟨trivial, rfl⟩, rfl, trivial⟩, ⟨rfl, rfl, rfl, rfl, rfl, trivial⟩, ⟨rfl, rfl, rfl, rfl, rfl, trivial⟩, rfl, rfl, trivial⟩))
    · exact ⟨k + 1, ⟨by omega, by omega⟩, by simp only [nu21]; omega, ⟨rfl, rfl, rfl, rfl, rfl, rfl, rfl, rfl, rfl, rfl, rfl, ek, trivial⟩, ⟨⟨trivial, rfl⟩, rfl, trivial⟩, ⟨rfl, rfl, rfl, rfl, rfl, trivial⟩, ⟨rfl, rfl, rfl, rfl, rfl, trivial⟩, rfl, rfl, trivial⟩
def lnum_S (encN : Int → Int → Int → Int → Int → Int → Int) (encE : Int → Int → Int → Int → Int → Int → Int) (decV : Int → Int → Int → Int → Int → Int → Int) (decB : Int → Int → Int → Int → Int → Int → Bool) : Prop := ∀ (xs : List (List AV)) (c0 e0 w0 s0 l0 a b : Int), IntsA xs → fnK Tryd.prog { glob := glb, spec := lk [(11, tseven_s), (12, (tencode_s encN encE)), (13, (rencode_s encN encE)), (14, (tdecode_s decV decB)), (15, (rdecode_s decV decB)), (16, tawake_s)], specH := lk [(8, newsrc_s)], specQ := lk [(9, qtable_s), (10, qn_s)], shape := [43, 63, 85, 148], nowf := true, wrap := true } { nt := 188, drop := drp [(1, 6442450944), (2, 25769803776), (3, 17557826306048), (4, 36011204832919552), (5, 252201579132747776), (7, 13835058055282163712), (8, 1208907372870555465154560), (10, 58028439341502200385896448), (11, 4874388904686184832415301632), (12, 311960889899915829274579304448), (13, 40247906557246283497520326770688), (15, 81129638414606681695789005144064), (16, 20444668880480883787338829296304128), (17, 340261597733504324152860485446451331072), (19, 680564733841876926926749214863536422912), (20, 11149011469797627816914005637894453680144384), (22, 535217884764734955396857238543560676143529984), (23, 44958302320237736253336008037659096796056518656), (24, 2877331348495215120213504514410182194947617193984), (25, 371221415882049341223735947509935886992606865915904), (27, 47142196813745604529578057964096425082021760106233856), (28, 24472038168202162706909854089806499775911740357369397248), (30, 49039857307708443467467104868809893875799651909875269632), (31, 98079714615416886934934209737619787751599303819750539264), (32, 196159429230833773869868419475239575503198607639501078528)] } (nuJ) 6 Tryd.f3 [.agg [.int .i64 c0, .int .i64 e0, .int .i64 w0, .int .i64 s0, .int .i64 l0], .int .i64 a, .int .i64 b, .sl 1 false xs] (.bool true)
set_option maxRecDepth 100000 in
theorem lnum_e (encN : Int → Int → Int → Int → Int → Int → Int) (encE : Int → Int → Int → Int → Int → Int → Int) (decV : Int → Int → Int → Int → Int → Int → Int) (decB : Int → Int → Int → Int → Int → Int → Bool) : lnum_T encN encE decV decB = lnum_S encN encE decV decB := by kernel_rfl
theorem lnum_v : lnum_S encN encE decV decB := @Eq.mp (lnum_T encN encE decV decB) (lnum_S encN encE decV decB) (lnum_e encN encE decV decB) (lnum_P)
theorem lnum_ok : SOK Tryd.prog glb 3 lnum_s := by
  refine ⟨fok Tryd.func3 (by kernel_rfl) (by kernel_rfl), ?_⟩
  intro xs pre r h hp
  unfold lnum_s at h
  split at h
  · simp only [Option.some.injEq, Prod.mk.injEq] at h
    obtain ⟨h1, h2⟩ := h
    subst h1 h2
    exact fnK_sound tyNil (by exact specOK rfl rfl ⟨(tseven_ok glb), (tencode_ok), (rencode_ok), (tdecode_ok), (rdecode_ok), (tawake_ok), trivial⟩ ⟨(newsrc_ok glb), trivial⟩ (d := qsOf rfl ⟨(qtable_ok), (qn_ok glb), trivial⟩)) (by kernel_rfl) Tryd.func3 rfl (lnum_v  _ _ _ _ _ _ _ _ hp)
  · cases h
end Go.Proofs.YthdfkiopppkfcaaDoor
