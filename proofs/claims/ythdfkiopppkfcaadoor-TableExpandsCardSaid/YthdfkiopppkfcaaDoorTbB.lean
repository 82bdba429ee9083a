/- Tables: entries and sequences as rows; two codes alike. -/
import Derived.Test.YthdfkiopppkfcaaDoorTbA
namespace Go.Proofs.YthdfkiopppkfcaaDoor
open Go
set_option linter.unusedVariables false
set_option linter.unusedSimpArgs false

structure EnsP (es : List (List AV)) : Prop where
  fr : ∀ i, i < es.length → ∃ c e w sc l : Int, es.getD i [] = [.int .i64 c, .int .i64 e, .int .i64 w, .int .i64 sc, .int .i64 l] ∧ rng .i64 c ∧ rng .i64 e ∧ rng .i64 w ∧ rng .i64 sc ∧ rng .i64 l
  fl : es.length ≤ 9223372036854775807
structure CdsP (cs : List (List AV)) : Prop where
  fr : ∀ i, i < cs.length → ∃ c : Int, cs.getD i [] = [.int .i64 c] ∧ rng .i64 c
  fl : cs.length ≤ 9223372036854775807
structure SqsP (ss : List (List AV)) : Prop where
  fr : ∀ i, i < ss.length → ∃ (c : Int) (cs : List (List AV)), ss.getD i [] = [.int .i64 c, .sl 1 false cs] ∧ rng .i64 c ∧ CdsP cs
  fl : ss.length ≤ 9223372036854775807
/-- The first number of a row. -/
def hdI (r : List AV) : Int := match r with
  | .int _ n :: _ => n
  | _ => 0
def hds (xs : List (List AV)) : List Int := xs.map hdI
def mOf (l : List Int) : List (Int × AV) := l.foldl (fun m n => mPut m n (.bool true)) []
theorem mOf_snoc (l : List Int) (n : Int) : mOf (l ++ [n]) = mPut (mOf l) n (.bool true) := by simp [mOf]
theorem snocInd {α : Type} {P : List α → Prop} (h0 : P []) (h1 : ∀ l a, P l → P (l ++ [a])) (l : List α) : P l := by
  have key : ∀ l : List α, P l.reverse := by
    intro l
    induction l with
    | nil => exact h0
    | cons a l ih => rw [List.reverse_cons]; exact h1 _ _ ih
  have h := key l.reverse
  rwa [List.reverse_reverse] at h
theorem mGet_mOf : ∀ (l : List Int) (q : Int), (mGet (mOf l) q).isSome = decide (q ∈ l) := by
  refine snocInd (fun q => by simp [mOf, mGet]) fun l n ih => ?_
  · intro q
    rw [mOf_snoc, mGet_put]
    by_cases e : n = q
    · rw [if_pos e]; subst e; simp
    · rw [if_neg e, ih q]
      have : (q ∈ l ++ [n]) ↔ q ∈ l := by
        rw [List.mem_append, List.mem_singleton]
        exact ⟨fun h => h.resolve_right (fun h => e h.symm), .inl⟩
      exact decide_eq_decide.2 this.symm
theorem mOf_nd : ∀ (l : List Int), ((mOf l).map Prod.fst).Nodup := by
  refine snocInd (by simp [mOf]) fun l n ih => ?_
  rw [mOf_snoc]; exact mPut_nd ih n _
theorem mOf_len_snoc (l : List Int) (n : Int) : (mOf (l ++ [n])).length = (mOf l).length + (if n ∈ l then 0 else 1) := by
  rw [mOf_snoc]
  have h1 := mDel_len n (mOf_nd l)
  have h2 := mGet_mOf l n
  unfold mPut
  rw [List.length_cons]
  by_cases h : n ∈ l
  · rw [decide_eq_true h] at h2
    rw [h2] at h1
    simp only [cond_true] at h1
    rw [if_pos h]; omega
  · rw [decide_eq_false h] at h2
    rw [h2] at h1
    simp only [cond_false] at h1
    rw [if_neg h]; omega
theorem mOf_len : ∀ (l : List Int), (mOf l).length ≤ l.length ∧ ((mOf l).length = l.length ↔ l.Nodup) := by
  refine snocInd (by simp [mOf]) fun l n ih => ?_
  · rw [mOf_len_snoc, List.length_append, List.length_singleton]
    have hn : (l ++ [n]).Nodup ↔ l.Nodup ∧ n ∉ l := by
      rw [List.nodup_append]
      simp
      intro _
      constructor
      · intro h hm; exact h n hm rfl
      · intro h a ha e; subst e; exact h ha
    rw [hn]
    by_cases h : n ∈ l
    · rw [if_pos h]
      exact ⟨by omega, ⟨fun e => by omega, fun e => absurd h e.2⟩⟩
    · rw [if_neg h]
      exact ⟨by omega, ⟨fun e => ⟨ih.2.1 (by omega), h⟩, fun e => by have := ih.2.2 e.1; omega⟩⟩
/-- Two codes are alike. -/
def twB (es ss : List (List AV)) : Bool := decide (((mOf (hds es ++ hds ss)).length : Int) < (es.length : Int) + ss.length)
theorem twB_iff (es ss : List (List AV)) : twB es ss = true ↔ ¬ (hds es ++ hds ss).Nodup := by
  unfold twB
  rw [decide_eq_true_eq]
  have h := mOf_len (hds es ++ hds ss)
  have e : (hds es ++ hds ss).length = es.length + ss.length := by simp [hds]
  rw [e] at h
  rw [← h.2]
  omega
structure TwP (n : Nat) (x : Int) : Prop where
  flo : 0 ≤ x
  fhi : x ≤ n
def tw1I (es ss : List (List AV)) (v : Int) (f g : Bool) : LInv := ⟨Int, fun x => ⟨[(1, .ptr 1 0), (3, .mpv 8), (10, .sl 5 f es), (11, .int .i64 es.length), (12, .int .i64 x)], [(1, .cells [.int .i64 v, .sl 5 f es, .sl 2 g ss]), (8, .mp 3 4 (mOf (hds (es.take x.toNat))))]⟩, TwP es.length, fun x => (es.length - x).toNat, none⟩
def tw2I (es ss : List (List AV)) (v : Int) (f g : Bool) : LInv := ⟨Int, fun x => ⟨[(1, .ptr 1 0), (3, .mpv 8), (21, .sl 2 g ss), (22, .int .i64 ss.length), (23, .int .i64 x)], [(1, .cells [.int .i64 v, .sl 5 f es, .sl 2 g ss]), (8, .mp 3 4 (mOf (hds es ++ hds (ss.take x.toNat))))]⟩, TwP ss.length, fun x => (ss.length - x).toNat, none⟩
theorem hds_take {xs : List (List AV)} {i : Nat} (h : i < xs.length) : hds (xs.take (i + 1)) = hds (xs.take i) ++ [hdI (xs.getD i [])] := by
  have e : xs.getD i [] = xs[i] := by rw [List.getD_eq_getElem?_getD, List.getElem?_eq_getElem h]; rfl
  unfold hds
  rw [e, List.take_add_one, List.getElem?_eq_getElem h]
  simp only [Option.toList_some, List.map_append, List.map_cons, List.map_nil]
def twice_s (twB : List (List AV) → List (List AV) → Bool) : Sp
  | [.agg [.int .i64 v, .sl 5 f es, .sl 2 g ss]] => some ((EnsP es ∧ SqsP ss) ∧ es.length ≤ 40 ∧ ss.length ≤ 40, .bool (twB es ss))
  | _ => none
set_option maxRecDepth 100000 in
def twice_T (twB : List (List AV) → List (List AV) → Bool) : Prop :=
  ∀ (gl : Glob) (es ss : List (List AV)) (v : Int) (f g : Bool), (EnsP es ∧ SqsP ss) ∧ es.length ≤ (40 : Nat) ∧ ss.length ≤ (40 : Nat) → ((-9223372036854775808 : Int) ≤ v ∧ v ≤
  (9223372036854775807 : Int)) ∧ True ∧ True ∧ True → (∃ x, TwP es.length x ∧ ((0 : Nat) = (0 : Nat) ∧ True ∧ ((bif f then f = true else True) ∧ es = es) ∧ (↑es.length : Int) =
  (↑es.length : Int) ∧ (0 : Int) = x ∧ True) ∧ (v = v ∧ ((bif f then f = true else True) ∧ es = es) ∧ ((bif g then g = true else True) ∧ ss = ss) ∧ True) ∧ [] = mOf (hds (List.take
  (Int.toNat x) es)) ∧ True) ∧ ∀ (x : Int), TwP es.length x → bif decide (x < (↑es.length : Int)) then bif decide ((0 : Int) ≤ x ∧ x < (↑es.length : Int)) then ∃ n n_1 n_2 n_3 n_4,
  List.take [AV.int IntKind.i64 n, AV.int IntKind.i64 n_1, AV.int IntKind.i64 n_2, AV.int IntKind.i64 n_3, AV.int IntKind.i64 n_4].length (es.getD x.toNat []) = [AV.int IntKind.i64
  n, AV.int IntKind.i64 n_1, AV.int IntKind.i64 n_2, AV.int IntKind.i64 n_3, AV.int IntKind.i64 n_4] ∧ bif decide ((mOf (hds (List.take x.toNat es))).length ≤ (140737488355327 :
  Nat)) then bif decide (rng IntKind.i64 (x + (1 : Int))) then ∃ y, TwP es.length y ∧ (tw1I es ss v f g).m y < (tw1I es ss v f g).m x ∧ ((0 : Nat) = (0 : Nat) ∧ True ∧ ((bif f then f
  = true else True) ∧ es = es) ∧ (↑es.length : Int) = (↑es.length : Int) ∧ x + (1 : Int) = y ∧ True) ∧ (v = v ∧ ((bif f then f = true else True) ∧ es = es) ∧ ((bif g then g = true
  else True) ∧ ss = ss) ∧ True) ∧ mPut (mOf (hds (List.take x.toNat es))) n (AV.bool true) = mOf (hds (List.take (Int.toNat y) es)) ∧ True else False else False else False else (∃
  x_1, TwP ss.length x_1 ∧ ((0 : Nat) = (0 : Nat) ∧ True ∧ ((bif g then g = true else True) ∧ ss = ss) ∧ (↑ss.length : Int) = (↑ss.length : Int) ∧ (0 : Int) = x_1 ∧ True) ∧ (v = v ∧
  ((bif f then f = true else True) ∧ es = es) ∧ ((bif g then g = true else True) ∧ ss = ss) ∧ True) ∧ mOf (hds (List.take x.toNat es)) = mOf (hds es ++ hds (List.take (Int.toNat x_1)
  ss)) ∧ True) ∧ ∀ (x : Int), TwP ss.length x → bif decide (x < (↑ss.length : Int)) then bif decide ((0 : Int) ≤ x ∧ x < (↑ss.length : Int)) then ∃ n xs, List.take [AV.int
  IntKind.i64 n, AV.sl (1 : Nat) false xs].length (ss.getD x.toNat []) = [AV.int IntKind.i64 n, AV.sl (1 : Nat) false xs] ∧ bif decide ((mOf (hds es ++ hds (List.take x.toNat
  ss))).length ≤ (140737488355327 : Nat)) then bif decide (rng IntKind.i64 (x + (1 : Int))) then ∃ y, TwP ss.length y ∧ (tw2I es ss v f g).m y < (tw2I es ss v f g).m x ∧ ((0 : Nat) =
  (0 : Nat) ∧ True ∧ ((bif g then g = true else True) ∧ ss = ss) ∧ (↑ss.length : Int) = (↑ss.length : Int) ∧ x + (1 : Int) = y ∧ True) ∧ (v = v ∧ ((bif f then f = true else True) ∧
  es = es) ∧ ((bif g then g = true else True) ∧ ss = ss) ∧ True) ∧ mPut (mOf (hds es ++ hds (List.take x.toNat ss))) n (AV.bool true) = mOf (hds es ++ hds (List.take (Int.toNat y)
  ss)) ∧ True else False else False else False else bif decide ((mOf (hds es ++ hds (List.take x.toNat ss))).length ≤ (9223372036854775807 : Nat)) then bif decide (rng IntKind.i64
  ((↑es.length : Int) + (↑ss.length : Int))) then decide ((↑(mOf (hds es ++ hds (List.take x.toNat ss))).length : Int) < (↑es.length : Int) + (↑ss.length : Int)) = twB es ss else
  False else False
set_option maxRecDepth 100000 in
theorem twice_P : twice_T twB := by
  unfold twice_T
  intro gl es ss v f g ⟨⟨he, hs⟩, h1, h2⟩ hv
  have bf : cond f (f = true) True := by cases f <;> trivial
  have bg : cond g (g = true) True := by cases g <;> trivial
  have lm : ∀ l : List Int, l.length ≤ 80 → (mOf l).length ≤ 80 := fun l h => Nat.le_trans (mOf_len l).1 h
  have lh : ∀ xs : List (List AV), (hds xs).length = xs.length := fun xs => by simp [hds]
  refine ⟨⟨0, ⟨by decide, by omega⟩, ⟨rfl, trivial, ⟨bf, rfl⟩, rfl, rfl, trivial⟩, ⟨rfl, ⟨bf, rfl⟩, ⟨bg, rfl⟩, trivial⟩, rfl, trivial⟩, ?_⟩
  rintro i ⟨i0, i1⟩
  refine cs (fun hi => cd1 (by omega) ?_) (fun hi => ?_)
  · obtain ⟨c, e, w, sc, l, hr, _⟩ := he.fr i.toNat (by omega)
    have hm := lm (hds (es.take i.toNat)) (by rw [lh, List.length_take]; omega)
    have st : mPut (mOf (hds (es.take i.toNat))) c (.bool true) = mOf (hds (es.take (i + 1).toNat)) := by
      rw [show (i + 1).toNat = i.toNat + 1 by omega, hds_take (by omega), mOf_snoc, hr]; rfl
    exact ⟨c, e, w, sc, l, by rw [hr]; rfl, cd1 (by omega) (cdI (by omega) ⟨i + 1, ⟨by omega, by omega⟩, by simp only [tw1I]; omega, ⟨rfl, trivial, ⟨bf, rfl⟩, rfl, rfl, trivial⟩, ⟨rfl, ⟨bf, rfl⟩, ⟨bg, rfl⟩, trivial⟩, st, trivial⟩)⟩
  refine ⟨⟨0, ⟨by decide, by omega⟩, ⟨rfl, trivial, ⟨bg, rfl⟩, rfl, rfl, trivial⟩, ⟨rfl, ⟨bf, rfl⟩, ⟨bg, rfl⟩, trivial⟩, ?_, trivial⟩, ?_⟩
  · rw [List.take_of_length_le (by omega)]
    show _ = mOf (hds es ++ [])
    rw [List.append_nil]
  clear hi i0 i1 i
  rintro i ⟨i0, i1⟩
  refine cs (fun hi => cd1 (by omega) ?_) (fun hi => ?_)
  · obtain ⟨c, qs, hr, _⟩ := hs.fr i.toNat (by omega)
    have hm := lm (hds es ++ hds (ss.take i.toNat)) (by rw [List.length_append, lh, lh, List.length_take]; omega)
    have st : mPut (mOf (hds es ++ hds (ss.take i.toNat))) c (.bool true) = mOf (hds es ++ hds (ss.take (i + 1).toNat)) := by
      rw [show (i + 1).toNat = i.toNat + 1 by omega, hds_take (by omega), ← List.append_assoc, mOf_snoc, hr]; rfl
    exact ⟨c, qs, by rw [hr]; rfl, cd1 (by omega) (cdI (by omega) ⟨i + 1, ⟨by omega, by omega⟩, by simp only [tw2I]; omega, ⟨rfl, trivial, ⟨bg, rfl⟩, rfl, rfl, trivial⟩, ⟨rfl, ⟨bf, rfl⟩, ⟨bg, rfl⟩, trivial⟩, st, trivial⟩)⟩
  · have hm := lm (hds es ++ hds (ss.take i.toNat)) (by rw [List.length_append, lh, lh, List.length_take]; omega)
    refine cd1 (by omega) (cdI (by omega) ?_)
    rw [List.take_of_length_le (by omega)]
    rfl
def twice_S (twB : List (List AV) → List (List AV) → Bool) : Prop := ∀ (gl : Glob) (es ss : List (List AV)) (v : Int) (f g : Bool), (EnsP es ∧ SqsP ss) ∧ es.length ≤ 40 ∧ ss.length ≤ 40 → fnK Tryd.prog { glob := gl, spec := lk [], specH := lk [], shape := [15, 26], slz := [(26, [1])], nowf := true } { nt := 41, drop := drp [(1, 256), (2, 512), (4, 49152), (5, 458752), (6, 524288), (7, 1048576), (9, 100663296), (10, 939524096), (11, 1073741824), (12, 2196875771904)] } (invs [(3, tw1I es ss v f g), (8, tw2I es ss v f g)]) 6 Tryd.f49 [.agg [.int .i64 v, .sl 5 f es, .sl 2 g ss]] (.bool (twB es ss))
set_option maxRecDepth 100000 in
theorem twice_e (twB : List (List AV) → List (List AV) → Bool) : twice_T twB = twice_S twB := by kernel_rfl
theorem twice_v : twice_S twB := @Eq.mp (twice_T twB) (twice_S twB) (twice_e twB) twice_P
theorem twice_ok (gl : Glob) : SOK Tryd.prog gl 49 (twice_s twB) := by
  refine ⟨fok Tryd.func49 (by kernel_rfl) (by kernel_rfl), ?_⟩
  intro xs pre r h hp
  unfold twice_s at h
  split at h
  · simp only [Option.some.injEq, Prod.mk.injEq] at h
    obtain ⟨h1, h2⟩ := h
    subst h1 h2
    exact fnK_sound tyNil (by exact specOK rfl rfl trivial trivial) (by kernel_rfl) Tryd.func49 rfl (twice_v gl _ _ _ _ _ hp)
  · cases h
end Go.Proofs.YthdfkiopppkfcaaDoor
