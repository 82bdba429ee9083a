/- Tables: SameTable of tables that are the same. Tables: the reference's Choose. Tables: the copies of slices.Clone. Tables: SmallTable, the program's Choose. -/
import Derived.Test.YthdfkiopppkfcaaDoorTbD
namespace Go.Proofs.YthdfkiopppkfcaaDoor
open Go
set_option linter.unusedVariables false
set_option linter.unusedSimpArgs false

structure StP (n : Nat) (i : Int) : Prop where
  flo : 0 ≤ i
  fhi : i ≤ n
def stH (es ss : LLA) (v : Int) (f g f2 g2 : Bool) : List (Nat × Blk) := [(2, .cells [.int .i64 v, .sl 5 f es, .sl 2 g ss]), (3, .cells [.int .i64 v, .sl 5 f2 es, .sl 2 g2 ss])]
def st4 (es ss : LLA) (v : Int) (f g f2 g2 : Bool) : LInv := ⟨Int, fun i => ⟨[(2, .ptr 2 0), (3, .ptr 3 0), (5, .int .i64 i)], stH es ss v f g f2 g2⟩, StP ss.length, fun i => (ss.length - i).toNat, none⟩
def st10 (es ss cs : LLA) (v i c : Int) (f g f2 g2 : Bool) : LInv := ⟨Int, fun k => ⟨[(2, .ptr 2 0), (3, .ptr 3 0), (5, .int .i64 i), (6, .ptr 6 0), (7, .ptr 7 0), (8, .int .i64 k)], (6, .cells [.int .i64 c, .sl 1 false cs]) :: (7, .cells [.int .i64 c, .sl 1 false cs]) :: stH es ss v f g f2 g2⟩, StP cs.length, fun k => (cs.length - k).toNat, none⟩
def stJ (es ss : LLA) (v : Int) (f g f2 g2 : Bool) (id : Nat) (st : St) : Option LInv := cond (Nat.beq id 4) (some (st4 es ss v f g f2 g2)) (cond (Nat.beq id 10) (match lk st.tmps 5, lk st.heap 6 with
  | some (.int _ i), some (.cells [.int _ c, .sl _ _ cs]) => some (st10 es ss cs v i c f g f2 g2)
  | _, _ => none) none)
def tsameT_s : Sp
  | [.agg [.int .i64 v, .sl 5 f es, .sl 2 g ss], .agg [.int .i64 v2, .sl 5 f2 es2, .sl 2 g2 ss2]] => some ((EnsP es ∧ SqsP ss) ∧ v2 = v ∧ es2 = es ∧ ss2 = ss, .bool true)
  | _ => none
set_option maxRecDepth 100000 in
def tsameT_T (sameE : List (List AV) → List (List AV) → Bool) : Prop :=
  ∀ (gl : Glob) (es ss es2 ss2 : List (List AV)) (v v2 : Int) (f g f2 g2 : Bool), (EnsP es ∧ SqsP ss) ∧ v2 = v ∧ es2 = es ∧ ss2 = ss → ((-9223372036854775808 : Int) ≤ v ∧ v ≤
  (9223372036854775807 : Int)) ∧ True ∧ True ∧ True → ((-9223372036854775808 : Int) ≤ v2 ∧ v2 ≤ (9223372036854775807 : Int)) ∧ True ∧ True ∧ True → bif decide ¬v = v2 then false =
  true else (EnsP es ∧ EnsP es2) ∧ bif !sameE es es2 then false = true else bif decide ¬(↑ss.length : Int) = (↑ss2.length : Int) then false = true else (∃ x, StP ss.length x ∧ ((0 :
  Nat) = (0 : Nat) ∧ (0 : Nat) = (0 : Nat) ∧ (0 : Int) = x ∧ True) ∧ (v = v ∧ ((bif f then f = true else True) ∧ es = es) ∧ ((bif g then g = true else True) ∧ ss = ss) ∧ True) ∧ (v2
  = v ∧ ((bif f2 then f2 = true else True) ∧ es2 = es) ∧ ((bif g2 then g2 = true else True) ∧ ss2 = ss) ∧ True) ∧ True) ∧ ∀ (x : Int), StP ss.length x → bif decide (x < (↑ss.length :
  Int)) then bif decide ((0 : Int) ≤ x ∧ x < (↑ss.length : Int)) then ∃ n xs, List.take [AV.int IntKind.i64 n, AV.sl (1 : Nat) false xs].length (ss.getD x.toNat []) = [AV.int
  IntKind.i64 n, AV.sl (1 : Nat) false xs] ∧ bif decide ((0 : Int) ≤ x ∧ x < (↑ss.length : Int)) then ∃ n_1 xs_1, List.take [AV.int IntKind.i64 n_1, AV.sl (1 : Nat) false
  xs_1].length (ss.getD x.toNat []) = [AV.int IntKind.i64 n_1, AV.sl (1 : Nat) false xs_1] ∧ bif decide ¬n = n_1 then false = true else bif decide ¬(↑xs.length : Int) = (↑xs_1.length
  : Int) then false = true else (∃ x_1, StP xs.length x_1 ∧ ((0 : Nat) = (0 : Nat) ∧ (0 : Nat) = (0 : Nat) ∧ x = x ∧ (0 : Nat) = (0 : Nat) ∧ (0 : Nat) = (0 : Nat) ∧ (0 : Int) = x_1 ∧
  True) ∧ (n = n ∧ (True ∧ xs = xs) ∧ True) ∧ (n_1 = n ∧ (True ∧ xs_1 = xs) ∧ True) ∧ (v = v ∧ ((bif f then f = true else True) ∧ es = es) ∧ ((bif g then g = true else True) ∧ ss =
  ss) ∧ True) ∧ (v = v ∧ ((bif f2 then f2 = true else True) ∧ es = es) ∧ ((bif g2 then g2 = true else True) ∧ ss = ss) ∧ True) ∧ True) ∧ ∀ (x_1 : Int), StP xs.length x_1 → bif decide
  (x_1 < (↑xs.length : Int)) then bif decide ((0 : Int) ≤ x_1 ∧ x_1 < (↑xs.length : Int)) then ∃ n_2, List.take [AV.int IntKind.i64 n_2].length (xs.getD x_1.toNat []) = [AV.int
  IntKind.i64 n_2] ∧ bif decide ((0 : Int) ≤ x_1 ∧ x_1 < (↑xs.length : Int)) then ∃ n_3, List.take [AV.int IntKind.i64 n_3].length (xs.getD x_1.toNat []) = [AV.int IntKind.i64 n_3] ∧
  bif decide ¬n_2 = n_3 then false = true else bif decide (rng IntKind.i64 (x_1 + (1 : Int))) then ∃ y, StP xs.length y ∧ (st10 es ss xs v x n f g f2 g2).m y < (st10 es ss xs v x n f
  g f2 g2).m x_1 ∧ ((0 : Nat) = (0 : Nat) ∧ (0 : Nat) = (0 : Nat) ∧ x = x ∧ (0 : Nat) = (0 : Nat) ∧ (0 : Nat) = (0 : Nat) ∧ x_1 + (1 : Int) = y ∧ True) ∧ (n = n ∧ (True ∧ xs = xs) ∧
  True) ∧ (n = n ∧ (True ∧ xs = xs) ∧ True) ∧ (v = v ∧ ((bif f then f = true else True) ∧ es = es) ∧ ((bif g then g = true else True) ∧ ss = ss) ∧ True) ∧ (v = v ∧ ((bif f2 then f2 =
  true else True) ∧ es = es) ∧ ((bif g2 then g2 = true else True) ∧ ss = ss) ∧ True) ∧ True else False else False else False else bif decide (rng IntKind.i64 (x + (1 : Int))) then ∃
  y, StP ss.length y ∧ (st4 es ss v f g f2 g2).m y < (st4 es ss v f g f2 g2).m x ∧ ((0 : Nat) = (0 : Nat) ∧ (0 : Nat) = (0 : Nat) ∧ x + (1 : Int) = y ∧ True) ∧ (v = v ∧ ((bif f then
  f = true else True) ∧ es = es) ∧ ((bif g then g = true else True) ∧ ss = ss) ∧ True) ∧ (v = v ∧ ((bif f2 then f2 = true else True) ∧ es = es) ∧ ((bif g2 then g2 = true else True) ∧
  ss = ss) ∧ True) ∧ True else False else False else False else true = true
set_option maxRecDepth 100000 in
theorem tsameT_P : tsameT_T sameE := by
  unfold tsameT_T
  intro gl es ss es2 ss2 v v2 f g f2 g2 ⟨⟨he, hs⟩, e1, e2, e3⟩
  subst e1 e2 e3
  intro _ _
  have bf : cond f (f = true) True := by cases f <;> trivial
  have bg : cond g (g = true) True := by cases g <;> trivial
  have bf2 : cond f2 (f2 = true) True := by cases f2 <;> trivial
  have bg2 : cond g2 (g2 = true) True := by cases g2 <;> trivial
  have hl := hs.fl
  refine csx (fun q => absurd rfl q) (fun _ => ⟨⟨he, he⟩, csplit (fun q => by rw [sameE_rfl] at q; cases q) (fun _ => csx (fun q => absurd rfl q) (fun _ => ⟨⟨0, ⟨by decide, by omega⟩, by (repeat' (first | exact trivial | exact rfl | assumption | apply And.intro))⟩, ?_⟩))⟩)
  rintro i ⟨i0, i1⟩
  refine csx (fun hi => cd1 (by omega) ?_) (fun hi => rfl)
  obtain ⟨c, cs, hr, _, hc⟩ := hs.fr i.toNat (by omega)
  have hcl := hc.fl
  refine ⟨c, cs, by rw [hr]; rfl, cd1 (by omega) ⟨c, cs, by rw [hr]; rfl, csx (fun q => absurd rfl q) (fun _ => csx (fun q => absurd rfl q) (fun _ => ⟨⟨0, ⟨by decide, by omega⟩, by (repeat' (first | exact trivial | exact rfl | assumption | apply And.intro))⟩, ?_⟩))⟩⟩
  rintro k ⟨k0, k1⟩
  refine csx (fun hk => cd1 (by omega) ?_) (fun hk => cdI (by omega) ⟨i + 1, ⟨by omega, by omega⟩, by simp only [st4]; omega, by (repeat' (first | exact trivial | exact rfl | assumption | apply And.intro))⟩)
  obtain ⟨n, hn, _⟩ := hc.fr k.toNat (by omega)
  exact ⟨n, by rw [hn]; rfl, cd1 (by omega) ⟨n, by rw [hn]; rfl, csx (fun q => absurd rfl q) (fun _ => cdI (by omega) ⟨k + 1, ⟨by omega, by omega⟩, by simp only [st10]; omega, by (repeat' (first | exact trivial | exact rfl | assumption | apply And.intro))⟩)⟩⟩
def tsameT_S (sameE : List (List AV) → List (List AV) → Bool) : Prop := ∀ (gl : Glob) (es ss es2 ss2 : List (List AV)) (v v2 : Int) (f g f2 g2 : Bool), (EnsP es ∧ SqsP ss) ∧ v2 = v ∧ es2 = es ∧ ss2 = ss → fnK Tryd.prog { glob := gl, spec := lk [(19, (tsame_s sameE))], specH := lk [], shape := [42, 47, 73, 78], slz := [(42, [1]), (47, [1])], nowf := true } { nt := 80, drop := drp [(1, 1073741312), (4, 32212254720), (5, 206158430208), (6, 281200098803712), (7, 2305561534236983296), (10, 69175290276410818560), (11, 442721857769029238784), (12, 603872613996955881701376)] } (stJ es ss v f g f2 g2) 6 Tryd.f28 [.agg [.int .i64 v, .sl 5 f es, .sl 2 g ss], .agg [.int .i64 v2, .sl 5 f2 es2, .sl 2 g2 ss2]] (.bool true)
set_option maxRecDepth 100000 in
theorem tsameT_e (sameE : List (List AV) → List (List AV) → Bool) : tsameT_T sameE = tsameT_S sameE := by kernel_rfl
theorem tsameT_v : tsameT_S sameE := @Eq.mp (tsameT_T sameE) (tsameT_S sameE) (tsameT_e sameE) (tsameT_P)
theorem tsameT_ok (gl : Glob) : SOK Tryd.prog gl 28 tsameT_s := by
  refine ⟨fok Tryd.func28 (by kernel_rfl) (by kernel_rfl), ?_⟩
  intro xs pre r h hp
  unfold tsameT_s at h
  split at h
  · simp only [Option.some.injEq, Prod.mk.injEq] at h
    obtain ⟨h1, h2⟩ := h
    subst h1 h2
    exact fnK_sound tyNil (by exact specOK rfl rfl ⟨(tsame_ok gl), trivial⟩ trivial) (by kernel_rfl) Tryd.func28 rfl (tsameT_v gl _ _ _ _ _ _ _ _ _ _ hp)
  · cases h
structure TbsP (ts : LLA) : Prop where
  fr : ∀ i, i < ts.length → ∃ (v : Int) (es ss : LLA), ts.getD i [] = [.int .i64 v, .sl 5 false es, .sl 2 false ss] ∧ rng .i64 v ∧ EnsP es ∧ SqsP ss
  fl : ts.length ≤ 1000
def esC (r : List AV) : LLA := match r with
  | [_, .sl _ _ es, _] => es
  | _ => []
def ssC (r : List AV) : LLA := match r with
  | [_, _, .sl _ _ ss] => ss
  | _ => []
def chE (ts : LLA) (v : Int) : Int := if idxP (hcP v) ts < 0 then 9 else 0
def chV (ts : LLA) (v : Int) : Int := if idxP (hcP v) ts < 0 then 0 else hdI (ts.getD (idxP (hcP v) ts).toNat [])
def chT (ts : LLA) (v : Int) : LLA := if idxP (hcP v) ts < 0 then [] else esC (ts.getD (idxP (hcP v) ts).toNat [])
def chS (ts : LLA) (v : Int) : LLA := if idxP (hcP v) ts < 0 then [] else ssC (ts.getD (idxP (hcP v) ts).toNat [])
structure ChP (ts : LLA) (v : Int) (i : Int) : Prop where
  flo : 0 ≤ i
  fhi : i ≤ ts.length
  fn : ∀ j : Nat, (j : Int) < i → hcP v (ts.getD j []) = false
def ch2 (ts : LLA) (v : Int) : LInv := ⟨Int, fun i => ⟨[(0, .sl 3 false ts), (1, .int .i64 v), (4, .ptr 4 0), (5, .int .i64 0), (6, .int .i64 i)], [(4, .cells [.int .i64 0, .nils, .nils])]⟩, ChP ts v, fun i => (ts.length - i).toNat, none⟩
def rchoose_s (chV : LLA → Int → Int) (chT : LLA → Int → LLA) (chS : LLA → Int → LLA) (chE : LLA → Int → Int) : Sp
  | [.sl 3 h ts, .int .i64 v] => some (TbsP ts, .tup [.agg [.int .i64 (chV ts v), .sl 5 false (chT ts v), .sl 2 false (chS ts v)], .int .i64 (chE ts v)])
  | _ => none
set_option maxRecDepth 100000 in
def rchoose_T (chV : LLA → Int → Int) (chT : LLA → Int → LLA) (chS : LLA → Int → LLA) (chE : LLA → Int → Int) : Prop :=
  ∀ (gl : Glob) (ts : List (List AV)) (v : Int) (h : Bool), TbsP ts → True → (-9223372036854775808 : Int) ≤ v ∧ v ≤ (9223372036854775807 : Int) → (∃ x, ChP ts v x ∧ ((True ∧ ts = ts)
  ∧ v = v ∧ (0 : Nat) = (0 : Nat) ∧ (0 : Int) = (0 : Int) ∧ (0 : Int) = x ∧ True) ∧ ((0 : Int) = (0 : Int) ∧ True ∧ True ∧ True) ∧ True) ∧ ∀ (x : Int), ChP ts v x → bif decide (x <
  (↑ts.length : Int)) then bif decide ((0 : Int) ≤ x ∧ x < (↑ts.length : Int)) then ∃ n, List.take [AV.int IntKind.i64 n].length (List.drop (0 : Nat) (ts.getD x.toNat [])) = [AV.int
  IntKind.i64 n] ∧ bif decide (n = v) then bif decide ((0 : Int) ≤ x ∧ x < (↑ts.length : Int)) then ∃ n xs xs_1, List.take [AV.int IntKind.i64 n, AV.sl (5 : Nat) false xs, AV.sl (2 :
  Nat) false xs_1].length (ts.getD x.toNat []) = [AV.int IntKind.i64 n, AV.sl (5 : Nat) false xs, AV.sl (2 : Nat) false xs_1] ∧ (n = chV ts v ∧ (True ∧ xs = chT ts v) ∧ (True ∧ xs_1
  = chS ts v) ∧ True) ∧ (0 : Int) = chE ts v ∧ True else False else bif decide (rng IntKind.i64 (x + (1 : Int))) then ∃ y, ChP ts v y ∧ (ch2 ts v).m y < (ch2 ts v).m x ∧ ((True ∧ ts
  = ts) ∧ v = v ∧ (0 : Nat) = (0 : Nat) ∧ (0 : Int) = (0 : Int) ∧ x + (1 : Int) = y ∧ True) ∧ ((0 : Int) = (0 : Int) ∧ True ∧ True ∧ True) ∧ True else False else False else ((0 :
  Int) = chV ts v ∧ chT ts v = [] ∧ chS ts v = [] ∧ True) ∧ (9 : Int) = chE ts v ∧ True
set_option maxRecDepth 100000 in
theorem rchoose_P : rchoose_T chV chT chS chE := by
  unfold rchoose_T
  intro gl ts v h ht
  intros
  have hl := ht.fl
  refine ⟨⟨0, ⟨by decide, by omega, fun j hj => by omega⟩, by (repeat' (first | exact trivial | exact rfl | assumption | apply And.intro))⟩, ?_⟩
  rintro i ⟨i0, i1, iq⟩
  refine csx (fun hi => cd1 (by omega) ?_) (fun hi => ?_)
  · obtain ⟨n, es, ss, hr, _⟩ := ht.fr i.toNat (by omega)
    have hx : hcP v (ts.getD i.toNat []) = decide (n = v) := by rw [hr]; rfl
    refine ⟨n, by rw [hr]; rfl, csx (fun he => cd1 (by omega) ⟨n, es, ss, by rw [hr]; rfl, ?_⟩) (fun he => cdI (by omega) ⟨i + 1, ⟨by omega, by omega, fun j hj => ?_⟩, by simp only [ch2]; omega, by (repeat' (first | exact trivial | exact rfl | assumption | apply And.intro))⟩)⟩
    · have e : ((i.toNat : Nat) : Int) = idxP (hcP v) ts := idx_some (by omega) (by rw [hx]; exact decide_eq_true he) (fun j hj => iq j (by omega))
      unfold chV chT chS chE
      rw [if_neg (by omega), if_neg (by omega), if_neg (by omega), if_neg (by omega), ← e, Int.toNat_natCast, hr]
      exact ⟨⟨rfl, ⟨trivial, rfl⟩, ⟨trivial, rfl⟩, trivial⟩, rfl, trivial⟩
    · rcases Int.lt_or_le (j : Int) i with q | q
      · exact iq j q
      · rw [show j = i.toNat by omega, hx]; exact decide_eq_false he
  · have e : -1 = idxP (hcP v) ts := idx_none (fun j hj => iq j (by omega))
    unfold chV chT chS chE
    rw [if_pos (by omega), if_pos (by omega), if_pos (by omega), if_pos (by omega)]
    exact ⟨⟨rfl, rfl, rfl, trivial⟩, rfl, trivial⟩
def rchoose_S (chV : LLA → Int → Int) (chT : LLA → Int → LLA) (chS : LLA → Int → LLA) (chE : LLA → Int → Int) : Prop := ∀ (gl : Glob) (ts : List (List AV)) (v : Int) (h : Bool), TbsP ts → fnK Tryd.prog { glob := gl, spec := lk [], specH := lk [], shape := [17, 23], slz := [(23, [5, 2])], nowf := true } { nt := 25, drop := drp [(2, 896), (3, 6144), (4, 516096), (5, 15728640), (6, 16777216)] } (invs [(2, ch2 ts v)]) 6 Tryd.f27 [.sl 3 h ts, .int .i64 v] (.tup [.agg [.int .i64 (chV ts v), .sl 5 false (chT ts v), .sl 2 false (chS ts v)], .int .i64 (chE ts v)])
set_option maxRecDepth 100000 in
theorem rchoose_e (chV : LLA → Int → Int) (chT : LLA → Int → LLA) (chS : LLA → Int → LLA) (chE : LLA → Int → Int) : rchoose_T chV chT chS chE = rchoose_S chV chT chS chE := by kernel_rfl
theorem rchoose_v : rchoose_S chV chT chS chE := @Eq.mp (rchoose_T chV chT chS chE) (rchoose_S chV chT chS chE) (rchoose_e chV chT chS chE) (rchoose_P)
theorem rchoose_ok (gl : Glob) : SOK Tryd.prog gl 27 (rchoose_s chV chT chS chE) := by
  refine ⟨fok Tryd.func27 (by kernel_rfl) (by kernel_rfl), ?_⟩
  intro xs pre r h hp
  unfold rchoose_s at h
  split at h
  · simp only [Option.some.injEq, Prod.mk.injEq] at h
    obtain ⟨h1, h2⟩ := h
    subst h1 h2
    exact fnK_sound tyNil (by exact specOK rfl rfl trivial trivial) (by kernel_rfl) Tryd.func27 rfl (rchoose_v gl _ _ _ hp)
  · cases h
def cloE_s : Sp
  | [.sl 5 f xs] => some (xs.length ≤ 1000, .sl 5 false xs)
  | _ => none
set_option maxRecDepth 100000 in
def cloE_T : Prop :=
  ∀ (gl : Glob) (f : Bool) (xs : List (List AV)), xs.length ≤ (1000 : Nat) → True → (xs = [] → xs = []) ∧ bif decide ((0 : Nat) = (0 : Nat) ∧ (0 : Nat) + xs.length ≤
  (9223372036854775807 : Nat) ∧ ((0 : Nat) + xs.length) * (40 : Nat) ≤ (140737488355328 : Nat)) then bif decide (([] ++ xs).length = ([] ++ xs).length) then True ∧ [] ++ xs = xs else
  False else False
set_option maxRecDepth 100000 in
theorem cloE_P : cloE_T := by
  unfold cloE_T
  intro gl f xs hl _
  exact ⟨id, cd1 ⟨rfl, by omega, by omega⟩ (cd1 rfl ⟨trivial, rfl⟩)⟩
def cloE_S : Prop := ∀ (gl : Glob) (f : Bool) (xs : List (List AV)), xs.length ≤ 1000 → fnK Tryd.prog { glob := gl, spec := lk [], specH := lk [], nowf := true, nq := true } { nt := 8, drop := drp [(1, 8), (3, 224)] } (fun _ _ => none) 6 Tryd.f52 [.sl 5 f xs] (.sl 5 false xs)
set_option maxRecDepth 100000 in
theorem cloE_e : cloE_T = cloE_S := by kernel_rfl
theorem cloE_v : cloE_S := @Eq.mp (cloE_T) (cloE_S) (cloE_e) (cloE_P)
theorem cloE_ok (gl : Glob) : SOK Tryd.prog gl 52 cloE_s := by
  refine ⟨fok Tryd.func52 (by kernel_rfl) (by kernel_rfl), ?_⟩
  intro xs pre r h hp
  unfold cloE_s at h
  split at h
  · simp only [Option.some.injEq, Prod.mk.injEq] at h
    obtain ⟨h1, h2⟩ := h
    subst h1 h2
    exact fnK_sound tyNil (by exact specOK rfl rfl trivial trivial) (by kernel_rfl) Tryd.func52 rfl (cloE_v gl _ _ hp)
  · cases h
def cloI_s : Sp
  | [.sl 1 f xs] => some (xs.length ≤ 1000, .sl 1 false xs)
  | _ => none
set_option maxRecDepth 100000 in
def cloI_T : Prop :=
  ∀ (gl : Glob) (f : Bool) (xs : List (List AV)), xs.length ≤ (1000 : Nat) → True → (xs = [] → xs = []) ∧ bif decide ((0 : Nat) = (0 : Nat) ∧ (0 : Nat) + xs.length ≤
  (9223372036854775807 : Nat) ∧ ((0 : Nat) + xs.length) * (8 : Nat) ≤ (140737488355328 : Nat)) then bif decide (([] ++ xs).length = ([] ++ xs).length) then True ∧ [] ++ xs = xs else
  False else False
set_option maxRecDepth 100000 in
theorem cloI_P : cloI_T := by
  unfold cloI_T
  intro gl f xs hl _
  exact ⟨id, cd1 ⟨rfl, by omega, by omega⟩ (cd1 rfl ⟨trivial, rfl⟩)⟩
def cloI_S : Prop := ∀ (gl : Glob) (f : Bool) (xs : List (List AV)), xs.length ≤ 1000 → fnK Tryd.prog { glob := gl, spec := lk [], specH := lk [], nowf := true, nq := true } { nt := 8, drop := drp [(1, 8), (3, 224)] } (fun _ _ => none) 6 Tryd.f54 [.sl 1 f xs] (.sl 1 false xs)
set_option maxRecDepth 100000 in
theorem cloI_e : cloI_T = cloI_S := by kernel_rfl
theorem cloI_v : cloI_S := @Eq.mp (cloI_T) (cloI_S) (cloI_e) (cloI_P)
theorem cloI_ok (gl : Glob) : SOK Tryd.prog gl 54 cloI_s := by
  refine ⟨fok Tryd.func54 (by kernel_rfl) (by kernel_rfl), ?_⟩
  intro xs pre r h hp
  unfold cloI_s at h
  split at h
  · simp only [Option.some.injEq, Prod.mk.injEq] at h
    obtain ⟨h1, h2⟩ := h
    subst h1 h2
    exact fnK_sound tyNil (by exact specOK rfl rfl trivial trivial) (by kernel_rfl) Tryd.func54 rfl (cloI_v gl _ _ hp)
  · cases h
def cloS_s : SpH
  | [.sl 2 f xs], [] => some (xs.length ≤ 1000, .rw 0 2 xs.length, [.row 49 2 xs])
  | _, _ => none
set_option maxRecDepth 100000 in
def cloS_T : Prop :=
  ∀ (gl : Glob) (f : Bool) (xs : List (List AV)), xs.length ≤ (1000 : Nat) → True → (xs = [] → (0 : Nat) = xs.length ∧ [] = xs ∧ True) ∧ bif decide ((0 : Nat) = (0 : Nat) ∧ (0 : Nat)
  + xs.length ≤ (9223372036854775807 : Nat) ∧ ((0 : Nat) + xs.length) * (32 : Nat) ≤ (140737488355328 : Nat)) then ([] ++ xs).length = xs.length ∧ [] ++ xs = xs ∧ True else False
set_option maxRecDepth 100000 in
theorem cloS_P : cloS_T := by
  unfold cloS_T
  intro gl f xs hl
  intros
  exact ⟨fun e => by subst e; exact ⟨rfl, rfl, trivial⟩, cd1 ⟨rfl, by omega, by omega⟩ ⟨rfl, rfl, trivial⟩⟩
def cloS_S : Prop := ∀ (gl : Glob) (f : Bool) (xs : List (List AV)), xs.length ≤ 1000 → fnH Tryd.prog { glob := gl, spec := lk [], specH := lk [], nowf := true, nq := true } { nt := 8, drop := drp [(1, 8), (3, 224)], fr := 1000, kp := [], emp := fun id => cond (Nat.beq id 900001) [(2, 1500, 49, 2)] [], own := true } (fun _ _ => none) 6 Tryd.f53 [.sl 2 f xs] [] (.rw 0 2 xs.length) [.row 49 2 xs]
set_option maxRecDepth 100000 in
theorem cloS_e : cloS_T = cloS_S := by kernel_rfl
theorem cloS_v : cloS_S := @Eq.mp (cloS_T) (cloS_S) (cloS_e) (cloS_P)
theorem cloS_ok (gl : Glob) : HOK Tryd.prog gl 53 cloS_s := by
  refine ⟨fok Tryd.func53 (by kernel_rfl) (by kernel_rfl), ?_⟩
  intro xs bs pre r bs2 h hp
  unfold cloS_s at h
  split at h
  · simp only [Option.some.injEq, Prod.mk.injEq] at h
    obtain ⟨h1, h2, h3⟩ := h
    subst h1 h2 h3
    exact fnH_sound tyNil (by exact specOK rfl rfl trivial trivial) (by kernel_rfl) Tryd.func53 (cloS_v gl _ _ hp)
  · cases h
/-- A slice that can be in memory. -/
def reach (n : Nat) : Prop := n ≤ 140737488355328
structure SqW (ss : LLA) : Prop where
  fr : ∀ i, i < ss.length → ∃ (c : Int) (cs : LLA), ss.getD i [] = [.int .i64 c, .sl 1 false cs] ∧ cs.length ≤ 140737488355328
  fl : ss.length ≤ 140737488355328
structure SmI (es ss : LLA) (x : Int × Int) : Prop where
  flo : 0 ≤ x.1
  fhi : x.1 ≤ ss.length
  fn : (es.length : Int) + ss.length ≤ x.2
  fb : x.2 ≤ 281474976710656 + 600 + 140737488355328
  fc : ∀ j : Nat, (j : Int) < x.1 → ((sqC (ss.getD j [])).length : Int) ≤ x.2
structure SmQ (es ss : LLA) (b : Bool) : Prop where
  fb : b = true → es.length ≤ 300 ∧ ss.length ≤ 300 ∧ ∀ j, j < ss.length → (sqC (ss.getD j [])).length ≤ 300
def sm3 (es ss : LLA) (v : Int) (f g : Bool) : LInv := ⟨Int × Int, fun x => ⟨[(1, .ptr 1001 0), (2, .bool false), (3, .int .i64 x.2), (4, .int .i64 x.1)], [(1001, .cells [.int .i64 v, .sl 5 f es, .sl 2 g ss])]⟩, SmI es ss, fun x => (ss.length - x.1).toNat, none⟩
def qsmallT_s : SpQ
  | [.agg [.int .i64 v, .sl 5 f es, .sl 2 g ss]], [] => some (fun K => (es.length ≤ 140737488355328 ∧ SqW ss) ∧ (∀ (b : Bool), (SmQ es ss b) → K (.bool b) []))
  | _, _ => none
set_option maxRecDepth 100000 in
def qsmallT_T : Prop :=
  ∀ (gl : Glob) (es ss : List (List AV)) (v : Int) (f g : Bool), es.length ≤ (140737488355328 : Nat) ∧ SqW ss → bif decide (rng IntKind.i64 ((↑es.length : Int) + (↑ss.length : Int)))
  then (∃ x, SmI es ss x ∧ ((0 : Nat) = (0 : Nat) ∧ false = false ∧ (↑es.length : Int) + (↑ss.length : Int) = x.snd ∧ (0 : Int) = x.fst ∧ True) ∧ (v = v ∧ ((bif f then f = true else
  True) ∧ es = es) ∧ ((bif g then g = true else True) ∧ ss = ss) ∧ True) ∧ True) ∧ ∀ (x : Int × Int), SmI es ss x → bif decide (x.fst < (↑ss.length : Int)) then bif decide (x.snd <
  (600 : Int)) then bif decide ((0 : Int) ≤ x.fst ∧ x.fst < (↑ss.length : Int)) then ∃ xs, List.take [AV.sl (1 : Nat) false xs].length (List.drop (1 : Nat) (ss.getD x.fst.toNat []))
  = [AV.sl (1 : Nat) false xs] ∧ bif decide (rng IntKind.i64 (x.snd + (↑xs.length : Int))) then bif decide (rng IntKind.i64 (x.fst + (1 : Int))) then ∃ y, SmI es ss y ∧ (sm3 es ss v
  f g).m y < (sm3 es ss v f g).m x ∧ ((0 : Nat) = (0 : Nat) ∧ false = false ∧ x.snd + (↑xs.length : Int) = y.snd ∧ x.fst + (1 : Int) = y.fst ∧ True) ∧ (v = v ∧ ((bif f then f = true
  else True) ∧ es = es) ∧ ((bif g then g = true else True) ∧ ss = ss) ∧ True) ∧ True else False else False else False else ∃ b, SmQ es ss b ∧ decide (x.snd ≤ (300 : Int)) = b ∧ True
  else ∃ b, SmQ es ss b ∧ decide (x.snd ≤ (300 : Int)) = b ∧ True else False
set_option maxRecDepth 100000 in
theorem qsmallT_P : qsmallT_T := by
  unfold qsmallT_T
  intro gl es ss v f g ⟨he, hs⟩
  have hl := hs.fl
  have bf : cond f (f = true) True := by cases f <;> trivial
  have bg : cond g (g = true) True := by cases g <;> trivial
  refine cdI (by omega) ⟨⟨(0, (es.length : Int) + ss.length), ⟨by simp, by simp, by simp, by simp only; omega, fun j hj => by simp only at hj; omega⟩, by (repeat' (first | exact trivial | exact rfl | assumption | apply And.intro))⟩, ?_⟩
  rintro ⟨i, n⟩ ⟨i0, i1, i2, i3, i4⟩
  simp only at i0 i1 i2 i3 i4
  dsimp only
  have fin : ¬ (i < ss.length ∧ n < 600) → ∃ b, SmQ es ss b ∧ decide (n ≤ 300) = b ∧ True := fun hn => ⟨_, ⟨fun e => ?_⟩, rfl, trivial⟩
  rotate_left
  · have e := of_decide_eq_true e
    have hi : i = ss.length := by omega
    exact ⟨by omega, by omega, fun j hj => by have := i4 j (by omega); omega⟩
  refine csx (fun hi => csx (fun hn => cd1 (by omega) ?_) (fun hn => fin (by omega))) (fun hi => fin (by omega))
  obtain ⟨c, cs, hr, hcl⟩ := hs.fr i.toNat (by omega)
  refine ⟨cs, by rw [hr]; rfl, cdI (by omega) (cdI (by omega) ⟨(i + 1, n + cs.length), ⟨by simp only; omega, by simp only; omega, by simp only; omega, by simp only; omega, fun j hj => ?_⟩, by simp only [sm3]; omega, by (repeat' (first | exact trivial | exact rfl | assumption | apply And.intro))⟩)⟩
  simp only at hj ⊢
  rcases Int.lt_or_le (j : Int) i with q | q
  · have := i4 j q; omega
  · rw [show j = i.toNat by omega, hr]
    show (cs.length : Int) ≤ _
    omega
def qsmallT_S : Prop := ∀ (gl : Glob) (es ss : List (List AV)) (v : Int) (f g : Bool), es.length ≤ 140737488355328 ∧ SqW ss → fnQ Tryd.prog { glob := gl, spec := lk [], specH := lk [], shape := [29], slz := [(29, [1])], nowf := true } { nt := 34, drop := drp [(1, 4064), (3, 1044480), (4, 6291456), (5, 4286578688), (6, 12884901888)], fr := 1000, kp := [] } (invs [(3, sm3 es ss v f g)]) 6 Tryd.f23 [.agg [.int .i64 v, .sl 5 f es, .sl 2 g ss]] [] (fun r2 bs2 => ∃ (b : Bool), (SmQ es ss b) ∧ le r2 (.bool b) ∧ leBs bs2 [])
set_option maxRecDepth 100000 in
theorem qsmallT_e : qsmallT_T = qsmallT_S := by kernel_rfl
theorem qsmallT_v : qsmallT_S := @Eq.mp (qsmallT_T) (qsmallT_S) (qsmallT_e) (qsmallT_P)
theorem qsmallT_ok (gl : Glob) : QOK Tryd.prog gl 23 qsmallT_s := by
  refine ⟨fok Tryd.func23 (by kernel_rfl) (by kernel_rfl), ?_⟩
  intro xs bs T h K hT
  unfold qsmallT_s at h
  split at h
  · simp only [Option.some.injEq] at h
    subst h
    obtain ⟨hp, hK⟩ := hT
    obtain ⟨r, bs2, ⟨o0, hq, hl, hb⟩, hC⟩ := fnQ_sound tyNil (by exact specOK rfl rfl trivial trivial) (by kernel_rfl) Tryd.func23 (qsmallT_v gl _ _ _ _ _ hp)
    exact ⟨_, _, hK o0 hq, hC.le hl hb⟩
  · cases h
def chc_s : SpH
  | [.agg [.int .i64 v, .sl 5 f es, .sl 2 g ss], .ptr 0 0], [.cells [.int .i64 ver]] => some (True, .bool (decide (v = ver)), [.cells [.int .i64 ver]])
  | _, _ => none
set_option maxRecDepth 100000 in
def chc_T : Prop :=
  ∀ (gl : Glob) (es ss : List (List AV)) (v ver : Int) (f g : Bool), ((-9223372036854775808 : Int) ≤ v ∧ v ≤ (9223372036854775807 : Int)) ∧ True ∧ True ∧ True → True →
  (-9223372036854775808 : Int) ≤ ver ∧ ver ≤ (9223372036854775807 : Int) → decide (v = ver) = decide (v = ver) ∧ (ver = ver ∧ True) ∧ True
set_option maxRecDepth 100000 in
theorem chc_P : chc_T := by
  unfold chc_T
  intro gl es ss v ver f g _ _ _
  exact ⟨rfl, ⟨rfl, trivial⟩, trivial⟩
def chc_S : Prop := ∀ (gl : Glob) (es ss : List (List AV)) (v ver : Int) (f g : Bool), fnH Tryd.prog { glob := gl, spec := lk [], specH := lk [], nowf := true } { nt := 8, drop := drp [(1, 240)], fr := 1000, kp := [0] } (fun _ _ => none) 6 Tryd.f51 [.agg [.int .i64 v, .sl 5 f es, .sl 2 g ss], .ptr 0 0] [.cells [.int .i64 ver]] (.bool (decide (v = ver))) [.cells [.int .i64 ver]]
set_option maxRecDepth 100000 in
theorem chc_e : chc_T = chc_S := by kernel_rfl
theorem chc_v : chc_S := @Eq.mp (chc_T) (chc_S) (chc_e) (chc_P)
theorem chc_ok (gl : Glob) : HOK Tryd.prog gl 51 chc_s := by
  refine ⟨fok Tryd.func51 (by kernel_rfl) (by kernel_rfl), ?_⟩
  intro xs bs pre r bs2 h hp
  unfold chc_s at h
  split at h
  · simp only [Option.some.injEq, Prod.mk.injEq] at h
    obtain ⟨h1, h2, h3⟩ := h
    subst h1 h2 h3
    exact fnH_sound tyNil (by exact specOK rfl rfl trivial trivial) (by kernel_rfl) Tryd.func51 (chc_v gl _ _ _ _ _ _)
  · cases h
def chI (k : Nat) (ver : Int) (h : Bool) (ts : LLA) : LInv := ⟨Int, fun i => ⟨[(0, .sl 3 h ts), (1, .fn k [.ptr 0 0]), (7, .int .i64 ts.length), (8, .int .i64 i)], [(0, .cells [.int .i64 ver])]⟩, IdxI (hcP ver) ts, fun i => (ts.length - i).toNat, none⟩
def chX_s : SpH
  | [.sl 3 h ts, .fn 51 [.ptr 0 0]], [.cells [.int .i64 ver]] => some (TbsP ts, .int .i64 (idxP (hcP ver) ts), [.cells [.int .i64 ver]])
  | _, _ => none
set_option maxRecDepth 100000 in
def chX_T : Prop :=
  ∀ (gl : Glob) (ts : List (List AV)) (ver : Int) (h : Bool), TbsP ts → True → True → (-9223372036854775808 : Int) ≤ ver ∧ ver ≤ (9223372036854775807 : Int) → (∃ x, IdxI (hcP ver) ts
  x ∧ (((bif h then h = true else True) ∧ ts = ts) ∧ ((0 : Nat) = (0 : Nat) ∧ True) ∧ (↑ts.length : Int) = (↑ts.length : Int) ∧ (0 : Int) = x ∧ True) ∧ (ver = ver ∧ True) ∧ True) ∧ ∀
  (x : Int), IdxI (hcP ver) ts x → bif decide (x < (↑ts.length : Int)) then bif decide ((0 : Int) ≤ x ∧ x < (↑ts.length : Int)) then ∃ n xs xs_1, List.take [AV.int IntKind.i64 n,
  AV.sl (5 : Nat) false xs, AV.sl (2 : Nat) false xs_1].length (ts.getD x.toNat []) = [AV.int IntKind.i64 n, AV.sl (5 : Nat) false xs, AV.sl (2 : Nat) false xs_1] ∧ True ∧ bif decide
  (n = ver) then x = idxP (hcP ver) ts ∧ (ver = ver ∧ True) ∧ True else bif decide (rng IntKind.i64 (x + (1 : Int))) then ∃ y, IdxI (hcP ver) ts y ∧ (chI (51 : Nat) ver h ts).m y <
  (chI (51 : Nat) ver h ts).m x ∧ (((bif h then h = true else True) ∧ ts = ts) ∧ ((0 : Nat) = (0 : Nat) ∧ True) ∧ (↑ts.length : Int) = (↑ts.length : Int) ∧ x + (1 : Int) = y ∧ True)
  ∧ (ver = ver ∧ True) ∧ True else False else False else (-1 : Int) = idxP (hcP ver) ts ∧ (ver = ver ∧ True) ∧ True
set_option maxRecDepth 100000 in
theorem chX_P : chX_T := by
  unfold chX_T
  intro gl ts ver h ht _ _ _
  have hl := ht.fl
  have bh : cond h (h = true) True := by cases h <;> trivial
  refine ⟨⟨0, ⟨by decide, by omega, fun j hj => by omega⟩, by (repeat' (first | exact trivial | exact rfl | assumption | apply And.intro))⟩, ?_⟩
  rintro i ⟨i0, i1, iq⟩
  refine csx (fun hi => cd1 (by omega) ?_) (fun hi => ⟨idx_none (fun j hj => iq j (by omega)), ⟨rfl, trivial⟩, trivial⟩)
  obtain ⟨n, es, ss, hr, _⟩ := ht.fr i.toNat (by omega)
  have hx : hcP ver (ts.getD i.toNat []) = decide (n = ver) := by rw [hr]; rfl
  refine ⟨n, es, ss, by rw [hr]; rfl, trivial, csx (fun he => ⟨?_, ⟨rfl, trivial⟩, trivial⟩) (fun he => cdI (by omega) ⟨i + 1, ⟨by omega, by omega, fun j hj => ?_⟩, by simp only [chI]; omega, by (repeat' (first | exact trivial | exact rfl | assumption | apply And.intro))⟩)⟩
  · have e : ((i.toNat : Nat) : Int) = idxP (hcP ver) ts := idx_some (by omega) (by rw [hx]; exact decide_eq_true he) (fun j hj => iq j (by omega))
    omega
  · rcases Int.lt_or_le (j : Int) i with q | q
    · exact iq j q
    · rw [show j = i.toNat by omega, hx]; exact decide_eq_false he
def chX_S : Prop := ∀ (gl : Glob) (ts : List (List AV)) (ver : Int) (h : Bool), TbsP ts → fnH Tryd.prog { glob := gl, spec := lk [], specH := lk [(51, chc_s)], shape := [15], slz := [(15, [5, 2])], nowf := true } { nt := 19, drop := drp [(1, 64), (3, 1024), (4, 63488), (5, 131072), (6, 262144)], fr := 1000, kp := [0] } (invs [(2, chI 51 ver h ts)]) 6 Tryd.f50 [.sl 3 h ts, .fn 51 [.ptr 0 0]] [.cells [.int .i64 ver]] (.int .i64 (idxP (hcP ver) ts)) [.cells [.int .i64 ver]]
set_option maxRecDepth 100000 in
theorem chX_e : chX_T = chX_S := by kernel_rfl
theorem chX_v : chX_S := @Eq.mp (chX_T) (chX_S) (chX_e) (chX_P)
theorem chX_ok (gl : Glob) : HOK Tryd.prog gl 50 chX_s := by
  refine ⟨fok Tryd.func50 (by kernel_rfl) (by kernel_rfl), ?_⟩
  intro xs bs pre r bs2 h hp
  unfold chX_s at h
  split at h
  · simp only [Option.some.injEq, Prod.mk.injEq] at h
    obtain ⟨h1, h2, h3⟩ := h
    subst h1 h2 h3
    exact fnH_sound tyNil (by exact specOK rfl rfl trivial ⟨(chc_ok gl), trivial⟩) (by kernel_rfl) Tryd.func50 (chX_v gl _ _ _ hp)
  · cases h
/-- Tables whose lists are short. -/
structure ShT (ts : LLA) : Prop where
  fp : TbsP ts
  fe : ∀ i, i < ts.length → (esC (ts.getD i [])).length ≤ 1000 ∧ (ssC (ts.getD i [])).length ≤ 1000 ∧ ∀ j, j < (ssC (ts.getD i [])).length → (sqC ((ssC (ts.getD i [])).getD j [])).length ≤ 1000
structure CoI (ss : LLA) (x : Int) : Prop where
  flo : 0 ≤ x
  fhi : x ≤ ss.length
def coI (v : Int) (es ss : LLA) : LInv := ⟨Int, fun i => ⟨[(4, .ptr 4 0), (5, .int .i64 0), (7, .ptr 7 0), (29, .int .i64 ss.length), (30, .int .i64 i)], [(4, .cells [.int .i64 0, .nils, .nils]), (7, .cells [.int .i64 v, .sl 5 false es, .rw 24 2 ss.length]), (24, .row 49 2 ss)]⟩, CoI ss, fun i => (ss.length - i).toNat, none⟩
def coJ (id : Nat) (st : St) : Option LInv := cond (Nat.beq id 7) (match lk st.heap 7, lk st.heap 24 with
  | some (.cells [.int _ v, .sl _ _ es, .rw _ _ _]), some (.row _ _ ss) => some (coI v es ss)
  | _, _ => none) none
def choose_s (chV : LLA → Int → Int) (chT : LLA → Int → LLA) (chS : LLA → Int → LLA) (chE : LLA → Int → Int) : Sp
  | [.sl 3 h ts, .int .i64 v] => some (ShT ts, .tup [.agg [.int .i64 (chV ts v), .sl 5 false (chT ts v), .sl 2 false (chS ts v)], .int .i64 (chE ts v)])
  | _ => none
set_option maxRecDepth 100000 in
def choose_T (chV : LLA → Int → Int) (chT : LLA → Int → LLA) (chS : LLA → Int → LLA) (chE : LLA → Int → Int) : Prop :=
  ∀ (gl : Glob) (ts : List (List AV)) (v : Int) (h : Bool), ShT ts → True → (-9223372036854775808 : Int) ≤ v ∧ v ≤ (9223372036854775807 : Int) → TbsP ts ∧ bif decide (idxP (hcP v) ts
  < (0 : Int)) then ((0 : Int) = chV ts v ∧ chT ts v = [] ∧ chS ts v = [] ∧ True) ∧ (9 : Int) = chE ts v ∧ True else bif decide ((0 : Int) ≤ idxP (hcP v) ts ∧ idxP (hcP v) ts <
  (↑ts.length : Int)) then ∃ n xs xs_1, List.take [AV.int IntKind.i64 n, AV.sl (5 : Nat) false xs, AV.sl (2 : Nat) false xs_1].length (ts.getD (idxP (hcP v) ts).toNat []) = [AV.int
  IntKind.i64 n, AV.sl (5 : Nat) false xs, AV.sl (2 : Nat) false xs_1] ∧ xs.length ≤ (1000 : Nat) ∧ xs_1.length ≤ (1000 : Nat) ∧ (∃ x, CoI xs_1 x ∧ ((0 : Nat) = (0 : Nat) ∧ (0 : Int)
  = (0 : Int) ∧ (0 : Nat) = (0 : Nat) ∧ (↑xs_1.length : Int) = (↑xs_1.length : Int) ∧ (0 : Int) = x ∧ True) ∧ ((0 : Int) = (0 : Int) ∧ True ∧ True ∧ True) ∧ (n = n ∧ (True ∧ xs = xs)
  ∧ xs_1.length = xs_1.length ∧ True) ∧ xs_1 = xs_1 ∧ True) ∧ ∀ (x : Int), CoI xs_1 x → bif decide (x < (↑xs_1.length : Int)) then bif decide ((0 : Int) ≤ x ∧ x < (↑xs_1.length :
  Int)) then bif decide (xs_1.length = xs_1.length ∧ x.toNat < xs_1.length) then ∃ xs_2, List.take [AV.sl (1 : Nat) false xs_2].length (List.drop (1 : Nat) (xs_1.getD x.toNat [])) =
  [AV.sl (1 : Nat) false xs_2] ∧ xs_2.length ≤ (1000 : Nat) ∧ bif decide ((0 : Int) ≤ x ∧ x < (↑xs_1.length : Int)) then bif decide (xs_1.length = xs_1.length ∧ x.toNat <
  xs_1.length) then bif decide (rng IntKind.i64 (x + (1 : Int))) then ∃ y, CoI xs_1 y ∧ (coI n xs xs_1).m y < (coI n xs xs_1).m x ∧ ((0 : Nat) = (0 : Nat) ∧ (0 : Int) = (0 : Int) ∧
  (0 : Nat) = (0 : Nat) ∧ (↑xs_1.length : Int) = (↑xs_1.length : Int) ∧ x + (1 : Int) = y ∧ True) ∧ ((0 : Int) = (0 : Int) ∧ True ∧ True ∧ True) ∧ (n = n ∧ (True ∧ xs = xs) ∧
  xs_1.length = xs_1.length ∧ True) ∧ setEl xs_1 x.toNat (1 : Nat) [AV.sl (1 : Nat) false xs_2] = xs_1 ∧ True else False else False else False else False else False else bif decide
  (xs_1.length = xs_1.length) then (n = chV ts v ∧ (True ∧ xs = chT ts v) ∧ (True ∧ xs_1 = chS ts v) ∧ True) ∧ (0 : Int) = chE ts v ∧ True else False else False
set_option maxRecDepth 100000 in
theorem choose_P : choose_T chV chT chS chE := by
  unfold choose_T
  intro gl ts v h ht _ _
  have hp := ht.fp
  have hl := hp.fl
  have bh : cond h (h = true) True := by cases h <;> trivial
  refine ⟨hp, csx (fun hn => ?_) (fun hn => cd1 ?_ ?_)⟩
  · unfold chV chT chS chE
    rw [if_pos hn, if_pos hn, if_pos hn, if_pos hn]
    exact ⟨⟨rfl, rfl, rfl, trivial⟩, rfl, trivial⟩
  · have := idx_lt hn; omega
  · obtain ⟨k1, k2⟩ := idx_lt hn
    obtain ⟨n, es, ss, hr, _, _, hss⟩ := hp.fr (idxP (hcP v) ts).toNat k1
    obtain ⟨l1, l2, l3⟩ := ht.fe (idxP (hcP v) ts).toNat k1
    have e1 : esC (ts.getD (idxP (hcP v) ts).toNat []) = es := by rw [hr]; rfl
    have e2 : ssC (ts.getD (idxP (hcP v) ts).toNat []) = ss := by rw [hr]; rfl
    rw [e1] at l1
    rw [e2] at l2 l3
    refine ⟨n, es, ss, by rw [hr]; rfl, by omega, by omega, ⟨0, ⟨by decide, by omega⟩, by (repeat' (first | exact trivial | exact rfl | assumption | apply And.intro))⟩, ?_⟩
    rintro i ⟨i0, i1⟩
    refine csx (fun hi => cd1 (by omega) (cd1 ⟨rfl, by omega⟩ ?_)) (fun hi => ?_)
    · obtain ⟨c, cs, hr2, _, hcs⟩ := hss.fr i.toNat (by omega)
      have hc := l3 i.toNat (by omega)
      have e3 : sqC (ss.getD i.toNat []) = cs := by rw [hr2]; rfl
      rw [e3] at hc
      have es2 : setEl ss i.toNat 1 [.sl 1 false cs] = ss := by
        unfold setEl
        rw [hr2]
        have hj : i.toNat < ss.length := by omega
        have : ss[i.toNat] = [.int .i64 c, .sl 1 false cs] := by
          rw [← hr2, List.getD_eq_getElem?_getD, List.getElem?_eq_getElem hj]; rfl
        show ss.set i.toNat [.int .i64 c, .sl 1 false cs] = ss
        rw [← this]; exact List.set_getElem_self hj
      refine ⟨cs, by rw [hr2]; rfl, hc, cd1 (by omega) (cd1 ⟨rfl, by omega⟩ (cdI (by omega) ⟨i + 1, ⟨by omega, by omega⟩, by simp only [coI]; omega, ?_⟩))⟩
      rw [es2]
      (repeat' (first | exact trivial | exact rfl | assumption | apply And.intro))
    · refine cd1 rfl ⟨⟨?_, ⟨trivial, ?_⟩, ⟨trivial, ?_⟩, trivial⟩, ?_, trivial⟩
      · unfold chV; rw [if_neg hn, hr]; rfl
      · unfold chT; rw [if_neg hn, e1]
      · unfold chS; rw [if_neg hn, e2]
      · unfold chE; rw [if_neg hn]
def choose_S (chV : LLA → Int → Int) (chT : LLA → Int → LLA) (chS : LLA → Int → LLA) (chE : LLA → Int → Int) : Prop := ∀ (gl : Glob) (ts : List (List AV)) (v : Int) (h : Bool), ShT ts → fnK Tryd.prog { glob := gl, spec := lk [(52, cloE_s), (54, cloI_s)], specH := lk [(50, chX_s), (53, cloS_s)], shape := [18, 41], slz := [(18, [5, 2]), (41, [1])], nowf := true } { nt := 47, drop := drp [(1, 3584), (2, 4096), (3, 16384), (4, 491520), (5, 133693440), (6, 402653184), (8, 4294967296), (9, 35175782154240), (10, 35184372088832), (11, 70368744177664)] } (coJ) 6 Tryd.f26 [.sl 3 h ts, .int .i64 v] (.tup [.agg [.int .i64 (chV ts v), .sl 5 false (chT ts v), .sl 2 false (chS ts v)], .int .i64 (chE ts v)])
set_option maxRecDepth 100000 in
theorem choose_e (chV : LLA → Int → Int) (chT : LLA → Int → LLA) (chS : LLA → Int → LLA) (chE : LLA → Int → Int) : choose_T chV chT chS chE = choose_S chV chT chS chE := by kernel_rfl
theorem choose_v : choose_S chV chT chS chE := @Eq.mp (choose_T chV chT chS chE) (choose_S chV chT chS chE) (choose_e chV chT chS chE) (choose_P)
theorem choose_ok (gl : Glob) : SOK Tryd.prog gl 26 (choose_s chV chT chS chE) := by
  refine ⟨fok Tryd.func26 (by kernel_rfl) (by kernel_rfl), ?_⟩
  intro xs pre r h hp
  unfold choose_s at h
  split at h
  · simp only [Option.some.injEq, Prod.mk.injEq] at h
    obtain ⟨h1, h2⟩ := h
    subst h1 h2
    exact fnK_sound tyNil (by exact specOK rfl rfl ⟨(cloE_ok gl), (cloI_ok gl), trivial⟩ ⟨(chX_ok gl), (cloS_ok gl), trivial⟩) (by kernel_rfl) Tryd.func26 rfl (choose_v gl _ _ _ hp)
  · cases h
end Go.Proofs.YthdfkiopppkfcaaDoor
