/- Hydrostatic: the law of greater tolerances. -/
import Derived.Test.YtboknhifjhjkdaaDoorHyC
namespace Go.Proofs.YtboknhifjhjkdaaDoor
open Go
set_option linter.unusedVariables false
set_option linter.unusedSimpArgs false

structure V6 where
  at' : Int
  a : Int
  b : Int
  c : Int
  d : Int
  e : Int
  g : Int
def V6.row (v : V6) : List (List AV) := row6 v.a v.b v.c v.d v.e v.g
structure V6P (n : Int) (v : V6) : Prop where
  at0 : 0 ≤ v.at'
  a : -n ≤ v.a ∧ v.a ≤ n
  b : -n ≤ v.b ∧ v.b ≤ n
  c : -n ≤ v.c ∧ v.c ≤ n
  d : -n ≤ v.d ∧ v.d ≤ n
  e : -n ≤ v.e ∧ v.e ≤ n
  g : -n ≤ v.g ∧ v.g ≤ n
structure WidP (x : Int × Int × List (List AV)) : Prop where
  lo : 0 ≤ x.1
  hi : x.1 ≤ 2
  v : ∃ v : V6, V6P (20000 - 100 * x.1) v ∧ x.2.1 = v.at' ∧ x.2.2 = v.row
def widI (X : List (List AV)) : LInv := ⟨Int × Int × List (List AV), fun x => ⟨[(2, .bool false), (3, .ptr 19 0), (4, .rw 21 2 6), (5, .int .i64 x.1)], [(19, .cells [.sl 1 false X, .int .i64 x.2.1]), (21, .row 32 2 x.2.2)]⟩, WidP, fun x => x.1.toNat, none⟩
def widC (X : List (List AV)) : LInv := ⟨V6, fun v => ⟨[(2, .bool false), (3, .ptr 19 0), (4, .rw 21 2 6)], [(19, .cells [.sl 1 false X, .int .i64 v.at']), (21, .row 32 2 v.row)]⟩, V6P 20000, fun _ => 0, none⟩
theorem V6.put {v : V6} {m : Int} (h : V6P m v) {k : Int} (hk : 0 ≤ k ∧ k < 6) {r q : Int} (hr : -q ≤ r ∧ r ≤ q) (at2 : Int) (ha : 0 ≤ at2) :
    ∃ n, List.take 1 (List.drop 1 (v.row.getD k.toNat [])) = [AV.int .i64 n] ∧ (-m ≤ n ∧ n ≤ m) ∧ ∃ v' : V6, V6P (m + q) v' ∧ v'.at' = at2 ∧ setEl v.row k.toNat 1 [.int .i64 (n + r)] = v'.row := by
  obtain ⟨h0, h1, h2, h3, h4, h5, h6⟩ := h
  have : k = 0 ∨ k = 1 ∨ k = 2 ∨ k = 3 ∨ k = 4 ∨ k = 5 := by omega
  rcases this with rfl | rfl | rfl | rfl | rfl | rfl
  · exact ⟨v.a, rfl, h1, ⟨at2, v.a + r, v.b, v.c, v.d, v.e, v.g⟩, ⟨ha, by dsimp only; omega, by dsimp only; omega, by dsimp only; omega, by dsimp only; omega, by dsimp only; omega, by dsimp only; omega⟩, rfl, rfl⟩
  · exact ⟨v.b, rfl, h2, ⟨at2, v.a, v.b + r, v.c, v.d, v.e, v.g⟩, ⟨ha, by dsimp only; omega, by dsimp only; omega, by dsimp only; omega, by dsimp only; omega, by dsimp only; omega, by dsimp only; omega⟩, rfl, rfl⟩
  · exact ⟨v.c, rfl, h3, ⟨at2, v.a, v.b, v.c + r, v.d, v.e, v.g⟩, ⟨ha, by dsimp only; omega, by dsimp only; omega, by dsimp only; omega, by dsimp only; omega, by dsimp only; omega, by dsimp only; omega⟩, rfl, rfl⟩
  · exact ⟨v.d, rfl, h4, ⟨at2, v.a, v.b, v.c, v.d + r, v.e, v.g⟩, ⟨ha, by dsimp only; omega, by dsimp only; omega, by dsimp only; omega, by dsimp only; omega, by dsimp only; omega, by dsimp only; omega⟩, rfl, rfl⟩
  · exact ⟨v.e, rfl, h5, ⟨at2, v.a, v.b, v.c, v.d, v.e + r, v.g⟩, ⟨ha, by dsimp only; omega, by dsimp only; omega, by dsimp only; omega, by dsimp only; omega, by dsimp only; omega, by dsimp only; omega⟩, rfl, rfl⟩
  · exact ⟨v.g, rfl, h6, ⟨at2, v.a, v.b, v.c, v.d, v.e, v.g + r⟩, ⟨ha, by dsimp only; omega, by dsimp only; omega, by dsimp only; omega, by dsimp only; omega, by dsimp only; omega, by dsimp only; omega⟩, rfl, rfl⟩
theorem V6P.rds {v : V6} {m : Int} (h : V6P m v) (hm : m ≤ 1000000) : RdsP v.row := by
  obtain ⟨h0, h1, h2, h3, h4, h5, h6⟩ := h
  exact rds6 (by unfold R64; omega) (by unfold R64; omega) (by unfold R64; omega) (by unfold R64; omega) (by unfold R64; omega) (by unfold R64; omega)
theorem V6P.sm {v : V6} {m : Int} (h : V6P m v) (hm : m ≤ 100000) : Sm6 v.a v.b v.c v.d v.e v.g := by
  obtain ⟨h0, h1, h2, h3, h4, h5, h6⟩ := h
  exact ⟨by omega, by omega, by omega, by omega, by omega, by omega⟩
theorem chR_len {a b m : Int} (h : (chR a true b true m).length = 0) : wrg a m = false ∧ wrg b m = false := by
  unfold chR at h
  cases ha : wrg a m <;> cases hb : wrg b m <;> rw [ha, hb] at h
  · exact ⟨rfl, rfl⟩
  · simp at h
  · simp at h
  · simp only [Bool.and_self, if_true] at h
    unfold botL at h
    split at h
    · simp at h
    · split at h <;> simp at h
theorem wrg_mono {a m n : Int} (h : wrg a m = false) (hm : m ≤ n) : wrg a n = false := by
  unfold wrg at h ⊢
  have := of_decide_eq_false h
  exact decide_eq_false (by omega)
theorem iro_len (l : List Int) : (iro l).length = l.length := by unfold iro; simp
def lWider_s (vdE : List (List AV) → Int) (chL : List (List AV) → Int → List Int) (chE : List (List AV) → Int → Int) (eqR : List (List AV) → List (List AV) → Bool) (fA : List (List AV) → Int → Int) (fH1 : List (List AV) → Int → Int) (fH2 : List (List AV) → Int → Int) (fH3 : List (List AV) → Int → Int) (fT1 : List (List AV) → Int → Int) (fT2 : List (List AV) → Int → Int) (fT3 : List (List AV) → Int → Int) (rL : List (List AV) → Int) (rU : List (List AV) → Int) (bL : List (List AV) → Bool) (bU : List (List AV) → Bool) : Sp
  | [.sl 1 false zs] => some (IntsA zs, .bool true)
  | _ => none
set_option maxRecDepth 100000 in
def lWider_T (vdE : List (List AV) → Int) (chL : List (List AV) → Int → List Int) (chE : List (List AV) → Int → Int) (eqR : List (List AV) → List (List AV) → Bool) (fA : List (List AV) → Int → Int) (fH1 : List (List AV) → Int → Int) (fH2 : List (List AV) → Int → Int) (fH3 : List (List AV) → Int → Int) (fT1 : List (List AV) → Int → Int) (fT2 : List (List AV) → Int → Int) (fT3 : List (List AV) → Int → Int) (rL : List (List AV) → Int) (rU : List (List AV) → Int) (bL : List (List AV) → Bool) (bU : List (List AV) → Bool) (botL : Int → Int → Int → List Int) : Prop :=
  ∀ (zs : List (List AV)), (∀ (x : List AV), List.Mem x zs → ∃ n, x = [AV.int IntKind.i64 n] ∧ rng IntKind.i64 n) → True → True ∧ (SrcI (List.take (2000 : Nat) zs) ∧ (0 : Int) ≤ (0 :
  Int)) ∧ ((SrcI (List.take (2000 : Nat) zs) ∧ (0 : Int) ≤ fA (List.take (2000 : Nat) zs) (0 : Int)) ∧ (∃ x, WidP x ∧ (false = false ∧ (0 : Nat) = (0 : Nat) ∧ (6 : Nat) = (6 : Nat) ∧
  srcN (List.take (2000 : Nat) zs) (fA (List.take (2000 : Nat) zs) (0 : Int)) (3 : Int) = x.fst ∧ True) ∧ ((True ∧ List.take (2000 : Nat) zs = List.take (2000 : Nat) zs) ∧ rawA
  (List.take (2000 : Nat) zs) (fA (List.take (2000 : Nat) zs) (0 : Int)) = x.snd.fst ∧ True) ∧ row6 (fH1 (List.take (2000 : Nat) zs) (0 : Int)) (fT1 (List.take (2000 : Nat) zs) (0 :
  Int)) (fH2 (List.take (2000 : Nat) zs) (0 : Int)) (fT2 (List.take (2000 : Nat) zs) (0 : Int)) (fH3 (List.take (2000 : Nat) zs) (0 : Int)) (fT3 (List.take (2000 : Nat) zs) (0 :
  Int)) = x.snd.snd ∧ True) ∧ ∀ (x : Int × Int × List (List AV)), WidP x → bif decide ((0 : Int) < x.fst) then (SrcI (List.take (2000 : Nat) zs) ∧ (0 : Int) ≤ x.snd.fst) ∧ bif decide
  ((0 : Int) ≤ srcN (List.take (2000 : Nat) zs) x.snd.fst (6 : Int) ∧ srcN (List.take (2000 : Nat) zs) x.snd.fst (6 : Int) < (6 : Int)) then bif decide ((6 : Nat) = x.snd.snd.length
  ∧ (srcN (List.take (2000 : Nat) zs) x.snd.fst (6 : Int)).toNat < x.snd.snd.length) then ∃ n, List.take [AV.int IntKind.i64 n].length (List.drop (1 : Nat) (x.snd.snd.getD (srcN
  (List.take (2000 : Nat) zs) x.snd.fst (6 : Int)).toNat [])) = [AV.int IntKind.i64 n] ∧ ((SrcI (List.take (2000 : Nat) zs) ∧ (0 : Int) ≤ rawA (List.take (2000 : Nat) zs) x.snd.fst)
  ∧ ((-1000000 : Int) ≤ (-100 : Int) ∧ (-100 : Int) ≤ (1000000 : Int)) ∧ (-100 : Int) ≤ (100 : Int) ∧ (100 : Int) ≤ (1000000 : Int)) ∧ bif decide (rng IntKind.i64 (n + ((-100 : Int)
  + srcN (List.take (2000 : Nat) zs) (rawA (List.take (2000 : Nat) zs) x.snd.fst) (201 : Int)))) then bif decide ((0 : Int) ≤ srcN (List.take (2000 : Nat) zs) x.snd.fst (6 : Int) ∧
  srcN (List.take (2000 : Nat) zs) x.snd.fst (6 : Int) < (6 : Int)) then bif decide ((6 : Nat) = x.snd.snd.length ∧ (srcN (List.take (2000 : Nat) zs) x.snd.fst (6 : Int)).toNat <
  x.snd.snd.length) then bif decide (rng IntKind.i64 (x.fst - (1 : Int))) then ∃ y, WidP y ∧ (widI (List.take (2000 : Nat) zs)).m y < (widI (List.take (2000 : Nat) zs)).m x ∧ (false
  = false ∧ (0 : Nat) = (0 : Nat) ∧ (6 : Nat) = (6 : Nat) ∧ x.fst - (1 : Int) = y.fst ∧ True) ∧ ((True ∧ List.take (2000 : Nat) zs = List.take (2000 : Nat) zs) ∧ rawA (List.take
  (2000 : Nat) zs) (rawA (List.take (2000 : Nat) zs) x.snd.fst) = y.snd.fst ∧ True) ∧ setEl x.snd.snd (srcN (List.take (2000 : Nat) zs) x.snd.fst (6 : Int)).toNat (1 : Nat) [AV.int
  IntKind.i64 (n + ((-100 : Int) + srcN (List.take (2000 : Nat) zs) (rawA (List.take (2000 : Nat) zs) x.snd.fst) (201 : Int)))] = y.snd.snd ∧ True else False else False else False
  else False else False else False else ∃ x_1, V6P (20000 : Int) x_1 ∧ (false = false ∧ (0 : Nat) = (0 : Nat) ∧ (6 : Nat) = (6 : Nat) ∧ True) ∧ ((True ∧ List.take (2000 : Nat) zs =
  List.take (2000 : Nat) zs) ∧ x.snd.fst = x_1.at' ∧ True) ∧ x.snd.snd = V6.row x_1 ∧ True) ∧ ∀ (x : V6), V6P (20000 : Int) x → RdsP x.row ∧ bif decide ¬vdE x.row = (0 : Int) then
  True ∧ true = true else ((SrcI (List.take (2000 : Nat) zs) ∧ (0 : Int) ≤ x.at') ∧ ((-1000000 : Int) ≤ (0 : Int) ∧ (0 : Int) ≤ (1000000 : Int)) ∧ (0 : Int) ≤ (60 : Int) ∧ (60 : Int)
  ≤ (1000000 : Int)) ∧ RdsP x.row ∧ (SrcI (List.take (2000 : Nat) zs) ∧ (0 : Int) ≤ rawA (List.take (2000 : Nat) zs) x.at') ∧ bif decide (rng IntKind.i64 ((0 : Int) + srcN (List.take
  (2000 : Nat) zs) x.at' (61 : Int) + srcN (List.take (2000 : Nat) zs) (rawA (List.take (2000 : Nat) zs) x.at') (60 : Int))) then RdsP x.row ∧ RdsP x.row ∧ bif decide (rng
  IntKind.i64 ((0 : Int) - rL x.row)) then bif decide (rng IntKind.i64 ((0 : Int) - rU x.row)) then bif decide (rng IntKind.i64 (max (max (max (rL x.row) ((0 : Int) - rL x.row)) (rU
  x.row)) ((0 : Int) - rU x.row) + (19999 : Int))) then bif decide (rng IntKind.i64 ((max (max (max (rL x.row) ((0 : Int) - rL x.row)) (rU x.row)) ((0 : Int) - rU x.row) + (19999 :
  Int)).tdiv (20000 : Int))) then bif decide ¬chE x.row ((0 : Int) + srcN (List.take (2000 : Nat) zs) x.at' (61 : Int)) = (0 : Int) then false = true else bif decide ¬chE x.row ((0 :
  Int) + srcN (List.take (2000 : Nat) zs) x.at' (61 : Int) + srcN (List.take (2000 : Nat) zs) (rawA (List.take (2000 : Nat) zs) x.at') (60 : Int)) = (0 : Int) then false = true else
  bif decide ((↑(iro (chL x.row ((0 : Int) + srcN (List.take (2000 : Nat) zs) x.at' (61 : Int)))).length : Int) = (0 : Int)) then bif decide ((0 : Int) < (↑(iro (chL x.row ((0 : Int)
  + srcN (List.take (2000 : Nat) zs) x.at' (61 : Int) + srcN (List.take (2000 : Nat) zs) (rawA (List.take (2000 : Nat) zs) x.at') (60 : Int)))).length : Int)) then false = true else
  bif decide ((1000 : Int) < (max (max (max (rL x.row) ((0 : Int) - rL x.row)) (rU x.row)) ((0 : Int) - rU x.row) + (19999 : Int)).tdiv (20000 : Int)) then True ∧ true = true else
  RdsP x.row ∧ bif decide (chE x.row ((max (max (max (rL x.row) ((0 : Int) - rL x.row)) (rU x.row)) ((0 : Int) - rU x.row) + (19999 : Int)).tdiv (20000 : Int)) = (0 : Int)) then bif
  decide ((↑(iro (chL x.row ((max (max (max (rL x.row) ((0 : Int) - rL x.row)) (rU x.row)) ((0 : Int) - rU x.row) + (19999 : Int)).tdiv (20000 : Int)))).length : Int) = (0 : Int))
  then True ∧ true = true else false = true else false = true else bif decide ((1000 : Int) < (max (max (max (rL x.row) ((0 : Int) - rL x.row)) (rU x.row)) ((0 : Int) - rU x.row) +
  (19999 : Int)).tdiv (20000 : Int)) then True ∧ true = true else RdsP x.row ∧ bif decide (chE x.row ((max (max (max (rL x.row) ((0 : Int) - rL x.row)) (rU x.row)) ((0 : Int) - rU
  x.row) + (19999 : Int)).tdiv (20000 : Int)) = (0 : Int)) then bif decide ((↑(iro (chL x.row ((max (max (max (rL x.row) ((0 : Int) - rL x.row)) (rU x.row)) ((0 : Int) - rU x.row) +
  (19999 : Int)).tdiv (20000 : Int)))).length : Int) = (0 : Int)) then True ∧ true = true else false = true else false = true else False else False else False else False else False
set_option maxRecDepth 100000 in
theorem lWider_P : lWider_T vdE chL chE eqR fA fH1 fH2 fH3 fT1 fT2 fT3 rL rU bL bU botL := by
  unfold lWider_T
  intro zs hz _
  have hs : SrcI (List.take 2000 zs) := SrcI.take hz
  have f := fit_ok (List.take 2000 zs) 0
  have i1 : 0 ≤ fA (List.take 2000 zs) 0 := rawA_le (rawA_le (rawA_le (rawA_le (by decide))))
  generalize List.take 2000 zs = X at *
  generalize fA X 0 = i at *
  have i2 := rawA_le (xs := X) i1
  have n3 := srcN_lt (xs := X) (i := i) (n := 3) (by decide)
  generalize srcN X i 3 = cnt at *
  generalize fH1 X 0 = h1 at *
  generalize fH2 X 0 = h2 at *
  generalize fH3 X 0 = h3 at *
  generalize fT1 X 0 = t1 at *
  generalize fT2 X 0 = t2 at *
  generalize fT3 X 0 = t3 at *
  have rb := f.rds
  refine ⟨trivial, ⟨hs, by decide⟩, ⟨⟨hs, i1⟩, ⟨(cnt, rawA X i, row6 h1 t1 h2 t2 h3 t3), ⟨n3.1, by dsimp only; omega, ⟨⟨rawA X i, h1, t1, h2, t2, h3, t3⟩, ⟨i2, by dsimp only; omega, by dsimp only; omega, by dsimp only; omega, by dsimp only; omega, by dsimp only; omega, by dsimp only; omega⟩, rfl, rfl⟩⟩, ⟨rfl, rfl, rfl, rfl, trivial⟩, ⟨⟨trivial, rfl⟩, rfl, trivial⟩, rfl, trivial⟩, ?_⟩, ?_⟩
  · rintro ⟨j, at1, rows⟩ ⟨j0, j1, v, hv, e1, e2⟩
    dsimp only at j0 j1 hv e1 e2
    subst e1 e2
    dsimp only
    have a1 := hv.at0
    have a2 := rawA_le (xs := X) a1
    have a3 := rawA_le (xs := X) a2
    refine cs (fun hj => ⟨⟨hs, a1⟩, ?_⟩) (fun hj => ⟨v, ⟨hv.at0, ?_, ?_, ?_, ?_, ?_, ?_⟩, ⟨rfl, rfl, rfl, trivial⟩, ⟨⟨trivial, rfl⟩, rfl, trivial⟩, rfl, trivial⟩)
    · have k1 := srcN_lt (xs := X) (i := v.at') (n := 6) (by decide)
      have k2 := srcN_lt (xs := X) (i := rawA X v.at') (n := 201) (by decide)
      generalize srcN X v.at' 6 = k at *
      generalize srcN X (rawA X v.at') 201 = r at *
      obtain ⟨n, p1, p2, v', p3, p4, p5⟩ := V6.put hv k1 (r := -100 + r) (q := 100) (by omega) (rawA X (rawA X v.at')) a3
      have hl : (6 = v.row.length ∧ k.toNat < v.row.length) := ⟨rfl, show k.toNat < 6 by omega⟩
      refine cd1 k1 (cd1 hl ⟨n, p1, ⟨⟨hs, a2⟩, by decide, by decide, by decide⟩, cdI (by omega) (cd1 k1 (cd1 hl (cdI (by omega) ⟨(j - 1, v'.at', v'.row), ⟨by dsimp only; omega, by dsimp only; omega, v', ?_, rfl, rfl⟩, by simp only [widI]; omega, ⟨rfl, rfl, rfl, rfl, trivial⟩, ⟨⟨trivial, rfl⟩, p4.symm, trivial⟩, p5, trivial⟩)))⟩)
      obtain ⟨b0, b1, b2, b3, b4, b5, b6⟩ := p3
      exact ⟨b0, by dsimp only; omega, by dsimp only; omega, by dsimp only; omega, by dsimp only; omega, by dsimp only; omega, by dsimp only; omega⟩
    all_goals
      obtain ⟨b0, b1, b2, b3, b4, b5, b6⟩ := hv
      omega
  · intro v hv
    have a1 := hv.at0
    have a2 := rawA_le (xs := X) a1
    have hr := hv.rds (by decide)
    refine ⟨hr, cs (fun _ => ⟨trivial, rfl⟩) (fun q => ⟨⟨⟨hs, a1⟩, by decide, by decide, by decide⟩, hr, ⟨hs, a2⟩, ?_⟩)⟩
    have q : vdE (row6 v.a v.b v.c v.d v.e v.g) = 0 := Decidable.not_not.1 q
    have k1 := srcN_lt (xs := X) (i := v.at') (n := 61) (by decide)
    have k2 := srcN_lt (xs := X) (i := rawA X v.at') (n := 60) (by decide)
    generalize srcN X v.at' 61 = t at *
    generalize srcN X (rawA X v.at') 60 = u at *
    obtain ⟨r1, _, r2, _⟩ := rs6 (hv.sm (by decide))
    have b1 : -6000000000 ≤ rL v.row ∧ rL v.row ≤ 6000000000 := rs_bd (by decide)
    have b2 : -6000000000 ≤ rU v.row ∧ rU v.row ≤ 6000000000 := rs_bd (by decide)
    have ch := fun m hm => ch6e (m := m) q hm
    rw [← r1, ← r2] at ch
    change ∀ m : Int, 0 ≤ m ∧ m ≤ 1000 → chE v.row m = 0 ∧ chL v.row m = chR (rL v.row) true (rU v.row) true m at ch
    generalize rL v.row = A at *
    generalize rU v.row = B at *
    obtain ⟨c1', c2'⟩ := ch (0 + t) (by omega)
    obtain ⟨c3', c4'⟩ := ch (0 + t + u) (by omega)
    have hM : (max (max (max A (0 - A)) B) (0 - B) + 19999).tdiv 20000 = (max (max (max A (0 - A)) B) (0 - B) + 19999) / 20000 := Int.tdiv_eq_ediv_of_nonneg (by omega)
    rw [hM, c1', c2', c3', c4', iro_len, iro_len]
    have hA : ∀ m, max (max (max A (0 - A)) B) (0 - B) ≤ 20000 * m → wrg A m = false ∧ wrg B m = false := fun m h => ⟨wrg_f (by omega), wrg_f (by omega)⟩
    have hM2 : max (max (max A (0 - A)) B) (0 - B) ≤ 20000 * ((max (max (max A (0 - A)) B) (0 - B) + 19999) / 20000) ∧ 0 ≤ (max (max (max A (0 - A)) B) (0 - B) + 19999) / 20000 := by omega
    have hM3 : 0 ≤ max (max (max A (0 - A)) B) (0 - B) ∧ max (max (max A (0 - A)) B) (0 - B) ≤ 6000000000 := by omega
    have w : ∀ m, max (max (max A (0 - A)) B) (0 - B) ≤ 20000 * m → chR A true B true m = [] := fun m h => chR_n (hA m h).1 (hA m h).2
    refine cdI (by omega) (hr |> fun _ => ⟨hr, hr, cdI (by omega) (cdI (by omega) (cdI (by omega) (cdI (by omega) (cd0 (by decide) (cd0 (by decide) ?_)))))⟩)
    generalize (max (max (max A (0 - A)) B) (0 - B) + 19999) / 20000 = m at *
    have fin : cond (decide (1000 < m)) (True ∧ true = true) (RdsP v.row ∧ cond (decide (chE v.row m = 0)) (cond (decide ((↑(iro (chL v.row m)).length : Int) = 0)) (True ∧ true = true) (false = true)) (false = true)) := by
      refine cs (fun _ => ⟨trivial, rfl⟩) (fun k => ⟨hr, ?_⟩)
      obtain ⟨d1, d2⟩ := ch m (by omega)
      rw [d1, d2, w m hM2.1]
      exact cd1 rfl (cd1 rfl ⟨trivial, rfl⟩)
    refine cs (fun k => cs (fun k2 => ?_) (fun _ => fin)) (fun _ => fin)
    exfalso
    have k : (chR A true B true (0 + t)).length = 0 := by omega
    obtain ⟨z1, z2⟩ := chR_len k
    rw [chR_n (wrg_mono z1 (by omega)) (wrg_mono z2 (by omega))] at k2
    exact absurd k2 (by decide)
def lWider_S (vdE : List (List AV) → Int) (chL : List (List AV) → Int → List Int) (chE : List (List AV) → Int → Int) (eqR : List (List AV) → List (List AV) → Bool) (fA : List (List AV) → Int → Int) (fH1 : List (List AV) → Int → Int) (fH2 : List (List AV) → Int → Int) (fH3 : List (List AV) → Int → Int) (fT1 : List (List AV) → Int → Int) (fT2 : List (List AV) → Int → Int) (fT3 : List (List AV) → Int → Int) (rL : List (List AV) → Int) (rU : List (List AV) → Int) (bL : List (List AV) → Bool) (bU : List (List AV) → Bool) (botL : Int → Int → Int → List Int) : Prop := ∀ (zs : List (List AV)), IntsA zs → fnK Tryd.prog { glob := glb, spec := lk [(9, (hcheck_s vdE rL rU bL bU chL chE botL)), (15, (hresids_s rL rU bL bU)), (10, mod_s), (11, (rvalid_s vdE)), (12, hawake_s)], specH := lk [(7, newsrc_s), (8, (hfit_s fA fH1 fH2 fH3 fT1 fT2 fT3)), (14, srcn_s), (16, srcRg_s)], shape := [33], nowf := true } { nt := 111, drop := drp [(1, 786432), (2, 3145728), (3, 12582912), (4, 16777216), (5, 201326592), (6, 549487378432), (7, 1649267441664), (8, 4398046511104), (9, 26388279066624), (10, 2216615441596416), (11, 1150669704793161728), (12, 146421031085069565952), (13, 75410289773324647006208), (14, 2475804520707034635474829312), (16, 4951760157141521099596496896), (17, 19807040628566084398385987584), (18, 2495687119199326634196634435584), (19, 2593613128066957355462254758199296)], frz := fun id => cond (Nat.beq id 7) [4] [] } (invs [(4, widI (List.take 2000 zs)), (100007, widC (List.take 2000 zs))]) 6 Tryd.f5 [.sl 1 false zs] (.bool true)
set_option maxRecDepth 100000 in
theorem lWider_e (vdE : List (List AV) → Int) (chL : List (List AV) → Int → List Int) (chE : List (List AV) → Int → Int) (eqR : List (List AV) → List (List AV) → Bool) (fA : List (List AV) → Int → Int) (fH1 : List (List AV) → Int → Int) (fH2 : List (List AV) → Int → Int) (fH3 : List (List AV) → Int → Int) (fT1 : List (List AV) → Int → Int) (fT2 : List (List AV) → Int → Int) (fT3 : List (List AV) → Int → Int) (rL : List (List AV) → Int) (rU : List (List AV) → Int) (bL : List (List AV) → Bool) (bU : List (List AV) → Bool) (botL : Int → Int → Int → List Int) : lWider_T vdE chL chE eqR fA fH1 fH2 fH3 fT1 fT2 fT3 rL rU bL bU botL = lWider_S vdE chL chE eqR fA fH1 fH2 fH3 fT1 fT2 fT3 rL rU bL bU botL := by kernel_rfl
theorem lWider_v : lWider_S vdE chL chE eqR fA fH1 fH2 fH3 fT1 fT2 fT3 rL rU bL bU botL := @Eq.mp (lWider_T vdE chL chE eqR fA fH1 fH2 fH3 fT1 fT2 fT3 rL rU bL bU botL) (lWider_S vdE chL chE eqR fA fH1 fH2 fH3 fT1 fT2 fT3 rL rU bL bU botL) (lWider_e vdE chL chE eqR fA fH1 fH2 fH3 fT1 fT2 fT3 rL rU bL bU botL) lWider_P
theorem lWider_ok : SOK Tryd.prog glb 5 (lWider_s vdE chL chE eqR fA fH1 fH2 fH3 fT1 fT2 fT3 rL rU bL bU) := by
  refine ⟨fok Tryd.func5 (by kernel_rfl) (by kernel_rfl), ?_⟩
  intro xs pre r h hp
  unfold lWider_s at h
  split at h
  · simp only [Option.some.injEq, Prod.mk.injEq] at h
    obtain ⟨h1, h2⟩ := h
    subst h1 h2
    exact fnK_sound tyNil (by exact specOK rfl rfl ⟨hcheck_ok, hresids_ok glb, mod_ok glb, rvalid_ok glb, hawake_ok, trivial⟩ ⟨newsrc_ok glb, hfit_ok glb, srcn_ok glb, srcRg_ok glb, trivial⟩) (by kernel_rfl) Tryd.func5 rfl (lWider_v  _ hp)
  · cases h
end Go.Proofs.YtboknhifjhjkdaaDoor
