/- Hydrostatic: the law of shifts. -/
import Derived.Test.YtboknhifjhjkdaaDoorHyE
namespace Go.Proofs.YtboknhifjhjkdaaDoor
open Go
set_option linter.unusedVariables false
set_option linter.unusedSimpArgs false

def shfI (X : List (List AV)) (b : Int) : LInv := ⟨Int × Int × List (List AV), fun x => ⟨[(1, .int .i64 b), (4, .bool false), (5, .ptr 30 0), (6, .rw 32 2 6), (7, .int .i64 x.1)], [(30, .cells [.sl 1 false X, .int .i64 x.2.1]), (32, .row 32 2 x.2.2)]⟩, WidP, fun x => x.1.toNat, none⟩
def shfC (X : List (List AV)) (b : Int) : LInv := ⟨V6, fun v => ⟨[(1, .int .i64 b), (4, .bool false), (5, .ptr 30 0), (6, .rw 32 2 6)], [(30, .cells [.sl 1 false X, .int .i64 v.at']), (32, .row 32 2 (row6 v.a v.b v.c v.d v.e v.g))]⟩, V6P 20000, fun _ => 0, none⟩
def row4 (a b c d : Int) : List (List AV) := [[.int .i64 6, .int .i64 a], [.int .i64 7, .int .i64 b], [.int .i64 8, .int .i64 c], [.int .i64 9, .int .i64 d]]
theorem rds4 {a b c d : Int} (h1 : R64 a) (h2 : R64 b) (h3 : R64 c) (h4 : R64 d) : RdsP (row4 a b c d) := by
  refine rds_of (l := [(6, a), (7, b), (8, c), (9, d)]) ?_ (by simp)
  intro p hp
  simp only [List.mem_cons, List.not_mem_nil, or_false] at hp
  rcases hp with rfl | rfl | rfl | rfl
  · exact ⟨show rng .i64 6 by decide, h1⟩
  · exact ⟨show rng .i64 7 by decide, h2⟩
  · exact ⟨show rng .i64 8 by decide, h3⟩
  · exact ⟨show rng .i64 9 by decide, h4⟩
theorem rs4 {a b c d e g : Int} (h : Sm6 a b c d e g) : rL (row4 a b c d) = rL (row6 a b c d e g) ∧ bL (row4 a b c d) = true ∧ rU (row4 a b c d) = 0 ∧ bU (row4 a b c d) = false := by
  have f6 : fnd (row4 a b c d) 6 = true := fnd_iff.2 ⟨rfl, h.a⟩
  have f7 : fnd (row4 a b c d) 7 = true := fnd_iff.2 ⟨rfl, h.b⟩
  have f8 : fnd (row4 a b c d) 8 = true := fnd_iff.2 ⟨rfl, h.c⟩
  have f9 : fnd (row4 a b c d) 9 = true := fnd_iff.2 ⟨rfl, h.d⟩
  have f10 : fnd (row4 a b c d) 10 = false := rfl
  have e1 : rsB (row4 a b c d) 6 7 8 9 = true := rsB_iff.2 ⟨f6, f7, f8, f9⟩
  have e2 : rsB (row4 a b c d) 8 9 10 11 = false := by
    rw [Bool.eq_false_iff]; intro q
    have := (rsB_iff.1 q).2.2.1
    rw [f10] at this; cases this
  refine ⟨?_, e1, ?_, e2⟩
  · rw [(rs6 h).1]
    unfold rL rsV
    rw [if_pos e1]; rfl
  · unfold rU rsV
    rw [e2]; rfl
def lShift_s (vdE : List (List AV) → Int) (fA : List (List AV) → Int → Int) (fH1 : List (List AV) → Int → Int) (fH2 : List (List AV) → Int → Int) (fH3 : List (List AV) → Int → Int) (fT1 : List (List AV) → Int → Int) (fT2 : List (List AV) → Int → Int) (fT3 : List (List AV) → Int → Int) (rL : List (List AV) → Int) (rU : List (List AV) → Int) (bL : List (List AV) → Bool) (bU : List (List AV) → Bool) : Sp
  | [.sl 1 false zs, .int .i64 b] => some (IntsA zs, .bool true)
  | _ => none
set_option maxRecDepth 100000 in
def lShift_T (vdE : List (List AV) → Int) (fA : List (List AV) → Int → Int) (fH1 : List (List AV) → Int → Int) (fH2 : List (List AV) → Int → Int) (fH3 : List (List AV) → Int → Int) (fT1 : List (List AV) → Int → Int) (fT2 : List (List AV) → Int → Int) (fT3 : List (List AV) → Int → Int) (rL : List (List AV) → Int) (rU : List (List AV) → Int) (bL : List (List AV) → Bool) (bU : List (List AV) → Bool) : Prop :=
  ∀ (zs : List (List AV)) (b : Int), (∀ (x : List AV), List.Mem x zs → ∃ n, x = [AV.int IntKind.i64 n] ∧ rng IntKind.i64 n) → True → (-9223372036854775808 : Int) ≤ b ∧ b ≤
  (9223372036854775807 : Int) → True ∧ (SrcI (List.take (2000 : Nat) zs) ∧ (0 : Int) ≤ (0 : Int)) ∧ ((SrcI (List.take (2000 : Nat) zs) ∧ (0 : Int) ≤ fA (List.take (2000 : Nat) zs) (0
  : Int)) ∧ (∃ x, WidP x ∧ (b = b ∧ false = false ∧ (0 : Nat) = (0 : Nat) ∧ (6 : Nat) = (6 : Nat) ∧ srcN (List.take (2000 : Nat) zs) (fA (List.take (2000 : Nat) zs) (0 : Int)) (3 :
  Int) = x.fst ∧ True) ∧ ((True ∧ List.take (2000 : Nat) zs = List.take (2000 : Nat) zs) ∧ rawA (List.take (2000 : Nat) zs) (fA (List.take (2000 : Nat) zs) (0 : Int)) = x.snd.fst ∧
  True) ∧ row6 (fH1 (List.take (2000 : Nat) zs) (0 : Int)) (fT1 (List.take (2000 : Nat) zs) (0 : Int)) (fH2 (List.take (2000 : Nat) zs) (0 : Int)) (fT2 (List.take (2000 : Nat) zs) (0
  : Int)) (fH3 (List.take (2000 : Nat) zs) (0 : Int)) (fT3 (List.take (2000 : Nat) zs) (0 : Int)) = x.snd.snd ∧ True) ∧ ∀ (x : Int × Int × List (List AV)), WidP x → bif decide ((0 :
  Int) < x.fst) then (SrcI (List.take (2000 : Nat) zs) ∧ (0 : Int) ≤ x.snd.fst) ∧ bif decide ((0 : Int) ≤ srcN (List.take (2000 : Nat) zs) x.snd.fst (6 : Int) ∧ srcN (List.take (2000
  : Nat) zs) x.snd.fst (6 : Int) < (6 : Int)) then bif decide ((6 : Nat) = x.snd.snd.length ∧ (srcN (List.take (2000 : Nat) zs) x.snd.fst (6 : Int)).toNat < x.snd.snd.length) then ∃
  n, List.take [AV.int IntKind.i64 n].length (List.drop (1 : Nat) (x.snd.snd.getD (srcN (List.take (2000 : Nat) zs) x.snd.fst (6 : Int)).toNat [])) = [AV.int IntKind.i64 n] ∧ ((SrcI
  (List.take (2000 : Nat) zs) ∧ (0 : Int) ≤ rawA (List.take (2000 : Nat) zs) x.snd.fst) ∧ ((-1000000 : Int) ≤ (-100 : Int) ∧ (-100 : Int) ≤ (1000000 : Int)) ∧ (-100 : Int) ≤ (100 :
  Int) ∧ (100 : Int) ≤ (1000000 : Int)) ∧ bif decide (rng IntKind.i64 (n + ((-100 : Int) + srcN (List.take (2000 : Nat) zs) (rawA (List.take (2000 : Nat) zs) x.snd.fst) (201 :
  Int)))) then bif decide ((0 : Int) ≤ srcN (List.take (2000 : Nat) zs) x.snd.fst (6 : Int) ∧ srcN (List.take (2000 : Nat) zs) x.snd.fst (6 : Int) < (6 : Int)) then bif decide ((6 :
  Nat) = x.snd.snd.length ∧ (srcN (List.take (2000 : Nat) zs) x.snd.fst (6 : Int)).toNat < x.snd.snd.length) then bif decide (rng IntKind.i64 (x.fst - (1 : Int))) then ∃ y, WidP y ∧
  (shfI (List.take (2000 : Nat) zs) b).m y < (shfI (List.take (2000 : Nat) zs) b).m x ∧ (b = b ∧ false = false ∧ (0 : Nat) = (0 : Nat) ∧ (6 : Nat) = (6 : Nat) ∧ x.fst - (1 : Int) =
  y.fst ∧ True) ∧ ((True ∧ List.take (2000 : Nat) zs = List.take (2000 : Nat) zs) ∧ rawA (List.take (2000 : Nat) zs) (rawA (List.take (2000 : Nat) zs) x.snd.fst) = y.snd.fst ∧ True)
  ∧ setEl x.snd.snd (srcN (List.take (2000 : Nat) zs) x.snd.fst (6 : Int)).toNat (1 : Nat) [AV.int IntKind.i64 (n + ((-100 : Int) + srcN (List.take (2000 : Nat) zs) (rawA (List.take
  (2000 : Nat) zs) x.snd.fst) (201 : Int)))] = y.snd.snd ∧ True else False else False else False else False else False else False else ∃ x_1, V6P (20000 : Int) x_1 ∧ (b = b ∧ false =
  false ∧ (0 : Nat) = (0 : Nat) ∧ (6 : Nat) = (6 : Nat) ∧ True) ∧ ((True ∧ List.take (2000 : Nat) zs = List.take (2000 : Nat) zs) ∧ x.snd.fst = x_1.at' ∧ True) ∧ x.snd.snd = row6
  x_1.a x_1.b x_1.c x_1.d x_1.e x_1.g ∧ True) ∧ ∀ (x : V6), V6P (20000 : Int) x → True ∧ bif decide (rng IntKind.i64 (modZ b (401 : Int) - (200 : Int))) then bif decide (rng
  IntKind.i64 (x.a + (modZ b (401 : Int) - (200 : Int)))) then bif decide (rng IntKind.i64 (x.c + (modZ b (401 : Int) - (200 : Int)))) then bif decide (rng IntKind.i64 (x.e + (modZ b
  (401 : Int) - (200 : Int)))) then (SrcI (List.take (2000 : Nat) zs) ∧ (0 : Int) ≤ x.at') ∧ bif decide ((0 : Int) ≤ srcN (List.take (2000 : Nat) zs) x.at' (2 : Int) ∧ srcN
  (List.take (2000 : Nat) zs) x.at' (2 : Int) < (↑([] ++ row6 x.a x.b x.c x.d x.e x.g).length : Int)) then bif decide (([] ++ row6 x.a x.b x.c x.d x.e x.g).length = ([] ++ row6 x.a
  x.b x.c x.d x.e x.g).length ∧ (srcN (List.take (2000 : Nat) zs) x.at' (2 : Int)).toNat < ([] ++ row6 x.a x.b x.c x.d x.e x.g).length) then ∃ n, List.take [AV.int IntKind.i64
  n].length (List.drop (1 : Nat) (([] ++ row6 x.a x.b x.c x.d x.e x.g).getD (srcN (List.take (2000 : Nat) zs) x.at' (2 : Int)).toNat [])) = [AV.int IntKind.i64 n] ∧ bif decide (rng
  IntKind.i64 (n + (modZ b (401 : Int) - (200 : Int)))) then bif decide ((0 : Int) ≤ srcN (List.take (2000 : Nat) zs) x.at' (2 : Int) ∧ srcN (List.take (2000 : Nat) zs) x.at' (2 :
  Int) < (↑([] ++ row6 x.a x.b x.c x.d x.e x.g).length : Int)) then bif decide (([] ++ row6 x.a x.b x.c x.d x.e x.g).length = ([] ++ row6 x.a x.b x.c x.d x.e x.g).length ∧ (srcN
  (List.take (2000 : Nat) zs) x.at' (2 : Int)).toNat < ([] ++ row6 x.a x.b x.c x.d x.e x.g).length) then RdsP (row6 x.a x.b x.c x.d x.e x.g) ∧ RdsP (setEl (setEl (setEl ([] ++ row6
  x.a x.b x.c x.d x.e x.g) (0 : Nat) (1 : Nat) [AV.int IntKind.i64 (x.a + (modZ b (401 : Int) - (200 : Int)))]) (2 : Nat) (1 : Nat) [AV.int IntKind.i64 (x.c + (modZ b (401 : Int) -
  (200 : Int)))]) (4 : Nat) (1 : Nat) [AV.int IntKind.i64 (x.e + (modZ b (401 : Int) - (200 : Int)))]) ∧ bif decide (([] ++ row6 x.a x.b x.c x.d x.e x.g).length = (setEl ([] ++ row6
  x.a x.b x.c x.d x.e x.g) (srcN (List.take (2000 : Nat) zs) x.at' (2 : Int)).toNat (1 : Nat) [AV.int IntKind.i64 (n + (modZ b (401 : Int) - (200 : Int)))]).length) then RdsP (setEl
  ([] ++ row6 x.a x.b x.c x.d x.e x.g) (srcN (List.take (2000 : Nat) zs) x.at' (2 : Int)).toNat (1 : Nat) [AV.int IntKind.i64 (n + (modZ b (401 : Int) - (200 : Int)))]) ∧ RdsP
  (List.drop (0 : Nat) (List.take (4 : Nat) (row6 x.a x.b x.c x.d x.e x.g))) ∧ bif bL (setEl (setEl (setEl ([] ++ row6 x.a x.b x.c x.d x.e x.g) (0 : Nat) (1 : Nat) [AV.int
  IntKind.i64 (x.a + (modZ b (401 : Int) - (200 : Int)))]) (2 : Nat) (1 : Nat) [AV.int IntKind.i64 (x.c + (modZ b (401 : Int) - (200 : Int)))]) (4 : Nat) (1 : Nat) [AV.int
  IntKind.i64 (x.e + (modZ b (401 : Int) - (200 : Int)))]) then bif bU (setEl (setEl (setEl ([] ++ row6 x.a x.b x.c x.d x.e x.g) (0 : Nat) (1 : Nat) [AV.int IntKind.i64 (x.a + (modZ
  b (401 : Int) - (200 : Int)))]) (2 : Nat) (1 : Nat) [AV.int IntKind.i64 (x.c + (modZ b (401 : Int) - (200 : Int)))]) (4 : Nat) (1 : Nat) [AV.int IntKind.i64 (x.e + (modZ b (401 :
  Int) - (200 : Int)))]) then bif bL (List.drop (0 : Nat) (List.take (4 : Nat) (row6 x.a x.b x.c x.d x.e x.g))) then bif !bU (List.drop (0 : Nat) (List.take (4 : Nat) (row6 x.a x.b
  x.c x.d x.e x.g))) then bif decide (rL (row6 x.a x.b x.c x.d x.e x.g) = rL (setEl (setEl (setEl ([] ++ row6 x.a x.b x.c x.d x.e x.g) (0 : Nat) (1 : Nat) [AV.int IntKind.i64 (x.a +
  (modZ b (401 : Int) - (200 : Int)))]) (2 : Nat) (1 : Nat) [AV.int IntKind.i64 (x.c + (modZ b (401 : Int) - (200 : Int)))]) (4 : Nat) (1 : Nat) [AV.int IntKind.i64 (x.e + (modZ b
  (401 : Int) - (200 : Int)))])) then bif decide (rU (row6 x.a x.b x.c x.d x.e x.g) = rU (setEl (setEl (setEl ([] ++ row6 x.a x.b x.c x.d x.e x.g) (0 : Nat) (1 : Nat) [AV.int
  IntKind.i64 (x.a + (modZ b (401 : Int) - (200 : Int)))]) (2 : Nat) (1 : Nat) [AV.int IntKind.i64 (x.c + (modZ b (401 : Int) - (200 : Int)))]) (4 : Nat) (1 : Nat) [AV.int
  IntKind.i64 (x.e + (modZ b (401 : Int) - (200 : Int)))])) then bif decide (rU (row6 x.a x.b x.c x.d x.e x.g) = rU (setEl ([] ++ row6 x.a x.b x.c x.d x.e x.g) (srcN (List.take (2000
  : Nat) zs) x.at' (2 : Int)).toNat (1 : Nat) [AV.int IntKind.i64 (n + (modZ b (401 : Int) - (200 : Int)))])) then bif decide (rL (List.drop (0 : Nat) (List.take (4 : Nat) (row6 x.a
  x.b x.c x.d x.e x.g))) = rL (row6 x.a x.b x.c x.d x.e x.g)) then bif decide (rU (List.drop (0 : Nat) (List.take (4 : Nat) (row6 x.a x.b x.c x.d x.e x.g))) = (0 : Int)) then True ∧
  true = true else false = true else false = true else false = true else false = true else false = true else false = true else false = true else false = true else false = true else
  False else False else False else False else False else False else False else False else False else False
set_option maxRecDepth 100000 in
theorem lShift_P : lShift_T vdE fA fH1 fH2 fH3 fT1 fT2 fT3 rL rU bL bU := by
  unfold lShift_T
  intro zs b hz _ hb
  have hs : SrcI (List.take 2000 zs) := SrcI.take hz
  have f := fit_ok (List.take 2000 zs) 0
  have i1 : 0 ≤ fA (List.take 2000 zs) 0 := rawA_le (rawA_le (rawA_le (rawA_le (by decide))))
  generalize List.take 2000 zs = X at *
  generalize fA X 0 = i at *
  have i2 := rawA_le (xs := X) i1
  have n3 := srcN_lt (xs := X) (i := i) (n := 3) (by decide)
  generalize srcN X i 3 = cnt at *
  generalize fH1 X 0 = h1 at *
  generalize fH2 X 0 = h2 at *
  generalize fH3 X 0 = h3 at *
  generalize fT1 X 0 = t1 at *
  generalize fT2 X 0 = t2 at *
  generalize fT3 X 0 = t3 at *
  have rb := f.rds
  have mb := modZ_in b (n := 401) (by decide)
  refine ⟨trivial, ⟨hs, by decide⟩, ⟨⟨hs, i1⟩, ⟨(cnt, rawA X i, row6 h1 t1 h2 t2 h3 t3), ⟨n3.1, by dsimp only; omega, ⟨⟨rawA X i, h1, t1, h2, t2, h3, t3⟩, ⟨i2, by dsimp only; omega, by dsimp only; omega, by dsimp only; omega, by dsimp only; omega, by dsimp only; omega, by dsimp only; omega⟩, rfl, rfl⟩⟩, ⟨rfl, rfl, rfl, rfl, rfl, trivial⟩, ⟨⟨trivial, rfl⟩, rfl, trivial⟩, rfl, trivial⟩, ?_⟩, ?_⟩
  · rintro ⟨j, at1, rows⟩ ⟨j0, j1, v, hv, e1, e2⟩
    dsimp only at j0 j1 hv e1 e2
    subst e1 e2
    dsimp only
    have a1 := hv.at0
    have a2 := rawA_le (xs := X) a1
    have a3 := rawA_le (xs := X) a2
    refine cs (fun hj => ⟨⟨hs, a1⟩, ?_⟩) (fun hj => ⟨v, ⟨hv.at0, ?_, ?_, ?_, ?_, ?_, ?_⟩, ⟨rfl, rfl, rfl, rfl, trivial⟩, ⟨⟨trivial, rfl⟩, rfl, trivial⟩, rfl, trivial⟩)
    · have k1 := srcN_lt (xs := X) (i := v.at') (n := 6) (by decide)
      have k2 := srcN_lt (xs := X) (i := rawA X v.at') (n := 201) (by decide)
      generalize srcN X v.at' 6 = k at *
      generalize srcN X (rawA X v.at') 201 = r at *
      obtain ⟨n, p1, p2, v', p3, p4, p5⟩ := V6.put hv k1 (r := -100 + r) (q := 100) (by omega) (rawA X (rawA X v.at')) a3
      have hl : (6 = v.row.length ∧ k.toNat < v.row.length) := ⟨rfl, show k.toNat < 6 by omega⟩
      refine cd1 k1 (cd1 hl ⟨n, p1, ⟨⟨hs, a2⟩, by decide, by decide, by decide⟩, cdI (by omega) (cd1 k1 (cd1 hl (cdI (by omega) ⟨(j - 1, v'.at', v'.row), ⟨by dsimp only; omega, by dsimp only; omega, v', ?_, rfl, rfl⟩, by simp only [shfI]; omega, ⟨rfl, rfl, rfl, rfl, rfl, trivial⟩, ⟨⟨trivial, rfl⟩, p4.symm, trivial⟩, p5, trivial⟩)))⟩)
      obtain ⟨b0, b1, b2, b3, b4, b5, b6⟩ := p3
      exact ⟨b0, by dsimp only; omega, by dsimp only; omega, by dsimp only; omega, by dsimp only; omega, by dsimp only; omega, by dsimp only; omega⟩
    all_goals
      obtain ⟨b0, b1, b2, b3, b4, b5, b6⟩ := hv
      omega
  · intro v hv
    have a1 := hv.at0
    have hr := hv.rds (by decide)
    change RdsP (row6 v.a v.b v.c v.d v.e v.g) at hr
    have sx := hv.sm (by decide)
    have k1 := srcN_lt (xs := X) (i := v.at') (n := 2) (by decide)
    generalize srcN X v.at' 2 = k at *
    have hd : -200 ≤ modZ b 401 - 200 ∧ modZ b 401 - 200 ≤ 200 := by omega
    generalize modZ b 401 - 200 = d at *
    obtain ⟨b0, b1, b2, b3, b4, b5, b6⟩ := hv
    obtain ⟨x1, x2, x3, x4⟩ := rs6 sx
    have sy : Sm6 (v.a + d) v.b (v.c + d) v.d (v.e + d) v.g := ⟨by omega, by omega, by omega, by omega, by omega, by omega⟩
    obtain ⟨y1, y2, y3, y4⟩ := rs6 sy
    have hy : RdsP (row6 (v.a + d) v.b (v.c + d) v.d (v.e + d) v.g) := rds6 (by unfold R64; omega) (by unfold R64; omega) (by unfold R64; omega) (by unfold R64; omega) (by unfold R64; omega) (by unfold R64; omega)
    have h4 : RdsP (row4 v.a v.b v.c v.d) := rds4 (by unfold R64; omega) (by unfold R64; omega) (by unfold R64; omega) (by unfold R64; omega)
    obtain ⟨w1, w2, w3, w4⟩ := rs4 sx
    refine ⟨trivial, cdI (by omega) (cdI (by omega) (cdI (by omega) (cdI (by omega) ⟨⟨hs, a1⟩, ?_⟩)))⟩
    have e1 : rL (row6 v.a v.b v.c v.d v.e v.g) = rL (row6 (v.a + d) v.b (v.c + d) v.d (v.e + d) v.g) := by rw [x1, y1]; omega
    have e2 : rU (row6 v.a v.b v.c v.d v.e v.g) = rU (row6 (v.a + d) v.b (v.c + d) v.d (v.e + d) v.g) := by rw [x3, y3]; omega
    have fin : ∀ z : List (List AV), RdsP z → rU (row6 v.a v.b v.c v.d v.e v.g) = rU z → RdsP z ∧ RdsP (row4 v.a v.b v.c v.d) ∧ cond (bL (row6 (v.a + d) v.b (v.c + d) v.d (v.e + d) v.g)) (cond (bU (row6 (v.a + d) v.b (v.c + d) v.d (v.e + d) v.g)) (cond (bL (row4 v.a v.b v.c v.d)) (cond (!bU (row4 v.a v.b v.c v.d)) (cond (decide (rL (row6 v.a v.b v.c v.d v.e v.g) = rL (row6 (v.a + d) v.b (v.c + d) v.d (v.e + d) v.g)))
      (cond (decide (rU (row6 v.a v.b v.c v.d v.e v.g) = rU (row6 (v.a + d) v.b (v.c + d) v.d (v.e + d) v.g))) (cond (decide (rU (row6 v.a v.b v.c v.d v.e v.g) = rU z)) (cond (decide (rL (row4 v.a v.b v.c v.d) = rL (row6 v.a v.b v.c v.d v.e v.g))) (cond (decide (rU (row4 v.a v.b v.c v.d) = 0)) (True ∧ true = true) (false = true)) (false = true)) (false = true)) (false = true)) (false = true)) (false = true)) (false = true)) (false = true)) (false = true) :=
      fun z hz ez => ⟨hz, h4, c1 y2 (c1 y4 (c1 w2 (c1 (by rw [w4]; rfl) (cd1 e1 (cd1 e2 (cd1 ez (cd1 w1 (cd1 w3 ⟨trivial, rfl⟩))))))))⟩
    have hk : k = 0 ∨ k = 1 := by omega
    rcases hk with rfl | rfl
    · have sz' : Sm6 (v.a + d) v.b v.c v.d v.e v.g := ⟨by omega, by omega, by omega, by omega, by omega, by omega⟩
      have hz' : RdsP (row6 (v.a + d) v.b v.c v.d v.e v.g) := rds6 (by unfold R64; omega) (by unfold R64; omega) (by unfold R64; omega) (by unfold R64; omega) (by unfold R64; omega) (by unfold R64; omega)
      exact cd1 (show (0 : Int) ≤ 0 ∧ (0 : Int) < 6 by decide) (cd1 ⟨rfl, show 0 < 6 by decide⟩ ⟨v.a, rfl, cdI (by omega) (cd1 (show (0 : Int) ≤ 0 ∧ (0 : Int) < 6 by decide) (cd1 ⟨rfl, show 0 < 6 by decide⟩ ⟨hr, hy, cd1 rfl (fin (row6 (v.a + d) v.b v.c v.d v.e v.g) hz' (by rw [x3, (rs6 sz').2.2.1]))⟩))⟩)
    · have sz' : Sm6 v.a (v.b + d) v.c v.d v.e v.g := ⟨by omega, by omega, by omega, by omega, by omega, by omega⟩
      have hz' : RdsP (row6 v.a (v.b + d) v.c v.d v.e v.g) := rds6 (by unfold R64; omega) (by unfold R64; omega) (by unfold R64; omega) (by unfold R64; omega) (by unfold R64; omega) (by unfold R64; omega)
      exact cd1 (show (0 : Int) ≤ 1 ∧ (1 : Int) < 6 by decide) (cd1 ⟨rfl, show 1 < 6 by decide⟩ ⟨v.b, rfl, cdI (by omega) (cd1 (show (0 : Int) ≤ 1 ∧ (1 : Int) < 6 by decide) (cd1 ⟨rfl, show 1 < 6 by decide⟩ ⟨hr, hy, cd1 rfl (fin (row6 v.a (v.b + d) v.c v.d v.e v.g) hz' (by rw [x3, (rs6 sz').2.2.1]))⟩))⟩)
def lShift_S (vdE : List (List AV) → Int) (fA : List (List AV) → Int → Int) (fH1 : List (List AV) → Int → Int) (fH2 : List (List AV) → Int → Int) (fH3 : List (List AV) → Int → Int) (fT1 : List (List AV) → Int → Int) (fT2 : List (List AV) → Int → Int) (fT3 : List (List AV) → Int → Int) (rL : List (List AV) → Int) (rU : List (List AV) → Int) (bL : List (List AV) → Bool) (bU : List (List AV) → Bool) : Prop := ∀ (zs : List (List AV)) (b : Int), IntsA zs → fnK Tryd.prog { glob := glb, spec := lk [(15, (hresids_s rL rU bL bU)), (10, mod_s), (12, hawake_s)], specH := lk [(7, newsrc_s), (8, (hfit_s fA fH1 fH2 fH3 fT1 fT2 fT3)), (14, srcn_s), (16, srcRg_s)], shape := [44, 80], nowf := true } { nt := 152, drop := drp [(1, 1610612736), (2, 6442450944), (3, 25769803776), (4, 34359738368), (5, 412316860416), (6, 1125350151028736), (7, 70931694131085312), (8, 504403158265495552), (11, 27670116110564327424), (12, 18852572443331161751552), (13, 18889465931478580854784), (14, 38647847295805176428888064), (15, 4913074530913852966005899264), (16, 628873539956973179648755105792), (17, 80495813114492566995040653541376), (18, 20688057795724703832426196311736320), (19, 5708990770803070336799004567283858560214106112)], frz := fun id => cond (Nat.beq id 15) [6, 8, 9] [] } (invs [(4, shfI (List.take 2000 zs) b), (100007, shfC (List.take 2000 zs) b)]) 6 Tryd.f6 [.sl 1 false zs, .int .i64 b] (.bool true)
set_option maxRecDepth 100000 in
theorem lShift_e (vdE : List (List AV) → Int) (fA : List (List AV) → Int → Int) (fH1 : List (List AV) → Int → Int) (fH2 : List (List AV) → Int → Int) (fH3 : List (List AV) → Int → Int) (fT1 : List (List AV) → Int → Int) (fT2 : List (List AV) → Int → Int) (fT3 : List (List AV) → Int → Int) (rL : List (List AV) → Int) (rU : List (List AV) → Int) (bL : List (List AV) → Bool) (bU : List (List AV) → Bool) : lShift_T vdE fA fH1 fH2 fH3 fT1 fT2 fT3 rL rU bL bU = lShift_S vdE fA fH1 fH2 fH3 fT1 fT2 fT3 rL rU bL bU := by kernel_rfl
theorem lShift_v : lShift_S vdE fA fH1 fH2 fH3 fT1 fT2 fT3 rL rU bL bU := @Eq.mp (lShift_T vdE fA fH1 fH2 fH3 fT1 fT2 fT3 rL rU bL bU) (lShift_S vdE fA fH1 fH2 fH3 fT1 fT2 fT3 rL rU bL bU) (lShift_e vdE fA fH1 fH2 fH3 fT1 fT2 fT3 rL rU bL bU) lShift_P
theorem lShift_ok : SOK Tryd.prog glb 6 (lShift_s vdE fA fH1 fH2 fH3 fT1 fT2 fT3 rL rU bL bU) := by
  refine ⟨fok Tryd.func6 (by kernel_rfl) (by kernel_rfl), ?_⟩
  intro xs pre r h hp
  unfold lShift_s at h
  split at h
  · simp only [Option.some.injEq, Prod.mk.injEq] at h
    obtain ⟨h1, h2⟩ := h
    subst h1 h2
    exact fnK_sound tyNil (by exact specOK rfl rfl ⟨hresids_ok glb, mod_ok glb, hawake_ok, trivial⟩ ⟨newsrc_ok glb, hfit_ok glb, srcn_ok glb, srcRg_ok glb, trivial⟩) (by kernel_rfl) Tryd.func6 rfl (lShift_v  _ _ hp)
  · cases h
end Go.Proofs.YtboknhifjhjkdaaDoor
