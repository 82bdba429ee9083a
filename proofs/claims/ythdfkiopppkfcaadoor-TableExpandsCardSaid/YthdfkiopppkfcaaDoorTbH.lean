/- TableExpands: the law. -/
import Derived.Test.YthdfkiopppkfcaaDoorTbQ
import Derived.Test.YthdfkiopppkfcaaDoorTbZ
namespace Go.Proofs.YthdfkiopppkfcaaDoor
open Go
set_option linter.unusedVariables false
set_option linter.unusedSimpArgs false

structure ExpP (es ss gs xs : LLA) (v ver : Int) : Prop where
  fe : EnsP es
  fs : SqsP ss
  fw : SqW ss
  fl : es.length ≤ 140737488355328
  fg : CdsP gs
  fx : IntsA xs
  fv : rng .i64 v
  fr : rng .i64 ver
theorem exS {es ss c : LLA} {v : Int} {A : Prop} (he : EnsP es) (hs : SqsP ss) (hc : CdsP c) (k : A) : ((EnsP es ∧ SqsP ss) ∧ CdsP c) ∧ ((EnsP es ∧ SqsP ss) ∧ CdsP c) ∧ cond (decide (¬ exE es ss v c = exE es ss v c)) (false = true) ((EnsP (exO es ss v c) ∧ EnsP (exO es ss v c)) ∧ cond (!sameE (exO es ss v c) (exO es ss v c)) (false = true) A) :=
  ⟨⟨⟨he, hs⟩, hc⟩, ⟨⟨he, hs⟩, hc⟩, cd0 (fun q => q rfl) ⟨⟨exO_ens he hs hc, exO_ens he hs hc⟩, c0 (by rw [sameE_rfl]; rfl) k⟩⟩
theorem vaS {es ss : LLA} {v : Int} {A : Prop} (he : EnsP es) (hs : SqsP ss) (k : A) : (EnsP es ∧ SqsP ss) ∧ (EnsP es ∧ SqsP ss) ∧ cond (decide (¬ vaE es ss v = vaE es ss v)) (false = true) A :=
  ⟨⟨he, hs⟩, ⟨he, hs⟩, cd0 (fun q => q rfl) k⟩
theorem tbs_ch {ts : LLA} {v : Int} (h : TbsP ts) : EnsP (chT ts v) ∧ SqsP (chS ts v) := by
  unfold chT chS
  by_cases hn : idxP (hcP v) ts < 0
  · rw [if_pos hn, if_pos hn]
    exact ⟨⟨fun i hi => by simp at hi, by simp⟩, ⟨fun i hi => by simp at hi, by simp⟩⟩
  · rw [if_neg hn, if_neg hn]
    obtain ⟨k1, k2⟩ := idx_lt hn
    obtain ⟨n, es, ss, hr, _, he, hs⟩ := h.fr _ k1
    rw [hr]; exact ⟨he, hs⟩
theorem choS {ts : LLA} {v : Int} {A : Prop} (h : ShT ts) (k : A) : ShT ts ∧ TbsP ts ∧ cond (decide (¬ chE ts v = chE ts v)) (false = true) (((EnsP (chT ts v) ∧ SqsP (chS ts v)) ∧ chV ts v = chV ts v ∧ chT ts v = chT ts v ∧ chS ts v = chS ts v) ∧ A) :=
  ⟨h, h.fp, cd0 (fun q => q rfl) ⟨⟨tbs_ch h.fp, rfl, rfl, rfl⟩, k⟩⟩
/-- A table whose lists are short. -/
structure OnT (v : Int) (es ss : LLA) : Prop where
  fv : rng .i64 v
  fe : EnsP es
  fs : SqsP ss
  fl : es.length ≤ 1000
  fm : ss.length ≤ 1000
  fb : SqB ss
theorem sh3 {v1 v2 v3 : Int} {e1 e2 e3 s1 s2 s3 : LLA} (h1 : OnT v1 e1 s1) (h2 : OnT v2 e2 s2) (h3 : OnT v3 e3 s3) : ShT [[.int .i64 v1, .sl 5 false e1, .sl 2 false s1], [.int .i64 v2, .sl 5 false e2, .sl 2 false s2], [.int .i64 v3, .sl 5 false e3, .sl 2 false s3]] := by
  refine ⟨⟨fun i hi => ?_, by simp⟩, fun i hi => ?_⟩
  · match i, hi with
    | 0, _ => exact ⟨v1, e1, s1, rfl, h1.fv, h1.fe, h1.fs⟩
    | 1, _ => exact ⟨v2, e2, s2, rfl, h2.fv, h2.fe, h2.fs⟩
    | 2, _ => exact ⟨v3, e3, s3, rfl, h3.fv, h3.fe, h3.fs⟩
    | n + 3, h => simp at h; omega
  · match i, hi with
    | 0, _ => exact ⟨h1.fl, h1.fm, h1.fb.fb⟩
    | 1, _ => exact ⟨h2.fl, h2.fm, h2.fb.fb⟩
    | 2, _ => exact ⟨h3.fl, h3.fm, h3.fb.fb⟩
    | n + 3, h => simp at h; omega
def lexp_s : Sp
  | [.agg [.int .i64 v, .sl 5 false es, .sl 2 false ss], .sl 1 false gs, .sl 1 false xs, .int .i64 ver] => some (ExpP es ss gs xs v ver, .bool true)
  | _ => none
set_option maxRecDepth 100000 in
def lexp_T (exO : LLA → LLA → Int → LLA → LLA) (exE : LLA → LLA → Int → LLA → Int) (vaE : List (List AV) → List (List AV) → Int → Int) (chV : LLA → Int → Int) (chT : LLA → Int → LLA) (chS : LLA → Int → LLA) (chE : LLA → Int → Int) (sameE : List (List AV) → List (List AV) → Bool) : Prop :=
  ∀ (es ss gs xs : List (List AV)) (v ver : Int), ExpP es ss gs xs v ver → ((-9223372036854775808 : Int) ≤ v ∧ v ≤ (9223372036854775807 : Int)) ∧ True ∧ True ∧ True → True → True →
  (-9223372036854775808 : Int) ≤ ver ∧ ver ≤ (9223372036854775807 : Int) → (es.length ≤ (140737488355328 : Nat) ∧ SqW ss) ∧ ∀ (b : Bool), SmQ es ss b → bif !b then True ∧ true = true
  else bif decide ((60 : Int) < (↑gs.length : Int)) then True ∧ true = true else True ∧ (SrcQ (List.take (2000 : Nat) xs) (0 : Int) ∧ (1 : Int) ≤ (3 : Int) ∧ (-1000000000 : Int) ≤ (1
  : Int) ∧ (3 : Int) ≤ (1000000000 : Int)) ∧ ∀ (v_1 j : Int), ((1 : Int) ≤ v_1 ∧ v_1 ≤ (3 : Int)) ∧ (0 : Int) ≤ j → SrcQ (List.take (2000 : Nat) xs) j ∧ ∀ (es_1 ss_1 : List (List
  AV)) (j : Int), TabQ es_1 ss_1 j → (SrcQ (List.take (2000 : Nat) xs) j ∧ BenQ es_1 ss_1 v_1 (0 : Int) ∧ ((1 : Nat) ≤ es_1.length ∧ es_1.length ≤ (40 : Nat)) ∧ ss_1.length ≤ (40 :
  Nat)) ∧ ∀ (es2 ss2 : List (List AV)) (v_2 j : Int), BenQ es2 ss2 v_2 j → (SrcQ (List.take (2000 : Nat) xs) j ∧ (0 : Int) ≤ (8 : Int) ∧ (8 : Int) ≤ (100 : Int)) ∧ ∀ (cs : List (List
  AV)) (j : Int), CsQ (8 : Int) cs j → (SrcQ (List.take (2000 : Nat) xs) j ∧ (0 : Int) ≤ (4 : Int) ∧ (4 : Int) ≤ (100 : Int)) ∧ ∀ (cs_1 : List (List AV)) (j : Int), CsQ (4 : Int)
  cs_1 j → ((EnsP es ∧ SqsP ss) ∧ CdsP gs) ∧ ((EnsP es ∧ SqsP ss) ∧ CdsP gs) ∧ bif decide ¬exE es ss v gs = exE es ss v gs then false = true else (EnsP (exO es ss v gs) ∧ EnsP (exO
  es ss v gs)) ∧ bif !sameE (exO es ss v gs) (exO es ss v gs) then false = true else ((EnsP es ∧ SqsP ss) ∧ CdsP cs) ∧ ((EnsP es ∧ SqsP ss) ∧ CdsP cs) ∧ bif decide ¬exE es ss v cs =
  exE es ss v cs then false = true else (EnsP (exO es ss v cs) ∧ EnsP (exO es ss v cs)) ∧ bif !sameE (exO es ss v cs) (exO es ss v cs) then false = true else ((EnsP es ∧ SqsP ss) ∧
  CdsP cs_1) ∧ ((EnsP es ∧ SqsP ss) ∧ CdsP cs_1) ∧ bif decide ¬exE es ss v cs_1 = exE es ss v cs_1 then false = true else (EnsP (exO es ss v cs_1) ∧ EnsP (exO es ss v cs_1)) ∧ bif
  !sameE (exO es ss v cs_1) (exO es ss v cs_1) then false = true else ((EnsP es ∧ SqsP ss) ∧ CdsP [[AV.int IntKind.i64 (15000 : Int)]]) ∧ ((EnsP es ∧ SqsP ss) ∧ CdsP [[AV.int
  IntKind.i64 (15000 : Int)]]) ∧ bif decide ¬exE es ss v [[AV.int IntKind.i64 (15000 : Int)]] = exE es ss v [[AV.int IntKind.i64 (15000 : Int)]] then false = true else (EnsP (exO es
  ss v [[AV.int IntKind.i64 (15000 : Int)]]) ∧ EnsP (exO es ss v [[AV.int IntKind.i64 (15000 : Int)]])) ∧ bif !sameE (exO es ss v [[AV.int IntKind.i64 (15000 : Int)]]) (exO es ss v
  [[AV.int IntKind.i64 (15000 : Int)]]) then false = true else (EnsP es ∧ SqsP ss) ∧ (EnsP es ∧ SqsP ss) ∧ bif decide ¬vaE es ss v = vaE es ss v then false = true else (SrcQ
  (List.take (2000 : Nat) xs) j ∧ (0 : Int) ≤ (8 : Int) ∧ (8 : Int) ≤ (100 : Int)) ∧ ∀ (cs : List (List AV)) (j : Int), CsQ (8 : Int) cs j → (SrcQ (List.take (2000 : Nat) xs) j ∧ (0
  : Int) ≤ (4 : Int) ∧ (4 : Int) ≤ (100 : Int)) ∧ ∀ (cs_2 : List (List AV)) (j : Int), CsQ (4 : Int) cs_2 j → ((EnsP es_1 ∧ SqsP ss_1) ∧ CdsP gs) ∧ ((EnsP es_1 ∧ SqsP ss_1) ∧ CdsP
  gs) ∧ bif decide ¬exE es_1 ss_1 v_1 gs = exE es_1 ss_1 v_1 gs then false = true else (EnsP (exO es_1 ss_1 v_1 gs) ∧ EnsP (exO es_1 ss_1 v_1 gs)) ∧ bif !sameE (exO es_1 ss_1 v_1 gs)
  (exO es_1 ss_1 v_1 gs) then false = true else ((EnsP es_1 ∧ SqsP ss_1) ∧ CdsP cs) ∧ ((EnsP es_1 ∧ SqsP ss_1) ∧ CdsP cs) ∧ bif decide ¬exE es_1 ss_1 v_1 cs = exE es_1 ss_1 v_1 cs
  then false = true else (EnsP (exO es_1 ss_1 v_1 cs) ∧ EnsP (exO es_1 ss_1 v_1 cs)) ∧ bif !sameE (exO es_1 ss_1 v_1 cs) (exO es_1 ss_1 v_1 cs) then false = true else ((EnsP es_1 ∧
  SqsP ss_1) ∧ CdsP cs_2) ∧ ((EnsP es_1 ∧ SqsP ss_1) ∧ CdsP cs_2) ∧ bif decide ¬exE es_1 ss_1 v_1 cs_2 = exE es_1 ss_1 v_1 cs_2 then false = true else (EnsP (exO es_1 ss_1 v_1 cs_2)
  ∧ EnsP (exO es_1 ss_1 v_1 cs_2)) ∧ bif !sameE (exO es_1 ss_1 v_1 cs_2) (exO es_1 ss_1 v_1 cs_2) then false = true else ((EnsP es_1 ∧ SqsP ss_1) ∧ CdsP [[AV.int IntKind.i64 (15000 :
  Int)]]) ∧ ((EnsP es_1 ∧ SqsP ss_1) ∧ CdsP [[AV.int IntKind.i64 (15000 : Int)]]) ∧ bif decide ¬exE es_1 ss_1 v_1 [[AV.int IntKind.i64 (15000 : Int)]] = exE es_1 ss_1 v_1 [[AV.int
  IntKind.i64 (15000 : Int)]] then false = true else (EnsP (exO es_1 ss_1 v_1 [[AV.int IntKind.i64 (15000 : Int)]]) ∧ EnsP (exO es_1 ss_1 v_1 [[AV.int IntKind.i64 (15000 : Int)]])) ∧
  bif !sameE (exO es_1 ss_1 v_1 [[AV.int IntKind.i64 (15000 : Int)]]) (exO es_1 ss_1 v_1 [[AV.int IntKind.i64 (15000 : Int)]]) then false = true else (EnsP es_1 ∧ SqsP ss_1) ∧ (EnsP
  es_1 ∧ SqsP ss_1) ∧ bif decide ¬vaE es_1 ss_1 v_1 = vaE es_1 ss_1 v_1 then false = true else (SrcQ (List.take (2000 : Nat) xs) j ∧ (0 : Int) ≤ (8 : Int) ∧ (8 : Int) ≤ (100 : Int))
  ∧ ∀ (cs : List (List AV)) (j : Int), CsQ (8 : Int) cs j → (SrcQ (List.take (2000 : Nat) xs) j ∧ (0 : Int) ≤ (4 : Int) ∧ (4 : Int) ≤ (100 : Int)) ∧ ∀ (cs_3 : List (List AV)) (j :
  Int), CsQ (4 : Int) cs_3 j → ((EnsP es2 ∧ SqsP ss2) ∧ CdsP gs) ∧ ((EnsP es2 ∧ SqsP ss2) ∧ CdsP gs) ∧ bif decide ¬exE es2 ss2 v_2 gs = exE es2 ss2 v_2 gs then false = true else
  (EnsP (exO es2 ss2 v_2 gs) ∧ EnsP (exO es2 ss2 v_2 gs)) ∧ bif !sameE (exO es2 ss2 v_2 gs) (exO es2 ss2 v_2 gs) then false = true else ((EnsP es2 ∧ SqsP ss2) ∧ CdsP cs) ∧ ((EnsP es2
  ∧ SqsP ss2) ∧ CdsP cs) ∧ bif decide ¬exE es2 ss2 v_2 cs = exE es2 ss2 v_2 cs then false = true else (EnsP (exO es2 ss2 v_2 cs) ∧ EnsP (exO es2 ss2 v_2 cs)) ∧ bif !sameE (exO es2
  ss2 v_2 cs) (exO es2 ss2 v_2 cs) then false = true else ((EnsP es2 ∧ SqsP ss2) ∧ CdsP cs_3) ∧ ((EnsP es2 ∧ SqsP ss2) ∧ CdsP cs_3) ∧ bif decide ¬exE es2 ss2 v_2 cs_3 = exE es2 ss2
  v_2 cs_3 then false = true else (EnsP (exO es2 ss2 v_2 cs_3) ∧ EnsP (exO es2 ss2 v_2 cs_3)) ∧ bif !sameE (exO es2 ss2 v_2 cs_3) (exO es2 ss2 v_2 cs_3) then false = true else ((EnsP
  es2 ∧ SqsP ss2) ∧ CdsP [[AV.int IntKind.i64 (15000 : Int)]]) ∧ ((EnsP es2 ∧ SqsP ss2) ∧ CdsP [[AV.int IntKind.i64 (15000 : Int)]]) ∧ bif decide ¬exE es2 ss2 v_2 [[AV.int
  IntKind.i64 (15000 : Int)]] = exE es2 ss2 v_2 [[AV.int IntKind.i64 (15000 : Int)]] then false = true else (EnsP (exO es2 ss2 v_2 [[AV.int IntKind.i64 (15000 : Int)]]) ∧ EnsP (exO
  es2 ss2 v_2 [[AV.int IntKind.i64 (15000 : Int)]])) ∧ bif !sameE (exO es2 ss2 v_2 [[AV.int IntKind.i64 (15000 : Int)]]) (exO es2 ss2 v_2 [[AV.int IntKind.i64 (15000 : Int)]]) then
  false = true else (EnsP es2 ∧ SqsP ss2) ∧ (EnsP es2 ∧ SqsP ss2) ∧ bif decide ¬vaE es2 ss2 v_2 = vaE es2 ss2 v_2 then false = true else (SrcQ (List.take (2000 : Nat) xs) j ∧ (0 :
  Int) ≤ (4 : Int) ∧ (-1000000000 : Int) ≤ (0 : Int) ∧ (4 : Int) ≤ (1000000000 : Int)) ∧ ∀ (v_3 j : Int), ((0 : Int) ≤ v_3 ∧ v_3 ≤ (4 : Int)) ∧ (0 : Int) ≤ j → ShT [[AV.int
  IntKind.i64 v, AV.sl (5 : Nat) false es, AV.sl (2 : Nat) false ss], [AV.int IntKind.i64 v_1, AV.sl (5 : Nat) false es_1, AV.sl (2 : Nat) false ss_1], [AV.int IntKind.i64 v_2, AV.sl
  (5 : Nat) false es2, AV.sl (2 : Nat) false ss2]] ∧ TbsP [[AV.int IntKind.i64 v, AV.sl (5 : Nat) false es, AV.sl (2 : Nat) false ss], [AV.int IntKind.i64 v_1, AV.sl (5 : Nat) false
  es_1, AV.sl (2 : Nat) false ss_1], [AV.int IntKind.i64 v_2, AV.sl (5 : Nat) false es2, AV.sl (2 : Nat) false ss2]] ∧ bif decide ¬chE [[AV.int IntKind.i64 v, AV.sl (5 : Nat) false
  es, AV.sl (2 : Nat) false ss], [AV.int IntKind.i64 v_1, AV.sl (5 : Nat) false es_1, AV.sl (2 : Nat) false ss_1], [AV.int IntKind.i64 v_2, AV.sl (5 : Nat) false es2, AV.sl (2 : Nat)
  false ss2]] ver = chE [[AV.int IntKind.i64 v, AV.sl (5 : Nat) false es, AV.sl (2 : Nat) false ss], [AV.int IntKind.i64 v_1, AV.sl (5 : Nat) false es_1, AV.sl (2 : Nat) false ss_1],
  [AV.int IntKind.i64 v_2, AV.sl (5 : Nat) false es2, AV.sl (2 : Nat) false ss2]] ver then false = true else ((EnsP (chT [[AV.int IntKind.i64 v, AV.sl (5 : Nat) false es, AV.sl (2 :
  Nat) false ss], [AV.int IntKind.i64 v_1, AV.sl (5 : Nat) false es_1, AV.sl (2 : Nat) false ss_1], [AV.int IntKind.i64 v_2, AV.sl (5 : Nat) false es2, AV.sl (2 : Nat) false ss2]]
  ver) ∧ SqsP (chS [[AV.int IntKind.i64 v, AV.sl (5 : Nat) false es, AV.sl (2 : Nat) false ss], [AV.int IntKind.i64 v_1, AV.sl (5 : Nat) false es_1, AV.sl (2 : Nat) false ss_1],
  [AV.int IntKind.i64 v_2, AV.sl (5 : Nat) false es2, AV.sl (2 : Nat) false ss2]] ver)) ∧ chV [[AV.int IntKind.i64 v, AV.sl (5 : Nat) false es, AV.sl (2 : Nat) false ss], [AV.int
  IntKind.i64 v_1, AV.sl (5 : Nat) false es_1, AV.sl (2 : Nat) false ss_1], [AV.int IntKind.i64 v_2, AV.sl (5 : Nat) false es2, AV.sl (2 : Nat) false ss2]] ver = chV [[AV.int
  IntKind.i64 v, AV.sl (5 : Nat) false es, AV.sl (2 : Nat) false ss], [AV.int IntKind.i64 v_1, AV.sl (5 : Nat) false es_1, AV.sl (2 : Nat) false ss_1], [AV.int IntKind.i64 v_2, AV.sl
  (5 : Nat) false es2, AV.sl (2 : Nat) false ss2]] ver ∧ chT [[AV.int IntKind.i64 v, AV.sl (5 : Nat) false es, AV.sl (2 : Nat) false ss], [AV.int IntKind.i64 v_1, AV.sl (5 : Nat)
  false es_1, AV.sl (2 : Nat) false ss_1], [AV.int IntKind.i64 v_2, AV.sl (5 : Nat) false es2, AV.sl (2 : Nat) false ss2]] ver = chT [[AV.int IntKind.i64 v, AV.sl (5 : Nat) false es,
  AV.sl (2 : Nat) false ss], [AV.int IntKind.i64 v_1, AV.sl (5 : Nat) false es_1, AV.sl (2 : Nat) false ss_1], [AV.int IntKind.i64 v_2, AV.sl (5 : Nat) false es2, AV.sl (2 : Nat)
  false ss2]] ver ∧ chS [[AV.int IntKind.i64 v, AV.sl (5 : Nat) false es, AV.sl (2 : Nat) false ss], [AV.int IntKind.i64 v_1, AV.sl (5 : Nat) false es_1, AV.sl (2 : Nat) false ss_1],
  [AV.int IntKind.i64 v_2, AV.sl (5 : Nat) false es2, AV.sl (2 : Nat) false ss2]] ver = chS [[AV.int IntKind.i64 v, AV.sl (5 : Nat) false es, AV.sl (2 : Nat) false ss], [AV.int
  IntKind.i64 v_1, AV.sl (5 : Nat) false es_1, AV.sl (2 : Nat) false ss_1], [AV.int IntKind.i64 v_2, AV.sl (5 : Nat) false es2, AV.sl (2 : Nat) false ss2]] ver) ∧ ShT [[AV.int
  IntKind.i64 v, AV.sl (5 : Nat) false es, AV.sl (2 : Nat) false ss], [AV.int IntKind.i64 v_1, AV.sl (5 : Nat) false es_1, AV.sl (2 : Nat) false ss_1], [AV.int IntKind.i64 v_2, AV.sl
  (5 : Nat) false es2, AV.sl (2 : Nat) false ss2]] ∧ TbsP [[AV.int IntKind.i64 v, AV.sl (5 : Nat) false es, AV.sl (2 : Nat) false ss], [AV.int IntKind.i64 v_1, AV.sl (5 : Nat) false
  es_1, AV.sl (2 : Nat) false ss_1], [AV.int IntKind.i64 v_2, AV.sl (5 : Nat) false es2, AV.sl (2 : Nat) false ss2]] ∧ bif decide ¬chE [[AV.int IntKind.i64 v, AV.sl (5 : Nat) false
  es, AV.sl (2 : Nat) false ss], [AV.int IntKind.i64 v_1, AV.sl (5 : Nat) false es_1, AV.sl (2 : Nat) false ss_1], [AV.int IntKind.i64 v_2, AV.sl (5 : Nat) false es2, AV.sl (2 : Nat)
  false ss2]] v_3 = chE [[AV.int IntKind.i64 v, AV.sl (5 : Nat) false es, AV.sl (2 : Nat) false ss], [AV.int IntKind.i64 v_1, AV.sl (5 : Nat) false es_1, AV.sl (2 : Nat) false ss_1],
  [AV.int IntKind.i64 v_2, AV.sl (5 : Nat) false es2, AV.sl (2 : Nat) false ss2]] v_3 then false = true else ((EnsP (chT [[AV.int IntKind.i64 v, AV.sl (5 : Nat) false es, AV.sl (2 :
  Nat) false ss], [AV.int IntKind.i64 v_1, AV.sl (5 : Nat) false es_1, AV.sl (2 : Nat) false ss_1], [AV.int IntKind.i64 v_2, AV.sl (5 : Nat) false es2, AV.sl (2 : Nat) false ss2]]
  v_3) ∧ SqsP (chS [[AV.int IntKind.i64 v, AV.sl (5 : Nat) false es, AV.sl (2 : Nat) false ss], [AV.int IntKind.i64 v_1, AV.sl (5 : Nat) false es_1, AV.sl (2 : Nat) false ss_1],
  [AV.int IntKind.i64 v_2, AV.sl (5 : Nat) false es2, AV.sl (2 : Nat) false ss2]] v_3)) ∧ chV [[AV.int IntKind.i64 v, AV.sl (5 : Nat) false es, AV.sl (2 : Nat) false ss], [AV.int
  IntKind.i64 v_1, AV.sl (5 : Nat) false es_1, AV.sl (2 : Nat) false ss_1], [AV.int IntKind.i64 v_2, AV.sl (5 : Nat) false es2, AV.sl (2 : Nat) false ss2]] v_3 = chV [[AV.int
  IntKind.i64 v, AV.sl (5 : Nat) false es, AV.sl (2 : Nat) false ss], [AV.int IntKind.i64 v_1, AV.sl (5 : Nat) false es_1, AV.sl (2 : Nat) false ss_1], [AV.int IntKind.i64 v_2, AV.sl
  (5 : Nat) false es2, AV.sl (2 : Nat) false ss2]] v_3 ∧ chT [[AV.int IntKind.i64 v, AV.sl (5 : Nat) false es, AV.sl (2 : Nat) false ss], [AV.int IntKind.i64 v_1, AV.sl (5 : Nat)
  false es_1, AV.sl (2 : Nat) false ss_1], [AV.int IntKind.i64 v_2, AV.sl (5 : Nat) false es2, AV.sl (2 : Nat) false ss2]] v_3 = chT [[AV.int IntKind.i64 v, AV.sl (5 : Nat) false es,
  AV.sl (2 : Nat) false ss], [AV.int IntKind.i64 v_1, AV.sl (5 : Nat) false es_1, AV.sl (2 : Nat) false ss_1], [AV.int IntKind.i64 v_2, AV.sl (5 : Nat) false es2, AV.sl (2 : Nat)
  false ss2]] v_3 ∧ chS [[AV.int IntKind.i64 v, AV.sl (5 : Nat) false es, AV.sl (2 : Nat) false ss], [AV.int IntKind.i64 v_1, AV.sl (5 : Nat) false es_1, AV.sl (2 : Nat) false ss_1],
  [AV.int IntKind.i64 v_2, AV.sl (5 : Nat) false es2, AV.sl (2 : Nat) false ss2]] v_3 = chS [[AV.int IntKind.i64 v, AV.sl (5 : Nat) false es, AV.sl (2 : Nat) false ss], [AV.int
  IntKind.i64 v_1, AV.sl (5 : Nat) false es_1, AV.sl (2 : Nat) false ss_1], [AV.int IntKind.i64 v_2, AV.sl (5 : Nat) false es2, AV.sl (2 : Nat) false ss2]] v_3) ∧ True ∧ true = true
set_option maxRecDepth 100000 in
theorem lexp_P : lexp_T exO exE vaE chV chT chS chE sameE := by
  unfold lexp_T
  intro es ss gs xs v ver h _ _ _ _
  have he := h.fe
  have hs := h.fs
  have hg := h.fg
  have hx : SrcI (List.take 2000 xs) := SrcI.take h.fx
  refine ⟨⟨h.fl, h.fw⟩, fun b hb => csplit (fun _ => ⟨trivial, rfl⟩) (fun hb1 => ?_)⟩
  obtain ⟨b1, b2, b3⟩ := hb.fb (by simpa using hb1)
  refine csx (fun _ => ⟨trivial, rfl⟩) (fun _ => ⟨trivial, ⟨⟨hx, by decide⟩, by decide, by decide, by decide⟩, fun v1 j q1 => ⟨⟨hx, q1.2⟩, fun es1 ss1 j t => ?_⟩⟩)
  have he1 := t.fe.ens t.fl
  have hs1 := t.fs.sqs
  have hb1 : SqB ss1 := ⟨fun i hi => by obtain ⟨cs, hr, hc⟩ := t.fs.fr i hi; rw [hr]; have := hc.fl; show cs.length ≤ 1000; omega⟩
  have l1 := t.fl
  have l2 := t.fs.fl
  have r1 : rng .i64 v1 := by show _ ∧ _; omega
  refine ⟨⟨⟨hx, t.fj⟩, ⟨he1, hs1, by omega, by omega, r1, by decide, hb1⟩, ⟨by omega, by omega⟩, by omega⟩, fun es2 ss2 v2 j t2 => ?_⟩
  have he2 := t2.fe
  have hs2 := t2.fs
  have T : ShT [[.int .i64 v, .sl 5 false es, .sl 2 false ss], [.int .i64 v1, .sl 5 false es1, .sl 2 false ss1], [.int .i64 v2, .sl 5 false es2, .sl 2 false ss2]] :=
    sh3 ⟨h.fv, he, hs, by omega, by omega, ⟨fun i hi => by have := b3 i hi; omega⟩⟩ ⟨r1, he1, hs1, by omega, by omega, hb1⟩ ⟨t2.fv, he2, hs2, by have := t2.fl; omega, by have := t2.fm; omega, t2.fb⟩
  have c15 : CdsP [[.int .i64 15000]] := cds_of [15000] (by decide) (by decide)
  refine ⟨⟨⟨hx, t2.fj⟩, by decide, by decide⟩, fun c1 j q1 => ⟨⟨⟨hx, q1.fj⟩, by decide, by decide⟩, fun c2 j q2 => ?_⟩⟩
  refine exS he hs hg (exS he hs (q1.fc.cds (by decide)) (exS he hs (q2.fc.cds (by decide)) (exS he hs c15 (vaS he hs ?_))))
  refine ⟨⟨⟨hx, q2.fj⟩, by decide, by decide⟩, fun c3 j q3 => ⟨⟨⟨hx, q3.fj⟩, by decide, by decide⟩, fun c4 j q4 => ?_⟩⟩
  refine exS he1 hs1 hg (exS he1 hs1 (q3.fc.cds (by decide)) (exS he1 hs1 (q4.fc.cds (by decide)) (exS he1 hs1 c15 (vaS he1 hs1 ?_))))
  refine ⟨⟨⟨hx, q4.fj⟩, by decide, by decide⟩, fun c5 j q5 => ⟨⟨⟨hx, q5.fj⟩, by decide, by decide⟩, fun c6 j q6 => ?_⟩⟩
  refine exS he2 hs2 hg (exS he2 hs2 (q5.fc.cds (by decide)) (exS he2 hs2 (q6.fc.cds (by decide)) (exS he2 hs2 c15 (vaS he2 hs2 ?_))))
  refine ⟨⟨⟨hx, q6.fj⟩, by decide, by decide, by decide⟩, fun v3 j q7 => ?_⟩
  exact choS T (choS T ⟨trivial, rfl⟩)
def lexp_S (exO : LLA → LLA → Int → LLA → LLA) (exE : LLA → LLA → Int → LLA → Int) (vaE : List (List AV) → List (List AV) → Int → Int) (chV : LLA → Int → Int) (chT : LLA → Int → LLA) (chS : LLA → Int → LLA) (chE : LLA → Int → Int) (sameE : List (List AV) → List (List AV) → Bool) : Prop := ∀ (es ss gs xs : List (List AV)) (v ver : Int), ExpP es ss gs xs v ver → fnK Tryd.prog { glob := glb, spec := lk [(18, (texpand_s exO exE)), (21, (rexpand_s exO exE)), (25, (tvalidate_s vaE)), (22, (rvalidate_s vaE)), (26, (choose_s chV chT chS chE)), (27, (rchoose_s chV chT chS chE)), (19, (tsame_s sameE)), (28, tsameT_s), (16, tawake_s)], specH := lk [(8, newsrc_s)], specQ := lk [(9, qtable_s), (24, lbent_s), (20, qrange_s), (17, lcodes_s), (23, qsmallT_s)], nowf := true } { nt := 131, drop := drp [(1, 8522825728), (2, 17179869184), (3, 103079215104), (4, 2061584302080), (5, 15393162788864), (6, 123145302310912), (8, 6755399441055744), (9, 567453553048682496), (11, 27670116110564327424), (12, 2324289753287403503616), (13, 148754544210393824231424), (14, 38534510500216304943759360), (16, 77371252455336267181195264), (17, 2321137573660088015435857920), (19, 4951760157141521099596496896), (20, 69324642199981295394350956544), (22, 3802951800684688204490109616128), (23, 2591077826866500896659261351788544), (24, 1326631847355648459089541812115734528), (25, 338953138925153547590470800371487866880), (27, 680564733841876926926749214863536422912), (28, 1361129467683753853853498429727072845824)] } (fun _ _ => none) 6 Tryd.f7 [.agg [.int .i64 v, .sl 5 false es, .sl 2 false ss], .sl 1 false gs, .sl 1 false xs, .int .i64 ver] (.bool true)
set_option maxRecDepth 100000 in
theorem lexp_e (exO : LLA → LLA → Int → LLA → LLA) (exE : LLA → LLA → Int → LLA → Int) (vaE : List (List AV) → List (List AV) → Int → Int) (chV : LLA → Int → Int) (chT : LLA → Int → LLA) (chS : LLA → Int → LLA) (chE : LLA → Int → Int) (sameE : List (List AV) → List (List AV) → Bool) : lexp_T exO exE vaE chV chT chS chE sameE = lexp_S exO exE vaE chV chT chS chE sameE := by kernel_rfl
theorem lexp_v : lexp_S exO exE vaE chV chT chS chE sameE := @Eq.mp (lexp_T exO exE vaE chV chT chS chE sameE) (lexp_S exO exE vaE chV chT chS chE sameE) (lexp_e exO exE vaE chV chT chS chE sameE) (lexp_P)
theorem lexp_ok : SOK Tryd.prog glb 7 lexp_s := by
  refine ⟨fok Tryd.func7 (by kernel_rfl) (by kernel_rfl), ?_⟩
  intro xs pre r h hp
  unfold lexp_s at h
  split at h
  · simp only [Option.some.injEq, Prod.mk.injEq] at h
    obtain ⟨h1, h2⟩ := h
    subst h1 h2
    exact fnK_sound tyNil (by exact specOK rfl rfl ⟨(texpand_ok), (rexpand_ok), (tvalidate_ok), (rvalidate_ok), (choose_ok glb), (rchoose_ok glb), (tsame_ok glb), (tsameT_ok glb), (tawake_ok), trivial⟩ ⟨(newsrc_ok glb), trivial⟩ (d := qsOf rfl ⟨(qtable_ok), (lbent_ok glb), (qrange_ok glb), (lcodes_ok glb), (qsmallT_ok glb), trivial⟩)) (by kernel_rfl) Tryd.func7 rfl (lexp_v  _ _ _ _ _ _ hp)
  · cases h
theorem intsA_ofE {xs : LLA} (h : ∀ x ∈ xs, ∃ z, rng .i64 z ∧ x = [.int .i64 z]) : IntsA xs := fun x hx => by
  obtain ⟨z, h1, h2⟩ := h x hx
  exact ⟨z, h2, h1⟩
theorem ens_raw {es : LLA} (hl : es.length ≤ 140737488355328) (h : ∀ x ∈ es, ∃ y1 w1 : List AV, (∃ n1 : Int, rng .i64 n1 ∧ y1 = [.int .i64 n1]) ∧ (∃ y2 w2 : List AV, (∃ n2 : Int, rng .i64 n2 ∧ y2 = [.int .i64 n2]) ∧ (∃ y3 w3 : List AV, (∃ n3 : Int, rng .i64 n3 ∧ y3 = [.int .i64 n3]) ∧ (∃ y4 w4 : List AV, (∃ n4 : Int, rng .i64 n4 ∧ y4 = [.int .i64 n4]) ∧ (∃ y5 w5 : List AV, (∃ n5 : Int, rng .i64 n5 ∧ y5 = [.int .i64 n5]) ∧ (w5 = []) ∧ w4 = y5 ++ w5) ∧ w3 = y4 ++ w4) ∧ w2 = y3 ++ w3) ∧ w1 = y2 ++ w2) ∧ x = y1 ++ w1) : EnsP es := ⟨fun i hi => by
  have e : es.getD i [] = es[i] := by rw [List.getD_eq_getElem?_getD, List.getElem?_eq_getElem hi]; rfl
  rw [e]
  obtain ⟨_, _, ⟨a, ha, rfl⟩, ⟨_, _, ⟨b, hb, rfl⟩, ⟨_, _, ⟨c, hc, rfl⟩, ⟨_, _, ⟨d, hd, rfl⟩, ⟨_, _, ⟨f, hf, rfl⟩, rfl, rfl⟩, rfl⟩, rfl⟩, rfl⟩, hx⟩ := h _ (List.getElem_mem hi)
  exact ⟨a, b, c, d, f, hx, ha, hb, hc, hd, hf⟩, by omega⟩
theorem cds_raw {cs : LLA} (hl : cs.length ≤ 140737488355328) (h : ∀ x ∈ cs, ∃ z : Int, rng .i64 z ∧ x = [.int .i64 z]) : CdsP cs := ⟨fun i hi => by
  have e : cs.getD i [] = cs[i] := by rw [List.getD_eq_getElem?_getD, List.getElem?_eq_getElem hi]; rfl
  rw [e]
  obtain ⟨z, hz, hx⟩ := h _ (List.getElem_mem hi)
  exact ⟨z, hx, hz⟩, by omega⟩
theorem sqs_raw {ss : LLA} (hl : ss.length ≤ 140737488355328) (h : ∀ x ∈ ss, ∃ y1 w1 : List AV, (∃ n1 : Int, rng .i64 n1 ∧ y1 = [.int .i64 n1]) ∧ (∃ y2 w2 : List AV, (∃ xs2 : LLA, xs2.length ≤ 140737488355328 ∧ (∀ x2 ∈ xs2, ∃ z : Int, rng .i64 z ∧ x2 = [.int .i64 z]) ∧ y2 = [.sl 1 false xs2]) ∧ (w2 = []) ∧ w1 = y2 ++ w2) ∧ x = y1 ++ w1) : SqsP ss ∧ SqW ss := by
  have key : ∀ i, i < ss.length → ∃ (c : Int) (cs : LLA), ss.getD i [] = [.int .i64 c, .sl 1 false cs] ∧ rng .i64 c ∧ cs.length ≤ 140737488355328 ∧ CdsP cs := fun i hi => by
    have e : ss.getD i [] = ss[i] := by rw [List.getD_eq_getElem?_getD, List.getElem?_eq_getElem hi]; rfl
    rw [e]
    obtain ⟨_, _, ⟨a, ha, rfl⟩, ⟨_, _, ⟨cs, hcl, hc, rfl⟩, rfl, rfl⟩, hx⟩ := h _ (List.getElem_mem hi)
    exact ⟨a, cs, hx, ha, hcl, cds_raw hcl hc⟩
  exact ⟨⟨fun i hi => by obtain ⟨c, cs, h1, h2, _, h4⟩ := key i hi; exact ⟨c, cs, h1, h2, h4⟩, by omega⟩, ⟨fun i hi => by obtain ⟨c, cs, h1, _, h3, _⟩ := key i hi; exact ⟨c, cs, h1, h3⟩, hl⟩⟩
theorem expP_of {es ss gs xs : LLA} {v ver : Int} (hv : rng .i64 v) (l1 : es.length ≤ 140737488355328) (h1 : ∀ x ∈ es, ∃ y1 w1 : List AV, (∃ n1 : Int, rng .i64 n1 ∧ y1 = [.int .i64 n1]) ∧ (∃ y2 w2 : List AV, (∃ n2 : Int, rng .i64 n2 ∧ y2 = [.int .i64 n2]) ∧ (∃ y3 w3 : List AV, (∃ n3 : Int, rng .i64 n3 ∧ y3 = [.int .i64 n3]) ∧ (∃ y4 w4 : List AV, (∃ n4 : Int, rng .i64 n4 ∧ y4 = [.int .i64 n4]) ∧ (∃ y5 w5 : List AV, (∃ n5 : Int, rng .i64 n5 ∧ y5 = [.int .i64 n5]) ∧ (w5 = []) ∧ w4 = y5 ++ w5) ∧ w3 = y4 ++ w4) ∧ w2 = y3 ++ w3) ∧ w1 = y2 ++ w2) ∧ x = y1 ++ w1) (l2 : ss.length ≤ 140737488355328) (h2 : ∀ x ∈ ss, ∃ y1 w1 : List AV, (∃ n1 : Int, rng .i64 n1 ∧ y1 = [.int .i64 n1]) ∧ (∃ y2 w2 : List AV, (∃ xs2 : LLA, xs2.length ≤ 140737488355328 ∧ (∀ x2 ∈ xs2, ∃ z : Int, rng .i64 z ∧ x2 = [.int .i64 z]) ∧ y2 = [.sl 1 false xs2]) ∧ (w2 = []) ∧ w1 = y2 ++ w2) ∧ x = y1 ++ w1)
    (l3 : gs.length ≤ 140737488355328) (h3 : ∀ x ∈ gs, ∃ z : Int, rng .i64 z ∧ x = [.int .i64 z]) (h4 : ∀ x ∈ xs, ∃ z : Int, rng .i64 z ∧ x = [.int .i64 z]) (h5 : rng .i64 ver) : ExpP es ss gs xs v ver :=
  ⟨ens_raw l1 h1, (sqs_raw l2 h2).1, (sqs_raw l2 h2).2, l1, cds_raw l3 h3, intsA_ofE h4, hv, h5⟩
end Go.Proofs.YthdfkiopppkfcaaDoor
