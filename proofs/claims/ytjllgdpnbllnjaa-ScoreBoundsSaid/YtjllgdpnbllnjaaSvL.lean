/- Scores: the law of fractions. -/
import Derived.Test.YtjllgdpnbllnjaaSvK
namespace Go.Proofs.Ytjllgdpnbllnjaa
open Go
set_option linter.unusedVariables false
set_option linter.unusedSimpArgs false

def frG_s (C : Int → Int → Int → Int → Int) : Sp
  | [.agg [.int .i64 a, .int .i64 b], .agg [.int .i64 c, .int .i64 d]] => some (FrP a b ∧ FrP c d, .int .i64 (C a b c d))
  | _ => none
def frR_s (C : Int → Int → Int → Int → Int) : Sp
  | [.agg [.int .i64 a, .int .i64 b], .agg [.int .i64 c, .int .i64 d]] => some (True, .int .i64 (C a b c d))
  | _ => none
def rdG_s (N D E : Int → Int → Int) : Sp
  | [.int .i64 n, .int .i64 d] => some (True, .tup [.agg [.int .i64 (N n d), .int .i64 (D n d)], .int .i64 (E n d)])
  | _ => none
def moG_s (M : Int → Int → Int) : Sp
  | [.int .i64 x, .int .i64 n] => some (True, .int .i64 (M x n))
  | _ => none
structure FrcP (N D E M : Int → Int → Int) (C : Int → Int → Int → Int → Int) : Prop where
  e : ∀ n d, E n d = 0 → E (N n d) (D n d) = 0
  n : ∀ n d, E n d = 0 → N (N n d) (D n d) = N n d
  d : ∀ n d, E n d = 0 → D (N n d) (D n d) = D n d
  p : ∀ n d, E n d = 0 → 1 ≤ D n d
  f : ∀ n d, E n d = 0 → FrP (N n d) (D n d)
  w : ∀ a b, FrP (M a 1152921504606846976) (1 + M b 576460752303423488)
  c0 : ∀ a b, C a b a b = 0
  c1 : ∀ a b c d, C a b c d = 0 - C c d a b
  cb : ∀ a b c d, -1 ≤ C a b c d ∧ C a b c d ≤ 1
  mb : ∀ b, 0 ≤ M b 576460752303423488 ∧ M b 576460752303423488 < 576460752303423488
theorem frc_q {p q p' q' : Int} {F A : Prop} (h1 : p = p') (h2 : q = q') (a : A) : cond (!(decide (p = p') && (decide (q = q') && true))) F A := by
  rw [decide_eq_true h1, decide_eq_true h2]; exact a
theorem frc_step {N D E M : Int → Int → Int} {C : Int → Int → Int → Int → Int} (h : FrcP N D E M C) (n d a b : Int) {K : Prop} (k : K) : bif decide ¬E n d = E n d then false = true else bif !(decide (N n d = N n d) && (decide (D n d = D n d) && true)) then false = true else bif decide ¬E n d = (0 : Int) then K else True ∧ bif decide ¬E (N n d) (D n d) = (0 : Int) then false = true else bif !(decide (N (N n d) (D n d) = N n d) && (decide (D (N n d) (D n d) = D n d) && true)) then false = true else bif decide (D n d < (1 : Int)) then false = true else (FrP (N n d) (D n d) ∧ FrP (N (N n d) (D n d)) (D (N n d) (D n d))) ∧ bif decide ¬C (N n d) (D n d) (N (N n d) (D n d)) (D (N n d) (D n d)) = (0 : Int) then false = true else True ∧ True ∧ bif decide (rng IntKind.i64 ((1 : Int) + M b 576460752303423488)) then (FrP (N n d) (D n d) ∧ FrP (M a 1152921504606846976) ((1 : Int) + M b 576460752303423488)) ∧ True ∧ bif decide ¬C (N n d) (D n d) (M a 1152921504606846976) ((1 : Int) + M b 576460752303423488) = C (N n d) (D n d) (M a 1152921504606846976) ((1 : Int) + M b 576460752303423488) then false = true else (FrP (M a 1152921504606846976) ((1 : Int) + M b 576460752303423488) ∧ FrP (N n d) (D n d)) ∧ (FrP (N n d) (D n d) ∧ FrP (M a 1152921504606846976) ((1 : Int) + M b 576460752303423488)) ∧ bif decide (rng IntKind.i64 ((0 : Int) - C (N n d) (D n d) (M a 1152921504606846976) ((1 : Int) + M b 576460752303423488))) then bif decide ¬C (M a 1152921504606846976) ((1 : Int) + M b 576460752303423488) (N n d) (D n d) = (0 : Int) - C (N n d) (D n d) (M a 1152921504606846976) ((1 : Int) + M b 576460752303423488) then false = true else K else False else False := by
  refine cs' (fun q => absurd rfl q) (fun _ => frc_q rfl rfl (cs' (fun _ => k) (fun he => ?_)))
  have he := Decidable.not_not.1 he
  have f1 := h.f _ _ he
  have fw := h.w a b
  have c1 := h.c1 (M a 1152921504606846976) (1 + M b 576460752303423488) (N n d) (D n d)
  have cb := h.cb (N n d) (D n d) (M a 1152921504606846976) (1 + M b 576460752303423488)
  have p1 := h.p _ _ he
  have mb := h.mb b
  refine ⟨trivial, cs' (fun q => absurd (h.e _ _ he) q) (fun _ => frc_q (h.n _ _ he) (h.d _ _ he) (cs' (fun q => by omega) (fun _ => ?_)))⟩
  rw [h.n _ _ he, h.d _ _ he]
  refine ⟨⟨f1, f1⟩, cs' (fun q => absurd (h.c0 _ _) q) (fun _ => ⟨trivial, trivial, ?_⟩)⟩
  refine cdI (by omega) ⟨⟨f1, fw⟩, trivial, cs' (fun q => absurd rfl q) (fun _ => ⟨⟨fw, f1⟩, ⟨f1, fw⟩, cdI (by omega) (cs' (fun q => absurd c1 q) (fun _ => k))⟩)⟩
set_option maxRecDepth 100000 in
def lFrac_T : Prop :=
  ∀ (gl : Glob) (num den a b : Int) (N D E M : Int → Int → Int) (C : Int → Int → Int → Int → Int), FrcP N D E M C → (-9223372036854775808 : Int) ≤ num ∧ num ≤ (9223372036854775807 :
  Int) → (-9223372036854775808 : Int) ≤ den ∧ den ≤ (9223372036854775807 : Int) → (-9223372036854775808 : Int) ≤ a ∧ a ≤ (9223372036854775807 : Int) → (-9223372036854775808 : Int) ≤
  b ∧ b ≤ (9223372036854775807 : Int) → True ∧ True ∧ True ∧ bif decide ¬E num den = E num den then false = true else bif !(decide (N num den = N num den) && (decide (D num den = D
  num den) && true)) then false = true else bif decide ¬E num den = (0 : Int) then True ∧ True ∧ bif decide ¬E (num.tmod (5000 : Int)) (den.tmod (300 : Int)) = E (num.tmod (5000 :
  Int)) (den.tmod (300 : Int)) then false = true else bif !(decide (N (num.tmod (5000 : Int)) (den.tmod (300 : Int)) = N (num.tmod (5000 : Int)) (den.tmod (300 : Int))) && (decide (D
  (num.tmod (5000 : Int)) (den.tmod (300 : Int)) = D (num.tmod (5000 : Int)) (den.tmod (300 : Int))) && true)) then false = true else bif decide ¬E (num.tmod (5000 : Int)) (den.tmod
  (300 : Int)) = (0 : Int) then True ∧ True ∧ bif decide ¬E (a.tmod (64 : Int)) (b.tmod (64 : Int)) = E (a.tmod (64 : Int)) (b.tmod (64 : Int)) then false = true else bif !(decide (N
  (a.tmod (64 : Int)) (b.tmod (64 : Int)) = N (a.tmod (64 : Int)) (b.tmod (64 : Int))) && (decide (D (a.tmod (64 : Int)) (b.tmod (64 : Int)) = D (a.tmod (64 : Int)) (b.tmod (64 :
  Int))) && true)) then false = true else bif decide ¬E (a.tmod (64 : Int)) (b.tmod (64 : Int)) = (0 : Int) then true = true else True ∧ bif decide ¬E (N (a.tmod (64 : Int)) (b.tmod
  (64 : Int))) (D (a.tmod (64 : Int)) (b.tmod (64 : Int))) = (0 : Int) then false = true else bif !(decide (N (N (a.tmod (64 : Int)) (b.tmod (64 : Int))) (D (a.tmod (64 : Int))
  (b.tmod (64 : Int))) = N (a.tmod (64 : Int)) (b.tmod (64 : Int))) && (decide (D (N (a.tmod (64 : Int)) (b.tmod (64 : Int))) (D (a.tmod (64 : Int)) (b.tmod (64 : Int))) = D (a.tmod
  (64 : Int)) (b.tmod (64 : Int))) && true)) then false = true else bif decide (D (a.tmod (64 : Int)) (b.tmod (64 : Int)) < (1 : Int)) then false = true else (FrP (N (a.tmod (64 :
  Int)) (b.tmod (64 : Int))) (D (a.tmod (64 : Int)) (b.tmod (64 : Int))) ∧ FrP (N (N (a.tmod (64 : Int)) (b.tmod (64 : Int))) (D (a.tmod (64 : Int)) (b.tmod (64 : Int)))) (D (N
  (a.tmod (64 : Int)) (b.tmod (64 : Int))) (D (a.tmod (64 : Int)) (b.tmod (64 : Int))))) ∧ bif decide ¬C (N (a.tmod (64 : Int)) (b.tmod (64 : Int))) (D (a.tmod (64 : Int)) (b.tmod
  (64 : Int))) (N (N (a.tmod (64 : Int)) (b.tmod (64 : Int))) (D (a.tmod (64 : Int)) (b.tmod (64 : Int)))) (D (N (a.tmod (64 : Int)) (b.tmod (64 : Int))) (D (a.tmod (64 : Int))
  (b.tmod (64 : Int)))) = (0 : Int) then false = true else True ∧ True ∧ bif decide (rng IntKind.i64 ((1 : Int) + M b (576460752303423488 : Int))) then (FrP (N (a.tmod (64 : Int))
  (b.tmod (64 : Int))) (D (a.tmod (64 : Int)) (b.tmod (64 : Int))) ∧ FrP (M a (1152921504606846976 : Int)) ((1 : Int) + M b (576460752303423488 : Int))) ∧ True ∧ bif decide ¬C (N
  (a.tmod (64 : Int)) (b.tmod (64 : Int))) (D (a.tmod (64 : Int)) (b.tmod (64 : Int))) (M a (1152921504606846976 : Int)) ((1 : Int) + M b (576460752303423488 : Int)) = C (N (a.tmod
  (64 : Int)) (b.tmod (64 : Int))) (D (a.tmod (64 : Int)) (b.tmod (64 : Int))) (M a (1152921504606846976 : Int)) ((1 : Int) + M b (576460752303423488 : Int)) then false = true else
  (FrP (M a (1152921504606846976 : Int)) ((1 : Int) + M b (576460752303423488 : Int)) ∧ FrP (N (a.tmod (64 : Int)) (b.tmod (64 : Int))) (D (a.tmod (64 : Int)) (b.tmod (64 : Int)))) ∧
  (FrP (N (a.tmod (64 : Int)) (b.tmod (64 : Int))) (D (a.tmod (64 : Int)) (b.tmod (64 : Int))) ∧ FrP (M a (1152921504606846976 : Int)) ((1 : Int) + M b (576460752303423488 : Int))) ∧
  bif decide (rng IntKind.i64 ((0 : Int) - C (N (a.tmod (64 : Int)) (b.tmod (64 : Int))) (D (a.tmod (64 : Int)) (b.tmod (64 : Int))) (M a (1152921504606846976 : Int)) ((1 : Int) + M
  b (576460752303423488 : Int)))) then bif decide ¬C (M a (1152921504606846976 : Int)) ((1 : Int) + M b (576460752303423488 : Int)) (N (a.tmod (64 : Int)) (b.tmod (64 : Int))) (D
  (a.tmod (64 : Int)) (b.tmod (64 : Int))) = (0 : Int) - C (N (a.tmod (64 : Int)) (b.tmod (64 : Int))) (D (a.tmod (64 : Int)) (b.tmod (64 : Int))) (M a (1152921504606846976 : Int))
  ((1 : Int) + M b (576460752303423488 : Int)) then false = true else true = true else False else False else True ∧ bif decide ¬E (N (num.tmod (5000 : Int)) (den.tmod (300 : Int)))
  (D (num.tmod (5000 : Int)) (den.tmod (300 : Int))) = (0 : Int) then false = true else bif !(decide (N (N (num.tmod (5000 : Int)) (den.tmod (300 : Int))) (D (num.tmod (5000 : Int))
  (den.tmod (300 : Int))) = N (num.tmod (5000 : Int)) (den.tmod (300 : Int))) && (decide (D (N (num.tmod (5000 : Int)) (den.tmod (300 : Int))) (D (num.tmod (5000 : Int)) (den.tmod
  (300 : Int))) = D (num.tmod (5000 : Int)) (den.tmod (300 : Int))) && true)) then false = true else bif decide (D (num.tmod (5000 : Int)) (den.tmod (300 : Int)) < (1 : Int)) then
  false = true else (FrP (N (num.tmod (5000 : Int)) (den.tmod (300 : Int))) (D (num.tmod (5000 : Int)) (den.tmod (300 : Int))) ∧ FrP (N (N (num.tmod (5000 : Int)) (den.tmod (300 :
  Int))) (D (num.tmod (5000 : Int)) (den.tmod (300 : Int)))) (D (N (num.tmod (5000 : Int)) (den.tmod (300 : Int))) (D (num.tmod (5000 : Int)) (den.tmod (300 : Int))))) ∧ bif decide
  ¬C (N (num.tmod (5000 : Int)) (den.tmod (300 : Int))) (D (num.tmod (5000 : Int)) (den.tmod (300 : Int))) (N (N (num.tmod (5000 : Int)) (den.tmod (300 : Int))) (D (num.tmod (5000 :
  Int)) (den.tmod (300 : Int)))) (D (N (num.tmod (5000 : Int)) (den.tmod (300 : Int))) (D (num.tmod (5000 : Int)) (den.tmod (300 : Int)))) = (0 : Int) then false = true else True ∧
  True ∧ bif decide (rng IntKind.i64 ((1 : Int) + M b (576460752303423488 : Int))) then (FrP (N (num.tmod (5000 : Int)) (den.tmod (300 : Int))) (D (num.tmod (5000 : Int)) (den.tmod
  (300 : Int))) ∧ FrP (M a (1152921504606846976 : Int)) ((1 : Int) + M b (576460752303423488 : Int))) ∧ True ∧ bif decide ¬C (N (num.tmod (5000 : Int)) (den.tmod (300 : Int))) (D
  (num.tmod (5000 : Int)) (den.tmod (300 : Int))) (M a (1152921504606846976 : Int)) ((1 : Int) + M b (576460752303423488 : Int)) = C (N (num.tmod (5000 : Int)) (den.tmod (300 :
  Int))) (D (num.tmod (5000 : Int)) (den.tmod (300 : Int))) (M a (1152921504606846976 : Int)) ((1 : Int) + M b (576460752303423488 : Int)) then false = true else (FrP (M a
  (1152921504606846976 : Int)) ((1 : Int) + M b (576460752303423488 : Int)) ∧ FrP (N (num.tmod (5000 : Int)) (den.tmod (300 : Int))) (D (num.tmod (5000 : Int)) (den.tmod (300 :
  Int)))) ∧ (FrP (N (num.tmod (5000 : Int)) (den.tmod (300 : Int))) (D (num.tmod (5000 : Int)) (den.tmod (300 : Int))) ∧ FrP (M a (1152921504606846976 : Int)) ((1 : Int) + M b
  (576460752303423488 : Int))) ∧ bif decide (rng IntKind.i64 ((0 : Int) - C (N (num.tmod (5000 : Int)) (den.tmod (300 : Int))) (D (num.tmod (5000 : Int)) (den.tmod (300 : Int))) (M a
  (1152921504606846976 : Int)) ((1 : Int) + M b (576460752303423488 : Int)))) then bif decide ¬C (M a (1152921504606846976 : Int)) ((1 : Int) + M b (576460752303423488 : Int)) (N
  (num.tmod (5000 : Int)) (den.tmod (300 : Int))) (D (num.tmod (5000 : Int)) (den.tmod (300 : Int))) = (0 : Int) - C (N (num.tmod (5000 : Int)) (den.tmod (300 : Int))) (D (num.tmod
  (5000 : Int)) (den.tmod (300 : Int))) (M a (1152921504606846976 : Int)) ((1 : Int) + M b (576460752303423488 : Int)) then false = true else True ∧ True ∧ bif decide ¬E (a.tmod (64
  : Int)) (b.tmod (64 : Int)) = E (a.tmod (64 : Int)) (b.tmod (64 : Int)) then false = true else bif !(decide (N (a.tmod (64 : Int)) (b.tmod (64 : Int)) = N (a.tmod (64 : Int))
  (b.tmod (64 : Int))) && (decide (D (a.tmod (64 : Int)) (b.tmod (64 : Int)) = D (a.tmod (64 : Int)) (b.tmod (64 : Int))) && true)) then false = true else bif decide ¬E (a.tmod (64 :
  Int)) (b.tmod (64 : Int)) = (0 : Int) then true = true else True ∧ bif decide ¬E (N (a.tmod (64 : Int)) (b.tmod (64 : Int))) (D (a.tmod (64 : Int)) (b.tmod (64 : Int))) = (0 : Int)
  then false = true else bif !(decide (N (N (a.tmod (64 : Int)) (b.tmod (64 : Int))) (D (a.tmod (64 : Int)) (b.tmod (64 : Int))) = N (a.tmod (64 : Int)) (b.tmod (64 : Int))) &&
  (decide (D (N (a.tmod (64 : Int)) (b.tmod (64 : Int))) (D (a.tmod (64 : Int)) (b.tmod (64 : Int))) = D (a.tmod (64 : Int)) (b.tmod (64 : Int))) && true)) then false = true else bif
  decide (D (a.tmod (64 : Int)) (b.tmod (64 : Int)) < (1 : Int)) then false = true else (FrP (N (a.tmod (64 : Int)) (b.tmod (64 : Int))) (D (a.tmod (64 : Int)) (b.tmod (64 : Int))) ∧
  FrP (N (N (a.tmod (64 : Int)) (b.tmod (64 : Int))) (D (a.tmod (64 : Int)) (b.tmod (64 : Int)))) (D (N (a.tmod (64 : Int)) (b.tmod (64 : Int))) (D (a.tmod (64 : Int)) (b.tmod (64 :
  Int))))) ∧ bif decide ¬C (N (a.tmod (64 : Int)) (b.tmod (64 : Int))) (D (a.tmod (64 : Int)) (b.tmod (64 : Int))) (N (N (a.tmod (64 : Int)) (b.tmod (64 : Int))) (D (a.tmod (64 :
  Int)) (b.tmod (64 : Int)))) (D (N (a.tmod (64 : Int)) (b.tmod (64 : Int))) (D (a.tmod (64 : Int)) (b.tmod (64 : Int)))) = (0 : Int) then false = true else True ∧ True ∧ bif decide
  (rng IntKind.i64 ((1 : Int) + M b (576460752303423488 : Int))) then (FrP (N (a.tmod (64 : Int)) (b.tmod (64 : Int))) (D (a.tmod (64 : Int)) (b.tmod (64 : Int))) ∧ FrP (M a
  (1152921504606846976 : Int)) ((1 : Int) + M b (576460752303423488 : Int))) ∧ True ∧ bif decide ¬C (N (a.tmod (64 : Int)) (b.tmod (64 : Int))) (D (a.tmod (64 : Int)) (b.tmod (64 :
  Int))) (M a (1152921504606846976 : Int)) ((1 : Int) + M b (576460752303423488 : Int)) = C (N (a.tmod (64 : Int)) (b.tmod (64 : Int))) (D (a.tmod (64 : Int)) (b.tmod (64 : Int))) (M
  a (1152921504606846976 : Int)) ((1 : Int) + M b (576460752303423488 : Int)) then false = true else (FrP (M a (1152921504606846976 : Int)) ((1 : Int) + M b (576460752303423488 :
  Int)) ∧ FrP (N (a.tmod (64 : Int)) (b.tmod (64 : Int))) (D (a.tmod (64 : Int)) (b.tmod (64 : Int)))) ∧ (FrP (N (a.tmod (64 : Int)) (b.tmod (64 : Int))) (D (a.tmod (64 : Int))
  (b.tmod (64 : Int))) ∧ FrP (M a (1152921504606846976 : Int)) ((1 : Int) + M b (576460752303423488 : Int))) ∧ bif decide (rng IntKind.i64 ((0 : Int) - C (N (a.tmod (64 : Int))
  (b.tmod (64 : Int))) (D (a.tmod (64 : Int)) (b.tmod (64 : Int))) (M a (1152921504606846976 : Int)) ((1 : Int) + M b (576460752303423488 : Int)))) then bif decide ¬C (M a
  (1152921504606846976 : Int)) ((1 : Int) + M b (576460752303423488 : Int)) (N (a.tmod (64 : Int)) (b.tmod (64 : Int))) (D (a.tmod (64 : Int)) (b.tmod (64 : Int))) = (0 : Int) - C (N
  (a.tmod (64 : Int)) (b.tmod (64 : Int))) (D (a.tmod (64 : Int)) (b.tmod (64 : Int))) (M a (1152921504606846976 : Int)) ((1 : Int) + M b (576460752303423488 : Int)) then false =
  true else true = true else False else False else False else False else True ∧ bif decide ¬E (N num den) (D num den) = (0 : Int) then false = true else bif !(decide (N (N num den)
  (D num den) = N num den) && (decide (D (N num den) (D num den) = D num den) && true)) then false = true else bif decide (D num den < (1 : Int)) then false = true else (FrP (N num
  den) (D num den) ∧ FrP (N (N num den) (D num den)) (D (N num den) (D num den))) ∧ bif decide ¬C (N num den) (D num den) (N (N num den) (D num den)) (D (N num den) (D num den)) = (0
  : Int) then false = true else True ∧ True ∧ bif decide (rng IntKind.i64 ((1 : Int) + M b (576460752303423488 : Int))) then (FrP (N num den) (D num den) ∧ FrP (M a
  (1152921504606846976 : Int)) ((1 : Int) + M b (576460752303423488 : Int))) ∧ True ∧ bif decide ¬C (N num den) (D num den) (M a (1152921504606846976 : Int)) ((1 : Int) + M b
  (576460752303423488 : Int)) = C (N num den) (D num den) (M a (1152921504606846976 : Int)) ((1 : Int) + M b (576460752303423488 : Int)) then false = true else (FrP (M a
  (1152921504606846976 : Int)) ((1 : Int) + M b (576460752303423488 : Int)) ∧ FrP (N num den) (D num den)) ∧ (FrP (N num den) (D num den) ∧ FrP (M a (1152921504606846976 : Int)) ((1
  : Int) + M b (576460752303423488 : Int))) ∧ bif decide (rng IntKind.i64 ((0 : Int) - C (N num den) (D num den) (M a (1152921504606846976 : Int)) ((1 : Int) + M b
  (576460752303423488 : Int)))) then bif decide ¬C (M a (1152921504606846976 : Int)) ((1 : Int) + M b (576460752303423488 : Int)) (N num den) (D num den) = (0 : Int) - C (N num den)
  (D num den) (M a (1152921504606846976 : Int)) ((1 : Int) + M b (576460752303423488 : Int)) then false = true else True ∧ True ∧ bif decide ¬E (num.tmod (5000 : Int)) (den.tmod (300
  : Int)) = E (num.tmod (5000 : Int)) (den.tmod (300 : Int)) then false = true else bif !(decide (N (num.tmod (5000 : Int)) (den.tmod (300 : Int)) = N (num.tmod (5000 : Int))
  (den.tmod (300 : Int))) && (decide (D (num.tmod (5000 : Int)) (den.tmod (300 : Int)) = D (num.tmod (5000 : Int)) (den.tmod (300 : Int))) && true)) then false = true else bif decide
  ¬E (num.tmod (5000 : Int)) (den.tmod (300 : Int)) = (0 : Int) then True ∧ True ∧ bif decide ¬E (a.tmod (64 : Int)) (b.tmod (64 : Int)) = E (a.tmod (64 : Int)) (b.tmod (64 : Int))
  then false = true else bif !(decide (N (a.tmod (64 : Int)) (b.tmod (64 : Int)) = N (a.tmod (64 : Int)) (b.tmod (64 : Int))) && (decide (D (a.tmod (64 : Int)) (b.tmod (64 : Int)) =
  D (a.tmod (64 : Int)) (b.tmod (64 : Int))) && true)) then false = true else bif decide ¬E (a.tmod (64 : Int)) (b.tmod (64 : Int)) = (0 : Int) then true = true else True ∧ bif
  decide ¬E (N (a.tmod (64 : Int)) (b.tmod (64 : Int))) (D (a.tmod (64 : Int)) (b.tmod (64 : Int))) = (0 : Int) then false = true else bif !(decide (N (N (a.tmod (64 : Int)) (b.tmod
  (64 : Int))) (D (a.tmod (64 : Int)) (b.tmod (64 : Int))) = N (a.tmod (64 : Int)) (b.tmod (64 : Int))) && (decide (D (N (a.tmod (64 : Int)) (b.tmod (64 : Int))) (D (a.tmod (64 :
  Int)) (b.tmod (64 : Int))) = D (a.tmod (64 : Int)) (b.tmod (64 : Int))) && true)) then false = true else bif decide (D (a.tmod (64 : Int)) (b.tmod (64 : Int)) < (1 : Int)) then
  false = true else (FrP (N (a.tmod (64 : Int)) (b.tmod (64 : Int))) (D (a.tmod (64 : Int)) (b.tmod (64 : Int))) ∧ FrP (N (N (a.tmod (64 : Int)) (b.tmod (64 : Int))) (D (a.tmod (64 :
  Int)) (b.tmod (64 : Int)))) (D (N (a.tmod (64 : Int)) (b.tmod (64 : Int))) (D (a.tmod (64 : Int)) (b.tmod (64 : Int))))) ∧ bif decide ¬C (N (a.tmod (64 : Int)) (b.tmod (64 : Int)))
  (D (a.tmod (64 : Int)) (b.tmod (64 : Int))) (N (N (a.tmod (64 : Int)) (b.tmod (64 : Int))) (D (a.tmod (64 : Int)) (b.tmod (64 : Int)))) (D (N (a.tmod (64 : Int)) (b.tmod (64 :
  Int))) (D (a.tmod (64 : Int)) (b.tmod (64 : Int)))) = (0 : Int) then false = true else True ∧ True ∧ bif decide (rng IntKind.i64 ((1 : Int) + M b (576460752303423488 : Int))) then
  (FrP (N (a.tmod (64 : Int)) (b.tmod (64 : Int))) (D (a.tmod (64 : Int)) (b.tmod (64 : Int))) ∧ FrP (M a (1152921504606846976 : Int)) ((1 : Int) + M b (576460752303423488 : Int))) ∧
  True ∧ bif decide ¬C (N (a.tmod (64 : Int)) (b.tmod (64 : Int))) (D (a.tmod (64 : Int)) (b.tmod (64 : Int))) (M a (1152921504606846976 : Int)) ((1 : Int) + M b (576460752303423488
  : Int)) = C (N (a.tmod (64 : Int)) (b.tmod (64 : Int))) (D (a.tmod (64 : Int)) (b.tmod (64 : Int))) (M a (1152921504606846976 : Int)) ((1 : Int) + M b (576460752303423488 : Int))
  then false = true else (FrP (M a (1152921504606846976 : Int)) ((1 : Int) + M b (576460752303423488 : Int)) ∧ FrP (N (a.tmod (64 : Int)) (b.tmod (64 : Int))) (D (a.tmod (64 : Int))
  (b.tmod (64 : Int)))) ∧ (FrP (N (a.tmod (64 : Int)) (b.tmod (64 : Int))) (D (a.tmod (64 : Int)) (b.tmod (64 : Int))) ∧ FrP (M a (1152921504606846976 : Int)) ((1 : Int) + M b
  (576460752303423488 : Int))) ∧ bif decide (rng IntKind.i64 ((0 : Int) - C (N (a.tmod (64 : Int)) (b.tmod (64 : Int))) (D (a.tmod (64 : Int)) (b.tmod (64 : Int))) (M a
  (1152921504606846976 : Int)) ((1 : Int) + M b (576460752303423488 : Int)))) then bif decide ¬C (M a (1152921504606846976 : Int)) ((1 : Int) + M b (576460752303423488 : Int)) (N
  (a.tmod (64 : Int)) (b.tmod (64 : Int))) (D (a.tmod (64 : Int)) (b.tmod (64 : Int))) = (0 : Int) - C (N (a.tmod (64 : Int)) (b.tmod (64 : Int))) (D (a.tmod (64 : Int)) (b.tmod (64
  : Int))) (M a (1152921504606846976 : Int)) ((1 : Int) + M b (576460752303423488 : Int)) then false = true else true = true else False else False else True ∧ bif decide ¬E (N
  (num.tmod (5000 : Int)) (den.tmod (300 : Int))) (D (num.tmod (5000 : Int)) (den.tmod (300 : Int))) = (0 : Int) then false = true else bif !(decide (N (N (num.tmod (5000 : Int))
  (den.tmod (300 : Int))) (D (num.tmod (5000 : Int)) (den.tmod (300 : Int))) = N (num.tmod (5000 : Int)) (den.tmod (300 : Int))) && (decide (D (N (num.tmod (5000 : Int)) (den.tmod
  (300 : Int))) (D (num.tmod (5000 : Int)) (den.tmod (300 : Int))) = D (num.tmod (5000 : Int)) (den.tmod (300 : Int))) && true)) then false = true else bif decide (D (num.tmod (5000
  : Int)) (den.tmod (300 : Int)) < (1 : Int)) then false = true else (FrP (N (num.tmod (5000 : Int)) (den.tmod (300 : Int))) (D (num.tmod (5000 : Int)) (den.tmod (300 : Int))) ∧ FrP
  (N (N (num.tmod (5000 : Int)) (den.tmod (300 : Int))) (D (num.tmod (5000 : Int)) (den.tmod (300 : Int)))) (D (N (num.tmod (5000 : Int)) (den.tmod (300 : Int))) (D (num.tmod (5000 :
  Int)) (den.tmod (300 : Int))))) ∧ bif decide ¬C (N (num.tmod (5000 : Int)) (den.tmod (300 : Int))) (D (num.tmod (5000 : Int)) (den.tmod (300 : Int))) (N (N (num.tmod (5000 : Int))
  (den.tmod (300 : Int))) (D (num.tmod (5000 : Int)) (den.tmod (300 : Int)))) (D (N (num.tmod (5000 : Int)) (den.tmod (300 : Int))) (D (num.tmod (5000 : Int)) (den.tmod (300 :
  Int)))) = (0 : Int) then false = true else True ∧ True ∧ bif decide (rng IntKind.i64 ((1 : Int) + M b (576460752303423488 : Int))) then (FrP (N (num.tmod (5000 : Int)) (den.tmod
  (300 : Int))) (D (num.tmod (5000 : Int)) (den.tmod (300 : Int))) ∧ FrP (M a (1152921504606846976 : Int)) ((1 : Int) + M b (576460752303423488 : Int))) ∧ True ∧ bif decide ¬C (N
  (num.tmod (5000 : Int)) (den.tmod (300 : Int))) (D (num.tmod (5000 : Int)) (den.tmod (300 : Int))) (M a (1152921504606846976 : Int)) ((1 : Int) + M b (576460752303423488 : Int)) =
  C (N (num.tmod (5000 : Int)) (den.tmod (300 : Int))) (D (num.tmod (5000 : Int)) (den.tmod (300 : Int))) (M a (1152921504606846976 : Int)) ((1 : Int) + M b (576460752303423488 :
  Int)) then false = true else (FrP (M a (1152921504606846976 : Int)) ((1 : Int) + M b (576460752303423488 : Int)) ∧ FrP (N (num.tmod (5000 : Int)) (den.tmod (300 : Int))) (D
  (num.tmod (5000 : Int)) (den.tmod (300 : Int)))) ∧ (FrP (N (num.tmod (5000 : Int)) (den.tmod (300 : Int))) (D (num.tmod (5000 : Int)) (den.tmod (300 : Int))) ∧ FrP (M a
  (1152921504606846976 : Int)) ((1 : Int) + M b (576460752303423488 : Int))) ∧ bif decide (rng IntKind.i64 ((0 : Int) - C (N (num.tmod (5000 : Int)) (den.tmod (300 : Int))) (D
  (num.tmod (5000 : Int)) (den.tmod (300 : Int))) (M a (1152921504606846976 : Int)) ((1 : Int) + M b (576460752303423488 : Int)))) then bif decide ¬C (M a (1152921504606846976 :
  Int)) ((1 : Int) + M b (576460752303423488 : Int)) (N (num.tmod (5000 : Int)) (den.tmod (300 : Int))) (D (num.tmod (5000 : Int)) (den.tmod (300 : Int))) = (0 : Int) - C (N
  (num.tmod (5000 : Int)) (den.tmod (300 : Int))) (D (num.tmod (5000 : Int)) (den.tmod (300 : Int))) (M a (1152921504606846976 : Int)) ((1 : Int) + M b (576460752303423488 : Int))
  then false = true else True ∧ True ∧ bif decide ¬E (a.tmod (64 : Int)) (b.tmod (64 : Int)) = E (a.tmod (64 : Int)) (b.tmod (64 : Int)) then false = true else bif !(decide (N
  (a.tmod (64 : Int)) (b.tmod (64 : Int)) = N (a.tmod (64 : Int)) (b.tmod (64 : Int))) && (decide (D (a.tmod (64 : Int)) (b.tmod (64 : Int)) = D (a.tmod (64 : Int)) (b.tmod (64 :
  Int))) && true)) then false = true else bif decide ¬E (a.tmod (64 : Int)) (b.tmod (64 : Int)) = (0 : Int) then true = true else True ∧ bif decide ¬E (N (a.tmod (64 : Int)) (b.tmod
  (64 : Int))) (D (a.tmod (64 : Int)) (b.tmod (64 : Int))) = (0 : Int) then false = true else bif !(decide (N (N (a.tmod (64 : Int)) (b.tmod (64 : Int))) (D (a.tmod (64 : Int))
  (b.tmod (64 : Int))) = N (a.tmod (64 : Int)) (b.tmod (64 : Int))) && (decide (D (N (a.tmod (64 : Int)) (b.tmod (64 : Int))) (D (a.tmod (64 : Int)) (b.tmod (64 : Int))) = D (a.tmod
  (64 : Int)) (b.tmod (64 : Int))) && true)) then false = true else bif decide (D (a.tmod (64 : Int)) (b.tmod (64 : Int)) < (1 : Int)) then false = true else (FrP (N (a.tmod (64 :
  Int)) (b.tmod (64 : Int))) (D (a.tmod (64 : Int)) (b.tmod (64 : Int))) ∧ FrP (N (N (a.tmod (64 : Int)) (b.tmod (64 : Int))) (D (a.tmod (64 : Int)) (b.tmod (64 : Int)))) (D (N
  (a.tmod (64 : Int)) (b.tmod (64 : Int))) (D (a.tmod (64 : Int)) (b.tmod (64 : Int))))) ∧ bif decide ¬C (N (a.tmod (64 : Int)) (b.tmod (64 : Int))) (D (a.tmod (64 : Int)) (b.tmod
  (64 : Int))) (N (N (a.tmod (64 : Int)) (b.tmod (64 : Int))) (D (a.tmod (64 : Int)) (b.tmod (64 : Int)))) (D (N (a.tmod (64 : Int)) (b.tmod (64 : Int))) (D (a.tmod (64 : Int))
  (b.tmod (64 : Int)))) = (0 : Int) then false = true else True ∧ True ∧ bif decide (rng IntKind.i64 ((1 : Int) + M b (576460752303423488 : Int))) then (FrP (N (a.tmod (64 : Int))
  (b.tmod (64 : Int))) (D (a.tmod (64 : Int)) (b.tmod (64 : Int))) ∧ FrP (M a (1152921504606846976 : Int)) ((1 : Int) + M b (576460752303423488 : Int))) ∧ True ∧ bif decide ¬C (N
  (a.tmod (64 : Int)) (b.tmod (64 : Int))) (D (a.tmod (64 : Int)) (b.tmod (64 : Int))) (M a (1152921504606846976 : Int)) ((1 : Int) + M b (576460752303423488 : Int)) = C (N (a.tmod
  (64 : Int)) (b.tmod (64 : Int))) (D (a.tmod (64 : Int)) (b.tmod (64 : Int))) (M a (1152921504606846976 : Int)) ((1 : Int) + M b (576460752303423488 : Int)) then false = true else
  (FrP (M a (1152921504606846976 : Int)) ((1 : Int) + M b (576460752303423488 : Int)) ∧ FrP (N (a.tmod (64 : Int)) (b.tmod (64 : Int))) (D (a.tmod (64 : Int)) (b.tmod (64 : Int)))) ∧
  (FrP (N (a.tmod (64 : Int)) (b.tmod (64 : Int))) (D (a.tmod (64 : Int)) (b.tmod (64 : Int))) ∧ FrP (M a (1152921504606846976 : Int)) ((1 : Int) + M b (576460752303423488 : Int))) ∧
  bif decide (rng IntKind.i64 ((0 : Int) - C (N (a.tmod (64 : Int)) (b.tmod (64 : Int))) (D (a.tmod (64 : Int)) (b.tmod (64 : Int))) (M a (1152921504606846976 : Int)) ((1 : Int) + M
  b (576460752303423488 : Int)))) then bif decide ¬C (M a (1152921504606846976 : Int)) ((1 : Int) + M b (576460752303423488 : Int)) (N (a.tmod (64 : Int)) (b.tmod (64 : Int))) (D
  (a.tmod (64 : Int)) (b.tmod (64 : Int))) = (0 : Int) - C (N (a.tmod (64 : Int)) (b.tmod (64 : Int))) (D (a.tmod (64 : Int)) (b.tmod (64 : Int))) (M a (1152921504606846976 : Int))
  ((1 : Int) + M b (576460752303423488 : Int)) then false = true else true = true else False else False else False else False else False else False
set_option maxRecDepth 100000 in
theorem lFrac_P : lFrac_T := by
  unfold lFrac_T
  intro gl num den a b N D E M C h _ _ _ _
  exact ⟨trivial, trivial, trivial, frc_step h _ _ a b ⟨trivial, trivial, frc_step h _ _ a b ⟨trivial, trivial, frc_step h _ _ a b rfl⟩⟩⟩
def lFrac_S : Prop := ∀ (gl : Glob) (num den a b : Int) (N D E M : Int → Int → Int) (C : Int → Int → Int → Int → Int), FrcP N D E M C → fnK Try.prog { glob := gl, spec := lk [(9, sawake_s), (36, rdG_s N D E), (37, rdG_s N D E), (38, frG_s C), (39, frR_s C), (10, moG_s M)], specH := lk [], nowf := true } { nt := 115, drop := drp [(1, 262144), (3, 8588886016), (5, 412316860416), (6, 140187732541440), (7, 35888059530608640), (8, 4575657221408423936), (10, 9223372036854775808), (11, 9407839477591871324160), (12, 1237930594552414535608696832), (14, 155980444949957914637289652224), (15, 10384435260744626728385805570539520), (17, 20769187434139310514121985316880384)], tys := [28] } (fun _ _ => none) 6 Try.f7 [.int .i64 num, .int .i64 den, .int .i64 a, .int .i64 b] (.bool true)
set_option maxRecDepth 100000 in
theorem lFrac_e : lFrac_T = lFrac_S := by kernel_rfl
theorem lFrac_v : lFrac_S := @Eq.mp (lFrac_T) (lFrac_S) (lFrac_e) lFrac_P

theorem tdv_gcd {a : Int} {g : Nat} (h : g ∣ a.natAbs) : (a.tdiv (g : Int)).natAbs = a.natAbs / g := by rw [Int.natAbs_tdiv]; rfl
theorem gcd_red {n d : Int} (h : ¬ d = 0) : gcdI ((nF n d).tdiv (gcdI n d)) ((dF d).tdiv (gcdI n d)) = 1 := by
  have e1 : (nF n d).natAbs = n.natAbs := by unfold nF; split <;> omega
  have e2 : (dF d).natAbs = d.natAbs := by unfold dF; split <;> omega
  unfold gcdI
  rw [Int.natAbs_tdiv, Int.natAbs_tdiv, e1, e2]
  show ((Nat.gcd (n.natAbs / Nat.gcd n.natAbs d.natAbs) (d.natAbs / Nat.gcd n.natAbs d.natAbs) : Nat) : Int) = 1
  rw [Nat.gcd_div_gcd_div_gcd_of_pos_right (show 0 < d.natAbs by omega)]
  rfl
theorem rd_pos {n d : Int} (h : rdB n d = true) : 1 ≤ rdD n d ∧ rdD n d ≤ 1152921504606846976 ∧ -1152921504606846976 ≤ rdN n d ∧ rdN n d ≤ 1152921504606846976 ∧ gcdI (rdN n d) (rdD n d) = 1 := by
  obtain ⟨h0, h1, h2⟩ := rdB_iff.1 h
  have hg := gcd_red (n := n) h0
  have hp := gcd_pos (a := n) h0
  have t1 := tdv2 (nF n d) (gcdI n d)
  have t2 := tdv2 (dF d) (gcdI n d)
  have n1 : -1152921504606846976 ≤ nF n d ∧ nF n d ≤ 1152921504606846976 := by unfold nF; split <;> omega
  have d1 : 0 < dF d ∧ dF d ≤ 1152921504606846976 := by unfold dF; split <;> omega
  unfold rdN rdD
  rw [h, if_pos rfl, if_pos rfl]
  refine ⟨?_, by omega, by omega, by omega, hg⟩
  have hdv : gcdI n d ∣ dF d := by
    unfold gcdI
    have : (Nat.gcd n.natAbs d.natAbs : Int) ∣ d := Int.ofNat_dvd_left.2 (Nat.gcd_dvd_right _ _)
    unfold dF; split
    · rw [Int.zero_sub]; exact Int.dvd_neg.2 this
    · exact this
  obtain ⟨k, hk⟩ := hdv
  rw [hk, Int.mul_tdiv_cancel_left _ (by omega)]
  rw [hk] at d1
  have : 0 < k := by
    rcases Int.lt_trichotomy k 0 with hk | hk | hk
    · have := Int.mul_neg_of_pos_of_neg hp hk; omega
    · rw [hk, Int.mul_zero] at d1; omega
    · exact hk
  omega
theorem rdE_iff {n d : Int} : rdE n d = 0 ↔ rdB n d = true := by
  unfold rdE
  cases rdB n d with
  | true => simp
  | false => simp
theorem cmp_sw (p q : Int) : cmpI p q = 0 - cmpI q p := by
  rcases Int.lt_trichotomy p q with h | h | h
  · rw [cmp_lt h, cmp_gt h]; rfl
  · rw [cmp_eq h, cmp_eq h.symm]; rfl
  · rw [cmp_gt h, cmp_lt h]; rfl
theorem frcP : FrcP rdN rdD rdE modZ (fun a b c d => cmpI (a * d) (c * b)) := by
  have key : ∀ n d, rdE n d = 0 → rdB (rdN n d) (rdD n d) = true ∧ rdN (rdN n d) (rdD n d) = rdN n d ∧ rdD (rdN n d) (rdD n d) = rdD n d := by
    intro n d h
    obtain ⟨p1, p2, p3, p4, p5⟩ := rd_pos (rdE_iff.1 h)
    have hb : rdB (rdN n d) (rdD n d) = true := rdB_iff.2 ⟨by omega, by omega, by omega⟩
    refine ⟨hb, ?_, ?_⟩
    · generalize rdN n d = x at *
      generalize rdD n d = y at *
      unfold rdN
      rw [hb, if_pos rfl, p5, Int.tdiv_one]
      exact if_neg (by omega)
    · generalize rdN n d = x at *
      generalize rdD n d = y at *
      unfold rdD
      rw [hb, if_pos rfl, p5, Int.tdiv_one]
      exact if_neg (by omega)
  have mz : ∀ x n : Int, 1 ≤ n → 0 ≤ modZ x n ∧ modZ x n < n := by
    intro x n h
    unfold modZ
    rw [if_neg (by omega)]
    exact ⟨Int.emod_nonneg _ (by omega), Int.emod_lt_of_pos _ (by omega)⟩
  refine ⟨fun n d h => rdE_iff.2 (key n d h).1, fun n d h => (key n d h).2.1, fun n d h => (key n d h).2.2, fun n d h => (rd_pos (rdE_iff.1 h)).1, fun n d h => ?_, fun a b => ?_, fun a b => cmp_eq rfl, fun a b c d => cmp_sw _ _, fun a b c d => cmp_bd _ _, fun b => mz _ _ (by omega)⟩
  · have := rd_pos (rdE_iff.1 h)
    exact ⟨by omega, by omega⟩
  · have h1 := mz a 1152921504606846976 (by omega)
    have h2 := mz b 576460752303423488 (by omega)
    exact ⟨by omega, by omega⟩
theorem frac_law (gl : Glob) (num den a b : Int) : PureC Try.prog gl 7 [.int .i64 num, .int .i64 den, .int .i64 a, .int .i64 b] (.bool true) := by
  have sok : ∀ {f : FuncId} {s s' : Sp}, SOK Try.prog gl f s → (∀ xs p r, s' xs = some (p, r) → p → ∃ q, s xs = some (q, r) ∧ q) → SOK Try.prog gl f s' :=
    fun h k => ⟨h.1, fun xs p r e hp => by obtain ⟨q, e1, hq⟩ := k xs p r e hp; exact h.2 xs q r e1 hq⟩
  have r1 : SOK Try.prog gl 36 (rdG_s rdN rdD rdE) := sok (sred_ok gl) fun xs p r e hp => by
    unfold rdG_s at e; split at e
    · simp only [Option.some.injEq, Prod.mk.injEq] at e; obtain ⟨rfl, rfl⟩ := e; exact ⟨_, rfl, trivial⟩
    · cases e
  have r2 : SOK Try.prog gl 37 (rdG_s rdN rdD rdE) := sok (rred_ok gl) fun xs p r e hp => by
    unfold rdG_s at e; split at e
    · simp only [Option.some.injEq, Prod.mk.injEq] at e; obtain ⟨rfl, rfl⟩ := e; exact ⟨_, rfl, trivial⟩
    · cases e
  have c1 : SOK Try.prog gl 38 (frG_s fun a b c d => cmpI (a * d) (c * b)) := sok (scmp_ok gl) fun xs p r e hp => by
    unfold frG_s at e; split at e
    · simp only [Option.some.injEq, Prod.mk.injEq] at e; obtain ⟨rfl, rfl⟩ := e; exact ⟨_, rfl, hp⟩
    · cases e
  have c2 : SOK Try.prog gl 39 (frR_s fun a b c d => cmpI (a * d) (c * b)) := sok (rcmp38_ok gl) fun xs p r e hp => by
    unfold frR_s at e; split at e
    · simp only [Option.some.injEq, Prod.mk.injEq] at e; obtain ⟨rfl, rfl⟩ := e; exact ⟨_, rfl, trivial⟩
    · cases e
  have m1 : SOK Try.prog gl 10 (moG_s modZ) := sok (fmod_ok gl) fun xs p r e hp => by
    unfold moG_s at e; split at e
    · simp only [Option.some.injEq, Prod.mk.injEq] at e; obtain ⟨rfl, rfl⟩ := e; exact ⟨_, rfl, trivial⟩
    · cases e
  exact fnK_sound (tyOf (by kernel_rfl)) (by exact specOK rfl rfl ⟨sawake_ok gl, r1, r2, c1, c2, m1, trivial⟩ trivial) (by kernel_rfl) Try.func7 rfl
    (lFrac_v gl num den a b _ _ _ _ _ frcP)
end Go.Proofs.Ytjllgdpnbllnjaa
