/- Scores: the law of summaries. -/
import Derived.Test.YtjllgdpnbllnjaaSvE
namespace Go.Proofs.Ytjllgdpnbllnjaa
open Go
set_option linter.unusedVariables false
set_option linter.unusedSimpArgs false

def ofG_s (n s a q e : List (List AV) → Int) : Sp
  | [.sl 2 f xs] => some (PrsP xs, .tup [.agg [.int .i64 (n xs), .int .i64 (s xs), .int .i64 (a xs), .int .i64 (q xs)], .int .i64 (e xs)])
  | _ => none
def tbG_s (h a m o : List (List AV) → Int → Int) (e : List (List AV) → Int) : Sp
  | [.sl 2 f xs, .int .i64 th] => some (PrsP xs, .tup [.agg [.int .i64 (h xs th), .int .i64 (a xs th), .int .i64 (m xs th), .int .i64 (o xs th)], .int .i64 (e xs)])
  | _ => none
def mgG_s (M : Int → Int → Int → Int → Int → Int → Int → Int → Int → Int) (E : Int → Int → Int → Int → Int → Int → Int → Int → Int) : Sp
  | [.agg [.int .i64 n, .int .i64 s, .int .i64 a, .int .i64 q], .agg [.int .i64 n', .int .i64 s', .int .i64 a', .int .i64 q']] => some (True, .tup [.agg [.int .i64 (M n s a q n' s' a' q' 0), .int .i64 (M n s a q n' s' a' q' 1), .int .i64 (M n s a q n' s' a' q' 2), .int .i64 (M n s a q n' s' a' q' 3)], .int .i64 (E n s a q n' s' a' q')])
  | _ => none
def mnG_s (N D E : Int → Int → Int) : Sp
  | [.agg [.int .i64 n, .int .i64 s, .int .i64 a, .int .i64 q]] => some (True, .tup [.agg [.int .i64 (N s n), .int .i64 (D s n)], .int .i64 (E s n)])
  | _ => none
def mqG_s (N D E : Int → Int → Int) : Sp
  | [.agg [.int .i64 n, .int .i64 s, .int .i64 a, .int .i64 q]] => some (True, .tup [.agg [.int .i64 (N q n), .int .i64 (D q n)], .int .i64 (E q n)])
  | _ => none
def skG_s (P Q E : Int → Int → Int → Int → Int) : Sp
  | [.agg [.int .i64 n, .int .i64 s, .int .i64 a, .int .i64 q], .agg [.int .i64 n', .int .i64 s', .int .i64 a', .int .i64 q']] => some (True, .tup [.agg [.int .i64 (P n q n' q'), .int .i64 (Q n q n' q')], .int .i64 (E n q n' q')])
  | _ => none
def prG_s (V : List (List AV) → Int → Int → List (List AV)) (J : List (List AV) → Int → Int → Int) : SpH
  | [.ptr 0 0, .int .i64 m], [.cells [.sl 1 false xs, .int .i64 i]] => some ((FldP xs i ∧ 0 ≤ m ∧ m ≤ 10000), .sl 2 false (V xs i m), [.cells [.sl 1 false xs, .int .i64 (J xs i m)]])
  | _, _ => none
def smG_s (f0 f1 f2 f3 : Int → Int) : Sp
  | [.agg [.int .i64 n, .int .i64 s, .int .i64 a, .int .i64 q]] => some (True, .agg [.int .i64 (f0 n), .int .i64 (f1 s), .int .i64 (f2 a), .int .i64 (f3 q)])
  | _ => none
theorem cs' {p : Prop} [Decidable p] {A B : Prop} (h : p → A) (k : ¬ p → B) : cond (decide p) A B := csplit (fun q => h (of_decide_eq_true q)) (fun q => k (of_decide_eq_false q))
theorem q2 (p q : Int) {F A : Prop} (a : A) : cond (!(decide (p = p) && (decide (q = q) && true))) F A := by
  rw [decide_eq_true rfl, decide_eq_true rfl]; exact a
theorem q4 (p q r t : Int) {F A : Prop} (a : A) : cond (!(decide (p = p) && (decide (q = q) && (decide (r = r) && (decide (t = t) && true))))) F A := by
  rw [decide_eq_true rfl, decide_eq_true rfl, decide_eq_true rfl, decide_eq_true rfl]; exact a
structure SumP (raw cs : List (List AV)) (V : List (List AV) → Int → Int → List (List AV)) : Prop where
  p1 : PrsP raw
  p2 : FldP (List.take 160 cs) 0
  p3 : PrsP (V (List.take 160 cs) 0 12)
set_option maxRecDepth 100000 in
def lSums_T : Prop :=
  ∀ (gl : Glob) (g g' : Bool) (raw cs : List (List AV)) (th n s a q n' s' a' q' : Int) (oN oS oA oQ oE : List (List AV) → Int) (tH tA tM tO : List (List AV) → Int → Int) (M : Int →
  Int → Int → Int → Int → Int → Int → Int → Int → Int) (ME : Int → Int → Int → Int → Int → Int → Int → Int → Int) (aN aD aE : Int → Int → Int) (kP kQ kE : Int → Int → Int → Int →
  Int) (V : List (List AV) → Int → Int → List (List AV)) (J : List (List AV) → Int → Int → Int) (f0 f1 f2 f3 : Int → Int), SumP raw cs V → True → True → (-9223372036854775808 : Int)
  ≤ th ∧ th ≤ (9223372036854775807 : Int) → ((-9223372036854775808 : Int) ≤ n ∧ n ≤ (9223372036854775807 : Int)) ∧ ((-9223372036854775808 : Int) ≤ s ∧ s ≤ (9223372036854775807 :
  Int)) ∧ ((-9223372036854775808 : Int) ≤ a ∧ a ≤ (9223372036854775807 : Int)) ∧ ((-9223372036854775808 : Int) ≤ q ∧ q ≤ (9223372036854775807 : Int)) ∧ True → ((-9223372036854775808
  : Int) ≤ n' ∧ n' ≤ (9223372036854775807 : Int)) ∧ ((-9223372036854775808 : Int) ≤ s' ∧ s' ≤ (9223372036854775807 : Int)) ∧ ((-9223372036854775808 : Int) ≤ a' ∧ a' ≤
  (9223372036854775807 : Int)) ∧ ((-9223372036854775808 : Int) ≤ q' ∧ q' ≤ (9223372036854775807 : Int)) ∧ True → True ∧ bif decide ((60 : Int) < (↑raw.length : Int)) then true = true
  else (0 : Int) ≤ (160 : Int) ∧ (FldP (List.take (160 : Nat) cs) (0 : Int) ∧ (0 : Int) ≤ (12 : Int) ∧ (12 : Int) ≤ (10000 : Int)) ∧ PrsP raw ∧ PrsP raw ∧ PrsP raw ∧ PrsP raw ∧ True
  ∧ PrsP raw ∧ True ∧ PrsP raw ∧ bif decide ¬oE raw = oE raw then false = true else bif !(decide (oN raw = oN raw) && (decide (oS raw = oS raw) && (decide (oA raw = oA raw) &&
  (decide (oQ raw = oQ raw) && true)))) then false = true else bif decide ¬oE raw = oE raw then false = true else bif !(decide (tH raw th = tH raw th) && (decide (tA raw th = tA raw
  th) && (decide (tM raw th = tM raw th) && (decide (tO raw th = tO raw th) && true)))) then false = true else bif decide ¬oE raw = oE raw then false = true else bif !(decide (tH raw
  (modZ th (9 : Int)) = tH raw (modZ th (9 : Int))) && (decide (tA raw (modZ th (9 : Int)) = tA raw (modZ th (9 : Int))) && (decide (tM raw (modZ th (9 : Int)) = tM raw (modZ th (9 :
  Int))) && (decide (tO raw (modZ th (9 : Int)) = tO raw (modZ th (9 : Int))) && true)))) then false = true else PrsP (V (List.take (160 : Nat) cs) (0 : Int) (12 : Int)) ∧ PrsP (V
  (List.take (160 : Nat) cs) (0 : Int) (12 : Int)) ∧ PrsP (V (List.take (160 : Nat) cs) (0 : Int) (12 : Int)) ∧ PrsP (V (List.take (160 : Nat) cs) (0 : Int) (12 : Int)) ∧ True ∧ PrsP
  (V (List.take (160 : Nat) cs) (0 : Int) (12 : Int)) ∧ True ∧ PrsP (V (List.take (160 : Nat) cs) (0 : Int) (12 : Int)) ∧ bif decide ¬oE (V (List.take (160 : Nat) cs) (0 : Int) (12 :
  Int)) = oE (V (List.take (160 : Nat) cs) (0 : Int) (12 : Int)) then false = true else bif !(decide (oN (V (List.take (160 : Nat) cs) (0 : Int) (12 : Int)) = oN (V (List.take (160 :
  Nat) cs) (0 : Int) (12 : Int))) && (decide (oS (V (List.take (160 : Nat) cs) (0 : Int) (12 : Int)) = oS (V (List.take (160 : Nat) cs) (0 : Int) (12 : Int))) && (decide (oA (V
  (List.take (160 : Nat) cs) (0 : Int) (12 : Int)) = oA (V (List.take (160 : Nat) cs) (0 : Int) (12 : Int))) && (decide (oQ (V (List.take (160 : Nat) cs) (0 : Int) (12 : Int)) = oQ
  (V (List.take (160 : Nat) cs) (0 : Int) (12 : Int))) && true)))) then false = true else bif decide ¬oE (V (List.take (160 : Nat) cs) (0 : Int) (12 : Int)) = oE (V (List.take (160 :
  Nat) cs) (0 : Int) (12 : Int)) then false = true else bif !(decide (tH (V (List.take (160 : Nat) cs) (0 : Int) (12 : Int)) th = tH (V (List.take (160 : Nat) cs) (0 : Int) (12 :
  Int)) th) && (decide (tA (V (List.take (160 : Nat) cs) (0 : Int) (12 : Int)) th = tA (V (List.take (160 : Nat) cs) (0 : Int) (12 : Int)) th) && (decide (tM (V (List.take (160 :
  Nat) cs) (0 : Int) (12 : Int)) th = tM (V (List.take (160 : Nat) cs) (0 : Int) (12 : Int)) th) && (decide (tO (V (List.take (160 : Nat) cs) (0 : Int) (12 : Int)) th = tO (V
  (List.take (160 : Nat) cs) (0 : Int) (12 : Int)) th) && true)))) then false = true else bif decide ¬oE (V (List.take (160 : Nat) cs) (0 : Int) (12 : Int)) = oE (V (List.take (160 :
  Nat) cs) (0 : Int) (12 : Int)) then false = true else bif !(decide (tH (V (List.take (160 : Nat) cs) (0 : Int) (12 : Int)) (modZ th (9 : Int)) = tH (V (List.take (160 : Nat) cs) (0
  : Int) (12 : Int)) (modZ th (9 : Int))) && (decide (tA (V (List.take (160 : Nat) cs) (0 : Int) (12 : Int)) (modZ th (9 : Int)) = tA (V (List.take (160 : Nat) cs) (0 : Int) (12 :
  Int)) (modZ th (9 : Int))) && (decide (tM (V (List.take (160 : Nat) cs) (0 : Int) (12 : Int)) (modZ th (9 : Int)) = tM (V (List.take (160 : Nat) cs) (0 : Int) (12 : Int)) (modZ th
  (9 : Int))) && (decide (tO (V (List.take (160 : Nat) cs) (0 : Int) (12 : Int)) (modZ th (9 : Int)) = tO (V (List.take (160 : Nat) cs) (0 : Int) (12 : Int)) (modZ th (9 : Int))) &&
  true)))) then false = true else True ∧ True ∧ True ∧ True ∧ True ∧ True ∧ True ∧ True ∧ True ∧ True ∧ True ∧ True ∧ True ∧ bif decide ¬ME n s a q n' s' a' q' = ME n s a q n' s' a'
  q' then false = true else bif !(decide (M n s a q n' s' a' q' (0 : Int) = M n s a q n' s' a' q' (0 : Int)) && (decide (M n s a q n' s' a' q' (1 : Int) = M n s a q n' s' a' q' (1 :
  Int)) && (decide (M n s a q n' s' a' q' (2 : Int) = M n s a q n' s' a' q' (2 : Int)) && (decide (M n s a q n' s' a' q' (3 : Int) = M n s a q n' s' a' q' (3 : Int)) && true)))) then
  false = true else bif decide ¬aE s n = aE s n then false = true else bif !(decide (aN s n = aN s n) && (decide (aD s n = aD s n) && true)) then false = true else bif decide ¬aE q n
  = aE q n then false = true else bif !(decide (aN q n = aN q n) && (decide (aD q n = aD q n) && true)) then false = true else bif decide ¬kE n q n' q' = kE n q n' q' then false =
  true else bif !(decide (kP n q n' q' = kP n q n' q') && (decide (kQ n q n' q' = kQ n q n' q') && true)) then false = true else True ∧ True ∧ True ∧ True ∧ True ∧ True ∧ True ∧ True
  ∧ bif decide ¬ME (f0 n) (f1 s) (f2 a) (f3 q) (f0 n') (f1 s') (f2 a') (f3 q') = ME (f0 n) (f1 s) (f2 a) (f3 q) (f0 n') (f1 s') (f2 a') (f3 q') then false = true else bif !(decide (M
  (f0 n) (f1 s) (f2 a) (f3 q) (f0 n') (f1 s') (f2 a') (f3 q') (0 : Int) = M (f0 n) (f1 s) (f2 a) (f3 q) (f0 n') (f1 s') (f2 a') (f3 q') (0 : Int)) && (decide (M (f0 n) (f1 s) (f2 a)
  (f3 q) (f0 n') (f1 s') (f2 a') (f3 q') (1 : Int) = M (f0 n) (f1 s) (f2 a) (f3 q) (f0 n') (f1 s') (f2 a') (f3 q') (1 : Int)) && (decide (M (f0 n) (f1 s) (f2 a) (f3 q) (f0 n') (f1
  s') (f2 a') (f3 q') (2 : Int) = M (f0 n) (f1 s) (f2 a) (f3 q) (f0 n') (f1 s') (f2 a') (f3 q') (2 : Int)) && (decide (M (f0 n) (f1 s) (f2 a) (f3 q) (f0 n') (f1 s') (f2 a') (f3 q')
  (3 : Int) = M (f0 n) (f1 s) (f2 a) (f3 q) (f0 n') (f1 s') (f2 a') (f3 q') (3 : Int)) && true)))) then false = true else bif decide ¬aE (f1 s) (f0 n) = aE (f1 s) (f0 n) then false =
  true else bif !(decide (aN (f1 s) (f0 n) = aN (f1 s) (f0 n)) && (decide (aD (f1 s) (f0 n) = aD (f1 s) (f0 n)) && true)) then false = true else bif decide ¬aE (f3 q) (f0 n) = aE (f3
  q) (f0 n) then false = true else bif !(decide (aN (f3 q) (f0 n) = aN (f3 q) (f0 n)) && (decide (aD (f3 q) (f0 n) = aD (f3 q) (f0 n)) && true)) then false = true else bif decide ¬kE
  (f0 n) (f3 q) (f0 n') (f3 q') = kE (f0 n) (f3 q) (f0 n') (f3 q') then false = true else bif !(decide (kP (f0 n) (f3 q) (f0 n') (f3 q') = kP (f0 n) (f3 q) (f0 n') (f3 q')) &&
  (decide (kQ (f0 n) (f3 q) (f0 n') (f3 q') = kQ (f0 n) (f3 q) (f0 n') (f3 q')) && true)) then false = true else True ∧ True ∧ True ∧ True ∧ True ∧ True ∧ True ∧ True ∧ bif decide
  ¬ME (f0 n) (f1 s) (f2 a) (f3 q) n' s' a' q' = ME (f0 n) (f1 s) (f2 a) (f3 q) n' s' a' q' then false = true else bif !(decide (M (f0 n) (f1 s) (f2 a) (f3 q) n' s' a' q' (0 : Int) =
  M (f0 n) (f1 s) (f2 a) (f3 q) n' s' a' q' (0 : Int)) && (decide (M (f0 n) (f1 s) (f2 a) (f3 q) n' s' a' q' (1 : Int) = M (f0 n) (f1 s) (f2 a) (f3 q) n' s' a' q' (1 : Int)) &&
  (decide (M (f0 n) (f1 s) (f2 a) (f3 q) n' s' a' q' (2 : Int) = M (f0 n) (f1 s) (f2 a) (f3 q) n' s' a' q' (2 : Int)) && (decide (M (f0 n) (f1 s) (f2 a) (f3 q) n' s' a' q' (3 : Int)
  = M (f0 n) (f1 s) (f2 a) (f3 q) n' s' a' q' (3 : Int)) && true)))) then false = true else bif decide ¬aE (f1 s) (f0 n) = aE (f1 s) (f0 n) then false = true else bif !(decide (aN
  (f1 s) (f0 n) = aN (f1 s) (f0 n)) && (decide (aD (f1 s) (f0 n) = aD (f1 s) (f0 n)) && true)) then false = true else bif decide ¬aE (f3 q) (f0 n) = aE (f3 q) (f0 n) then false =
  true else bif !(decide (aN (f3 q) (f0 n) = aN (f3 q) (f0 n)) && (decide (aD (f3 q) (f0 n) = aD (f3 q) (f0 n)) && true)) then false = true else bif decide ¬kE (f0 n) (f3 q) n' q' =
  kE (f0 n) (f3 q) n' q' then false = true else bif !(decide (kP (f0 n) (f3 q) n' q' = kP (f0 n) (f3 q) n' q') && (decide (kQ (f0 n) (f3 q) n' q' = kQ (f0 n) (f3 q) n' q') && true))
  then false = true else True ∧ True ∧ True ∧ True ∧ True ∧ True ∧ True ∧ True ∧ bif decide ¬ME (f0 n) (f1 s) (f2 a) (f3 q) (f0 n) (0 : Int) (0 : Int) q' = ME (f0 n) (f1 s) (f2 a)
  (f3 q) (f0 n) (0 : Int) (0 : Int) q' then false = true else bif !(decide (M (f0 n) (f1 s) (f2 a) (f3 q) (f0 n) (0 : Int) (0 : Int) q' (0 : Int) = M (f0 n) (f1 s) (f2 a) (f3 q) (f0
  n) (0 : Int) (0 : Int) q' (0 : Int)) && (decide (M (f0 n) (f1 s) (f2 a) (f3 q) (f0 n) (0 : Int) (0 : Int) q' (1 : Int) = M (f0 n) (f1 s) (f2 a) (f3 q) (f0 n) (0 : Int) (0 : Int) q'
  (1 : Int)) && (decide (M (f0 n) (f1 s) (f2 a) (f3 q) (f0 n) (0 : Int) (0 : Int) q' (2 : Int) = M (f0 n) (f1 s) (f2 a) (f3 q) (f0 n) (0 : Int) (0 : Int) q' (2 : Int)) && (decide (M
  (f0 n) (f1 s) (f2 a) (f3 q) (f0 n) (0 : Int) (0 : Int) q' (3 : Int) = M (f0 n) (f1 s) (f2 a) (f3 q) (f0 n) (0 : Int) (0 : Int) q' (3 : Int)) && true)))) then false = true else bif
  decide ¬aE (f1 s) (f0 n) = aE (f1 s) (f0 n) then false = true else bif !(decide (aN (f1 s) (f0 n) = aN (f1 s) (f0 n)) && (decide (aD (f1 s) (f0 n) = aD (f1 s) (f0 n)) && true))
  then false = true else bif decide ¬aE (f3 q) (f0 n) = aE (f3 q) (f0 n) then false = true else bif !(decide (aN (f3 q) (f0 n) = aN (f3 q) (f0 n)) && (decide (aD (f3 q) (f0 n) = aD
  (f3 q) (f0 n)) && true)) then false = true else bif decide ¬kE (f0 n) (f3 q) (f0 n) q' = kE (f0 n) (f3 q) (f0 n) q' then false = true else bif !(decide (kP (f0 n) (f3 q) (f0 n) q'
  = kP (f0 n) (f3 q) (f0 n) q') && (decide (kQ (f0 n) (f3 q) (f0 n) q' = kQ (f0 n) (f3 q) (f0 n) q') && true)) then false = true else true = true
set_option maxRecDepth 100000 in
theorem lSums_P : lSums_T := by
  unfold lSums_T
  intro gl g g' raw cs th n s a q n' s' a' q' oN oS oA oQ oE tH tA tM tO M ME aN aD aE kP kQ kE V J f0 f1 f2 f3 ⟨p1, p2, p3⟩
  intros
  refine ⟨trivial, cs' (fun _ => by trivial) (fun _ => ⟨by decide, ⟨p2, by decide, by decide⟩, ?_⟩)⟩
  repeat (first
    | refine ⟨trivial, ?_⟩
    | refine ⟨p1, ?_⟩
    | refine ⟨p3, ?_⟩
    | refine q4 _ _ _ _ ?_
    | refine q2 _ _ ?_
    | refine q0 rfl ?_)
  all_goals trivial
def lSums_S : Prop := ∀ (gl : Glob) (g g' : Bool) (raw cs : List (List AV)) (th n s a q n' s' a' q' : Int) (oN oS oA oQ oE : List (List AV) → Int) (tH tA tM tO : List (List AV) → Int → Int) (M : Int → Int → Int → Int → Int → Int → Int → Int → Int → Int) (ME : Int → Int → Int → Int → Int → Int → Int → Int → Int) (aN aD aE : Int → Int → Int) (kP kQ kE : Int → Int → Int → Int → Int) (V : List (List AV) → Int → Int → List (List AV)) (J : List (List AV) → Int → Int → Int) (f0 f1 f2 f3 : Int → Int), SumP raw cs V → fnK Try.prog { glob := gl, spec := lk [(9, sawake_s), (10, fmod_s), (21, ofG_s oN oS oA oQ oE), (26, ofG_s oN oS oA oQ oE), (22, tbG_s tH tA tM tO oE), (27, tbG_s tH tA tM tO oE), (29, mgG_s M ME), (30, mgG_s M ME), (23, mnG_s aN aD aE), (31, mnG_s aN aD aE), (24, mqG_s aN aD aE), (32, mqG_s aN aD aE), (25, skG_s kP kQ kE), (33, skG_s kP kQ kE), (28, smG_s f0 f1 f2 f3)], specH := lk [(19, fnew_s), (20, prG_s V J)], nowf := true } { nt := 253, drop := drp [(1, 35184372088832), (3, 422212465065984), (5, 3377699720527872), (6, 31525197391593472), (8, 1729382256910270464), (9, 71481133285624512512), (10, 2287396265139984400384), (11, 148754544210393824231424), (12, 9520290829465204750811136), (13, 1228268632728463241501474816), (14, 157218384989243294912188776448), (15, 21267647774102328937932237777397612544), (17, 42535295865117307932921825928971026432), (19, 5708990685753247793998528011954328687588933632), (21, 274031556999544297163190906134303066185487351808), (22, 93170729379845061035484908085663042503065699614720), (23, 23851706721240335625084136469929738880784819101368320), (24, 1508550298039859344946497854851085602624696323399483392), (25, 96547219074550998076575862710469478567980564697566937088), (26, 6179022020771263876900855213470046628350756140644283973632), (27, 395457409329360888121654733662082984214448393001234174312448), (28, 102442300321510630065800083386749115910790440853653043250462720), (29, 26225228882306721296844821347007773673162352858535179072118456320), (30, 3618502788639803034069453984847017613493769412721543852382912222433707556864), (32, 7237005577332262213973186563042994240829374041602535252466099000494570602496)], tys := [42, 23, 28] } (fun _ _ => none) 6 Try.f5 [.sl 2 g raw, .sl 1 g' cs, .int .i64 th, .agg [.int .i64 n, .int .i64 s, .int .i64 a, .int .i64 q], .agg [.int .i64 n', .int .i64 s', .int .i64 a', .int .i64 q']] (.bool true)
set_option maxRecDepth 100000 in
theorem lSums_e : lSums_T = lSums_S := by kernel_rfl
theorem lSums_v : lSums_S := @Eq.mp (lSums_T) (lSums_S) (lSums_e) lSums_P
theorem prL_len (xs : List (List AV)) : ∀ (n : Nat) (i : Int), (prL xs n i).length = n
  | 0, _ => rfl
  | n + 1, i => by simp [prL, prL_len xs n]
theorem pO_bd {xs : List (List AV)} {i : Int} (h : BytA xs) (hi : 0 ≤ i) : (0 ≤ pF xs i ∧ pF xs i ≤ 8) ∧ -1000000 ≤ pO xs i ∧ pO xs i ≤ 1000008 := by
  have j1 := nxA_le (xs := xs) (n := 9) hi
  have j2 := nxA_le (xs := xs) (n := 9) j1
  have j3 := nxA_le (xs := xs) (n := 20) j2
  have v1 := nxV_bd (n := 9) h hi
  have v2 := nxV_bd (n := 9) h j1
  have v3 := nxV_bd (n := 20) h j2
  have v4 := sgV_bd (xs := xs) (i := nxA xs (nxA xs (nxA xs i 9) 9) 20) (m := 1000000) (by decide)
  have eF : pF xs i = nxV xs i 9 := rfl
  have eO : pO xs i = nxV xs (nxA xs i 9) 9 + ((nxV xs (nxA xs (nxA xs i 9) 9) 20).tdiv 19 * sgV xs (nxA xs (nxA xs (nxA xs i 9) 9) 20) 1000000).tdiv 2 := rfl
  rw [eF, eO]
  have hq : (nxV xs (nxA xs (nxA xs i 9) 9) 20).tdiv 19 = 0 ∨ (nxV xs (nxA xs (nxA xs i 9) 9) 20).tdiv 19 = 1 := by
    rw [Int.tdiv_eq_ediv_of_nonneg v3.1]; omega
  have hp : ∀ g : Int, g = 0 ∨ g = 1 → -1000000 ≤ g * sgV xs (nxA xs (nxA xs (nxA xs i 9) 9) 20) 1000000 ∧ g * sgV xs (nxA xs (nxA xs (nxA xs i 9) 9) 20) 1000000 ≤ 1000000 := by
    rintro g (rfl | rfl) <;> omega
  have hp := hp _ hq
  have hd := tdv ((nxV xs (nxA xs (nxA xs i 9) 9) 20).tdiv 19 * sgV xs (nxA xs (nxA xs (nxA xs i 9) 9) 20) 1000000)
  omega
theorem pA_le {xs : List (List AV)} {i : Int} (h : 0 ≤ i) : 0 ≤ pA xs i := sgA_le (nxA_le (nxA_le (nxA_le h)))
theorem prL_row {xs : List (List AV)} (h : BytA xs) : ∀ (n : Nat) (i : Int), 0 ≤ i → ∀ j, j < n → ∃ f o : Int, (prL xs n i).getD j [] = [.int .i64 f, .int .i64 o] ∧ (0 ≤ f ∧ f ≤ 8) ∧ -1000000 ≤ o ∧ o ≤ 1000008
  | 0, _, _, j, hj => by omega
  | n + 1, i, hi, j, hj => by
    cases j with
    | zero => exact ⟨pF xs i, pO xs i, rfl, pO_bd h hi⟩
    | succ j =>
      obtain ⟨f, o, e, b⟩ := prL_row h n (pA xs i) (pA_le hi) j (by omega)
      exact ⟨f, o, by simpa [prL] using e, b⟩
theorem prsV_P {xs : List (List AV)} {i m : Int} (h : FldP xs i) : PrsP (prsV xs i m) := by
  have a1 := nxV_bd (n := m + 1) h.b h.lo
  refine ⟨fun j hj => ?_, ?_⟩
  · unfold prsV at hj ⊢
    rw [prL_len] at hj
    obtain ⟨f, o, e, b1, b2⟩ := prL_row h.b _ _ (nxA_le h.lo) j hj
    exact ⟨f, o, e, by show _ ∧ _; omega, by show _ ∧ _; omega⟩
  · unfold prsV
    rw [prL_len]
    unfold prsN
    omega
def mgM (n s a q n' s' a' q' k : Int) : Int := if k = 0 then mg n s a q n' s' a' q' (n + n') else if k = 1 then mg n s a q n' s' a' q' (s + s') else if k = 2 then mg n s a q n' s' a' q' (a + a') else mg n s a q n' s' a' q' (q + q')
theorem sums_law (gl : Glob) (g g' : Bool) (raw codes : List (List AV)) (th n s a q n' s' a' q' : Int) (h1 : PrsP raw) (h2 : BytA codes) :
    PureC Try.prog gl 5 [.sl 2 g raw, .sl 1 g' codes, .int .i64 th, .agg [.int .i64 n, .int .i64 s, .int .i64 a, .int .i64 q], .agg [.int .i64 n', .int .i64 s', .int .i64 a', .int .i64 q']] (.bool true) := by
  have sok : ∀ {f : FuncId} {s s' : Sp}, SOK Try.prog gl f s → (∀ xs p r, s' xs = some (p, r) → p → ∃ q, s xs = some (q, r) ∧ q) → SOK Try.prog gl f s' :=
    fun h k => ⟨h.1, fun xs p r e hp => by obtain ⟨q, e1, hq⟩ := k xs p r e hp; exact h.2 xs q r e1 hq⟩
  have o1 : SOK Try.prog gl 21 (ofG_s oN oS oA oQ ckE) := sok (sof_ok gl) fun xs p r e hp => by
    unfold ofG_s at e; split at e
    · simp only [Option.some.injEq, Prod.mk.injEq] at e; obtain ⟨rfl, rfl⟩ := e; exact ⟨_, rfl, hp⟩
    · cases e
  have o2 : SOK Try.prog gl 26 (ofG_s oN oS oA oQ ckE) := sok (rof_ok gl) fun xs p r e hp => by
    unfold ofG_s at e; split at e
    · simp only [Option.some.injEq, Prod.mk.injEq] at e; obtain ⟨rfl, rfl⟩ := e; exact ⟨_, rfl, hp⟩
    · cases e
  have t1 : SOK Try.prog gl 22 (tbG_s cH cA cM cO ckE) := sok (stable_ok gl) fun xs p r e hp => by
    unfold tbG_s at e; split at e
    · simp only [Option.some.injEq, Prod.mk.injEq] at e; obtain ⟨rfl, rfl⟩ := e; exact ⟨_, rfl, hp⟩
    · cases e
  have t2 : SOK Try.prog gl 27 (tbG_s cH cA cM cO ckE) := sok (rtable_ok gl) fun xs p r e hp => by
    unfold tbG_s at e; split at e
    · simp only [Option.some.injEq, Prod.mk.injEq] at e; obtain ⟨rfl, rfl⟩ := e; exact ⟨_, rfl, hp⟩
    · cases e
  have m1 : SOK Try.prog gl 29 (mgG_s mgM mgE) := sok (smerge_ok gl) fun xs p r e hp => by
    unfold mgG_s at e; split at e
    · simp only [Option.some.injEq, Prod.mk.injEq] at e; obtain ⟨rfl, rfl⟩ := e; exact ⟨_, rfl, trivial⟩
    · cases e
  have m2 : SOK Try.prog gl 30 (mgG_s mgM mgE) := sok (rmerge_ok gl) fun xs p r e hp => by
    unfold mgG_s at e; split at e
    · simp only [Option.some.injEq, Prod.mk.injEq] at e; obtain ⟨rfl, rfl⟩ := e; exact ⟨_, rfl, trivial⟩
    · cases e
  have a1 : SOK Try.prog gl 23 (mnG_s mnN mnD mnE) := sok (sMean_ok gl) fun xs p r e hp => by
    unfold mnG_s at e; split at e
    · simp only [Option.some.injEq, Prod.mk.injEq] at e; obtain ⟨rfl, rfl⟩ := e; exact ⟨_, rfl, trivial⟩
    · cases e
  have a2 : SOK Try.prog gl 31 (mnG_s mnN mnD mnE) := sok (rMean_ok gl) fun xs p r e hp => by
    unfold mnG_s at e; split at e
    · simp only [Option.some.injEq, Prod.mk.injEq] at e; obtain ⟨rfl, rfl⟩ := e; exact ⟨_, rfl, trivial⟩
    · cases e
  have b1 : SOK Try.prog gl 24 (mqG_s mnN mnD mnE) := sok (sMsq_ok gl) fun xs p r e hp => by
    unfold mqG_s at e; split at e
    · simp only [Option.some.injEq, Prod.mk.injEq] at e; obtain ⟨rfl, rfl⟩ := e; exact ⟨_, rfl, trivial⟩
    · cases e
  have b2 : SOK Try.prog gl 32 (mqG_s mnN mnD mnE) := sok (rMsq_ok gl) fun xs p r e hp => by
    unfold mqG_s at e; split at e
    · simp only [Option.some.injEq, Prod.mk.injEq] at e; obtain ⟨rfl, rfl⟩ := e; exact ⟨_, rfl, trivial⟩
    · cases e
  have k1 : SOK Try.prog gl 25 (skG_s skP skQ skE) := sok (sskill_ok gl) fun xs p r e hp => by
    unfold skG_s at e; split at e
    · simp only [Option.some.injEq, Prod.mk.injEq] at e; obtain ⟨rfl, rfl⟩ := e; exact ⟨_, rfl, trivial⟩
    · cases e
  have k2 : SOK Try.prog gl 33 (skG_s skP skQ skE) := sok (rskill_ok gl) fun xs p r e hp => by
    unfold skG_s at e; split at e
    · simp only [Option.some.injEq, Prod.mk.injEq] at e; obtain ⟨rfl, rfl⟩ := e; exact ⟨_, rfl, trivial⟩
    · cases e
  have s1 : SOK Try.prog gl 28 (smG_s (fun n => modZ n 20) (fun s => s.tmod 1000) (fun a => modZ a 5000) (fun q => modZ q 576460752303423488)) := sok (ssmall_ok gl) fun xs p r e hp => by
    unfold smG_s at e; split at e
    · simp only [Option.some.injEq, Prod.mk.injEq] at e; obtain ⟨rfl, rfl⟩ := e; exact ⟨_, rfl, trivial⟩
    · cases e
  have pr : HOK Try.prog gl 20 (prG_s prsV prsA) := by
    refine ⟨(fpairs_ok gl).1, ?_⟩
    intro xs bs pre r bs2 h hp
    unfold prG_s at h
    split at h
    · simp only [Option.some.injEq, Prod.mk.injEq] at h
      obtain ⟨rfl, rfl, rfl⟩ := h
      exact (fpairs_ok gl).2 _ _ _ _ _ rfl hp
    · cases h
  have hf : FldP (List.take 160 codes) 0 := ⟨fun x hx => h2 x (List.mem_of_mem_take hx), by rw [List.length_take]; omega, by decide⟩
  exact fnK_sound (tyOf (by kernel_rfl)) (by exact specOK rfl rfl ⟨sawake_ok gl, fmod_ok gl, o1, o2, t1, t2, m1, m2, a1, a2, b1, b2, k1, k2, s1, trivial⟩ ⟨fnew_ok gl, pr, trivial⟩) (by kernel_rfl) Try.func5 rfl
    (lSums_v gl g g' raw codes th n s a q n' s' a' q' _ _ _ _ _ _ _ _ _ _ _ _ _ _ _ _ _ _ _ _ _ _ _ ⟨h1, hf, prsV_P hf⟩)
theorem prsP_of {xs : List (List AV)} (hl : xs.length ≤ 9223372036854775807) (h : ∀ x1 ∈ xs, ∃ ys3 zs3, (∃ z4, rng .i64 z4 ∧ ys3 = [AV.int .i64 z4]) ∧ (∃ ys5 zs5, (∃ z6, rng .i64 z6 ∧ ys5 = [AV.int .i64 z6]) ∧ (zs5 = []) ∧ zs3 = ys5 ++ zs5) ∧ x1 = ys3 ++ zs3) : PrsP xs := by
  refine ⟨fun i hi => ?_, hl⟩
  obtain ⟨_, _, ⟨u, hu, rfl⟩, ⟨_, _, ⟨v, hv, rfl⟩, rfl, rfl⟩, e⟩ := h xs[i] (List.getElem_mem hi)
  exact ⟨u, v, by rw [gD hi, e]; rfl, hu, hv⟩
theorem bytA_of {xs : List (List AV)} (h : ∀ x1 ∈ xs, ∃ z2, rng .u8 z2 ∧ x1 = [AV.int .u8 z2]) : BytA xs := fun x hx => by
  obtain ⟨z, hz, e⟩ := h x hx
  exact ⟨z, e, hz⟩
end Go.Proofs.Ytjllgdpnbllnjaa
