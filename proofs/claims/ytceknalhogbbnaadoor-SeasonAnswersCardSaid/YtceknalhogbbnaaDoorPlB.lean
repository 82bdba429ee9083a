/- Places: Same, Normal, somewhere. -/
import Derived.Test.YtceknalhogbbnaaDoorPlA
namespace Go.Proofs.YtceknalhogbbnaaDoor
open Go
set_option linter.unusedVariables false
set_option linter.unusedSimpArgs false
--KIND of S synoptic/place.of glob
--KIND on S synoptic/place.on glob

def onW (f a b c n : Int) (k : Nat) : Int := wt f a b c (crn n k)
def onV (f a b c n : Int) : Bool := vld n (onW f a b c n 0) (onW f a b c n 1) (onW f a b c n 2)
def wts (f a b c : Int) : List Int := [wt f a b c 0, wt f a b c 1, wt f a b c 2, wt f a b c 3, wt f a b c 4, wt f a b c 5, wt f a b c 6, wt f a b c 7, wt f a b c 8, wt f a b c 9, wt f a b c 10, wt f a b c 11]
theorem sel_wts (f a b c : Int) {n : Int} (h : 0 ≤ n ∧ n < 20) : sel (wts f a b c) (crn n 0) = onW f a b c n 0 ∧ sel (wts f a b c) (crn n 1) = onW f a b c n 1 ∧ sel (wts f a b c) (crn n 2) = onW f a b c n 2 := by
  refine allN_get (l := fcs) (p := fun n => sel (wts f a b c) (crn n 0) = onW f a b c n 0 ∧ sel (wts f a b c) (crn n 1) = onW f a b c n 1 ∧ sel (wts f a b c) (crn n 2) = onW f a b c n 2) ?_ (mem_fcs h)
  simp only [allN, fcs]
  repeat' (first | exact trivial | rfl | apply And.intro)
def nrmL (f a b c : Int) : List Int → Int × Int × Int × Int
  | [] => (f, a, b, c)
  | n :: l => if onV f a b c n then (n, onW f a b c n 0, onW f a b c n 1, onW f a b c n 2) else nrmL f a b c l
theorem nrmL_t {f a b c n : Int} {l : List Int} (h : onV f a b c n = true) : nrmL f a b c (n :: l) = (n, onW f a b c n 0, onW f a b c n 1, onW f a b c n 2) := by simp [nrmL, h]
theorem nrmL_f {f a b c n : Int} {l : List Int} (h : onV f a b c n = false) : nrmL f a b c (n :: l) = nrmL f a b c l := by simp [nrmL, h]
def nrm (f a b c : Int) : Int × Int × Int × Int := if vld f a b c then nrmL f a b c fcs else (0, 0, 0, 0)
def err (v : Bool) : Int := if v then 0 else 1
def sameW (f a b c f' a' b' c' : Int) : Bool := decide (wts f a b c = wts f' a' b' c')


def normal_s (vld : Int → Int → Int → Int → Bool) (nrm : Int → Int → Int → Int → Int × Int × Int × Int) : Sp
  | [.agg [.int .i64 f, .int .i64 a, .int .i64 b, .int .i64 c]] => some (True, .tup [.agg [.int .i64 (nrm f a b c).1, .int .i64 (nrm f a b c).2.1, .int .i64 (nrm f a b c).2.2.1, .int .i64 (nrm f a b c).2.2.2], .int .i64 (err (vld f a b c))])
  | _ => none
set_option maxRecDepth 100000 in
def normal_T (vld : Int → Int → Int → Int → Bool) (nrm : Int → Int → Int → Int → Int × Int × Int × Int) : Prop :=
  ∀ (f a b c : Int), ((-9223372036854775808 : Int) ≤ f ∧ f ≤ (9223372036854775807 : Int)) ∧ ((-9223372036854775808 : Int) ≤ a ∧ a ≤ (9223372036854775807 : Int)) ∧
  ((-9223372036854775808 : Int) ≤ b ∧ b ≤ (9223372036854775807 : Int)) ∧ ((-9223372036854775808 : Int) ≤ c ∧ c ≤ (9223372036854775807 : Int)) ∧ True → True ∧ bif
  !YtceknalhogbbnaaDoor.vld f a b c then ((0 : Int) = (nrm f a b c).fst ∧ (0 : Int) = (nrm f a b c).snd.fst ∧ (0 : Int) = (nrm f a b c).snd.snd.fst ∧ (0 : Int) = (nrm f a b
  c).snd.snd.snd ∧ True) ∧ (1 : Int) = err (vld f a b c) ∧ True else ((0 : Int) ≤ f ∧ f < (20 : Int)) ∧ ((0 : Int) ≤ (0 : Int) ∧ (0 : Int) < (20 : Int)) ∧ bif
  YtceknalhogbbnaaDoor.vld (0 : Int) (sel [wt f a b c (0 : Int), wt f a b c (1 : Int), wt f a b c (2 : Int), wt f a b c (3 : Int), wt f a b c (4 : Int), wt f a b c (5 : Int), wt f a
  b c (6 : Int), wt f a b c (7 : Int), wt f a b c (8 : Int), wt f a b c (9 : Int), wt f a b c (10 : Int), wt f a b c (11 : Int)] (0 : Int)) (sel [wt f a b c (0 : Int), wt f a b c (1
  : Int), wt f a b c (2 : Int), wt f a b c (3 : Int), wt f a b c (4 : Int), wt f a b c (5 : Int), wt f a b c (6 : Int), wt f a b c (7 : Int), wt f a b c (8 : Int), wt f a b c (9 :
  Int), wt f a b c (10 : Int), wt f a b c (11 : Int)] (1 : Int)) (sel [wt f a b c (0 : Int), wt f a b c (1 : Int), wt f a b c (2 : Int), wt f a b c (3 : Int), wt f a b c (4 : Int),
  wt f a b c (5 : Int), wt f a b c (6 : Int), wt f a b c (7 : Int), wt f a b c (8 : Int), wt f a b c (9 : Int), wt f a b c (10 : Int), wt f a b c (11 : Int)] (2 : Int)) then ((0 :
  Int) = (nrm f a b c).fst ∧ sel [wt f a b c (0 : Int), wt f a b c (1 : Int), wt f a b c (2 : Int), wt f a b c (3 : Int), wt f a b c (4 : Int), wt f a b c (5 : Int), wt f a b c (6 :
  Int), wt f a b c (7 : Int), wt f a b c (8 : Int), wt f a b c (9 : Int), wt f a b c (10 : Int), wt f a b c (11 : Int)] (0 : Int) = (nrm f a b c).snd.fst ∧ sel [wt f a b c (0 : Int),
  wt f a b c (1 : Int), wt f a b c (2 : Int), wt f a b c (3 : Int), wt f a b c (4 : Int), wt f a b c (5 : Int), wt f a b c (6 : Int), wt f a b c (7 : Int), wt f a b c (8 : Int), wt f
  a b c (9 : Int), wt f a b c (10 : Int), wt f a b c (11 : Int)] (1 : Int) = (nrm f a b c).snd.snd.fst ∧ sel [wt f a b c (0 : Int), wt f a b c (1 : Int), wt f a b c (2 : Int), wt f a
  b c (3 : Int), wt f a b c (4 : Int), wt f a b c (5 : Int), wt f a b c (6 : Int), wt f a b c (7 : Int), wt f a b c (8 : Int), wt f a b c (9 : Int), wt f a b c (10 : Int), wt f a b c
  (11 : Int)] (2 : Int) = (nrm f a b c).snd.snd.snd ∧ True) ∧ (0 : Int) = err (vld f a b c) ∧ True else ((0 : Int) ≤ (1 : Int) ∧ (1 : Int) < (20 : Int)) ∧ bif
  YtceknalhogbbnaaDoor.vld (1 : Int) (sel [wt f a b c (0 : Int), wt f a b c (1 : Int), wt f a b c (2 : Int), wt f a b c (3 : Int), wt f a b c (4 : Int), wt f a b c (5 : Int), wt f a
  b c (6 : Int), wt f a b c (7 : Int), wt f a b c (8 : Int), wt f a b c (9 : Int), wt f a b c (10 : Int), wt f a b c (11 : Int)] (0 : Int)) (sel [wt f a b c (0 : Int), wt f a b c (1
  : Int), wt f a b c (2 : Int), wt f a b c (3 : Int), wt f a b c (4 : Int), wt f a b c (5 : Int), wt f a b c (6 : Int), wt f a b c (7 : Int), wt f a b c (8 : Int), wt f a b c (9 :
  Int), wt f a b c (10 : Int), wt f a b c (11 : Int)] (2 : Int)) (sel [wt f a b c (0 : Int), wt f a b c (1 : Int), wt f a b c (2 : Int), wt f a b c (3 : Int), wt f a b c (4 : Int),
  wt f a b c (5 : Int), wt f a b c (6 : Int), wt f a b c (7 : Int), wt f a b c (8 : Int), wt f a b c (9 : Int), wt f a b c (10 : Int), wt f a b c (11 : Int)] (3 : Int)) then ((1 :
  Int) = (nrm f a b c).fst ∧ sel [wt f a b c (0 : Int), wt f a b c (1 : Int), wt f a b c (2 : Int), wt f a b c (3 : Int), wt f a b c (4 : Int), wt f a b c (5 : Int), wt f a b c (6 :
  Int), wt f a b c (7 : Int), wt f a b c (8 : Int), wt f a b c (9 : Int), wt f a b c (10 : Int), wt f a b c (11 : Int)] (0 : Int) = (nrm f a b c).snd.fst ∧ sel [wt f a b c (0 : Int),
  wt f a b c (1 : Int), wt f a b c (2 : Int), wt f a b c (3 : Int), wt f a b c (4 : Int), wt f a b c (5 : Int), wt f a b c (6 : Int), wt f a b c (7 : Int), wt f a b c (8 : Int), wt f
  a b c (9 : Int), wt f a b c (10 : Int), wt f a b c (11 : Int)] (2 : Int) = (nrm f a b c).snd.snd.fst ∧ sel [wt f a b c (0 : Int), wt f a b c (1 : Int), wt f a b c (2 : Int), wt f a
  b c (3 : Int), wt f a b c (4 : Int), wt f a b c (5 : Int), wt f a b c (6 : Int), wt f a b c (7 : Int), wt f a b c (8 : Int), wt f a b c (9 : Int), wt f a b c (10 : Int), wt f a b c
  (11 : Int)] (3 : Int) = (nrm f a b c).snd.snd.snd ∧ True) ∧ (0 : Int) = err (vld f a b c) ∧ True else ((0 : Int) ≤ (2 : Int) ∧ (2 : Int) < (20 : Int)) ∧ bif
  YtceknalhogbbnaaDoor.vld (2 : Int) (sel [wt f a b c (0 : Int), wt f a b c (1 : Int), wt f a b c (2 : Int), wt f a b c (3 : Int), wt f a b c (4 : Int), wt f a b c (5 : Int), wt f a
  b c (6 : Int), wt f a b c (7 : Int), wt f a b c (8 : Int), wt f a b c (9 : Int), wt f a b c (10 : Int), wt f a b c (11 : Int)] (0 : Int)) (sel [wt f a b c (0 : Int), wt f a b c (1
  : Int), wt f a b c (2 : Int), wt f a b c (3 : Int), wt f a b c (4 : Int), wt f a b c (5 : Int), wt f a b c (6 : Int), wt f a b c (7 : Int), wt f a b c (8 : Int), wt f a b c (9 :
  Int), wt f a b c (10 : Int), wt f a b c (11 : Int)] (3 : Int)) (sel [wt f a b c (0 : Int), wt f a b c (1 : Int), wt f a b c (2 : Int), wt f a b c (3 : Int), wt f a b c (4 : Int),
  wt f a b c (5 : Int), wt f a b c (6 : Int), wt f a b c (7 : Int), wt f a b c (8 : Int), wt f a b c (9 : Int), wt f a b c (10 : Int), wt f a b c (11 : Int)] (4 : Int)) then ((2 :
  Int) = (nrm f a b c).fst ∧ sel [wt f a b c (0 : Int), wt f a b c (1 : Int), wt f a b c (2 : Int), wt f a b c (3 : Int), wt f a b c (4 : Int), wt f a b c (5 : Int), wt f a b c (6 :
  Int), wt f a b c (7 : Int), wt f a b c (8 : Int), wt f a b c (9 : Int), wt f a b c (10 : Int), wt f a b c (11 : Int)] (0 : Int) = (nrm f a b c).snd.fst ∧ sel [wt f a b c (0 : Int),
  wt f a b c (1 : Int), wt f a b c (2 : Int), wt f a b c (3 : Int), wt f a b c (4 : Int), wt f a b c (5 : Int), wt f a b c (6 : Int), wt f a b c (7 : Int), wt f a b c (8 : Int), wt f
  a b c (9 : Int), wt f a b c (10 : Int), wt f a b c (11 : Int)] (3 : Int) = (nrm f a b c).snd.snd.fst ∧ sel [wt f a b c (0 : Int), wt f a b c (1 : Int), wt f a b c (2 : Int), wt f a
  b c (3 : Int), wt f a b c (4 : Int), wt f a b c (5 : Int), wt f a b c (6 : Int), wt f a b c (7 : Int), wt f a b c (8 : Int), wt f a b c (9 : Int), wt f a b c (10 : Int), wt f a b c
  (11 : Int)] (4 : Int) = (nrm f a b c).snd.snd.snd ∧ True) ∧ (0 : Int) = err (vld f a b c) ∧ True else ((0 : Int) ≤ (3 : Int) ∧ (3 : Int) < (20 : Int)) ∧ bif
  YtceknalhogbbnaaDoor.vld (3 : Int) (sel [wt f a b c (0 : Int), wt f a b c (1 : Int), wt f a b c (2 : Int), wt f a b c (3 : Int), wt f a b c (4 : Int), wt f a b c (5 : Int), wt f a
  b c (6 : Int), wt f a b c (7 : Int), wt f a b c (8 : Int), wt f a b c (9 : Int), wt f a b c (10 : Int), wt f a b c (11 : Int)] (0 : Int)) (sel [wt f a b c (0 : Int), wt f a b c (1
  : Int), wt f a b c (2 : Int), wt f a b c (3 : Int), wt f a b c (4 : Int), wt f a b c (5 : Int), wt f a b c (6 : Int), wt f a b c (7 : Int), wt f a b c (8 : Int), wt f a b c (9 :
  Int), wt f a b c (10 : Int), wt f a b c (11 : Int)] (4 : Int)) (sel [wt f a b c (0 : Int), wt f a b c (1 : Int), wt f a b c (2 : Int), wt f a b c (3 : Int), wt f a b c (4 : Int),
  wt f a b c (5 : Int), wt f a b c (6 : Int), wt f a b c (7 : Int), wt f a b c (8 : Int), wt f a b c (9 : Int), wt f a b c (10 : Int), wt f a b c (11 : Int)] (5 : Int)) then ((3 :
  Int) = (nrm f a b c).fst ∧ sel [wt f a b c (0 : Int), wt f a b c (1 : Int), wt f a b c (2 : Int), wt f a b c (3 : Int), wt f a b c (4 : Int), wt f a b c (5 : Int), wt f a b c (6 :
  Int), wt f a b c (7 : Int), wt f a b c (8 : Int), wt f a b c (9 : Int), wt f a b c (10 : Int), wt f a b c (11 : Int)] (0 : Int) = (nrm f a b c).snd.fst ∧ sel [wt f a b c (0 : Int),
  wt f a b c (1 : Int), wt f a b c (2 : Int), wt f a b c (3 : Int), wt f a b c (4 : Int), wt f a b c (5 : Int), wt f a b c (6 : Int), wt f a b c (7 : Int), wt f a b c (8 : Int), wt f
  a b c (9 : Int), wt f a b c (10 : Int), wt f a b c (11 : Int)] (4 : Int) = (nrm f a b c).snd.snd.fst ∧ sel [wt f a b c (0 : Int), wt f a b c (1 : Int), wt f a b c (2 : Int), wt f a
  b c (3 : Int), wt f a b c (4 : Int), wt f a b c (5 : Int), wt f a b c (6 : Int), wt f a b c (7 : Int), wt f a b c (8 : Int), wt f a b c (9 : Int), wt f a b c (10 : Int), wt f a b c
  (11 : Int)] (5 : Int) = (nrm f a b c).snd.snd.snd ∧ True) ∧ (0 : Int) = err (vld f a b c) ∧ True else ((0 : Int) ≤ (4 : Int) ∧ (4 : Int) < (20 : Int)) ∧ bif
  YtceknalhogbbnaaDoor.vld (4 : Int) (sel [wt f a b c (0 : Int), wt f a b c (1 : Int), wt f a b c (2 : Int), wt f a b c (3 : Int), wt f a b c (4 : Int), wt f a b c (5 : Int), wt f a
  b c (6 : Int), wt f a b c (7 : Int), wt f a b c (8 : Int), wt f a b c (9 : Int), wt f a b c (10 : Int), wt f a b c (11 : Int)] (0 : Int)) (sel [wt f a b c (0 : Int), wt f a b c (1
  : Int), wt f a b c (2 : Int), wt f a b c (3 : Int), wt f a b c (4 : Int), wt f a b c (5 : Int), wt f a b c (6 : Int), wt f a b c (7 : Int), wt f a b c (8 : Int), wt f a b c (9 :
  Int), wt f a b c (10 : Int), wt f a b c (11 : Int)] (5 : Int)) (sel [wt f a b c (0 : Int), wt f a b c (1 : Int), wt f a b c (2 : Int), wt f a b c (3 : Int), wt f a b c (4 : Int),
  wt f a b c (5 : Int), wt f a b c (6 : Int), wt f a b c (7 : Int), wt f a b c (8 : Int), wt f a b c (9 : Int), wt f a b c (10 : Int), wt f a b c (11 : Int)] (1 : Int)) then ((4 :
  Int) = (nrm f a b c).fst ∧ sel [wt f a b c (0 : Int), wt f a b c (1 : Int), wt f a b c (2 : Int), wt f a b c (3 : Int), wt f a b c (4 : Int), wt f a b c (5 : Int), wt f a b c (6 :
  Int), wt f a b c (7 : Int), wt f a b c (8 : Int), wt f a b c (9 : Int), wt f a b c (10 : Int), wt f a b c (11 : Int)] (0 : Int) = (nrm f a b c).snd.fst ∧ sel [wt f a b c (0 : Int),
  wt f a b c (1 : Int), wt f a b c (2 : Int), wt f a b c (3 : Int), wt f a b c (4 : Int), wt f a b c (5 : Int), wt f a b c (6 : Int), wt f a b c (7 : Int), wt f a b c (8 : Int), wt f
  a b c (9 : Int), wt f a b c (10 : Int), wt f a b c (11 : Int)] (5 : Int) = (nrm f a b c).snd.snd.fst ∧ sel [wt f a b c (0 : Int), wt f a b c (1 : Int), wt f a b c (2 : Int), wt f a
  b c (3 : Int), wt f a b c (4 : Int), wt f a b c (5 : Int), wt f a b c (6 : Int), wt f a b c (7 : Int), wt f a b c (8 : Int), wt f a b c (9 : Int), wt f a b c (10 : Int), wt f a b c
  (11 : Int)] (1 : Int) = (nrm f a b c).snd.snd.snd ∧ True) ∧ (0 : Int) = err (vld f a b c) ∧ True else ((0 : Int) ≤ (5 : Int) ∧ (5 : Int) < (20 : Int)) ∧ bif
  YtceknalhogbbnaaDoor.vld (5 : Int) (sel [wt f a b c (0 : Int), wt f a b c (1 : Int), wt f a b c (2 : Int), wt f a b c (3 : Int), wt f a b c (4 : Int), wt f a b c (5 : Int), wt f a
  b c (6 : Int), wt f a b c (7 : Int), wt f a b c (8 : Int), wt f a b c (9 : Int), wt f a b c (10 : Int), wt f a b c (11 : Int)] (1 : Int)) (sel [wt f a b c (0 : Int), wt f a b c (1
  : Int), wt f a b c (2 : Int), wt f a b c (3 : Int), wt f a b c (4 : Int), wt f a b c (5 : Int), wt f a b c (6 : Int), wt f a b c (7 : Int), wt f a b c (8 : Int), wt f a b c (9 :
  Int), wt f a b c (10 : Int), wt f a b c (11 : Int)] (6 : Int)) (sel [wt f a b c (0 : Int), wt f a b c (1 : Int), wt f a b c (2 : Int), wt f a b c (3 : Int), wt f a b c (4 : Int),
  wt f a b c (5 : Int), wt f a b c (6 : Int), wt f a b c (7 : Int), wt f a b c (8 : Int), wt f a b c (9 : Int), wt f a b c (10 : Int), wt f a b c (11 : Int)] (2 : Int)) then ((5 :
  Int) = (nrm f a b c).fst ∧ sel [wt f a b c (0 : Int), wt f a b c (1 : Int), wt f a b c (2 : Int), wt f a b c (3 : Int), wt f a b c (4 : Int), wt f a b c (5 : Int), wt f a b c (6 :
  Int), wt f a b c (7 : Int), wt f a b c (8 : Int), wt f a b c (9 : Int), wt f a b c (10 : Int), wt f a b c (11 : Int)] (1 : Int) = (nrm f a b c).snd.fst ∧ sel [wt f a b c (0 : Int),
  wt f a b c (1 : Int), wt f a b c (2 : Int), wt f a b c (3 : Int), wt f a b c (4 : Int), wt f a b c (5 : Int), wt f a b c (6 : Int), wt f a b c (7 : Int), wt f a b c (8 : Int), wt f
  a b c (9 : Int), wt f a b c (10 : Int), wt f a b c (11 : Int)] (6 : Int) = (nrm f a b c).snd.snd.fst ∧ sel [wt f a b c (0 : Int), wt f a b c (1 : Int), wt f a b c (2 : Int), wt f a
  b c (3 : Int), wt f a b c (4 : Int), wt f a b c (5 : Int), wt f a b c (6 : Int), wt f a b c (7 : Int), wt f a b c (8 : Int), wt f a b c (9 : Int), wt f a b c (10 : Int), wt f a b c
  (11 : Int)] (2 : Int) = (nrm f a b c).snd.snd.snd ∧ True) ∧ (0 : Int) = err (vld f a b c) ∧ True else ((0 : Int) ≤ (6 : Int) ∧ (6 : Int) < (20 : Int)) ∧ bif
  YtceknalhogbbnaaDoor.vld (6 : Int) (sel [wt f a b c (0 : Int), wt f a b c (1 : Int), wt f a b c (2 : Int), wt f a b c (3 : Int), wt f a b c (4 : Int), wt f a b c (5 : Int), wt f a
  b c (6 : Int), wt f a b c (7 : Int), wt f a b c (8 : Int), wt f a b c (9 : Int), wt f a b c (10 : Int), wt f a b c (11 : Int)] (2 : Int)) (sel [wt f a b c (0 : Int), wt f a b c (1
  : Int), wt f a b c (2 : Int), wt f a b c (3 : Int), wt f a b c (4 : Int), wt f a b c (5 : Int), wt f a b c (6 : Int), wt f a b c (7 : Int), wt f a b c (8 : Int), wt f a b c (9 :
  Int), wt f a b c (10 : Int), wt f a b c (11 : Int)] (7 : Int)) (sel [wt f a b c (0 : Int), wt f a b c (1 : Int), wt f a b c (2 : Int), wt f a b c (3 : Int), wt f a b c (4 : Int),
  wt f a b c (5 : Int), wt f a b c (6 : Int), wt f a b c (7 : Int), wt f a b c (8 : Int), wt f a b c (9 : Int), wt f a b c (10 : Int), wt f a b c (11 : Int)] (3 : Int)) then ((6 :
  Int) = (nrm f a b c).fst ∧ sel [wt f a b c (0 : Int), wt f a b c (1 : Int), wt f a b c (2 : Int), wt f a b c (3 : Int), wt f a b c (4 : Int), wt f a b c (5 : Int), wt f a b c (6 :
  Int), wt f a b c (7 : Int), wt f a b c (8 : Int), wt f a b c (9 : Int), wt f a b c (10 : Int), wt f a b c (11 : Int)] (2 : Int) = (nrm f a b c).snd.fst ∧ sel [wt f a b c (0 : Int),
  wt f a b c (1 : Int), wt f a b c (2 : Int), wt f a b c (3 : Int), wt f a b c (4 : Int), wt f a b c (5 : Int), wt f a b c (6 : Int), wt f a b c (7 : Int), wt f a b c (8 : Int), wt f
  a b c (9 : Int), wt f a b c (10 : Int), wt f a b c (11 : Int)] (7 : Int) = (nrm f a b c).snd.snd.fst ∧ sel [wt f a b c (0 : Int), wt f a b c (1 : Int), wt f a b c (2 : Int), wt f a
  b c (3 : Int), wt f a b c (4 : Int), wt f a b c (5 : Int), wt f a b c (6 : Int), wt f a b c (7 : Int), wt f a b c (8 : Int), wt f a b c (9 : Int), wt f a b c (10 : Int), wt f a b c
  (11 : Int)] (3 : Int) = (nrm f a b c).snd.snd.snd ∧ True) ∧ (0 : Int) = err (vld f a b c) ∧ True else ((0 : Int) ≤ (7 : Int) ∧ (7 : Int) < (20 : Int)) ∧ bif
  YtceknalhogbbnaaDoor.vld (7 : Int) (sel [wt f a b c (0 : Int), wt f a b c (1 : Int), wt f a b c (2 : Int), wt f a b c (3 : Int), wt f a b c (4 : Int), wt f a b c (5 : Int), wt f a
  b c (6 : Int), wt f a b c (7 : Int), wt f a b c (8 : Int), wt f a b c (9 : Int), wt f a b c (10 : Int), wt f a b c (11 : Int)] (3 : Int)) (sel [wt f a b c (0 : Int), wt f a b c (1
  : Int), wt f a b c (2 : Int), wt f a b c (3 : Int), wt f a b c (4 : Int), wt f a b c (5 : Int), wt f a b c (6 : Int), wt f a b c (7 : Int), wt f a b c (8 : Int), wt f a b c (9 :
  Int), wt f a b c (10 : Int), wt f a b c (11 : Int)] (8 : Int)) (sel [wt f a b c (0 : Int), wt f a b c (1 : Int), wt f a b c (2 : Int), wt f a b c (3 : Int), wt f a b c (4 : Int),
  wt f a b c (5 : Int), wt f a b c (6 : Int), wt f a b c (7 : Int), wt f a b c (8 : Int), wt f a b c (9 : Int), wt f a b c (10 : Int), wt f a b c (11 : Int)] (4 : Int)) then ((7 :
  Int) = (nrm f a b c).fst ∧ sel [wt f a b c (0 : Int), wt f a b c (1 : Int), wt f a b c (2 : Int), wt f a b c (3 : Int), wt f a b c (4 : Int), wt f a b c (5 : Int), wt f a b c (6 :
  Int), wt f a b c (7 : Int), wt f a b c (8 : Int), wt f a b c (9 : Int), wt f a b c (10 : Int), wt f a b c (11 : Int)] (3 : Int) = (nrm f a b c).snd.fst ∧ sel [wt f a b c (0 : Int),
  wt f a b c (1 : Int), wt f a b c (2 : Int), wt f a b c (3 : Int), wt f a b c (4 : Int), wt f a b c (5 : Int), wt f a b c (6 : Int), wt f a b c (7 : Int), wt f a b c (8 : Int), wt f
  a b c (9 : Int), wt f a b c (10 : Int), wt f a b c (11 : Int)] (8 : Int) = (nrm f a b c).snd.snd.fst ∧ sel [wt f a b c (0 : Int), wt f a b c (1 : Int), wt f a b c (2 : Int), wt f a
  b c (3 : Int), wt f a b c (4 : Int), wt f a b c (5 : Int), wt f a b c (6 : Int), wt f a b c (7 : Int), wt f a b c (8 : Int), wt f a b c (9 : Int), wt f a b c (10 : Int), wt f a b c
  (11 : Int)] (4 : Int) = (nrm f a b c).snd.snd.snd ∧ True) ∧ (0 : Int) = err (vld f a b c) ∧ True else ((0 : Int) ≤ (8 : Int) ∧ (8 : Int) < (20 : Int)) ∧ bif
  YtceknalhogbbnaaDoor.vld (8 : Int) (sel [wt f a b c (0 : Int), wt f a b c (1 : Int), wt f a b c (2 : Int), wt f a b c (3 : Int), wt f a b c (4 : Int), wt f a b c (5 : Int), wt f a
  b c (6 : Int), wt f a b c (7 : Int), wt f a b c (8 : Int), wt f a b c (9 : Int), wt f a b c (10 : Int), wt f a b c (11 : Int)] (4 : Int)) (sel [wt f a b c (0 : Int), wt f a b c (1
  : Int), wt f a b c (2 : Int), wt f a b c (3 : Int), wt f a b c (4 : Int), wt f a b c (5 : Int), wt f a b c (6 : Int), wt f a b c (7 : Int), wt f a b c (8 : Int), wt f a b c (9 :
  Int), wt f a b c (10 : Int), wt f a b c (11 : Int)] (9 : Int)) (sel [wt f a b c (0 : Int), wt f a b c (1 : Int), wt f a b c (2 : Int), wt f a b c (3 : Int), wt f a b c (4 : Int),
  wt f a b c (5 : Int), wt f a b c (6 : Int), wt f a b c (7 : Int), wt f a b c (8 : Int), wt f a b c (9 : Int), wt f a b c (10 : Int), wt f a b c (11 : Int)] (5 : Int)) then ((8 :
  Int) = (nrm f a b c).fst ∧ sel [wt f a b c (0 : Int), wt f a b c (1 : Int), wt f a b c (2 : Int), wt f a b c (3 : Int), wt f a b c (4 : Int), wt f a b c (5 : Int), wt f a b c (6 :
  Int), wt f a b c (7 : Int), wt f a b c (8 : Int), wt f a b c (9 : Int), wt f a b c (10 : Int), wt f a b c (11 : Int)] (4 : Int) = (nrm f a b c).snd.fst ∧ sel [wt f a b c (0 : Int),
  wt f a b c (1 : Int), wt f a b c (2 : Int), wt f a b c (3 : Int), wt f a b c (4 : Int), wt f a b c (5 : Int), wt f a b c (6 : Int), wt f a b c (7 : Int), wt f a b c (8 : Int), wt f
  a b c (9 : Int), wt f a b c (10 : Int), wt f a b c (11 : Int)] (9 : Int) = (nrm f a b c).snd.snd.fst ∧ sel [wt f a b c (0 : Int), wt f a b c (1 : Int), wt f a b c (2 : Int), wt f a
  b c (3 : Int), wt f a b c (4 : Int), wt f a b c (5 : Int), wt f a b c (6 : Int), wt f a b c (7 : Int), wt f a b c (8 : Int), wt f a b c (9 : Int), wt f a b c (10 : Int), wt f a b c
  (11 : Int)] (5 : Int) = (nrm f a b c).snd.snd.snd ∧ True) ∧ (0 : Int) = err (vld f a b c) ∧ True else ((0 : Int) ≤ (9 : Int) ∧ (9 : Int) < (20 : Int)) ∧ bif
  YtceknalhogbbnaaDoor.vld (9 : Int) (sel [wt f a b c (0 : Int), wt f a b c (1 : Int), wt f a b c (2 : Int), wt f a b c (3 : Int), wt f a b c (4 : Int), wt f a b c (5 : Int), wt f a
  b c (6 : Int), wt f a b c (7 : Int), wt f a b c (8 : Int), wt f a b c (9 : Int), wt f a b c (10 : Int), wt f a b c (11 : Int)] (5 : Int)) (sel [wt f a b c (0 : Int), wt f a b c (1
  : Int), wt f a b c (2 : Int), wt f a b c (3 : Int), wt f a b c (4 : Int), wt f a b c (5 : Int), wt f a b c (6 : Int), wt f a b c (7 : Int), wt f a b c (8 : Int), wt f a b c (9 :
  Int), wt f a b c (10 : Int), wt f a b c (11 : Int)] (10 : Int)) (sel [wt f a b c (0 : Int), wt f a b c (1 : Int), wt f a b c (2 : Int), wt f a b c (3 : Int), wt f a b c (4 : Int),
  wt f a b c (5 : Int), wt f a b c (6 : Int), wt f a b c (7 : Int), wt f a b c (8 : Int), wt f a b c (9 : Int), wt f a b c (10 : Int), wt f a b c (11 : Int)] (1 : Int)) then ((9 :
  Int) = (nrm f a b c).fst ∧ sel [wt f a b c (0 : Int), wt f a b c (1 : Int), wt f a b c (2 : Int), wt f a b c (3 : Int), wt f a b c (4 : Int), wt f a b c (5 : Int), wt f a b c (6 :
  Int), wt f a b c (7 : Int), wt f a b c (8 : Int), wt f a b c (9 : Int), wt f a b c (10 : Int), wt f a b c (11 : Int)] (5 : Int) = (nrm f a b c).snd.fst ∧ sel [wt f a b c (0 : Int),
  wt f a b c (1 : Int), wt f a b c (2 : Int), wt f a b c (3 : Int), wt f a b c (4 : Int), wt f a b c (5 : Int), wt f a b c (6 : Int), wt f a b c (7 : Int), wt f a b c (8 : Int), wt f
  a b c (9 : Int), wt f a b c (10 : Int), wt f a b c (11 : Int)] (10 : Int) = (nrm f a b c).snd.snd.fst ∧ sel [wt f a b c (0 : Int), wt f a b c (1 : Int), wt f a b c (2 : Int), wt f
  a b c (3 : Int), wt f a b c (4 : Int), wt f a b c (5 : Int), wt f a b c (6 : Int), wt f a b c (7 : Int), wt f a b c (8 : Int), wt f a b c (9 : Int), wt f a b c (10 : Int), wt f a b
  c (11 : Int)] (1 : Int) = (nrm f a b c).snd.snd.snd ∧ True) ∧ (0 : Int) = err (vld f a b c) ∧ True else ((0 : Int) ≤ (10 : Int) ∧ (10 : Int) < (20 : Int)) ∧ bif
  YtceknalhogbbnaaDoor.vld (10 : Int) (sel [wt f a b c (0 : Int), wt f a b c (1 : Int), wt f a b c (2 : Int), wt f a b c (3 : Int), wt f a b c (4 : Int), wt f a b c (5 : Int), wt f a
  b c (6 : Int), wt f a b c (7 : Int), wt f a b c (8 : Int), wt f a b c (9 : Int), wt f a b c (10 : Int), wt f a b c (11 : Int)] (6 : Int)) (sel [wt f a b c (0 : Int), wt f a b c (1
  : Int), wt f a b c (2 : Int), wt f a b c (3 : Int), wt f a b c (4 : Int), wt f a b c (5 : Int), wt f a b c (6 : Int), wt f a b c (7 : Int), wt f a b c (8 : Int), wt f a b c (9 :
  Int), wt f a b c (10 : Int), wt f a b c (11 : Int)] (7 : Int)) (sel [wt f a b c (0 : Int), wt f a b c (1 : Int), wt f a b c (2 : Int), wt f a b c (3 : Int), wt f a b c (4 : Int),
  wt f a b c (5 : Int), wt f a b c (6 : Int), wt f a b c (7 : Int), wt f a b c (8 : Int), wt f a b c (9 : Int), wt f a b c (10 : Int), wt f a b c (11 : Int)] (2 : Int)) then ((10 :
  Int) = (nrm f a b c).fst ∧ sel [wt f a b c (0 : Int), wt f a b c (1 : Int), wt f a b c (2 : Int), wt f a b c (3 : Int), wt f a b c (4 : Int), wt f a b c (5 : Int), wt f a b c (6 :
  Int), wt f a b c (7 : Int), wt f a b c (8 : Int), wt f a b c (9 : Int), wt f a b c (10 : Int), wt f a b c (11 : Int)] (6 : Int) = (nrm f a b c).snd.fst ∧ sel [wt f a b c (0 : Int),
  wt f a b c (1 : Int), wt f a b c (2 : Int), wt f a b c (3 : Int), wt f a b c (4 : Int), wt f a b c (5 : Int), wt f a b c (6 : Int), wt f a b c (7 : Int), wt f a b c (8 : Int), wt f
  a b c (9 : Int), wt f a b c (10 : Int), wt f a b c (11 : Int)] (7 : Int) = (nrm f a b c).snd.snd.fst ∧ sel [wt f a b c (0 : Int), wt f a b c (1 : Int), wt f a b c (2 : Int), wt f a
  b c (3 : Int), wt f a b c (4 : Int), wt f a b c (5 : Int), wt f a b c (6 : Int), wt f a b c (7 : Int), wt f a b c (8 : Int), wt f a b c (9 : Int), wt f a b c (10 : Int), wt f a b c
  (11 : Int)] (2 : Int) = (nrm f a b c).snd.snd.snd ∧ True) ∧ (0 : Int) = err (vld f a b c) ∧ True else ((0 : Int) ≤ (11 : Int) ∧ (11 : Int) < (20 : Int)) ∧ bif
  YtceknalhogbbnaaDoor.vld (11 : Int) (sel [wt f a b c (0 : Int), wt f a b c (1 : Int), wt f a b c (2 : Int), wt f a b c (3 : Int), wt f a b c (4 : Int), wt f a b c (5 : Int), wt f a
  b c (6 : Int), wt f a b c (7 : Int), wt f a b c (8 : Int), wt f a b c (9 : Int), wt f a b c (10 : Int), wt f a b c (11 : Int)] (7 : Int)) (sel [wt f a b c (0 : Int), wt f a b c (1
  : Int), wt f a b c (2 : Int), wt f a b c (3 : Int), wt f a b c (4 : Int), wt f a b c (5 : Int), wt f a b c (6 : Int), wt f a b c (7 : Int), wt f a b c (8 : Int), wt f a b c (9 :
  Int), wt f a b c (10 : Int), wt f a b c (11 : Int)] (8 : Int)) (sel [wt f a b c (0 : Int), wt f a b c (1 : Int), wt f a b c (2 : Int), wt f a b c (3 : Int), wt f a b c (4 : Int),
  wt f a b c (5 : Int), wt f a b c (6 : Int), wt f a b c (7 : Int), wt f a b c (8 : Int), wt f a b c (9 : Int), wt f a b c (10 : Int), wt f a b c (11 : Int)] (3 : Int)) then ((11 :
  Int) = (nrm f a b c).fst ∧ sel [wt f a b c (0 : Int), wt f a b c (1 : Int), wt f a b c (2 : Int), wt f a b c (3 : Int), wt f a b c (4 : Int), wt f a b c (5 : Int), wt f a b c (6 :
  Int), wt f a b c (7 : Int), wt f a b c (8 : Int), wt f a b c (9 : Int), wt f a b c (10 : Int), wt f a b c (11 : Int)] (7 : Int) = (nrm f a b c).snd.fst ∧ sel [wt f a b c (0 : Int),
  wt f a b c (1 : Int), wt f a b c (2 : Int), wt f a b c (3 : Int), wt f a b c (4 : Int), wt f a b c (5 : Int), wt f a b c (6 : Int), wt f a b c (7 : Int), wt f a b c (8 : Int), wt f
  a b c (9 : Int), wt f a b c (10 : Int), wt f a b c (11 : Int)] (8 : Int) = (nrm f a b c).snd.snd.fst ∧ sel [wt f a b c (0 : Int), wt f a b c (1 : Int), wt f a b c (2 : Int), wt f a
  b c (3 : Int), wt f a b c (4 : Int), wt f a b c (5 : Int), wt f a b c (6 : Int), wt f a b c (7 : Int), wt f a b c (8 : Int), wt f a b c (9 : Int), wt f a b c (10 : Int), wt f a b c
  (11 : Int)] (3 : Int) = (nrm f a b c).snd.snd.snd ∧ True) ∧ (0 : Int) = err (vld f a b c) ∧ True else ((0 : Int) ≤ (12 : Int) ∧ (12 : Int) < (20 : Int)) ∧ bif
  YtceknalhogbbnaaDoor.vld (12 : Int) (sel [wt f a b c (0 : Int), wt f a b c (1 : Int), wt f a b c (2 : Int), wt f a b c (3 : Int), wt f a b c (4 : Int), wt f a b c (5 : Int), wt f a
  b c (6 : Int), wt f a b c (7 : Int), wt f a b c (8 : Int), wt f a b c (9 : Int), wt f a b c (10 : Int), wt f a b c (11 : Int)] (8 : Int)) (sel [wt f a b c (0 : Int), wt f a b c (1
  : Int), wt f a b c (2 : Int), wt f a b c (3 : Int), wt f a b c (4 : Int), wt f a b c (5 : Int), wt f a b c (6 : Int), wt f a b c (7 : Int), wt f a b c (8 : Int), wt f a b c (9 :
  Int), wt f a b c (10 : Int), wt f a b c (11 : Int)] (9 : Int)) (sel [wt f a b c (0 : Int), wt f a b c (1 : Int), wt f a b c (2 : Int), wt f a b c (3 : Int), wt f a b c (4 : Int),
  wt f a b c (5 : Int), wt f a b c (6 : Int), wt f a b c (7 : Int), wt f a b c (8 : Int), wt f a b c (9 : Int), wt f a b c (10 : Int), wt f a b c (11 : Int)] (4 : Int)) then ((12 :
  Int) = (nrm f a b c).fst ∧ sel [wt f a b c (0 : Int), wt f a b c (1 : Int), wt f a b c (2 : Int), wt f a b c (3 : Int), wt f a b c (4 : Int), wt f a b c (5 : Int), wt f a b c (6 :
  Int), wt f a b c (7 : Int), wt f a b c (8 : Int), wt f a b c (9 : Int), wt f a b c (10 : Int), wt f a b c (11 : Int)] (8 : Int) = (nrm f a b c).snd.fst ∧ sel [wt f a b c (0 : Int),
  wt f a b c (1 : Int), wt f a b c (2 : Int), wt f a b c (3 : Int), wt f a b c (4 : Int), wt f a b c (5 : Int), wt f a b c (6 : Int), wt f a b c (7 : Int), wt f a b c (8 : Int), wt f
  a b c (9 : Int), wt f a b c (10 : Int), wt f a b c (11 : Int)] (9 : Int) = (nrm f a b c).snd.snd.fst ∧ sel [wt f a b c (0 : Int), wt f a b c (1 : Int), wt f a b c (2 : Int), wt f a
  b c (3 : Int), wt f a b c (4 : Int), wt f a b c (5 : Int), wt f a b c (6 : Int), wt f a b c (7 : Int), wt f a b c (8 : Int), wt f a b c (9 : Int), wt f a b c (10 : Int), wt f a b c
  (11 : Int)] (4 : Int) = (nrm f a b c).snd.snd.snd ∧ True) ∧ (0 : Int) = err (vld f a b c) ∧ True else ((0 : Int) ≤ (13 : Int) ∧ (13 : Int) < (20 : Int)) ∧ bif
  YtceknalhogbbnaaDoor.vld (13 : Int) (sel [wt f a b c (0 : Int), wt f a b c (1 : Int), wt f a b c (2 : Int), wt f a b c (3 : Int), wt f a b c (4 : Int), wt f a b c (5 : Int), wt f a
  b c (6 : Int), wt f a b c (7 : Int), wt f a b c (8 : Int), wt f a b c (9 : Int), wt f a b c (10 : Int), wt f a b c (11 : Int)] (9 : Int)) (sel [wt f a b c (0 : Int), wt f a b c (1
  : Int), wt f a b c (2 : Int), wt f a b c (3 : Int), wt f a b c (4 : Int), wt f a b c (5 : Int), wt f a b c (6 : Int), wt f a b c (7 : Int), wt f a b c (8 : Int), wt f a b c (9 :
  Int), wt f a b c (10 : Int), wt f a b c (11 : Int)] (10 : Int)) (sel [wt f a b c (0 : Int), wt f a b c (1 : Int), wt f a b c (2 : Int), wt f a b c (3 : Int), wt f a b c (4 : Int),
  wt f a b c (5 : Int), wt f a b c (6 : Int), wt f a b c (7 : Int), wt f a b c (8 : Int), wt f a b c (9 : Int), wt f a b c (10 : Int), wt f a b c (11 : Int)] (5 : Int)) then ((13 :
  Int) = (nrm f a b c).fst ∧ sel [wt f a b c (0 : Int), wt f a b c (1 : Int), wt f a b c (2 : Int), wt f a b c (3 : Int), wt f a b c (4 : Int), wt f a b c (5 : Int), wt f a b c (6 :
  Int), wt f a b c (7 : Int), wt f a b c (8 : Int), wt f a b c (9 : Int), wt f a b c (10 : Int), wt f a b c (11 : Int)] (9 : Int) = (nrm f a b c).snd.fst ∧ sel [wt f a b c (0 : Int),
  wt f a b c (1 : Int), wt f a b c (2 : Int), wt f a b c (3 : Int), wt f a b c (4 : Int), wt f a b c (5 : Int), wt f a b c (6 : Int), wt f a b c (7 : Int), wt f a b c (8 : Int), wt f
  a b c (9 : Int), wt f a b c (10 : Int), wt f a b c (11 : Int)] (10 : Int) = (nrm f a b c).snd.snd.fst ∧ sel [wt f a b c (0 : Int), wt f a b c (1 : Int), wt f a b c (2 : Int), wt f
  a b c (3 : Int), wt f a b c (4 : Int), wt f a b c (5 : Int), wt f a b c (6 : Int), wt f a b c (7 : Int), wt f a b c (8 : Int), wt f a b c (9 : Int), wt f a b c (10 : Int), wt f a b
  c (11 : Int)] (5 : Int) = (nrm f a b c).snd.snd.snd ∧ True) ∧ (0 : Int) = err (vld f a b c) ∧ True else ((0 : Int) ≤ (14 : Int) ∧ (14 : Int) < (20 : Int)) ∧ bif
  YtceknalhogbbnaaDoor.vld (14 : Int) (sel [wt f a b c (0 : Int), wt f a b c (1 : Int), wt f a b c (2 : Int), wt f a b c (3 : Int), wt f a b c (4 : Int), wt f a b c (5 : Int), wt f a
  b c (6 : Int), wt f a b c (7 : Int), wt f a b c (8 : Int), wt f a b c (9 : Int), wt f a b c (10 : Int), wt f a b c (11 : Int)] (10 : Int)) (sel [wt f a b c (0 : Int), wt f a b c (1
  : Int), wt f a b c (2 : Int), wt f a b c (3 : Int), wt f a b c (4 : Int), wt f a b c (5 : Int), wt f a b c (6 : Int), wt f a b c (7 : Int), wt f a b c (8 : Int), wt f a b c (9 :
  Int), wt f a b c (10 : Int), wt f a b c (11 : Int)] (6 : Int)) (sel [wt f a b c (0 : Int), wt f a b c (1 : Int), wt f a b c (2 : Int), wt f a b c (3 : Int), wt f a b c (4 : Int),
  wt f a b c (5 : Int), wt f a b c (6 : Int), wt f a b c (7 : Int), wt f a b c (8 : Int), wt f a b c (9 : Int), wt f a b c (10 : Int), wt f a b c (11 : Int)] (1 : Int)) then ((14 :
  Int) = (nrm f a b c).fst ∧ sel [wt f a b c (0 : Int), wt f a b c (1 : Int), wt f a b c (2 : Int), wt f a b c (3 : Int), wt f a b c (4 : Int), wt f a b c (5 : Int), wt f a b c (6 :
  Int), wt f a b c (7 : Int), wt f a b c (8 : Int), wt f a b c (9 : Int), wt f a b c (10 : Int), wt f a b c (11 : Int)] (10 : Int) = (nrm f a b c).snd.fst ∧ sel [wt f a b c (0 :
  Int), wt f a b c (1 : Int), wt f a b c (2 : Int), wt f a b c (3 : Int), wt f a b c (4 : Int), wt f a b c (5 : Int), wt f a b c (6 : Int), wt f a b c (7 : Int), wt f a b c (8 :
  Int), wt f a b c (9 : Int), wt f a b c (10 : Int), wt f a b c (11 : Int)] (6 : Int) = (nrm f a b c).snd.snd.fst ∧ sel [wt f a b c (0 : Int), wt f a b c (1 : Int), wt f a b c (2 :
  Int), wt f a b c (3 : Int), wt f a b c (4 : Int), wt f a b c (5 : Int), wt f a b c (6 : Int), wt f a b c (7 : Int), wt f a b c (8 : Int), wt f a b c (9 : Int), wt f a b c (10 :
  Int), wt f a b c (11 : Int)] (1 : Int) = (nrm f a b c).snd.snd.snd ∧ True) ∧ (0 : Int) = err (vld f a b c) ∧ True else ((0 : Int) ≤ (15 : Int) ∧ (15 : Int) < (20 : Int)) ∧ bif
  YtceknalhogbbnaaDoor.vld (15 : Int) (sel [wt f a b c (0 : Int), wt f a b c (1 : Int), wt f a b c (2 : Int), wt f a b c (3 : Int), wt f a b c (4 : Int), wt f a b c (5 : Int), wt f a
  b c (6 : Int), wt f a b c (7 : Int), wt f a b c (8 : Int), wt f a b c (9 : Int), wt f a b c (10 : Int), wt f a b c (11 : Int)] (11 : Int)) (sel [wt f a b c (0 : Int), wt f a b c (1
  : Int), wt f a b c (2 : Int), wt f a b c (3 : Int), wt f a b c (4 : Int), wt f a b c (5 : Int), wt f a b c (6 : Int), wt f a b c (7 : Int), wt f a b c (8 : Int), wt f a b c (9 :
  Int), wt f a b c (10 : Int), wt f a b c (11 : Int)] (7 : Int)) (sel [wt f a b c (0 : Int), wt f a b c (1 : Int), wt f a b c (2 : Int), wt f a b c (3 : Int), wt f a b c (4 : Int),
  wt f a b c (5 : Int), wt f a b c (6 : Int), wt f a b c (7 : Int), wt f a b c (8 : Int), wt f a b c (9 : Int), wt f a b c (10 : Int), wt f a b c (11 : Int)] (6 : Int)) then ((15 :
  Int) = (nrm f a b c).fst ∧ sel [wt f a b c (0 : Int), wt f a b c (1 : Int), wt f a b c (2 : Int), wt f a b c (3 : Int), wt f a b c (4 : Int), wt f a b c (5 : Int), wt f a b c (6 :
  Int), wt f a b c (7 : Int), wt f a b c (8 : Int), wt f a b c (9 : Int), wt f a b c (10 : Int), wt f a b c (11 : Int)] (11 : Int) = (nrm f a b c).snd.fst ∧ sel [wt f a b c (0 :
  Int), wt f a b c (1 : Int), wt f a b c (2 : Int), wt f a b c (3 : Int), wt f a b c (4 : Int), wt f a b c (5 : Int), wt f a b c (6 : Int), wt f a b c (7 : Int), wt f a b c (8 :
  Int), wt f a b c (9 : Int), wt f a b c (10 : Int), wt f a b c (11 : Int)] (7 : Int) = (nrm f a b c).snd.snd.fst ∧ sel [wt f a b c (0 : Int), wt f a b c (1 : Int), wt f a b c (2 :
  Int), wt f a b c (3 : Int), wt f a b c (4 : Int), wt f a b c (5 : Int), wt f a b c (6 : Int), wt f a b c (7 : Int), wt f a b c (8 : Int), wt f a b c (9 : Int), wt f a b c (10 :
  Int), wt f a b c (11 : Int)] (6 : Int) = (nrm f a b c).snd.snd.snd ∧ True) ∧ (0 : Int) = err (vld f a b c) ∧ True else ((0 : Int) ≤ (16 : Int) ∧ (16 : Int) < (20 : Int)) ∧ bif
  YtceknalhogbbnaaDoor.vld (16 : Int) (sel [wt f a b c (0 : Int), wt f a b c (1 : Int), wt f a b c (2 : Int), wt f a b c (3 : Int), wt f a b c (4 : Int), wt f a b c (5 : Int), wt f a
  b c (6 : Int), wt f a b c (7 : Int), wt f a b c (8 : Int), wt f a b c (9 : Int), wt f a b c (10 : Int), wt f a b c (11 : Int)] (11 : Int)) (sel [wt f a b c (0 : Int), wt f a b c (1
  : Int), wt f a b c (2 : Int), wt f a b c (3 : Int), wt f a b c (4 : Int), wt f a b c (5 : Int), wt f a b c (6 : Int), wt f a b c (7 : Int), wt f a b c (8 : Int), wt f a b c (9 :
  Int), wt f a b c (10 : Int), wt f a b c (11 : Int)] (8 : Int)) (sel [wt f a b c (0 : Int), wt f a b c (1 : Int), wt f a b c (2 : Int), wt f a b c (3 : Int), wt f a b c (4 : Int),
  wt f a b c (5 : Int), wt f a b c (6 : Int), wt f a b c (7 : Int), wt f a b c (8 : Int), wt f a b c (9 : Int), wt f a b c (10 : Int), wt f a b c (11 : Int)] (7 : Int)) then ((16 :
  Int) = (nrm f a b c).fst ∧ sel [wt f a b c (0 : Int), wt f a b c (1 : Int), wt f a b c (2 : Int), wt f a b c (3 : Int), wt f a b c (4 : Int), wt f a b c (5 : Int), wt f a b c (6 :
  Int), wt f a b c (7 : Int), wt f a b c (8 : Int), wt f a b c (9 : Int), wt f a b c (10 : Int), wt f a b c (11 : Int)] (11 : Int) = (nrm f a b c).snd.fst ∧ sel [wt f a b c (0 :
  Int), wt f a b c (1 : Int), wt f a b c (2 : Int), wt f a b c (3 : Int), wt f a b c (4 : Int), wt f a b c (5 : Int), wt f a b c (6 : Int), wt f a b c (7 : Int), wt f a b c (8 :
  Int), wt f a b c (9 : Int), wt f a b c (10 : Int), wt f a b c (11 : Int)] (8 : Int) = (nrm f a b c).snd.snd.fst ∧ sel [wt f a b c (0 : Int), wt f a b c (1 : Int), wt f a b c (2 :
  Int), wt f a b c (3 : Int), wt f a b c (4 : Int), wt f a b c (5 : Int), wt f a b c (6 : Int), wt f a b c (7 : Int), wt f a b c (8 : Int), wt f a b c (9 : Int), wt f a b c (10 :
  Int), wt f a b c (11 : Int)] (7 : Int) = (nrm f a b c).snd.snd.snd ∧ True) ∧ (0 : Int) = err (vld f a b c) ∧ True else ((0 : Int) ≤ (17 : Int) ∧ (17 : Int) < (20 : Int)) ∧ bif
  YtceknalhogbbnaaDoor.vld (17 : Int) (sel [wt f a b c (0 : Int), wt f a b c (1 : Int), wt f a b c (2 : Int), wt f a b c (3 : Int), wt f a b c (4 : Int), wt f a b c (5 : Int), wt f a
  b c (6 : Int), wt f a b c (7 : Int), wt f a b c (8 : Int), wt f a b c (9 : Int), wt f a b c (10 : Int), wt f a b c (11 : Int)] (11 : Int)) (sel [wt f a b c (0 : Int), wt f a b c (1
  : Int), wt f a b c (2 : Int), wt f a b c (3 : Int), wt f a b c (4 : Int), wt f a b c (5 : Int), wt f a b c (6 : Int), wt f a b c (7 : Int), wt f a b c (8 : Int), wt f a b c (9 :
  Int), wt f a b c (10 : Int), wt f a b c (11 : Int)] (9 : Int)) (sel [wt f a b c (0 : Int), wt f a b c (1 : Int), wt f a b c (2 : Int), wt f a b c (3 : Int), wt f a b c (4 : Int),
  wt f a b c (5 : Int), wt f a b c (6 : Int), wt f a b c (7 : Int), wt f a b c (8 : Int), wt f a b c (9 : Int), wt f a b c (10 : Int), wt f a b c (11 : Int)] (8 : Int)) then ((17 :
  Int) = (nrm f a b c).fst ∧ sel [wt f a b c (0 : Int), wt f a b c (1 : Int), wt f a b c (2 : Int), wt f a b c (3 : Int), wt f a b c (4 : Int), wt f a b c (5 : Int), wt f a b c (6 :
  Int), wt f a b c (7 : Int), wt f a b c (8 : Int), wt f a b c (9 : Int), wt f a b c (10 : Int), wt f a b c (11 : Int)] (11 : Int) = (nrm f a b c).snd.fst ∧ sel [wt f a b c (0 :
  Int), wt f a b c (1 : Int), wt f a b c (2 : Int), wt f a b c (3 : Int), wt f a b c (4 : Int), wt f a b c (5 : Int), wt f a b c (6 : Int), wt f a b c (7 : Int), wt f a b c (8 :
  Int), wt f a b c (9 : Int), wt f a b c (10 : Int), wt f a b c (11 : Int)] (9 : Int) = (nrm f a b c).snd.snd.fst ∧ sel [wt f a b c (0 : Int), wt f a b c (1 : Int), wt f a b c (2 :
  Int), wt f a b c (3 : Int), wt f a b c (4 : Int), wt f a b c (5 : Int), wt f a b c (6 : Int), wt f a b c (7 : Int), wt f a b c (8 : Int), wt f a b c (9 : Int), wt f a b c (10 :
  Int), wt f a b c (11 : Int)] (8 : Int) = (nrm f a b c).snd.snd.snd ∧ True) ∧ (0 : Int) = err (vld f a b c) ∧ True else ((0 : Int) ≤ (18 : Int) ∧ (18 : Int) < (20 : Int)) ∧ bif
  YtceknalhogbbnaaDoor.vld (18 : Int) (sel [wt f a b c (0 : Int), wt f a b c (1 : Int), wt f a b c (2 : Int), wt f a b c (3 : Int), wt f a b c (4 : Int), wt f a b c (5 : Int), wt f a
  b c (6 : Int), wt f a b c (7 : Int), wt f a b c (8 : Int), wt f a b c (9 : Int), wt f a b c (10 : Int), wt f a b c (11 : Int)] (11 : Int)) (sel [wt f a b c (0 : Int), wt f a b c (1
  : Int), wt f a b c (2 : Int), wt f a b c (3 : Int), wt f a b c (4 : Int), wt f a b c (5 : Int), wt f a b c (6 : Int), wt f a b c (7 : Int), wt f a b c (8 : Int), wt f a b c (9 :
  Int), wt f a b c (10 : Int), wt f a b c (11 : Int)] (10 : Int)) (sel [wt f a b c (0 : Int), wt f a b c (1 : Int), wt f a b c (2 : Int), wt f a b c (3 : Int), wt f a b c (4 : Int),
  wt f a b c (5 : Int), wt f a b c (6 : Int), wt f a b c (7 : Int), wt f a b c (8 : Int), wt f a b c (9 : Int), wt f a b c (10 : Int), wt f a b c (11 : Int)] (9 : Int)) then ((18 :
  Int) = (nrm f a b c).fst ∧ sel [wt f a b c (0 : Int), wt f a b c (1 : Int), wt f a b c (2 : Int), wt f a b c (3 : Int), wt f a b c (4 : Int), wt f a b c (5 : Int), wt f a b c (6 :
  Int), wt f a b c (7 : Int), wt f a b c (8 : Int), wt f a b c (9 : Int), wt f a b c (10 : Int), wt f a b c (11 : Int)] (11 : Int) = (nrm f a b c).snd.fst ∧ sel [wt f a b c (0 :
  Int), wt f a b c (1 : Int), wt f a b c (2 : Int), wt f a b c (3 : Int), wt f a b c (4 : Int), wt f a b c (5 : Int), wt f a b c (6 : Int), wt f a b c (7 : Int), wt f a b c (8 :
  Int), wt f a b c (9 : Int), wt f a b c (10 : Int), wt f a b c (11 : Int)] (10 : Int) = (nrm f a b c).snd.snd.fst ∧ sel [wt f a b c (0 : Int), wt f a b c (1 : Int), wt f a b c (2 :
  Int), wt f a b c (3 : Int), wt f a b c (4 : Int), wt f a b c (5 : Int), wt f a b c (6 : Int), wt f a b c (7 : Int), wt f a b c (8 : Int), wt f a b c (9 : Int), wt f a b c (10 :
  Int), wt f a b c (11 : Int)] (9 : Int) = (nrm f a b c).snd.snd.snd ∧ True) ∧ (0 : Int) = err (vld f a b c) ∧ True else ((0 : Int) ≤ (19 : Int) ∧ (19 : Int) < (20 : Int)) ∧ bif
  YtceknalhogbbnaaDoor.vld (19 : Int) (sel [wt f a b c (0 : Int), wt f a b c (1 : Int), wt f a b c (2 : Int), wt f a b c (3 : Int), wt f a b c (4 : Int), wt f a b c (5 : Int), wt f a
  b c (6 : Int), wt f a b c (7 : Int), wt f a b c (8 : Int), wt f a b c (9 : Int), wt f a b c (10 : Int), wt f a b c (11 : Int)] (11 : Int)) (sel [wt f a b c (0 : Int), wt f a b c (1
  : Int), wt f a b c (2 : Int), wt f a b c (3 : Int), wt f a b c (4 : Int), wt f a b c (5 : Int), wt f a b c (6 : Int), wt f a b c (7 : Int), wt f a b c (8 : Int), wt f a b c (9 :
  Int), wt f a b c (10 : Int), wt f a b c (11 : Int)] (6 : Int)) (sel [wt f a b c (0 : Int), wt f a b c (1 : Int), wt f a b c (2 : Int), wt f a b c (3 : Int), wt f a b c (4 : Int),
  wt f a b c (5 : Int), wt f a b c (6 : Int), wt f a b c (7 : Int), wt f a b c (8 : Int), wt f a b c (9 : Int), wt f a b c (10 : Int), wt f a b c (11 : Int)] (10 : Int)) then ((19 :
  Int) = (nrm f a b c).fst ∧ sel [wt f a b c (0 : Int), wt f a b c (1 : Int), wt f a b c (2 : Int), wt f a b c (3 : Int), wt f a b c (4 : Int), wt f a b c (5 : Int), wt f a b c (6 :
  Int), wt f a b c (7 : Int), wt f a b c (8 : Int), wt f a b c (9 : Int), wt f a b c (10 : Int), wt f a b c (11 : Int)] (11 : Int) = (nrm f a b c).snd.fst ∧ sel [wt f a b c (0 :
  Int), wt f a b c (1 : Int), wt f a b c (2 : Int), wt f a b c (3 : Int), wt f a b c (4 : Int), wt f a b c (5 : Int), wt f a b c (6 : Int), wt f a b c (7 : Int), wt f a b c (8 :
  Int), wt f a b c (9 : Int), wt f a b c (10 : Int), wt f a b c (11 : Int)] (6 : Int) = (nrm f a b c).snd.snd.fst ∧ sel [wt f a b c (0 : Int), wt f a b c (1 : Int), wt f a b c (2 :
  Int), wt f a b c (3 : Int), wt f a b c (4 : Int), wt f a b c (5 : Int), wt f a b c (6 : Int), wt f a b c (7 : Int), wt f a b c (8 : Int), wt f a b c (9 : Int), wt f a b c (10 :
  Int), wt f a b c (11 : Int)] (10 : Int) = (nrm f a b c).snd.snd.snd ∧ True) ∧ (0 : Int) = err (vld f a b c) ∧ True else (f = (nrm f a b c).fst ∧ a = (nrm f a b c).snd.fst ∧ b =
  (nrm f a b c).snd.snd.fst ∧ c = (nrm f a b c).snd.snd.snd ∧ True) ∧ (0 : Int) = err (vld f a b c) ∧ True
set_option maxRecDepth 100000 in
theorem normal_P : normal_T vld nrm := by
  unfold normal_T
  intro f a b c h
  refine ⟨trivial, ?_⟩
  unfold nrm err
  cases hv : vld f a b c with
  | false => exact ⟨⟨rfl, rfl, rfl, rfl, trivial⟩, rfl, trivial⟩
  | true =>
    have v : Vld f a b c := of_decide_eq_true hv
    rw [if_pos rfl]
    refine ⟨v.face, ?_⟩
    unfold fcs
    iterate 20
      (refine ⟨⟨by decide, by decide⟩, csplit (fun h => ?_) (fun h => ?_)⟩
       · rw [nrmL_t (f := f) (a := a) (b := b) (c := c) h]; exact ⟨⟨rfl, rfl, rfl, rfl, trivial⟩, rfl, trivial⟩
       rw [nrmL_f (f := f) (a := a) (b := b) (c := c) h])
    exact ⟨⟨rfl, rfl, rfl, rfl, trivial⟩, rfl, trivial⟩
def normal_S (vld : Int → Int → Int → Int → Bool) (nrm : Int → Int → Int → Int → Int × Int × Int × Int) : Prop := ∀ (f a b c : Int), fnK Tryd.prog { glob := glb, spec := lk [(52, (valid_s Go.Proofs.YtceknalhogbbnaaDoor.vld)), (71, of_s), (72, on_s)], specH := lk [], nowf := true } { nt := 27, drop := drp [(1, 768), (2, 2048), (3, 12288), (6, 65536), (7, 8257536), (9, 16777216), (10, 33554432), (11, 67108864)] } (fun _ _ => none) 21 Tryd.f53 [.agg [.int .i64 f, .int .i64 a, .int .i64 b, .int .i64 c]] (.tup [.agg [.int .i64 (nrm f a b c).1, .int .i64 (nrm f a b c).2.1, .int .i64 (nrm f a b c).2.2.1, .int .i64 (nrm f a b c).2.2.2], .int .i64 (err (vld f a b c))])
set_option maxRecDepth 100000 in
theorem normal_e (vld : Int → Int → Int → Int → Bool) (nrm : Int → Int → Int → Int → Int × Int × Int × Int) : normal_T vld nrm = normal_S vld nrm := by kernel_rfl
theorem normal_v : normal_S vld nrm := @Eq.mp (normal_T vld nrm) (normal_S vld nrm) (normal_e vld nrm) normal_P
theorem normal_ok : SOK Tryd.prog glb 53 (normal_s vld nrm) := by
  refine ⟨fok Tryd.func53 (by kernel_rfl) (by kernel_rfl), ?_⟩
  intro xs pre r h hp
  unfold normal_s at h
  split at h
  · simp only [Option.some.injEq, Prod.mk.injEq] at h
    obtain ⟨h1, h2⟩ := h
    subst h1 h2
    exact fnK_sound tyNil (by exact specOK rfl rfl ⟨valid_ok glb, of_ok, on_ok, trivial⟩ trivial) (by kernel_rfl) Tryd.func53 rfl (normal_v  _ _ _ _)
  · cases h
end Go.Proofs.YtceknalhogbbnaaDoor
