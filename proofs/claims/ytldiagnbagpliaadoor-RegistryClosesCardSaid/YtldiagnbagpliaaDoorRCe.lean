import Derived.Test.YtldiagnbagpliaaDoorRCd
import Derived.Lib.OthersKept
import Derived.Laws.RangeAny
import Derived.Deep.LoopGhost
import Derived.Lib.TrimU
import Derived.Shelf.Abstract
import Derived.Deep.DeepFit
set_option maxRecDepth 100000
namespace Go.Proofs.YtldiagnbagpliaaDoor
open Go
set_option linter.unusedVariables false
set_option linter.unusedSimpArgs false
def rValid_s (vld:Int→Int→Int→Int→Bool):Sp
 | [.agg [.int .i64 f,.int .i64 a,.int .i64 b,.int .i64 c]]=>some (True,.bool (vld f a b c))
 | _=>none
def rValid_T (vld:Int→Int→Int→Int→Bool):Prop :=
  ∀ (gl:Glob) (f a b c:Int),(IR9 f)∧(IR9 a)∧(IR9 b)∧(IR9 c)∧True→bif decide (0≤f) then bif decide (f < (20:Int)) then bif decide (0≤a) then bif decide (a ≤
 (840:Int)) then bif decide (0≤b) then bif decide (b≤(840:Int)) then bif decide (0≤c) then bif decide (c≤(840:Int)) then bif decide (rng .i64 (a+b)) then bif decide (rng .i64 (a+b+c)) then decide (a+b+c=(840:Int))=vld f a b c else False else False else false=vld f a b c else false=vld f a b c else false=vld f a b c else false=vld f a b c else false=vld f a b c else
 false=vld f a b c else false=vld f a b c else false=vld f a b c
theorem rValid_P:rValid_T vld:=by
 unfold rValid_T
 intro gl f a b c h
 have hf:∀ {x:Bool},(¬ Vld f a b c→x=false)→(x=false→¬ Vld f a b c)→x=vld f a b c:=by
  intro x h1 h2
  unfold vld
  by_cases q:Vld f a b c
  ·rw [decide_eq_true q]; cases x with
   | true=>rfl
   | false=>exact absurd q (h2 rfl)
  ·rw [decide_eq_false q]; exact h1 q
 rw [vld_iff] at hf
 repeat (first
  | refine cdI (by omega) ?_
  | refine cs (fun q=>?_) (fun q=>hf (fun _=>rfl) (fun _=>by omega)))
 refine hf (fun q=>decide_eq_false (by omega)) (fun q=>?_)
 have q:=of_decide_eq_false q
 omega
def rValid_S (vld:Int→Int→Int→Int→Bool):Prop:=∀ (gl:Glob) (f a b c:Int),fnK Tryd.prog { glob:=gl,spec:=lk [],specH:=lk [] } { nt:=52,drop:=drp [(1,4503599627370488)] } (fun _ _=>none) 6 Tryd.f75 [.agg [.int .i64 f,.int .i64 a,.int .i64 b,.int .i64 c]] (.bool (vld f a b c))
theorem rValid_e (vld:Int→Int→Int→Int→Bool):rValid_T vld=rValid_S vld:=by kernel_rfl
theorem rValid_v:rValid_S vld:=Eq.mp (rValid_e ..) (rValid_P)
theorem rValid_ok (gl:Glob):SOK Tryd.prog gl 75 (rValid_s vld):=by
 refine ⟨fok Tryd.func75 (by kernel_rfl) (by kernel_rfl),?_⟩
 intro xs pre r h hp
 unfold rValid_s at h
 split at h
 ·simp only [Option.some.injEq,Prod.mk.injEq] at h
  obtain ⟨h1,h2⟩:=h
  subst h1 h2
  exact fnK_sound tyNil (by exact specOK rfl rfl trivial trivial) (by kernel_rfl) Tryd.func75 rfl (rValid_v gl _ _ _ _)
 ·cases h
def w64 (x:Int):Int:=IntKind.i64.wrap x
theorem w64_id {x:Int} (h:-9223372036854775808≤x∧x≤9223372036854775807):w64 x=x:=wrap_eq (k:=.i64) h
theorem fcs_cases {n:Int} (h:0≤n∧n < 20):n=0∨n=1∨n=2∨n=3∨n=4∨n=5∨n=6∨n=7∨n=8∨n=9∨n=10∨n=11∨n=12∨n=13∨n=14∨n=15∨n=16∨n=17∨n=18∨n=19:=by omega
def rCorners_s (fac:Int→Bool) (crn:Int→Nat→Int):Sp
 | [.int .i64 n]=>some (True,.tup [.agg [.int .i64 (if fac n then crn n 0 else 0),.int .i64 (if fac n then crn n 1 else 0),.int .i64 (if fac n then crn n 2 else 0)],.int .i64 (if fac n then 0 else 1)])
 | _=>none
def rCorners_T (fac:Int→Bool) (crn:Int→Nat→Int):Prop :=
  ∀ (gl:Glob) (n:Int),IR9 n→bif decide (n < (0:Int)) then (((0:Int)=if fac n=true then crn n (0:Nat) else (0:Int))∧((0:Int)=if fac n=true then crn n (1:Nat) else (0:Int))∧((0:Int)=if fac n=true then crn n (2:Nat) else (0:Int))∧True)∧((1:Int)=if fac n=true then (0:Int) else (1:Int))∧True else bif decide (20≤n) then (((0:Int)=if fac
 n=true then crn n (0:Nat) else (0:Int))∧((0:Int)=if fac n=true then crn n (1:Nat) else (0:Int))∧((0:Int)=if fac n=true then crn n (2:Nat) else (0:Int))∧True)∧((1:Int)=if fac n=true then (0:Int) else (1:Int))∧True else bif decide (rng .i64 (n.tmod (5:Int)+(1:Int))) then bif decide (rng .i64 (n.tdiv (5:Int))) then bif decide (n.tdiv (5:Int)=0) then bif decide (rng .i64 ((1:Int)+n.tmod (5:Int)))
 then bif decide (rng .i64 ((1:Int)+(n.tmod (5:Int)+(1:Int)).tmod (5:Int))) then (((0:Int)=if fac n=true then crn n (0:Nat) else (0:Int))∧((1:Int)+n.tmod (5:Int)=if fac n=true then crn n (1:Nat) else (0:Int))∧((1:Int)+(n.tmod (5:Int)+(1:Int)).tmod (5:Int)=if fac n=true then crn n (2:Nat) else (0:Int))∧True)∧((0:Int)=if fac n=true then (0:Int) else (1:Int))∧True else False else False else
 bif decide (n.tdiv (5:Int)=1) then bif decide (rng .i64 ((1:Int)+n.tmod (5:Int))) then bif decide (rng .i64 ((6:Int)+n.tmod (5:Int))) then bif decide (rng .i64 ((1:Int)+(n.tmod (5:Int)+(1:Int)).tmod (5:Int))) then (((1:Int)+n.tmod (5:Int)=if fac n=true then crn n (0:Nat) else (0:Int))∧((6:Int)+n.tmod (5:Int)=if fac n=true then crn n (1:Nat) else (0:Int))∧((1:Int)+(n.tmod (5:Int) +
 (1:Int)).tmod (5:Int)=if fac n=true then crn n (2:Nat) else (0:Int))∧True)∧((0:Int)=if fac n=true then (0:Int) else (1:Int))∧True else False else False else False else bif decide (n.tdiv (5:Int)=2) then bif decide (rng .i64 ((6:Int)+n.tmod (5:Int))) then bif decide (rng .i64 ((6:Int)+(n.tmod (5:Int)+(1:Int)).tmod (5:Int))) then bif decide (rng .i64 ((1:Int)+(n.tmod (5:Int)+(1:Int)).tmod
 (5:Int))) then (((6:Int)+n.tmod (5:Int)=if fac n=true then crn n (0:Nat) else (0:Int))∧((6:Int)+(n.tmod (5:Int)+(1:Int)).tmod (5:Int)=if fac n=true then crn n (1:Nat) else (0:Int))∧((1:Int)+(n.tmod (5:Int)+(1:Int)).tmod (5:Int)=if fac n=true then crn n (2:Nat) else (0:Int))∧True)∧((0:Int)=if fac n=true then (0:Int) else (1:Int))∧True else False else False else False else bif decide (rng
 .i64 ((6:Int)+(n.tmod (5:Int)+(1:Int)).tmod (5:Int))) then bif decide (rng .i64 ((6:Int)+n.tmod (5:Int))) then (((11:Int)=if fac n=true then crn n (0:Nat) else (0:Int))∧((6:Int)+(n.tmod (5:Int)+(1:Int)).tmod (5:Int)=if fac n=true then crn n (1:Nat) else (0:Int))∧((6:Int)+n.tmod (5:Int)=if fac n=true then crn n (2:Nat) else (0:Int))∧True)∧((0:Int)=if fac n=true then (0:Int) else
 (1:Int))∧True else False else False else False else False
theorem rCorners_P:rCorners_T fac crn:=by
 unfold rCorners_T
 intro gl n hn
 refine cs (fun h=>?_) (fun h1=>cs (fun h=>?_) (fun h2=>?_))
 ·have:fac n=false:=decide_eq_false (by omega)
  rw [this]; exact ⟨⟨rfl,rfl,rfl,trivial⟩,rfl,trivial⟩
 ·have:fac n=false:=decide_eq_false (by omega)
  rw [this]; exact ⟨⟨rfl,rfl,rfl,trivial⟩,rfl,trivial⟩
 have:fac n=true:=decide_eq_true (by omega)
 rw [this]
 rcases fcs_cases (n:=n) (by omega) with rfl | rfl | rfl | rfl | rfl | rfl | rfl | rfl | rfl | rfl | rfl | rfl | rfl | rfl | rfl | rfl | rfl | rfl | rfl | rfl
 all_goals
  repeat (first | refine cdI (by decide) ?_ | refine cd1 (by decide) ?_ | refine cd0 (by decide) ?_)
  exact ⟨⟨by decide,by decide,by decide,trivial⟩,rfl,trivial⟩
def rCorners_S (fac:Int→Bool) (crn:Int→Nat→Int):Prop:=∀ (gl:Glob) (n:Int),fnK Tryd.prog { glob:=gl,spec:=lk [],specH:=lk [],nowf:=true } { nt:=50,drop:=drp [(1,1984),(2,4096),(3,24576),(4,229376),(5,262144),(6,2097152),(7,130023424),(8,268435456),(9,68182605824),(10,137438953472),(11,34909494181888),(12,1090715534753792)] } (fun _ _=>none) 6 Tryd.f93 [.int .i64 n] (.tup [.agg [.int .i64 (if fac n then crn n 0 else 0),.int .i64 (if fac n then crn n 1 else 0),.int .i64 (if fac n then crn n 2 else 0)],.int .i64 (if fac n then 0 else 1)])
theorem rCorners_e (fac:Int→Bool) (crn:Int→Nat→Int):rCorners_T fac crn=rCorners_S fac crn:=by kernel_rfl
theorem rCorners_v:rCorners_S fac crn:=Eq.mp (rCorners_e ..) (rCorners_P)
theorem rCorners_ok (gl:Glob):SOK Tryd.prog gl 93 (rCorners_s fac crn):=by
 refine ⟨fok Tryd.func93 (by kernel_rfl) (by kernel_rfl),?_⟩
 intro xs pre r h hp
 unfold rCorners_s at h
 split at h
 ·simp only [Option.some.injEq,Prod.mk.injEq] at h
  obtain ⟨h1,h2⟩:=h
  subst h1 h2
  exact fnK_sound tyNil (by exact specOK rfl rfl trivial trivial) (by kernel_rfl) Tryd.func93 rfl (rCorners_v gl _)
 ·cases h
def rWeights20_T:Prop :=
  ∀ (gl:Glob) (a b c:Int),(((-9223372036854775808:Int)≤(0:Int)∧(0:Int)≤(9223372036854775807:Int))∧(IR9 a)∧(IR9 b)∧(IR9 c)∧True→True∧a=wt (0:Int) a b c (0:Int)∧b=wt (0:Int) a b c (1:Int)∧c=wt (0:Int) a b c (2:Int)∧(0:Int)=wt (0:Int)
 a b c (3:Int)∧(0:Int)=wt (0:Int) a b c (4:Int)∧(0:Int)=wt (0:Int) a b c (5:Int)∧(0:Int)=wt (0:Int) a b c (6:Int)∧(0:Int)=wt (0:Int) a b c (7:Int)∧(0:Int)=wt (0:Int) a b c (8:Int)∧(0:Int)=wt (0:Int) a b c (9:Int)∧(0:Int)=wt (0:Int) a b c (10:Int)∧(0:Int)=wt (0:Int) a b c (11:Int)∧True)∧(((-9223372036854775808:Int)≤(1:Int)∧(1:Int)≤(9223372036854775807:Int))∧((-9223372036854775808:Int)≤a∧a ≤
 (9223372036854775807:Int))∧(IR9 b)∧(IR9 c)∧True→True∧a=wt (1:Int) a b c (0:Int)∧(0:Int)=wt (1:Int) a b c (1:Int)∧b=wt (1:Int) a b c (2:Int)∧c=wt (1:Int) a b c (3:Int)∧(0:Int)=wt (1:Int) a b c (4:Int)∧(0:Int)=wt (1:Int) a b c (5:Int)∧(0:Int)=wt (1:Int) a b c (6:Int)∧(0:Int)=wt (1:Int) a b c
 (7:Int)∧(0:Int)=wt (1:Int) a b c (8:Int)∧(0:Int)=wt (1:Int) a b c (9:Int)∧(0:Int)=wt (1:Int) a b c (10:Int)∧(0:Int)=wt (1:Int) a b c (11:Int)∧True)∧(((-9223372036854775808:Int)≤(2:Int)∧(2:Int)≤(9223372036854775807:Int))∧(IR9 a)∧(IR9 b)∧((-9223372036854775808:Int)≤c∧c ≤
 (9223372036854775807:Int))∧True→True∧a=wt (2:Int) a b c (0:Int)∧(0:Int)=wt (2:Int) a b c (1:Int)∧(0:Int)=wt (2:Int) a b c (2:Int)∧b=wt (2:Int) a b c (3:Int)∧c=wt (2:Int) a b c (4:Int)∧(0:Int)=wt (2:Int) a b c (5:Int)∧(0:Int)=wt (2:Int) a b c (6:Int)∧(0:Int)=wt (2:Int) a b c (7:Int)∧(0:Int)=wt (2:Int) a b c (8:Int)∧(0:Int)=wt (2:Int) a b c (9:Int)∧(0:Int)=wt (2:Int) a b c (10:Int)∧(0:Int)=wt (2:Int)
 a b c (11:Int)∧True)∧(((-9223372036854775808:Int)≤(3:Int)∧(3:Int)≤(9223372036854775807:Int))∧(IR9 a)∧(IR9 b)∧(IR9 c)∧True→True∧a=wt (3:Int) a b c (0:Int)∧(0:Int)=wt (3:Int) a b c (1:Int)∧(0:Int)=wt (3:Int) a b c (2:Int)∧(0:Int)=wt
 (3:Int) a b c (3:Int)∧b=wt (3:Int) a b c (4:Int)∧c=wt (3:Int) a b c (5:Int)∧(0:Int)=wt (3:Int) a b c (6:Int)∧(0:Int)=wt (3:Int) a b c (7:Int)∧(0:Int)=wt (3:Int) a b c (8:Int)∧(0:Int)=wt (3:Int) a b c (9:Int)∧(0:Int)=wt (3:Int) a b c (10:Int)∧(0:Int)=wt (3:Int) a b c (11:Int)∧True)∧(((-9223372036854775808:Int)≤(4:Int)∧(4:Int)≤(9223372036854775807:Int))∧((-9223372036854775808:Int)≤a∧a ≤
 (9223372036854775807:Int))∧(IR9 b)∧(IR9 c)∧True→True∧a=wt (4:Int) a b c (0:Int)∧c=wt (4:Int) a b c (1:Int)∧(0:Int)=wt (4:Int) a b c (2:Int)∧(0:Int)=wt (4:Int) a b c (3:Int)∧(0:Int)=wt (4:Int) a b c (4:Int)∧b=wt (4:Int) a b c (5:Int)∧(0:Int)=wt (4:Int) a b c (6:Int)∧(0:Int)=wt (4:Int) a b c
 (7:Int)∧(0:Int)=wt (4:Int) a b c (8:Int)∧(0:Int)=wt (4:Int) a b c (9:Int)∧(0:Int)=wt (4:Int) a b c (10:Int)∧(0:Int)=wt (4:Int) a b c (11:Int)∧True)∧(((-9223372036854775808:Int)≤(5:Int)∧(5:Int)≤(9223372036854775807:Int))∧(IR9 a)∧(IR9 b)∧((-9223372036854775808:Int)≤c∧c ≤
 (9223372036854775807:Int))∧True→True∧(0:Int)=wt (5:Int) a b c (0:Int)∧a=wt (5:Int) a b c (1:Int)∧c=wt (5:Int) a b c (2:Int)∧(0:Int)=wt (5:Int) a b c (3:Int)∧(0:Int)=wt (5:Int) a b c (4:Int)∧(0:Int)=wt (5:Int) a b c (5:Int)∧b=wt (5:Int) a b c (6:Int)∧(0:Int)=wt (5:Int) a b c (7:Int)∧(0:Int)=wt (5:Int) a b c (8:Int)∧(0:Int)=wt (5:Int) a b c (9:Int)∧(0:Int)=wt (5:Int) a b c (10:Int)∧(0:Int)=wt (5:Int)
 a b c (11:Int)∧True)∧(((-9223372036854775808:Int)≤(6:Int)∧(6:Int)≤(9223372036854775807:Int))∧(IR9 a)∧(IR9 b)∧(IR9 c)∧True→True∧(0:Int)=wt (6:Int) a b c (0:Int)∧(0:Int)=wt (6:Int) a b c (1:Int)∧a=wt (6:Int) a b c (2:Int)∧c=wt (6:Int)
 a b c (3:Int)∧(0:Int)=wt (6:Int) a b c (4:Int)∧(0:Int)=wt (6:Int) a b c (5:Int)∧(0:Int)=wt (6:Int) a b c (6:Int)∧b=wt (6:Int) a b c (7:Int)∧(0:Int)=wt (6:Int) a b c (8:Int)∧(0:Int)=wt (6:Int) a b c (9:Int)∧(0:Int)=wt (6:Int) a b c (10:Int)∧(0:Int)=wt (6:Int) a b c (11:Int)∧True)∧(((-9223372036854775808:Int)≤(7:Int)∧(7:Int)≤(9223372036854775807:Int))∧((-9223372036854775808:Int)≤a∧a ≤
 (9223372036854775807:Int))∧(IR9 b)∧(IR9 c)∧True→True∧(0:Int)=wt (7:Int) a b c (0:Int)∧(0:Int)=wt (7:Int) a b c (1:Int)∧(0:Int)=wt (7:Int) a b c (2:Int)∧a=wt (7:Int) a b c (3:Int)∧c=wt (7:Int) a b c (4:Int)∧(0:Int)=wt (7:Int) a b c (5:Int)∧(0:Int)=wt (7:Int) a b c (6:Int)∧(0:Int)=wt (7:Int)
 a b c (7:Int)∧b=wt (7:Int) a b c (8:Int)∧(0:Int)=wt (7:Int) a b c (9:Int)∧(0:Int)=wt (7:Int) a b c (10:Int)∧(0:Int)=wt (7:Int) a b c (11:Int)∧True)∧(((-9223372036854775808:Int)≤(8:Int)∧(8:Int)≤(9223372036854775807:Int))∧(IR9 a)∧(IR9 b)∧((-9223372036854775808:Int)≤c∧c ≤
 (9223372036854775807:Int))∧True→True∧(0:Int)=wt (8:Int) a b c (0:Int)∧(0:Int)=wt (8:Int) a b c (1:Int)∧(0:Int)=wt (8:Int) a b c (2:Int)∧(0:Int)=wt (8:Int) a b c (3:Int)∧a=wt (8:Int) a b c (4:Int)∧c=wt (8:Int) a b c (5:Int)∧(0:Int)=wt (8:Int) a b c (6:Int)∧(0:Int)=wt (8:Int) a b c (7:Int)∧(0:Int)=wt (8:Int) a b c (8:Int)∧b=wt (8:Int) a b c (9:Int)∧(0:Int)=wt (8:Int) a b c (10:Int)∧(0:Int)=wt (8:Int)
 a b c (11:Int)∧True)∧(((-9223372036854775808:Int)≤(9:Int)∧(9:Int)≤(9223372036854775807:Int))∧(IR9 a)∧(IR9 b)∧(IR9 c)∧True→True∧(0:Int)=wt (9:Int) a b c (0:Int)∧c=wt (9:Int) a b c (1:Int)∧(0:Int)=wt (9:Int) a b c (2:Int)∧(0:Int)=wt
 (9:Int) a b c (3:Int)∧(0:Int)=wt (9:Int) a b c (4:Int)∧a=wt (9:Int) a b c (5:Int)∧(0:Int)=wt (9:Int) a b c (6:Int)∧(0:Int)=wt (9:Int) a b c (7:Int)∧(0:Int)=wt (9:Int) a b c (8:Int)∧(0:Int)=wt (9:Int) a b c (9:Int)∧b=wt (9:Int) a b c (10:Int)∧(0:Int)=wt (9:Int) a b c (11:Int)∧True)∧(((-9223372036854775808:Int)≤(10:Int)∧(10:Int)≤(9223372036854775807:Int))∧((-9223372036854775808:Int)≤a∧a ≤
 (9223372036854775807:Int))∧(IR9 b)∧(IR9 c)∧True→True∧(0:Int)=wt (10:Int) a b c (0:Int)∧(0:Int)=wt (10:Int) a b c (1:Int)∧c=wt (10:Int) a b c (2:Int)∧(0:Int)=wt (10:Int) a b c (3:Int)∧(0:Int)=wt (10:Int) a b c (4:Int)∧(0:Int)=wt (10:Int) a b c (5:Int)∧a=wt (10:Int) a b c (6:Int)∧b=wt
 (10:Int) a b c (7:Int)∧(0:Int)=wt (10:Int) a b c (8:Int)∧(0:Int)=wt (10:Int) a b c (9:Int)∧(0:Int)=wt (10:Int) a b c (10:Int)∧(0:Int)=wt (10:Int) a b c (11:Int)∧True)∧(((-9223372036854775808:Int)≤(11:Int)∧(11:Int)≤(9223372036854775807:Int))∧(IR9 a)∧(IR9 b)∧((-9223372036854775808:Int) ≤
 c∧c≤(9223372036854775807:Int))∧True→True∧(0:Int)=wt (11:Int) a b c (0:Int)∧(0:Int)=wt (11:Int) a b c (1:Int)∧(0:Int)=wt (11:Int) a b c (2:Int)∧c=wt (11:Int) a b c (3:Int)∧(0:Int)=wt (11:Int) a b c (4:Int)∧(0:Int)=wt (11:Int) a b c (5:Int)∧(0:Int)=wt (11:Int) a b c (6:Int)∧a=wt (11:Int) a b c (7:Int)∧b=wt (11:Int) a b c (8:Int)∧(0:Int)=wt (11:Int) a b c (9:Int)∧(0:Int)=wt (11:Int) a b c
 (10:Int)∧(0:Int)=wt (11:Int) a b c (11:Int)∧True)∧(((-9223372036854775808:Int)≤(12:Int)∧(12:Int)≤(9223372036854775807:Int))∧(IR9 a)∧(IR9 b)∧(IR9 c)∧True→True∧(0:Int)=wt (12:Int) a b c (0:Int)∧(0:Int)=wt (12:Int) a b c
 (1:Int)∧(0:Int)=wt (12:Int) a b c (2:Int)∧(0:Int)=wt (12:Int) a b c (3:Int)∧c=wt (12:Int) a b c (4:Int)∧(0:Int)=wt (12:Int) a b c (5:Int)∧(0:Int)=wt (12:Int) a b c (6:Int)∧(0:Int)=wt (12:Int) a b c (7:Int)∧a=wt (12:Int) a b c (8:Int)∧b=wt (12:Int) a b c (9:Int)∧(0:Int)=wt (12:Int) a b c (10:Int)∧(0:Int)=wt (12:Int) a b c (11:Int)∧True)∧(((-9223372036854775808:Int)≤(13:Int)∧(13:Int) ≤
 (9223372036854775807:Int))∧(IR9 a)∧(IR9 b)∧(IR9 c)∧True→True∧(0:Int)=wt (13:Int) a b c (0:Int)∧(0:Int)=wt (13:Int) a b c (1:Int)∧(0:Int)=wt (13:Int) a b c (2:Int)∧(0:Int)=wt (13:Int) a b c (3:Int)∧(0:Int)=wt (13:Int) a b c (4:Int)∧c=wt
 (13:Int) a b c (5:Int)∧(0:Int)=wt (13:Int) a b c (6:Int)∧(0:Int)=wt (13:Int) a b c (7:Int)∧(0:Int)=wt (13:Int) a b c (8:Int)∧a=wt (13:Int) a b c (9:Int)∧b=wt (13:Int) a b c (10:Int)∧(0:Int)=wt (13:Int) a b c (11:Int)∧True)∧(((-9223372036854775808:Int)≤(14:Int)∧(14:Int)≤(9223372036854775807:Int))∧(IR9 a)∧((-9223372036854775808:Int)≤b∧b ≤
 (9223372036854775807:Int))∧(IR9 c)∧True→True∧(0:Int)=wt (14:Int) a b c (0:Int)∧c=wt (14:Int) a b c (1:Int)∧(0:Int)=wt (14:Int) a b c (2:Int)∧(0:Int)=wt (14:Int) a b c (3:Int)∧(0:Int)=wt (14:Int) a b c (4:Int)∧(0:Int)=wt (14:Int) a b c (5:Int)∧b=wt (14:Int) a b c (6:Int)∧(0:Int)=wt (14:Int) a b c (7:Int)∧(0:Int)=wt (14:Int) a b c
 (8:Int)∧(0:Int)=wt (14:Int) a b c (9:Int)∧a=wt (14:Int) a b c (10:Int)∧(0:Int)=wt (14:Int) a b c (11:Int)∧True)∧(((-9223372036854775808:Int)≤(15:Int)∧(15:Int)≤(9223372036854775807:Int))∧(IR9 a)∧(IR9 b)∧(IR9 c)∧True→True∧(0:Int)=wt
 (15:Int) a b c (0:Int)∧(0:Int)=wt (15:Int) a b c (1:Int)∧(0:Int)=wt (15:Int) a b c (2:Int)∧(0:Int)=wt (15:Int) a b c (3:Int)∧(0:Int)=wt (15:Int) a b c (4:Int)∧(0:Int)=wt (15:Int) a b c (5:Int)∧c=wt (15:Int) a b c (6:Int)∧b=wt (15:Int) a b c (7:Int)∧(0:Int)=wt (15:Int) a b c (8:Int)∧(0:Int)=wt (15:Int) a b c (9:Int)∧(0:Int)=wt (15:Int) a b c (10:Int)∧a=wt (15:Int) a b c
 (11:Int)∧True)∧(((-9223372036854775808:Int)≤(16:Int)∧(16:Int)≤(9223372036854775807:Int))∧(IR9 a)∧(IR9 b)∧(IR9 c)∧True→True∧(0:Int)=wt (16:Int) a b c (0:Int)∧(0:Int)=wt (16:Int) a b c (1:Int)∧(0:Int)=wt (16:Int) a b c
 (2:Int)∧(0:Int)=wt (16:Int) a b c (3:Int)∧(0:Int)=wt (16:Int) a b c (4:Int)∧(0:Int)=wt (16:Int) a b c (5:Int)∧(0:Int)=wt (16:Int) a b c (6:Int)∧c=wt (16:Int) a b c (7:Int)∧b=wt (16:Int) a b c (8:Int)∧(0:Int)=wt (16:Int) a b c (9:Int)∧(0:Int)=wt (16:Int) a b c (10:Int)∧a=wt (16:Int) a b c (11:Int)∧True)∧(((-9223372036854775808:Int)≤(17:Int)∧(17:Int) ≤
 (9223372036854775807:Int))∧(IR9 a)∧(IR9 b)∧(IR9 c)∧True→True∧(0:Int)=wt (17:Int) a b c (0:Int)∧(0:Int)=wt (17:Int) a b c (1:Int)∧(0:Int)=wt (17:Int) a b c (2:Int)∧(0:Int)=wt (17:Int) a b c (3:Int)∧(0:Int)=wt (17:Int) a b c
 (4:Int)∧(0:Int)=wt (17:Int) a b c (5:Int)∧(0:Int)=wt (17:Int) a b c (6:Int)∧(0:Int)=wt (17:Int) a b c (7:Int)∧c=wt (17:Int) a b c (8:Int)∧b=wt (17:Int) a b c (9:Int)∧(0:Int)=wt (17:Int) a b c (10:Int)∧a=wt (17:Int) a b c (11:Int)∧True)∧(((-9223372036854775808:Int)≤(18:Int)∧(18:Int)≤(9223372036854775807:Int))∧((-9223372036854775808:Int)≤a∧a ≤
 (9223372036854775807:Int))∧(IR9 b)∧(IR9 c)∧True→True∧(0:Int)=wt (18:Int) a b c (0:Int)∧(0:Int)=wt (18:Int) a b c (1:Int)∧(0:Int)=wt (18:Int) a b c (2:Int)∧(0:Int)=wt (18:Int) a b c (3:Int)∧(0:Int)=wt (18:Int) a b c (4:Int)∧(0:Int)=wt (18:Int) a b c (5:Int)∧(0:Int)=wt (18:Int) a b c
 (6:Int)∧(0:Int)=wt (18:Int) a b c (7:Int)∧(0:Int)=wt (18:Int) a b c (8:Int)∧c=wt (18:Int) a b c (9:Int)∧b=wt (18:Int) a b c (10:Int)∧a=wt (18:Int) a b c (11:Int)∧True)∧(((-9223372036854775808:Int)≤(19:Int)∧(19:Int)≤(9223372036854775807:Int))∧(IR9 a)∧(IR9 b)∧((-9223372036854775808:Int) ≤
 c∧c≤(9223372036854775807:Int))∧True→True∧(0:Int)=wt (19:Int) a b c (0:Int)∧(0:Int)=wt (19:Int) a b c (1:Int)∧(0:Int)=wt (19:Int) a b c (2:Int)∧(0:Int)=wt (19:Int) a b c (3:Int)∧(0:Int)=wt (19:Int) a b c (4:Int)∧(0:Int)=wt (19:Int) a b c (5:Int)∧b=wt (19:Int) a b c (6:Int)∧(0:Int)=wt (19:Int) a b c (7:Int)∧(0:Int)=wt (19:Int) a b c (8:Int)∧(0:Int)=wt (19:Int) a b c (9:Int)∧c=wt (19:Int) a b c
 (10:Int)∧a=wt (19:Int) a b c (11:Int)∧True)∧True
theorem rWeights20_P:rWeights20_T:=by
 unfold rWeights20_T
 intro gl a b c
 repeat' (first | exact trivial | intro _ | rfl | apply And.intro)
def rWeights20_S:Prop:=∀ (gl:Glob) (a b c:Int),allN fcs fun f=>fnK Tryd.prog { glob:=gl,spec:=lk [(93,rCorners_s fac crn)],nowf:=true } { nt:=28 } (fun _ _=>none) 6 Tryd.f76 [.agg [.int .i64 f,.int .i64 a,.int .i64 b,.int .i64 c]] (.agg [.int .i64 (wt f a b c 0),.int .i64 (wt f a b c 1),.int .i64 (wt f a b c 2),.int .i64 (wt f a b c 3),.int .i64 (wt f a b c 4),.int .i64 (wt f a b c 5),.int .i64 (wt f a b c 6),.int .i64 (wt f a b c 7),.int .i64 (wt f a b c 8),.int .i64 (wt f a b c 9),.int .i64 (wt f a b c 10),.int .i64 (wt f a b c 11)])
theorem rWeights20_e:rWeights20_T=rWeights20_S:=by kernel_rfl
theorem rWeights20:rWeights20_S:=@Eq.mp (rWeights20_T) (rWeights20_S) (rWeights20_e) (rWeights20_P)
def rOn20_T:Prop :=
  ∀ (gl:Glob) (w0 w1 w2 w3 w4 w5 w6 w7 w8 w9 w10 w11:Int),((-9223372036854775808:Int)≤(0:Int)∧(0:Int)≤(9223372036854775807:Int)→(IR9 w0)∧(IR9 w1)∧(IR9 w2)∧((-9223372036854775808:Int)≤w3∧w3 ≤
 (9223372036854775807:Int))∧(IR9 w4)∧(IR9 w5)∧(IR9 w6)∧(IR9 w7)∧(IR9 w8)∧((-9223372036854775808:Int)≤w9∧w9 ≤
 (9223372036854775807:Int))∧(IR9 w10)∧(IR9 w11)∧True→True∧((0:Int)=0∧w0=sel [w0,w1,w2,w3,w4,w5,w6,w7,w8,w9,w10,w11] (0:Int)∧w1=sel [w0,w1,w2,w3,w4,w5,w6,w7,w8,w9,w10,w11] (1:Int)∧w2=sel [w0,w1,w2,w3,w4,w5,w6,w7,w8,w9,w10,w11] (2:Int)∧True)∧decide (IntKind.i64.wrap (IntKind.i64.wrap (w0 +
 w1)+w2)=(840:Int))=decide (w64 (w64 (sel [w0,w1,w2,w3,w4,w5,w6,w7,w8,w9,w10,w11] (0:Int)+sel [w0,w1,w2,w3,w4,w5,w6,w7,w8,w9,w10,w11] (1:Int))+sel [w0,w1,w2,w3,w4,w5,w6,w7,w8,w9,w10,w11] (2:Int))=(840:Int))∧True)∧((-9223372036854775808:Int)≤(1:Int)∧(1:Int)≤(9223372036854775807:Int)→(IR9 w0)∧((-9223372036854775808:Int)≤w1∧w1 ≤
 (9223372036854775807:Int))∧(IR9 w2)∧(IR9 w3)∧(IR9 w4)∧(IR9 w5)∧(IR9 w6)∧((-9223372036854775808:Int)≤w7∧w7 ≤
 (9223372036854775807:Int))∧(IR9 w8)∧(IR9 w9)∧(IR9 w10)∧(IR9 w11)∧True→True∧((1:Int)=1∧w0=sel [w0,w1,w2,w3,w4,w5,w6,w7,w8,w9,w10,w11] (0:Int)∧w2=sel
 [w0,w1,w2,w3,w4,w5,w6,w7,w8,w9,w10,w11] (2:Int)∧w3=sel [w0,w1,w2,w3,w4,w5,w6,w7,w8,w9,w10,w11] (3:Int)∧True)∧decide (IntKind.i64.wrap (IntKind.i64.wrap (w0+w2)+w3)=(840:Int))=decide (w64 (w64 (sel [w0,w1,w2,w3,w4,w5,w6,w7,w8,w9,w10,w11] (0:Int)+sel [w0,w1,w2,w3,w4,w5,w6,w7,w8,w9,w10,w11] (2:Int))+sel [w0,w1,w2,w3,w4,w5,w6,w7,w8,w9,w10,w11]
 (3:Int))=(840:Int))∧True)∧((-9223372036854775808:Int)≤(2:Int)∧(2:Int)≤(9223372036854775807:Int)→(IR9 w0)∧(IR9 w1)∧(IR9 w2)∧(IR9 w3)∧((-9223372036854775808:Int)≤w4∧w4 ≤
 (9223372036854775807:Int))∧(IR9 w5)∧(IR9 w6)∧(IR9 w7)∧(IR9 w8)∧(IR9 w9)∧((-9223372036854775808:Int)≤w10∧w10 ≤
 (9223372036854775807:Int))∧(IR9 w11)∧True→True∧((2:Int)=2∧w0=sel [w0,w1,w2,w3,w4,w5,w6,w7,w8,w9,w10,w11] (0:Int)∧w3=sel [w0,w1,w2,w3,w4,w5,w6,w7,w8,w9,w10,w11] (3:Int)∧w4=sel [w0,w1,w2,w3,w4,w5,w6,w7,w8,w9,w10,w11] (4:Int)∧True)∧decide (IntKind.i64.wrap (IntKind.i64.wrap (w0+w3)+w4)=(840:Int))=decide (w64 (w64 (sel
 [w0,w1,w2,w3,w4,w5,w6,w7,w8,w9,w10,w11] (0:Int)+sel [w0,w1,w2,w3,w4,w5,w6,w7,w8,w9,w10,w11] (3:Int))+sel [w0,w1,w2,w3,w4,w5,w6,w7,w8,w9,w10,w11] (4:Int))=(840:Int))∧True)∧((-9223372036854775808:Int)≤(3:Int)∧(3:Int)≤(9223372036854775807:Int)→(IR9 w0)∧((-9223372036854775808:Int)≤w1∧w1 ≤
 (9223372036854775807:Int))∧(IR9 w2)∧(IR9 w3)∧(IR9 w4)∧(IR9 w5)∧(IR9 w6)∧((-9223372036854775808:Int)≤w7∧w7 ≤
 (9223372036854775807:Int))∧(IR9 w8)∧(IR9 w9)∧(IR9 w10)∧(IR9 w11)∧True→True∧((3:Int)=3∧w0=sel [w0,w1,w2,w3,w4,w5,w6,w7,w8,w9,w10,w11] (0:Int)∧w4=sel
 [w0,w1,w2,w3,w4,w5,w6,w7,w8,w9,w10,w11] (4:Int)∧w5=sel [w0,w1,w2,w3,w4,w5,w6,w7,w8,w9,w10,w11] (5:Int)∧True)∧decide (IntKind.i64.wrap (IntKind.i64.wrap (w0+w4)+w5)=(840:Int))=decide (w64 (w64 (sel [w0,w1,w2,w3,w4,w5,w6,w7,w8,w9,w10,w11] (0:Int)+sel [w0,w1,w2,w3,w4,w5,w6,w7,w8,w9,w10,w11] (4:Int))+sel [w0,w1,w2,w3,w4,w5,w6,w7,w8,w9,w10,w11]
 (5:Int))=(840:Int))∧True)∧((-9223372036854775808:Int)≤(4:Int)∧(4:Int)≤(9223372036854775807:Int)→(IR9 w0)∧(IR9 w1)∧(IR9 w2)∧(IR9 w3)∧((-9223372036854775808:Int)≤w4∧w4 ≤
 (9223372036854775807:Int))∧(IR9 w5)∧(IR9 w6)∧(IR9 w7)∧(IR9 w8)∧(IR9 w9)∧((-9223372036854775808:Int)≤w10∧w10 ≤
 (9223372036854775807:Int))∧(IR9 w11)∧True→True∧((4:Int)=4∧w0=sel [w0,w1,w2,w3,w4,w5,w6,w7,w8,w9,w10,w11] (0:Int)∧w5=sel [w0,w1,w2,w3,w4,w5,w6,w7,w8,w9,w10,w11] (5:Int)∧w1=sel [w0,w1,w2,w3,w4,w5,w6,w7,w8,w9,w10,w11] (1:Int)∧True)∧decide (IntKind.i64.wrap (IntKind.i64.wrap (w0+w5)+w1)=(840:Int))=decide (w64 (w64 (sel
 [w0,w1,w2,w3,w4,w5,w6,w7,w8,w9,w10,w11] (0:Int)+sel [w0,w1,w2,w3,w4,w5,w6,w7,w8,w9,w10,w11] (5:Int))+sel [w0,w1,w2,w3,w4,w5,w6,w7,w8,w9,w10,w11] (1:Int))=(840:Int))∧True)∧((-9223372036854775808:Int)≤(5:Int)∧(5:Int)≤(9223372036854775807:Int)→(IR9 w0)∧((-9223372036854775808:Int)≤w1∧w1 ≤
 (9223372036854775807:Int))∧(IR9 w2)∧(IR9 w3)∧(IR9 w4)∧(IR9 w5)∧(IR9 w6)∧((-9223372036854775808:Int)≤w7∧w7 ≤
 (9223372036854775807:Int))∧(IR9 w8)∧(IR9 w9)∧(IR9 w10)∧(IR9 w11)∧True→True∧((5:Int)=5∧w1=sel [w0,w1,w2,w3,w4,w5,w6,w7,w8,w9,w10,w11] (1:Int)∧w6=sel
 [w0,w1,w2,w3,w4,w5,w6,w7,w8,w9,w10,w11] (6:Int)∧w2=sel [w0,w1,w2,w3,w4,w5,w6,w7,w8,w9,w10,w11] (2:Int)∧True)∧decide (IntKind.i64.wrap (IntKind.i64.wrap (w1+w6)+w2)=(840:Int))=decide (w64 (w64 (sel [w0,w1,w2,w3,w4,w5,w6,w7,w8,w9,w10,w11] (1:Int)+sel [w0,w1,w2,w3,w4,w5,w6,w7,w8,w9,w10,w11] (6:Int))+sel [w0,w1,w2,w3,w4,w5,w6,w7,w8,w9,w10,w11]
 (2:Int))=(840:Int))∧True)∧((-9223372036854775808:Int)≤(6:Int)∧(6:Int)≤(9223372036854775807:Int)→(IR9 w0)∧(IR9 w1)∧(IR9 w2)∧(IR9 w3)∧((-9223372036854775808:Int)≤w4∧w4 ≤
 (9223372036854775807:Int))∧(IR9 w5)∧(IR9 w6)∧(IR9 w7)∧(IR9 w8)∧(IR9 w9)∧((-9223372036854775808:Int)≤w10∧w10 ≤
 (9223372036854775807:Int))∧(IR9 w11)∧True→True∧((6:Int)=6∧w2=sel [w0,w1,w2,w3,w4,w5,w6,w7,w8,w9,w10,w11] (2:Int)∧w7=sel [w0,w1,w2,w3,w4,w5,w6,w7,w8,w9,w10,w11] (7:Int)∧w3=sel [w0,w1,w2,w3,w4,w5,w6,w7,w8,w9,w10,w11] (3:Int)∧True)∧decide (IntKind.i64.wrap (IntKind.i64.wrap (w2+w7)+w3)=(840:Int))=decide (w64 (w64 (sel
 [w0,w1,w2,w3,w4,w5,w6,w7,w8,w9,w10,w11] (2:Int)+sel [w0,w1,w2,w3,w4,w5,w6,w7,w8,w9,w10,w11] (7:Int))+sel [w0,w1,w2,w3,w4,w5,w6,w7,w8,w9,w10,w11] (3:Int))=(840:Int))∧True)∧((-9223372036854775808:Int)≤(7:Int)∧(7:Int)≤(9223372036854775807:Int)→(IR9 w0)∧((-9223372036854775808:Int)≤w1∧w1 ≤
 (9223372036854775807:Int))∧(IR9 w2)∧(IR9 w3)∧(IR9 w4)∧(IR9 w5)∧(IR9 w6)∧((-9223372036854775808:Int)≤w7∧w7 ≤
 (9223372036854775807:Int))∧(IR9 w8)∧(IR9 w9)∧(IR9 w10)∧(IR9 w11)∧True→True∧((7:Int)=7∧w3=sel [w0,w1,w2,w3,w4,w5,w6,w7,w8,w9,w10,w11] (3:Int)∧w8=sel
 [w0,w1,w2,w3,w4,w5,w6,w7,w8,w9,w10,w11] (8:Int)∧w4=sel [w0,w1,w2,w3,w4,w5,w6,w7,w8,w9,w10,w11] (4:Int)∧True)∧decide (IntKind.i64.wrap (IntKind.i64.wrap (w3+w8)+w4)=(840:Int))=decide (w64 (w64 (sel [w0,w1,w2,w3,w4,w5,w6,w7,w8,w9,w10,w11] (3:Int)+sel [w0,w1,w2,w3,w4,w5,w6,w7,w8,w9,w10,w11] (8:Int))+sel [w0,w1,w2,w3,w4,w5,w6,w7,w8,w9,w10,w11]
 (4:Int))=(840:Int))∧True)∧((-9223372036854775808:Int)≤(8:Int)∧(8:Int)≤(9223372036854775807:Int)→(IR9 w0)∧(IR9 w1)∧(IR9 w2)∧(IR9 w3)∧((-9223372036854775808:Int)≤w4∧w4 ≤
 (9223372036854775807:Int))∧(IR9 w5)∧(IR9 w6)∧(IR9 w7)∧(IR9 w8)∧(IR9 w9)∧((-9223372036854775808:Int)≤w10∧w10 ≤
 (9223372036854775807:Int))∧(IR9 w11)∧True→True∧((8:Int)=8∧w4=sel [w0,w1,w2,w3,w4,w5,w6,w7,w8,w9,w10,w11] (4:Int)∧w9=sel [w0,w1,w2,w3,w4,w5,w6,w7,w8,w9,w10,w11] (9:Int)∧w5=sel [w0,w1,w2,w3,w4,w5,w6,w7,w8,w9,w10,w11] (5:Int)∧True)∧decide (IntKind.i64.wrap (IntKind.i64.wrap (w4+w9)+w5)=(840:Int))=decide (w64 (w64 (sel
 [w0,w1,w2,w3,w4,w5,w6,w7,w8,w9,w10,w11] (4:Int)+sel [w0,w1,w2,w3,w4,w5,w6,w7,w8,w9,w10,w11] (9:Int))+sel [w0,w1,w2,w3,w4,w5,w6,w7,w8,w9,w10,w11] (5:Int))=(840:Int))∧True)∧((-9223372036854775808:Int)≤(9:Int)∧(9:Int)≤(9223372036854775807:Int)→(IR9 w0)∧((-9223372036854775808:Int)≤w1∧w1 ≤
 (9223372036854775807:Int))∧(IR9 w2)∧(IR9 w3)∧(IR9 w4)∧(IR9 w5)∧(IR9 w6)∧((-9223372036854775808:Int)≤w7∧w7 ≤
 (9223372036854775807:Int))∧(IR9 w8)∧(IR9 w9)∧(IR9 w10)∧(IR9 w11)∧True→True∧((9:Int)=9∧w5=sel [w0,w1,w2,w3,w4,w5,w6,w7,w8,w9,w10,w11] (5:Int)∧w10=sel
 [w0,w1,w2,w3,w4,w5,w6,w7,w8,w9,w10,w11] (10:Int)∧w1=sel [w0,w1,w2,w3,w4,w5,w6,w7,w8,w9,w10,w11] (1:Int)∧True)∧decide (IntKind.i64.wrap (IntKind.i64.wrap (w5+w10)+w1)=(840:Int))=decide (w64 (w64 (sel [w0,w1,w2,w3,w4,w5,w6,w7,w8,w9,w10,w11] (5:Int)+sel [w0,w1,w2,w3,w4,w5,w6,w7,w8,w9,w10,w11] (10:Int))+sel [w0,w1,w2,w3,w4,w5,w6,w7,w8,w9,w10,w11]
 (1:Int))=(840:Int))∧True)∧((-9223372036854775808:Int)≤(10:Int)∧(10:Int)≤(9223372036854775807:Int)→(IR9 w0)∧(IR9 w1)∧(IR9 w2)∧(IR9 w3)∧((-9223372036854775808:Int)≤w4∧w4 ≤
 (9223372036854775807:Int))∧(IR9 w5)∧(IR9 w6)∧(IR9 w7)∧(IR9 w8)∧(IR9 w9)∧((-9223372036854775808:Int)≤w10∧w10 ≤
 (9223372036854775807:Int))∧(IR9 w11)∧True→True∧((10:Int)=10∧w6=sel [w0,w1,w2,w3,w4,w5,w6,w7,w8,w9,w10,w11] (6:Int)∧w7=sel [w0,w1,w2,w3,w4,w5,w6,w7,w8,w9,w10,w11] (7:Int)∧w2=sel [w0,w1,w2,w3,w4,w5,w6,w7,w8,w9,w10,w11] (2:Int)∧True)∧decide (IntKind.i64.wrap (IntKind.i64.wrap (w6+w7)+w2)=(840:Int))=decide (w64 (w64 (sel
 [w0,w1,w2,w3,w4,w5,w6,w7,w8,w9,w10,w11] (6:Int)+sel [w0,w1,w2,w3,w4,w5,w6,w7,w8,w9,w10,w11] (7:Int))+sel [w0,w1,w2,w3,w4,w5,w6,w7,w8,w9,w10,w11] (2:Int))=(840:Int))∧True)∧((-9223372036854775808:Int)≤(11:Int)∧(11:Int)≤(9223372036854775807:Int)→(IR9 w0)∧((-9223372036854775808:Int)≤w1∧w1 ≤
 (9223372036854775807:Int))∧(IR9 w2)∧(IR9 w3)∧(IR9 w4)∧(IR9 w5)∧(IR9 w6)∧((-9223372036854775808:Int)≤w7∧w7 ≤
 (9223372036854775807:Int))∧(IR9 w8)∧(IR9 w9)∧(IR9 w10)∧(IR9 w11)∧True→True∧((11:Int)=11∧w7=sel [w0,w1,w2,w3,w4,w5,w6,w7,w8,w9,w10,w11] (7:Int)∧w8=sel
 [w0,w1,w2,w3,w4,w5,w6,w7,w8,w9,w10,w11] (8:Int)∧w3=sel [w0,w1,w2,w3,w4,w5,w6,w7,w8,w9,w10,w11] (3:Int)∧True)∧decide (IntKind.i64.wrap (IntKind.i64.wrap (w7+w8)+w3)=(840:Int))=decide (w64 (w64 (sel [w0,w1,w2,w3,w4,w5,w6,w7,w8,w9,w10,w11] (7:Int)+sel [w0,w1,w2,w3,w4,w5,w6,w7,w8,w9,w10,w11] (8:Int))+sel [w0,w1,w2,w3,w4,w5,w6,w7,w8,w9,w10,w11]
 (3:Int))=(840:Int))∧True)∧((-9223372036854775808:Int)≤(12:Int)∧(12:Int)≤(9223372036854775807:Int)→(IR9 w0)∧(IR9 w1)∧(IR9 w2)∧(IR9 w3)∧((-9223372036854775808:Int)≤w4∧w4 ≤
 (9223372036854775807:Int))∧(IR9 w5)∧(IR9 w6)∧(IR9 w7)∧(IR9 w8)∧(IR9 w9)∧((-9223372036854775808:Int)≤w10∧w10 ≤
 (9223372036854775807:Int))∧(IR9 w11)∧True→True∧((12:Int)=12∧w8=sel [w0,w1,w2,w3,w4,w5,w6,w7,w8,w9,w10,w11] (8:Int)∧w9=sel [w0,w1,w2,w3,w4,w5,w6,w7,w8,w9,w10,w11] (9:Int)∧w4=sel [w0,w1,w2,w3,w4,w5,w6,w7,w8,w9,w10,w11] (4:Int)∧True)∧decide (IntKind.i64.wrap (IntKind.i64.wrap (w8+w9)+w4)=(840:Int))=decide (w64 (w64 (sel
 [w0,w1,w2,w3,w4,w5,w6,w7,w8,w9,w10,w11] (8:Int)+sel [w0,w1,w2,w3,w4,w5,w6,w7,w8,w9,w10,w11] (9:Int))+sel [w0,w1,w2,w3,w4,w5,w6,w7,w8,w9,w10,w11] (4:Int))=(840:Int))∧True)∧((-9223372036854775808:Int)≤(13:Int)∧(13:Int)≤(9223372036854775807:Int)→(IR9 w0)∧((-9223372036854775808:Int)≤w1∧w1 ≤
 (9223372036854775807:Int))∧(IR9 w2)∧(IR9 w3)∧(IR9 w4)∧(IR9 w5)∧(IR9 w6)∧((-9223372036854775808:Int)≤w7∧w7 ≤
 (9223372036854775807:Int))∧(IR9 w8)∧(IR9 w9)∧(IR9 w10)∧(IR9 w11)∧True→True∧((13:Int)=13∧w9=sel [w0,w1,w2,w3,w4,w5,w6,w7,w8,w9,w10,w11] (9:Int)∧w10=sel
 [w0,w1,w2,w3,w4,w5,w6,w7,w8,w9,w10,w11] (10:Int)∧w5=sel [w0,w1,w2,w3,w4,w5,w6,w7,w8,w9,w10,w11] (5:Int)∧True)∧decide (IntKind.i64.wrap (IntKind.i64.wrap (w9+w10)+w5)=(840:Int))=decide (w64 (w64 (sel [w0,w1,w2,w3,w4,w5,w6,w7,w8,w9,w10,w11] (9:Int)+sel [w0,w1,w2,w3,w4,w5,w6,w7,w8,w9,w10,w11] (10:Int))+sel [w0,w1,w2,w3,w4,w5,w6,w7,w8,w9,w10,w11]
 (5:Int))=(840:Int))∧True)∧((-9223372036854775808:Int)≤(14:Int)∧(14:Int)≤(9223372036854775807:Int)→(IR9 w0)∧(IR9 w1)∧(IR9 w2)∧(IR9 w3)∧((-9223372036854775808:Int)≤w4∧w4 ≤
 (9223372036854775807:Int))∧(IR9 w5)∧(IR9 w6)∧(IR9 w7)∧(IR9 w8)∧(IR9 w9)∧((-9223372036854775808:Int)≤w10∧w10 ≤
 (9223372036854775807:Int))∧(IR9 w11)∧True→True∧((14:Int)=14∧w10=sel [w0,w1,w2,w3,w4,w5,w6,w7,w8,w9,w10,w11] (10:Int)∧w6=sel [w0,w1,w2,w3,w4,w5,w6,w7,w8,w9,w10,w11] (6:Int)∧w1=sel [w0,w1,w2,w3,w4,w5,w6,w7,w8,w9,w10,w11] (1:Int)∧True)∧decide (IntKind.i64.wrap (IntKind.i64.wrap (w10+w6)+w1)=(840:Int))=decide (w64 (w64 (sel
 [w0,w1,w2,w3,w4,w5,w6,w7,w8,w9,w10,w11] (10:Int)+sel [w0,w1,w2,w3,w4,w5,w6,w7,w8,w9,w10,w11] (6:Int))+sel [w0,w1,w2,w3,w4,w5,w6,w7,w8,w9,w10,w11] (1:Int))=(840:Int))∧True)∧((-9223372036854775808:Int)≤(15:Int)∧(15:Int)≤(9223372036854775807:Int)→(IR9 w0)∧((-9223372036854775808:Int)≤w1∧w1 ≤
 (9223372036854775807:Int))∧(IR9 w2)∧(IR9 w3)∧(IR9 w4)∧(IR9 w5)∧(IR9 w6)∧((-9223372036854775808:Int)≤w7∧w7 ≤
 (9223372036854775807:Int))∧(IR9 w8)∧(IR9 w9)∧(IR9 w10)∧(IR9 w11)∧True→True∧((15:Int)=15∧w11=sel [w0,w1,w2,w3,w4,w5,w6,w7,w8,w9,w10,w11] (11:Int)∧w7=sel
 [w0,w1,w2,w3,w4,w5,w6,w7,w8,w9,w10,w11] (7:Int)∧w6=sel [w0,w1,w2,w3,w4,w5,w6,w7,w8,w9,w10,w11] (6:Int)∧True)∧decide (IntKind.i64.wrap (IntKind.i64.wrap (w11+w7)+w6)=(840:Int))=decide (w64 (w64 (sel [w0,w1,w2,w3,w4,w5,w6,w7,w8,w9,w10,w11] (11:Int)+sel [w0,w1,w2,w3,w4,w5,w6,w7,w8,w9,w10,w11] (7:Int))+sel [w0,w1,w2,w3,w4,w5,w6,w7,w8,w9,w10,w11]
 (6:Int))=(840:Int))∧True)∧((-9223372036854775808:Int)≤(16:Int)∧(16:Int)≤(9223372036854775807:Int)→(IR9 w0)∧(IR9 w1)∧(IR9 w2)∧(IR9 w3)∧((-9223372036854775808:Int)≤w4∧w4 ≤
 (9223372036854775807:Int))∧(IR9 w5)∧(IR9 w6)∧(IR9 w7)∧(IR9 w8)∧(IR9 w9)∧((-9223372036854775808:Int)≤w10∧w10 ≤
 (9223372036854775807:Int))∧(IR9 w11)∧True→True∧((16:Int)=16∧w11=sel [w0,w1,w2,w3,w4,w5,w6,w7,w8,w9,w10,w11] (11:Int)∧w8=sel [w0,w1,w2,w3,w4,w5,w6,w7,w8,w9,w10,w11] (8:Int)∧w7=sel [w0,w1,w2,w3,w4,w5,w6,w7,w8,w9,w10,w11] (7:Int)∧True)∧decide (IntKind.i64.wrap (IntKind.i64.wrap (w11+w8)+w7)=(840:Int))=decide (w64 (w64 (sel
 [w0,w1,w2,w3,w4,w5,w6,w7,w8,w9,w10,w11] (11:Int)+sel [w0,w1,w2,w3,w4,w5,w6,w7,w8,w9,w10,w11] (8:Int))+sel [w0,w1,w2,w3,w4,w5,w6,w7,w8,w9,w10,w11] (7:Int))=(840:Int))∧True)∧((-9223372036854775808:Int)≤(17:Int)∧(17:Int)≤(9223372036854775807:Int)→(IR9 w0)∧((-9223372036854775808:Int)≤w1∧w1 ≤
 (9223372036854775807:Int))∧(IR9 w2)∧(IR9 w3)∧(IR9 w4)∧(IR9 w5)∧(IR9 w6)∧((-9223372036854775808:Int)≤w7∧w7 ≤
 (9223372036854775807:Int))∧(IR9 w8)∧(IR9 w9)∧(IR9 w10)∧(IR9 w11)∧True→True∧((17:Int)=17∧w11=sel [w0,w1,w2,w3,w4,w5,w6,w7,w8,w9,w10,w11] (11:Int)∧w9=sel
 [w0,w1,w2,w3,w4,w5,w6,w7,w8,w9,w10,w11] (9:Int)∧w8=sel [w0,w1,w2,w3,w4,w5,w6,w7,w8,w9,w10,w11] (8:Int)∧True)∧decide (IntKind.i64.wrap (IntKind.i64.wrap (w11+w9)+w8)=(840:Int))=decide (w64 (w64 (sel [w0,w1,w2,w3,w4,w5,w6,w7,w8,w9,w10,w11] (11:Int)+sel [w0,w1,w2,w3,w4,w5,w6,w7,w8,w9,w10,w11] (9:Int))+sel [w0,w1,w2,w3,w4,w5,w6,w7,w8,w9,w10,w11]
 (8:Int))=(840:Int))∧True)∧((-9223372036854775808:Int)≤(18:Int)∧(18:Int)≤(9223372036854775807:Int)→(IR9 w0)∧(IR9 w1)∧(IR9 w2)∧(IR9 w3)∧((-9223372036854775808:Int)≤w4∧w4 ≤
 (9223372036854775807:Int))∧(IR9 w5)∧(IR9 w6)∧(IR9 w7)∧(IR9 w8)∧(IR9 w9)∧((-9223372036854775808:Int)≤w10∧w10 ≤
 (9223372036854775807:Int))∧(IR9 w11)∧True→True∧((18:Int)=18∧w11=sel [w0,w1,w2,w3,w4,w5,w6,w7,w8,w9,w10,w11] (11:Int)∧w10=sel [w0,w1,w2,w3,w4,w5,w6,w7,w8,w9,w10,w11] (10:Int)∧w9=sel [w0,w1,w2,w3,w4,w5,w6,w7,w8,w9,w10,w11] (9:Int)∧True)∧decide (IntKind.i64.wrap (IntKind.i64.wrap (w11+w10)+w9)=(840:Int))=decide (w64 (w64 (sel
 [w0,w1,w2,w3,w4,w5,w6,w7,w8,w9,w10,w11] (11:Int)+sel [w0,w1,w2,w3,w4,w5,w6,w7,w8,w9,w10,w11] (10:Int))+sel [w0,w1,w2,w3,w4,w5,w6,w7,w8,w9,w10,w11] (9:Int))=(840:Int))∧True)∧((-9223372036854775808:Int)≤(19:Int)∧(19:Int)≤(9223372036854775807:Int)→(IR9 w0)∧((-9223372036854775808:Int)≤w1∧w1 ≤
 (9223372036854775807:Int))∧(IR9 w2)∧(IR9 w3)∧(IR9 w4)∧(IR9 w5)∧(IR9 w6)∧((-9223372036854775808:Int)≤w7∧w7 ≤
 (9223372036854775807:Int))∧(IR9 w8)∧(IR9 w9)∧(IR9 w10)∧(IR9 w11)∧True→True∧((19:Int)=19∧w11=sel [w0,w1,w2,w3,w4,w5,w6,w7,w8,w9,w10,w11] (11:Int)∧w6=sel
 [w0,w1,w2,w3,w4,w5,w6,w7,w8,w9,w10,w11] (6:Int)∧w10=sel [w0,w1,w2,w3,w4,w5,w6,w7,w8,w9,w10,w11] (10:Int)∧True)∧decide (IntKind.i64.wrap (IntKind.i64.wrap (w11+w6)+w10)=(840:Int))=decide (w64 (w64 (sel [w0,w1,w2,w3,w4,w5,w6,w7,w8,w9,w10,w11] (11:Int)+sel [w0,w1,w2,w3,w4,w5,w6,w7,w8,w9,w10,w11] (6:Int))+sel [w0,w1,w2,w3,w4,w5,w6,w7,w8,w9,w10,w11] (10:Int))=(840:Int))∧True)∧True
theorem rOn20_P:rOn20_T:=by
 unfold rOn20_T
 intro gl w0 w1 w2 w3 w4 w5 w6 w7 w8 w9 w10 w11
 repeat' (first | exact trivial | intro _ | rfl | apply And.intro)
def rOn20_S:Prop:=∀ (gl:Glob) (w0 w1 w2 w3 w4 w5 w6 w7 w8 w9 w10 w11:Int),allN fcs fun n=>fnK Tryd.prog { glob:=gl,spec:=lk [(93,rCorners_s fac crn)],nowf:=true,wrap:=true } { nt:=38 } (fun _ _=>none) 6 Tryd.f77 [.int .i64 n,.agg [.int .i64 w0,.int .i64 w1,.int .i64 w2,.int .i64 w3,.int .i64 w4,.int .i64 w5,.int .i64 w6,.int .i64 w7,.int .i64 w8,.int .i64 w9,.int .i64 w10,.int .i64 w11]] (.tup [.agg [.int .i64 n,.int .i64 (sel [w0,w1,w2,w3,w4,w5,w6,w7,w8,w9,w10,w11] (crn n 0)),.int .i64 (sel [w0,w1,w2,w3,w4,w5,w6,w7,w8,w9,w10,w11] (crn n 1)),.int .i64 (sel [w0,w1,w2,w3,w4,w5,w6,w7,w8,w9,w10,w11] (crn n 2))],.bool (decide (w64 (w64 ((sel [w0,w1,w2,w3,w4,w5,w6,w7,w8,w9,w10,w11] (crn n 0))+(sel [w0,w1,w2,w3,w4,w5,w6,w7,w8,w9,w10,w11] (crn n 1)))+(sel [w0,w1,w2,w3,w4,w5,w6,w7,w8,w9,w10,w11] (crn n 2)))=840))])
theorem rOn20_e:rOn20_T=rOn20_S:=by kernel_rfl
theorem rOn20:rOn20_S:=@Eq.mp (rOn20_T) (rOn20_S) (rOn20_e) (rOn20_P)
def rWeights_s:Sp
 | [.agg [.int .i64 f,.int .i64 a,.int .i64 b,.int .i64 c]]=>some (0≤f∧f < 20,.agg [.int .i64 (wt f a b c 0),.int .i64 (wt f a b c 1),.int .i64 (wt f a b c 2),.int .i64 (wt f a b c 3),.int .i64 (wt f a b c 4),.int .i64 (wt f a b c 5),.int .i64 (wt f a b c 6),.int .i64 (wt f a b c 7),.int .i64 (wt f a b c 8),.int .i64 (wt f a b c 9),.int .i64 (wt f a b c 10),.int .i64 (wt f a b c 11)])
 | _=>none
def rOn_s:Sp
 | [.int .i64 n,.agg [.int .i64 w0,.int .i64 w1,.int .i64 w2,.int .i64 w3,.int .i64 w4,.int .i64 w5,.int .i64 w6,.int .i64 w7,.int .i64 w8,.int .i64 w9,.int .i64 w10,.int .i64 w11]]=>some (0≤n∧n < 20,.tup [.agg [.int .i64 n,.int .i64 (sel [w0,w1,w2,w3,w4,w5,w6,w7,w8,w9,w10,w11] (crn n 0)),.int .i64 (sel [w0,w1,w2,w3,w4,w5,w6,w7,w8,w9,w10,w11] (crn n 1)),.int .i64 (sel [w0,w1,w2,w3,w4,w5,w6,w7,w8,w9,w10,w11] (crn n 2))],.bool (decide (w64 (w64 ((sel [w0,w1,w2,w3,w4,w5,w6,w7,w8,w9,w10,w11] (crn n 0))+(sel [w0,w1,w2,w3,w4,w5,w6,w7,w8,w9,w10,w11] (crn n 1)))+(sel [w0,w1,w2,w3,w4,w5,w6,w7,w8,w9,w10,w11] (crn n 2)))=840))])
 | _=>none
theorem rWeights_ok (gl:Glob):SOK Tryd.prog gl 76 rWeights_s:=by
 refine ⟨fok Tryd.func76 (by kernel_rfl) (by kernel_rfl),?_⟩
 intro xs pre r h hp
 unfold rWeights_s at h
 split at h
 ·simp only [Option.some.injEq,Prod.mk.injEq] at h
  obtain ⟨h1,h2⟩:=h
  subst h1 h2
  exact fnK_sound tyNil (by exact specOK (l':=[]) rfl rfl ⟨rCorners_ok gl,trivial⟩ trivial) (by kernel_rfl) Tryd.func76 rfl (allN_get (rWeights20 _ _ _ _) (mem_fcs hp))
 ·cases h
theorem rOn_ok (gl:Glob):SOK Tryd.prog gl 77 rOn_s:=by
 refine ⟨fok Tryd.func77 (by kernel_rfl) (by kernel_rfl),?_⟩
 intro xs pre r h hp
 unfold rOn_s at h
 split at h
 ·simp only [Option.some.injEq,Prod.mk.injEq] at h
  obtain ⟨h1,h2⟩:=h
  subst h1 h2
  exact fnK_sound tyNil (by exact specOK (l':=[]) rfl rfl ⟨rCorners_ok gl,trivial⟩ trivial) (by kernel_rfl) Tryd.func77 rfl (allN_get (rOn20 _ _ _ _ _ _ _ _ _ _ _ _ _) (mem_fcs hp))
 ·cases h
theorem onS_eq {f a b c n:Int} (hv:Vld f a b c) (hn:0≤n∧n < 20):decide (w64 (w64 (onW f a b c n 0+onW f a b c n 1)+onW f a b c n 2)=840)=onV f a b c n:=by
 have hb:∀ v,0≤wt f a b c v∧wt f a b c v≤840:=by
  intro v
  obtain ⟨_,ha,hb,hc,_⟩:=hv
  unfold wt
  split
  ·exact hc
  ·split
   ·exact hb
   ·split
    ·exact ha
    ·omega
 have h0:0≤onW f a b c n 0∧onW f a b c n 0≤840:=hb _
 have h1:0≤onW f a b c n 1∧onW f a b c n 1≤840:=hb _
 have h2:0≤onW f a b c n 2∧onW f a b c n 2≤840:=hb _
 unfold onV vld
 rw [w64_id (x:=onW f a b c n 0+onW f a b c n 1) (by omega),w64_id (by omega)]
 refine decide_eq_decide.2 ?_
 rw [vld_iff]
 exact ⟨fun h=>⟨hn,h0,h1,h2,h⟩,fun h=>h.2.2.2.2⟩
def adrJ (f a b c:Int):LInv:=⟨Int × List (List AV),fun x=>⟨[(4,.ptr 4 0),(5,.rw 500 4 x.2.length),(6,.int .i64 x.1)],[(4,.cells [.int .i64 (wt f a b c 0),.int .i64 (wt f a b c 1),.int .i64 (wt f a b c 2),.int .i64 (wt f a b c 3),.int .i64 (wt f a b c 4),.int .i64 (wt f a b c 5),.int .i64 (wt f a b c 6),.int .i64 (wt f a b c 7),.int .i64 (wt f a b c 8),.int .i64 (wt f a b c 9),.int .i64 (wt f a b c 10),.int .i64 (wt f a b c 11)]),(500,.row 27 4 x.2)]⟩,
 AdrP f a b c,fun x=>(20 - x.1).toNat,none⟩
def rAddresses_s (vld:Int→Int→Int→Int→Bool) (adr:Int→Int→Int→Int→List (List AV)):Sp
 | [.agg [.int .i64 f,.int .i64 a,.int .i64 b,.int .i64 c]]=>some (True,.tup [.sl 4 false (adr f a b c),.int .i64 (err (vld f a b c))])
 | _=>none
def rAddresses_T (vld:Int→Int→Int→Int→Bool) (adr:Int→Int→Int→Int→List (List AV)):Prop :=
  ∀ (gl:Glob) (f a b c:Int),(IR9 f)∧(IR9 a)∧(IR9 b)∧(IR9 c)∧True→True∧bif !YtldiagnbagpliaaDoor.vld f a b c then adr f a b c=[]∧(1:Int)=err (vld f a b c)∧True else (0≤f∧f <
 (20:Int))∧(∃ x,AdrP f a b c x∧((0:Nat)=0∧(0:Nat)=x.snd.length∧(0:Int)=x.fst∧True)∧(wt f a b c (0:Int)=wt f a b c (0:Int)∧wt f a b c (1:Int)=wt f a b c (1:Int)∧wt f a b c (2:Int)=wt f a b c (2:Int)∧wt f a b c (3:Int)=wt f a b c (3:Int)∧wt f a b c (4:Int)=wt f a b c (4:Int)∧wt f a b c (5:Int)=wt f a b c (5:Int)∧wt f a b c (6:Int)=wt f a b c (6:Int)∧wt f a b c (7:Int)=wt f a b c (7:Int)∧wt f a b c
 (8:Int)=wt f a b c (8:Int)∧wt f a b c (9:Int)=wt f a b c (9:Int)∧wt f a b c (10:Int)=wt f a b c (10:Int)∧wt f a b c (11:Int)=wt f a b c (11:Int)∧True)∧[]=x.snd∧True)∧∀ (x:Int × List (List AV)),AdrP f a b c x→bif decide (x.fst < (20:Int)) then (0≤x.fst∧x.fst < (20:Int))∧bif decide (w64 (w64 (sel [wt f a b c (0:Int),wt f a b c (1:Int),wt f a b c (2:Int),wt f a b c (3:Int),wt f a b c
 (4:Int),wt f a b c (5:Int),wt f a b c (6:Int),wt f a b c (7:Int),wt f a b c (8:Int),wt f a b c (9:Int),wt f a b c (10:Int),wt f a b c (11:Int)] (crn x.fst (0:Nat))+sel [wt f a b c (0:Int),wt f a b c (1:Int),wt f a b c (2:Int),wt f a b c (3:Int),wt f a b c (4:Int),wt f a b c (5:Int),wt f a b c (6:Int),wt f a b c (7:Int),wt f a b c (8:Int),wt f a b c (9:Int),wt f a b c (10:Int),wt f a b c (11:Int)]
 (crn x.fst (1:Nat)))+sel [wt f a b c (0:Int),wt f a b c (1:Int),wt f a b c (2:Int),wt f a b c (3:Int),wt f a b c (4:Int),wt f a b c (5:Int),wt f a b c (6:Int),wt f a b c (7:Int),wt f a b c (8:Int),wt f a b c (9:Int),wt f a b c (10:Int),wt f a b c (11:Int)] (crn x.fst (2:Nat)))=(840:Int)) then bif decide (x.snd.length=x.snd.length∧x.snd.length+[[AV.int .i64 x.fst,.int .i64 (sel [wt f a b c
 (0:Int),wt f a b c (1:Int),wt f a b c (2:Int),wt f a b c (3:Int),wt f a b c (4:Int),wt f a b c (5:Int),wt f a b c (6:Int),wt f a b c (7:Int),wt f a b c (8:Int),wt f a b c (9:Int),wt f a b c (10:Int),wt f a b c (11:Int)] (crn x.fst (0:Nat))),.int .i64 (sel [wt f a b c (0:Int),wt f a b c (1:Int),wt f a b c (2:Int),wt f a b c (3:Int),wt f a b c (4:Int),wt f a b c (5:Int),wt f a b c (6:Int),wt f a b c
 (7:Int),wt f a b c (8:Int),wt f a b c (9:Int),wt f a b c (10:Int),wt f a b c (11:Int)] (crn x.fst (1:Nat))),.int .i64 (sel [wt f a b c (0:Int),wt f a b c (1:Int),wt f a b c (2:Int),wt f a b c (3:Int),wt f a b c (4:Int),wt f a b c (5:Int),wt f a b c (6:Int),wt f a b c (7:Int),wt f a b c (8:Int),wt f a b c (9:Int),wt f a b c (10:Int),wt f a b c (11:Int)] (crn x.fst (2:Nat)))]].length ≤
 (9223372036854775807:Nat)∧(x.snd.length+[[AV.int .i64 x.fst,.int .i64 (sel [wt f a b c (0:Int),wt f a b c (1:Int),wt f a b c (2:Int),wt f a b c (3:Int),wt f a b c (4:Int),wt f a b c (5:Int),wt f a b c (6:Int),wt f a b c (7:Int),wt f a b c (8:Int),wt f a b c (9:Int),wt f a b c (10:Int),wt f a b c (11:Int)] (crn x.fst (0:Nat))),.int .i64 (sel [wt f a b c (0:Int),wt f a b c (1:Int),wt f a b c
 (2:Int),wt f a b c (3:Int),wt f a b c (4:Int),wt f a b c (5:Int),wt f a b c (6:Int),wt f a b c (7:Int),wt f a b c (8:Int),wt f a b c (9:Int),wt f a b c (10:Int),wt f a b c (11:Int)] (crn x.fst (1:Nat))),.int .i64 (sel [wt f a b c (0:Int),wt f a b c (1:Int),wt f a b c (2:Int),wt f a b c (3:Int),wt f a b c (4:Int),wt f a b c (5:Int),wt f a b c (6:Int),wt f a b c (7:Int),wt f a b c (8:Int),wt f a b c
 (9:Int),wt f a b c (10:Int),wt f a b c (11:Int)] (crn x.fst (2:Nat)))]].length)*(32:Nat)≤(140737488355328:Nat)) then bif decide (rng .i64 (x.fst+(1:Int))) then ∃ y,AdrP f a b c y∧(adrJ f a b c).m y < (adrJ f a b c).m x∧((0:Nat)=0∧(x.snd++[[AV.int .i64 x.fst,.int .i64 (sel [wt f a b c (0:Int),wt f a b c (1:Int),wt f a b c (2:Int),wt f a b c (3:Int),wt f a b c (4:Int),wt f a b c (5:Int),wt f
 a b c (6:Int),wt f a b c (7:Int),wt f a b c (8:Int),wt f a b c (9:Int),wt f a b c (10:Int),wt f a b c (11:Int)] (crn x.fst (0:Nat))),.int .i64 (sel [wt f a b c (0:Int),wt f a b c (1:Int),wt f a b c (2:Int),wt f a b c (3:Int),wt f a b c (4:Int),wt f a b c (5:Int),wt f a b c (6:Int),wt f a b c (7:Int),wt f a b c (8:Int),wt f a b c (9:Int),wt f a b c (10:Int),wt f a b c (11:Int)] (crn x.fst
 (1:Nat))),.int .i64 (sel [wt f a b c (0:Int),wt f a b c (1:Int),wt f a b c (2:Int),wt f a b c (3:Int),wt f a b c (4:Int),wt f a b c (5:Int),wt f a b c (6:Int),wt f a b c (7:Int),wt f a b c (8:Int),wt f a b c (9:Int),wt f a b c (10:Int),wt f a b c (11:Int)] (crn x.fst (2:Nat)))]]).length=y.snd.length∧x.fst+(1:Int)=y.fst∧True)∧(wt f a b c (0:Int)=wt f a b c (0:Int)∧wt f a b c (1:Int)=wt f a b c
 (1:Int)∧wt f a b c (2:Int)=wt f a b c (2:Int)∧wt f a b c (3:Int)=wt f a b c (3:Int)∧wt f a b c (4:Int)=wt f a b c (4:Int)∧wt f a b c (5:Int)=wt f a b c (5:Int)∧wt f a b c (6:Int)=wt f a b c (6:Int)∧wt f a b c (7:Int)=wt f a b c (7:Int)∧wt f a b c (8:Int)=wt f a b c (8:Int)∧wt f a b c (9:Int)=wt f a b c (9:Int)∧wt f a b c (10:Int)=wt f a b c (10:Int)∧wt f a b c (11:Int)=wt f a b c
 (11:Int)∧True)∧x.snd++[[AV.int .i64 x.fst,.int .i64 (sel [wt f a b c (0:Int),wt f a b c (1:Int),wt f a b c (2:Int),wt f a b c (3:Int),wt f a b c (4:Int),wt f a b c (5:Int),wt f a b c (6:Int),wt f a b c (7:Int),wt f a b c (8:Int),wt f a b c (9:Int),wt f a b c (10:Int),wt f a b c (11:Int)] (crn x.fst (0:Nat))),.int .i64 (sel [wt f a b c (0:Int),wt f a b c (1:Int),wt f a b c (2:Int),wt f a b c
 (3:Int),wt f a b c (4:Int),wt f a b c (5:Int),wt f a b c (6:Int),wt f a b c (7:Int),wt f a b c (8:Int),wt f a b c (9:Int),wt f a b c (10:Int),wt f a b c (11:Int)] (crn x.fst (1:Nat))),.int .i64 (sel [wt f a b c (0:Int),wt f a b c (1:Int),wt f a b c (2:Int),wt f a b c (3:Int),wt f a b c (4:Int),wt f a b c (5:Int),wt f a b c (6:Int),wt f a b c (7:Int),wt f a b c (8:Int),wt f a b c (9:Int),wt f a b c
 (10:Int),wt f a b c (11:Int)] (crn x.fst (2:Nat)))]]=y.snd∧True else False else False else bif decide (rng .i64 (x.fst+(1:Int))) then ∃ y,AdrP f a b c y∧(adrJ f a b c).m y < (adrJ f a b c).m x∧((0:Nat)=0∧x.snd.length=y.snd.length∧x.fst+(1:Int)=y.fst∧True)∧(wt f a b c (0:Int)=wt f a b c (0:Int)∧wt f a b c (1:Int)=wt f a b c (1:Int)∧wt f a b c (2:Int)=wt f a b c (2:Int)∧wt f a b c (3:Int)=wt f a
 b c (3:Int)∧wt f a b c (4:Int)=wt f a b c (4:Int)∧wt f a b c (5:Int)=wt f a b c (5:Int)∧wt f a b c (6:Int)=wt f a b c (6:Int)∧wt f a b c (7:Int)=wt f a b c (7:Int)∧wt f a b c (8:Int)=wt f a b c (8:Int)∧wt f a b c (9:Int)=wt f a b c (9:Int)∧wt f a b c (10:Int)=wt f a b c (10:Int)∧wt f a b c (11:Int)=wt f a b c (11:Int)∧True)∧x.snd=y.snd∧True else False else bif decide (x.snd.length=x.snd.length)
 then (True∧x.snd=adr f a b c)∧(0:Int)=err (vld f a b c)∧True else False
theorem rAddresses_P:rAddresses_T vld adr:=by
 unfold rAddresses_T
 intro gl f a b c h
 refine ⟨trivial,?_⟩
 unfold adr err
 cases hv:vld f a b c with
 | false=>exact ⟨rfl,rfl,trivial⟩
 | true =>
  have v:Vld f a b c:=of_decide_eq_true hv
  refine ⟨v.face,⟨(0,[]),⟨by decide,by decide,rfl⟩,⟨rfl,rfl,rfl,trivial⟩,⟨rfl,rfl,rfl,rfl,rfl,rfl,rfl,rfl,rfl,rfl,rfl,rfl,trivial⟩,rfl,trivial⟩,?_⟩
  rintro ⟨n,xs⟩ ⟨h0,h1,hx⟩
  simp only at h0 h1 hx
  have hlen:=adr_len f a b c n.toNat
  rw [← hx] at hlen
  refine csplit (fun hn=>?_) (fun hn=>?_)
  ·have hn:n < 20:=of_decide_eq_true hn
   obtain ⟨e0,e1,e2⟩:=sel_wts f a b c ⟨h0,hn⟩
   unfold wts at e0 e1 e2
   simp only [e0,e1,e2]
   refine ⟨⟨h0,hn⟩,?_⟩
   rw [onS_eq v ⟨h0,hn⟩]
   refine csplit (fun hv=>?_) (fun hv=>?_)
   ·have hv:onV f a b c n=true:=hv
    simp only [↓cdecF,rng,List.length_singleton]
    refine ⟨⟨by trivial,by omega,by omega⟩,by omega,(n+1,xs++[onRow f a b c n]),⟨by simp only; omega,by simp only; omega,?_⟩,by simp only [adrJ]; omega,⟨by trivial,rfl,rfl,trivial⟩,?_,rfl,trivial⟩
    ·simp only; rw [adr_step h0,if_pos hv,hx]
    ·repeat' (first | exact trivial | rfl | apply And.intro)
   ·have hv:onV f a b c n=false:=hv
    simp only [↓cdecF,rng]
    refine ⟨by omega,(n+1,xs),⟨by simp only; omega,by simp only; omega,?_⟩,by simp only [adrJ]; omega,⟨by trivial,by trivial,rfl,trivial⟩,?_,rfl,trivial⟩
    ·simp only; rw [adr_step h0,if_neg (by rw [hv]; simp),hx]
    ·repeat' (first | exact trivial | rfl | apply And.intro)
  ·have hn:¬ n < 20:=of_decide_eq_false hn
   have:n=20:=by omega
   subst this
   simp only [↓cdecF]
   exact ⟨by trivial,⟨trivial,by rw [hx]; rfl⟩,rfl,trivial⟩
def rAddresses_S (vld:Int→Int→Int→Int→Bool) (adr:Int→Int→Int→Int→List (List AV)):Prop:=∀ (gl:Glob) (f a b c:Int),fnK Tryd.prog { glob:=gl,spec:=lk [(75,(rValid_s Go.Proofs.YtldiagnbagpliaaDoor.vld)),(76,rWeights_s),(77,rOn_s)],specH:=lk [],nowf:=true } { nt:=30,drop:=drp [(1,1536),(3,12288),(6,16384),(7,196608),(8,16515072),(10,503316480),(11,536870912)],emp:=fun id=>cond (Nat.beq id 5) [(5,500,27,4)] [] } (invs [(6,adrJ f a b c)]) 6 Tryd.f36 [.agg [.int .i64 f,.int .i64 a,.int .i64 b,.int .i64 c]] (.tup [.sl 4 false (adr f a b c),.int .i64 (err (vld f a b c))])
theorem rAddresses_e (vld:Int→Int→Int→Int→Bool) (adr:Int→Int→Int→Int→List (List AV)):rAddresses_T vld adr=rAddresses_S vld adr:=by kernel_rfl
theorem rAddresses_v:rAddresses_S vld adr:=Eq.mp (rAddresses_e ..) (rAddresses_P)
theorem rAddresses_ok (gl:Glob):SOK Tryd.prog gl 36 (rAddresses_s vld adr):=by
 refine ⟨fok Tryd.func36 (by kernel_rfl) (by kernel_rfl),?_⟩
 intro xs pre r h hp
 unfold rAddresses_s at h
 split at h
 ·simp only [Option.some.injEq,Prod.mk.injEq] at h
  obtain ⟨h1,h2⟩:=h
  subst h1 h2
  exact fnK_sound tyNil (by exact specOK rfl rfl ⟨(rValid_ok gl),(rWeights_ok gl),(rOn_ok gl),trivial⟩ trivial) (by kernel_rfl) Tryd.func36 rfl (rAddresses_v gl _ _ _ _)
 ·cases h
def rNormal_s (vld:Int→Int→Int→Int→Bool) (adr:Int→Int→Int→Int→List (List AV)) (nrm:Int→Int→Int→Int→Int × Int × Int × Int):Sp
 | [.agg [.int .i64 f,.int .i64 a,.int .i64 b,.int .i64 c]]=>some (True,.tup [.agg [.int .i64 (nrm f a b c).1,.int .i64 (nrm f a b c).2.1,.int .i64 (nrm f a b c).2.2.1,.int .i64 (nrm f a b c).2.2.2],.int .i64 (err (vld f a b c))])
 | _=>none
def rNormal_T (vld:Int→Int→Int→Int→Bool) (adr:Int→Int→Int→Int→List (List AV)) (nrm:Int→Int→Int→Int→Int × Int × Int × Int):Prop :=
  ∀ (gl:Glob) (f a b c:Int),(IR9 f)∧(IR9 a)∧(IR9 b)∧(IR9 c)∧True→True∧bif decide ¬err (vld f a b c)=(0:Int) then ((0:Int)=(nrm f a b c).fst∧(0:Int)=(nrm f a b
 c).snd.fst∧(0:Int)=(nrm f a b c).snd.snd.fst∧(0:Int)=(nrm f a b c).snd.snd.snd∧True)∧err (vld f a b c)=err (vld f a b c)∧True else bif decide ((0:Int)≤(0:Int)∧(0:Int) < (↑(adr f a b c).length:Int)) then ∃ n n_1 n_2 n_3,List.take [AV.int .i64 n,.int .i64 n_1,.int .i64 n_2,.int .i64 n_3].length ((adr f a b c).getD (0:Nat) [])=[AV.int .i64 n,.int .i64 n_1,.int .i64 n_2,.int .i64 n_3]∧(n=(nrm f a b
 c).fst∧n_1=(nrm f a b c).snd.fst∧n_2=(nrm f a b c).snd.snd.fst∧n_3=(nrm f a b c).snd.snd.snd∧True)∧(0:Int)=err (vld f a b c)∧True else False
theorem rNormal_P:rNormal_T vld adr nrm:=by
 unfold rNormal_T
 intro gl f a b c h
 refine ⟨trivial,?_⟩
 cases hv:vld f a b c with
 | false =>
  have e:nrm f a b c=(0,0,0,0):=by unfold nrm; rw [hv]; rfl
  rw [e]
  exact cd1 (by decide) ⟨⟨rfl,rfl,rfl,rfl,trivial⟩,rfl,trivial⟩
 | true =>
  have v:Vld f a b c:=of_decide_eq_true hv
  obtain ⟨l,hl⟩:=adr_rows v
  have hh:=hl.head
  have hp:0 < l.length:=by
   cases l with
   | nil=>cases hh
   | cons x l=>simp
  have e0:(adr f a b c).getD 0 []=encP (nrm f a b c):=by
   rw [hl.adr,List.getD_eq_getElem?_getD,List.getElem?_map,hh]; rfl
  refine cd0 (by decide) (cd1 ⟨by decide,by rw [hl.adr,List.length_map]; omega⟩ ⟨_,_,_,_,by rw [e0]; rfl,⟨rfl,rfl,rfl,rfl,trivial⟩,rfl,trivial⟩)
def rNormal_S (vld:Int→Int→Int→Int→Bool) (adr:Int→Int→Int→Int→List (List AV)) (nrm:Int→Int→Int→Int→Int × Int × Int × Int):Prop:=∀ (gl:Glob) (f a b c:Int),fnK Tryd.prog { glob:=gl,spec:=lk [(36,(rAddresses_s vld adr))],specH:=lk [],shape:=[17],nowf:=true } { nt:=18,drop:=drp [(1,1984),(2,2048),(3,24576),(4,229376)] } (fun _ _=>none) 6 Tryd.f15 [.agg [.int .i64 f,.int .i64 a,.int .i64 b,.int .i64 c]] (.tup [.agg [.int .i64 (nrm f a b c).1,.int .i64 (nrm f a b c).2.1,.int .i64 (nrm f a b c).2.2.1,.int .i64 (nrm f a b c).2.2.2],.int .i64 (err (vld f a b c))])
theorem rNormal_e (vld:Int→Int→Int→Int→Bool) (adr:Int→Int→Int→Int→List (List AV)) (nrm:Int→Int→Int→Int→Int × Int × Int × Int):rNormal_T vld adr nrm=rNormal_S vld adr nrm:=by kernel_rfl
theorem rNormal_v:rNormal_S vld adr nrm:=Eq.mp (rNormal_e ..) (rNormal_P)
theorem rNormal_ok (gl:Glob):SOK Tryd.prog gl 15 (rNormal_s vld adr nrm):=by
 refine ⟨fok Tryd.func15 (by kernel_rfl) (by kernel_rfl),?_⟩
 intro xs pre r h hp
 unfold rNormal_s at h
 split at h
 ·simp only [Option.some.injEq,Prod.mk.injEq] at h
  obtain ⟨h1,h2⟩:=h
  subst h1 h2
  exact fnK_sound tyNil (by exact specOK rfl rfl ⟨(rAddresses_ok gl),trivial⟩ trivial) (by kernel_rfl) Tryd.func15 rfl (rNormal_v gl _ _ _ _)
 ·cases h
def isN (f a b c:Int):Bool:=vld f a b c&&(decide (f=(nrm f a b c).1)&&(decide (a=(nrm f a b c).2.1)&&(decide (b=(nrm f a b c).2.2.1)&&(decide (c=(nrm f a b c).2.2.2)&&true))))
def rIsN_s (nrm:Int→Int→Int→Int→Int × Int × Int × Int) (vld:Int→Int→Int→Int→Bool) (isN:Int→Int→Int→Int→Bool):Sp
 | [.agg [.int .i64 f,.int .i64 a,.int .i64 b,.int .i64 c]]=>some (True,.bool (isN f a b c))
 | _=>none
def rIsN_T (nrm:Int→Int→Int→Int→Int × Int × Int × Int) (vld:Int→Int→Int→Int→Bool) (isN:Int→Int→Int→Int→Bool) (adr:Int→Int→Int→Int→List (List AV)):Prop :=
 ∀ (gl:Glob) (f a b c:Int),(IR9 f)∧(IR9 a)∧(IR9 b)∧(IR9 c)∧True→True∧bif decide (err (vld f a b c)=(0:Int)) then (decide (f=(nrm f a b c).fst)&&(decide (a=(nrm f a b c).snd.fst)
&&(decide (b=(nrm f a b c).snd.snd.fst)&&(decide (c=(nrm f a b c).snd.snd.snd)&&true))))=isN f a b c else false=isN f a b c
theorem rIsN_P:rIsN_T nrm vld isN adr:=by
 unfold rIsN_T
 intro gl f a b c _
 refine ⟨trivial,?_⟩
 unfold isN
 cases vld f a b c with
 | true=>exact rfl
 | false=>exact rfl
def rIsN_S (nrm:Int→Int→Int→Int→Int × Int × Int × Int) (vld:Int→Int→Int→Int→Bool) (isN:Int→Int→Int→Int→Bool) (adr:Int→Int→Int→Int→List (List AV)):Prop:=∀ (gl:Glob) (f a b c:Int),fnK Tryd.prog { glob:=gl,spec:=lk [(15,(rNormal_s vld adr nrm))],specH:=lk [],nowf:=true } { nt:=17,drop:=drp [(1,992),(2,130048)],tys:=[27] } (fun _ _=>none) 6 Tryd.f86 [.agg [.int .i64 f,.int .i64 a,.int .i64 b,.int .i64 c]] (.bool (isN f a b c))
theorem rIsN_e (nrm:Int→Int→Int→Int→Int × Int × Int × Int) (vld:Int→Int→Int→Int→Bool) (isN:Int→Int→Int→Int→Bool) (adr:Int→Int→Int→Int→List (List AV)):rIsN_T nrm vld isN adr=rIsN_S nrm vld isN adr:=by kernel_rfl
theorem rIsN_v:rIsN_S nrm vld isN adr:=Eq.mp (rIsN_e ..) (rIsN_P)
theorem rIsN_ok (gl:Glob):SOK Tryd.prog gl 86 (rIsN_s nrm vld isN):=by
 refine ⟨fok Tryd.func86 (by kernel_rfl) (by kernel_rfl),?_⟩
 intro xs pre r h hp
 unfold rIsN_s at h
 split at h
 ·simp only [Option.some.injEq,Prod.mk.injEq] at h
  obtain ⟨h1,h2⟩:=h
  subst h1 h2
  exact fnK_sound (tyOf (by kernel_rfl)) (by exact specOK rfl rfl ⟨(rNormal_ok gl),trivial⟩ trivial) (by kernel_rfl) Tryd.func86 rfl (rIsN_v gl _ _ _ _)
 ·cases h
end Go.Proofs.YtldiagnbagpliaaDoor
namespace Go.Proofs.YtldiagnbagpliaaDoor
open Go
set_option linter.unusedVariables false
set_option linter.unusedSimpArgs false
def lp (y:Int):Int:=if y % 4=0 then 1 else 0
def len12 (y:Int):List Int:=[31,28+lp y,31,30,31,30,31,31,30,31,30,31]
def inB (t:Int):Bool:=decide (0≤t∧t≤52595999)
def cum (y:Int):Nat→Int
 | 0=>0
 | k+1=>cum y k+(len12 y).getD k 0
def fst' (y:Int):Int:=1440*(365*(y - 2000)+(y - 2000+3) / 4)
def mns (y m d h i:Int):Int:=fst' y+1440*(d - 1+cum y (m - 1).toNat)+60*h+i
structure VldC (y m d h i:Int):Prop where
 yr:2000≤y∧y≤2099
 mo:1≤m∧m≤12
 dy:1≤d∧d≤(len12 y).getD (m - 1).toNat 0
 hr:0≤h∧h < 24
 mi:0≤i∧i < 60
structure DateP (t y m d h i:Int):Prop where
 vld:VldC y m d h i
 eq:mns y m d h i=t
end Go.Proofs.YtldiagnbagpliaaDoor
namespace Go.Proofs.YtldiagnbagpliaaDoor
open Go
set_option linter.unusedVariables false
set_option linter.unusedSimpArgs false
structure YrR (y:Int):Prop where
 lo:2000≤y
 hi:y≤2100
structure MinP (y m d:Int) (x:Int × Int):Prop where
 lo:0≤x.1
 hi:x.1≤m - 1
 days:x.2=d - 1+cum y x.1.toNat
end Go.Proofs.YtldiagnbagpliaaDoor
namespace Go.Proofs.YtldiagnbagpliaaDoor
open Go
set_option linter.unusedVariables false
set_option linter.unusedSimpArgs false
structure DatP (t y:Int):Prop where
 lo:2000≤y
 hi:y≤2099
 le:fst' y≤t
structure DatQ (y r k:Int):Prop where
 lo:0≤k
 hi:k≤12
 le:cum y k.toNat≤r
end Go.Proofs.YtldiagnbagpliaaDoor
namespace Go.Proofs.YtldiagnbagpliaaDoor
open Go
set_option linter.unusedVariables false
set_option linter.unusedSimpArgs false
def rIn_s (inB:Int→Bool):Sp
 | [.int .i64 t]=>some (True,.bool (inB t))
 | _=>none
def rIn_T (inB:Int→Bool):Prop :=
 ∀ (gl:Glob) (t:Int),IR9 t→bif decide (0≤t) then decide (t≤(52595999:Int))=inB t else false=inB t
theorem rIn_P:rIn_T inB:=by
 unfold rIn_T
 intro gl t _
 unfold inB
 refine csplit (fun h1=>?_) (fun h1=>?_)
 ·have h1:=of_decide_eq_true h1; simp [h1]
 ·have h1:=of_decide_eq_false h1; simp [h1]
def rIn_S (inB:Int→Bool):Prop:=∀ (gl:Glob) (t:Int),fnK Tryd.prog { glob:=gl,spec:=lk [],specH:=lk [] } { nt:=9,drop:=drp [(1,504)] } (fun _ _=>none) 6 Tryd.f85 [.int .i64 t] (.bool (inB t))
theorem rIn_e (inB:Int→Bool):rIn_T inB=rIn_S inB:=by kernel_rfl
theorem rIn_v:rIn_S inB:=Eq.mp (rIn_e ..) (rIn_P)
theorem rIn_ok (gl:Glob):SOK Tryd.prog gl 85 (rIn_s inB):=by
 refine ⟨fok Tryd.func85 (by kernel_rfl) (by kernel_rfl),?_⟩
 intro xs pre r h hp
 unfold rIn_s at h
 split at h
 ·simp only [Option.some.injEq,Prod.mk.injEq] at h
  obtain ⟨h1,h2⟩:=h
  subst h1 h2
  exact fnK_sound tyNil (by exact specOK rfl rfl trivial trivial) (by kernel_rfl) Tryd.func85 rfl (rIn_v gl _)
 ·cases h
structure BefP (y:Int) (x:Int × Int):Prop where
 lo:2000≤x.2
 hi:x.2≤y
 eq:1440*x.1=fst' x.2
structure BefQ (y m:Int) (x:Int × Int):Prop where
 lo:1≤x.2
 hi:x.2≤m
 eq:1440*x.1=fst' y+1440*cum y (x.2 - 1).toNat
structure RdtP (t y:Int):Prop where
 lo:2000≤y
 hi:y≤2099
 le:fst' y≤t
structure RdtQ (y r k:Int):Prop where
 lo:1≤k
 hi:k≤12
 le:cum y (k - 1).toNat≤r
structure OneP (x:Unit):Prop where
 ok:True
structure RrsP (d h i near k:Int):Prop where
 lo:-3≤k
 hi:k≤4
end Go.Proofs.YtldiagnbagpliaaDoor
namespace Go.Proofs.YtldiagnbagpliaaDoor
open Go
set_option linter.unusedVariables false
set_option linter.unusedSimpArgs false
structure StrsA (ys:List (List AV)):Prop where
 fs:∀ x ∈ ys,∃ s:ByteArray,x=[.str s]
def qtext_s:SpQ
 | [.ptr 0 0,.rw 1 1 n],[.cells [.sl 1 false xs,.int .i64 i],.row 9 1 ys]=>some (fun K=>(SrcQ xs i∧(n=ys.length∧1≤n∧n≤1000)∧StrsA ys)∧(∀ (v:ByteArray) (j:Int),(PickQ ys (.str v) j)→K (.str v) [.cells [.sl 1 false xs,.int .i64 j],.row 9 1 ys]))
 | _,_=>none
def qtext_T:Prop :=
  ∀ (gl:Glob) (xs ys:List (List AV)) (i:Int) (n:Nat),SrcQ xs i∧(n=ys.length∧1≤n∧n≤(1000:Nat))∧StrsA ys→SrcQ xs i∧∀ (v j:Int),NumQ (↑n:Int) v j→bif decide (0≤v∧v < (↑n:Int)) then bif decide (n=ys.length∧v.toNat < ys.length) then ∃ s,List.take [AV.str s].length (List.drop (0:Nat) (ys.getD v.toNat []))=[AV.str s]∧∃ v j_1,PickQ ys (AV.str v)
 j_1∧s=v∧((True∧xs=xs)∧j=j_1∧True)∧ys=ys∧True else False else False
theorem qtext_P:qtext_T:=by
 unfold qtext_T
 intro gl xs ys i n ⟨hs,⟨h1,h2,h3⟩,hi⟩
 refine ⟨hs,fun v j hq=>?_⟩
 have hv:=hq.fv (by omega)
 have hj:=hq.fj
 have hl:v.toNat < ys.length:=by omega
 have hm:ys.getD v.toNat [] ∈ ys:=by
  rw [List.getD_eq_getElem?_getD,List.getElem?_eq_getElem hl]; exact List.getElem_mem hl
 obtain ⟨z,hz⟩:=hi.fs _ hm
 refine cd1 (by omega) (cd1 ⟨h1,hl⟩ ⟨z,by rw [hz]; rfl,z,j,⟨by rw [← hz]; exact hm,hj⟩,rfl,⟨⟨trivial,rfl⟩,rfl,trivial⟩,rfl,trivial⟩)
def qtext_S:Prop:=∀ (gl:Glob) (xs ys:List (List AV)) (i:Int) (n:Nat),SrcQ xs i∧(n=ys.length∧1≤n∧n≤1000)∧StrsA ys→fnQ Tryd.prog { glob:=gl,spec:=lk [],specH:=lk [],specQ:=lk [(5,qn_s)],shape:=[11],nowf:=true } { nt:=12,drop:=drp [(1,4064)],fr:=1000,kp:=[0,1] } (fun _ _=>none) 6 Tryd.f60 [.ptr 0 0,.rw 1 1 n] [.cells [.sl 1 false xs,.int .i64 i],.row 9 1 ys] (fun r2 bs2=>∃ (v:ByteArray) (j:Int),(PickQ ys (.str v) j)∧le r2 (.str v)∧leBs bs2 [.cells [.sl 1 false xs,.int .i64 j],.row 9 1 ys])
theorem qtext_e:qtext_T=qtext_S:=by kernel_rfl
theorem qtext_v:qtext_S:=Eq.mp (qtext_e ..) (qtext_P)
theorem qtext_ok (gl:Glob):QOK Tryd.prog gl 60 qtext_s:=by
 refine ⟨fok Tryd.func60 (by kernel_rfl) (by kernel_rfl),?_⟩
 intro xs bs T h K hT
 unfold qtext_s at h
 split at h
 ·simp only [Option.some.injEq] at h
  subst h
  obtain ⟨hp,hK⟩:=hT
  obtain ⟨r,bs2,⟨o0,o1,hq,hl,hb⟩,hC⟩:=fnQ_sound tyNil (by exact specOK rfl rfl trivial trivial (d:=qsOf rfl ⟨(qn_ok gl),trivial⟩)) (by kernel_rfl) Tryd.func60 (qtext_v gl _ _ _ _ hp)
  exact ⟨_,_,hK o0 o1 hq,hC.le hl hb⟩
 ·cases h
structure MinQ (m j:Int):Prop where
 fm:0≤m∧m≤52595999
 fj:0≤j
theorem nrm_ok {f a b c:Int} (hv:Vld f a b c):Vld (nrm f a b c).1 (nrm f a b c).2.1 (nrm f a b c).2.2.1 (nrm f a b c).2.2.2∧isN (nrm f a b c).1 (nrm f a b c).2.1 (nrm f a b c).2.2.1 (nrm f a b c).2.2.2=true:=by
 obtain ⟨n,hn,ho,e⟩:=nrm_row hv
 have r:=row_of hv hn ho
 rw [e]
 refine ⟨r.vld,?_⟩
 unfold isN
 rw [r.nrm,e,vld_t r.vld]
 simp
structure PlaQ (f a b c j:Int):Prop where
 fv:Vld f a b c
 fn:isN f a b c=true
 fj:0≤j
structure PlaC (x:Int × Int × Int):Prop where
 ff:0≤x.1∧x.1 < 20
 fa:0≤x.2.1∧x.2.1≤840
 fj:0≤x.2.2
def plaC (xs:List (List AV)):LInv:=⟨Int × Int × Int,fun x=>⟨[(0,.ptr 0 0),(2,.ptr 1002 0),(3,.ptr 1003 0)],[(0,.cells [.sl 1 false xs,.int .i64 x.2.2]),(1002,.cells [.int .i64 0,.int .i64 0,.int .i64 0,.int .i64 0]),(1003,.cells [.int .i64 x.1,.int .i64 x.2.1,.int .i64 0,.int .i64 0])]⟩,PlaC,fun _=>0,none⟩
def qplace_s:SpQ
 | [.ptr 0 0],[.cells [.sl 1 false xs,.int .i64 i]]=>some (fun K=>(SrcQ xs i)∧(∀ (f a b c j:Int),(PlaQ f a b c j)→K (.agg [.int .i64 f,.int .i64 a,.int .i64 b,.int .i64 c]) [.cells [.sl 1 false xs,.int .i64 j]]))
 | _,_=>none
def qplace_T (vld:Int→Int→Int→Int→Bool) (adr:Int→Int→Int→Int→List (List AV)) (nrm:Int→Int→Int→Int→Int × Int × Int × Int):Prop :=
  ∀ (gl:Glob) (xs:List (List AV)) (i:Int),SrcQ xs i→SrcQ xs i∧∀ (v j:Int),NumQ (20:Int) v j→SrcQ xs j∧∀ (v_1 j:Int),NumQ (841:Int) v_1 j→(SrcQ xs j∧∀ (v_2 j:Int),NumQ (4:Int) v_2 j→bif decide (v_2=(0:Int)) then SrcQ xs j∧∀ (v_3 j:Int),NumQ (9:Int) v_3 j→bif decide (rng .i64 ((105:Int)*v_3)) then ∃ x,PlaC
 x∧((0:Nat)=0∧(0:Nat)=0∧(0:Nat)=0∧True)∧((True∧xs=xs)∧j=x.snd.snd∧True)∧((0:Int)=0∧(0:Int)=0∧(0:Int)=0∧(0:Int)=0∧True)∧(v=x.fst∧(105:Int)*v_3=x.snd.fst∧(0:Int)=0∧(0:Int)=0∧True)∧True else False else bif decide (v_2=(1:Int)) then SrcQ xs j∧∀ (v_3 j:Int),NumQ (5:Int) v_3 j→bif decide (rng .i64 ((210:Int)*v_3)) then ∃ x,PlaC
 x∧((0:Nat)=0∧(0:Nat)=0∧(0:Nat)=0∧True)∧((True∧xs=xs)∧j=x.snd.snd∧True)∧((0:Int)=0∧(0:Int)=0∧(0:Int)=0∧(0:Int)=0∧True)∧(v=x.fst∧(210:Int)*v_3=x.snd.fst∧(0:Int)=0∧(0:Int)=0∧True)∧True else False else ∃ x,PlaC x∧((0:Nat)=0∧(0:Nat)=0∧(0:Nat)=0∧True)∧((True∧xs=xs)∧j=x.snd.snd∧True)∧((0:Int)=0∧(0:Int)=0∧(0:Int)=0∧(0:Int)=0∧True)∧(v=x.fst∧v_1=x.snd.fst∧(0:Int)=0∧(0:Int)=0∧True)∧True)∧∀ (x:Int × Int ×
 Int),PlaC x→bif decide (rng .i64 ((840:Int) - x.snd.fst)) then bif decide (rng .i64 ((840:Int) - x.snd.fst+(1:Int))) then SrcQ xs x.snd.snd∧∀ (v j:Int),NumQ ((840:Int) - x.snd.fst+(1:Int)) v j→SrcQ xs j∧∀ (v_2 j:Int),NumQ (3:Int) v_2 j→bif decide (v_2=(0:Int)) then bif decide (rng .i64 (v - v.tmod (105:Int))) then bif decide (rng .i64 ((840:Int) - x.snd.fst)) then bif decide (rng .i64
 ((840:Int) - x.snd.fst - (v - v.tmod (105:Int)))) then True∧∃ f a b c j_1,PlaQ f a b c j_1∧((nrm x.fst x.snd.fst (v - v.tmod (105:Int)) ((840:Int) - x.snd.fst - (v - v.tmod (105:Int)))).fst=f∧(nrm x.fst x.snd.fst (v - v.tmod (105:Int)) ((840:Int) - x.snd.fst - (v - v.tmod (105:Int)))).snd.fst=a∧(nrm x.fst x.snd.fst (v - v.tmod (105:Int)) ((840:Int) - x.snd.fst - (v - v.tmod
 (105:Int)))).snd.snd.fst=b∧(nrm x.fst x.snd.fst (v - v.tmod (105:Int)) ((840:Int) - x.snd.fst - (v - v.tmod (105:Int)))).snd.snd.snd=c∧True)∧((True∧xs=xs)∧j=j_1∧True)∧True else False else False else False else bif decide (rng .i64 ((840:Int) - x.snd.fst)) then bif decide (rng .i64 ((840:Int) - x.snd.fst - v)) then True∧∃ f a b c j_1,PlaQ f a b c j_1∧((nrm x.fst x.snd.fst v ((840:Int) - x.snd.fst -
 v)).fst=f∧(nrm x.fst x.snd.fst v ((840:Int) - x.snd.fst - v)).snd.fst=a∧(nrm x.fst x.snd.fst v ((840:Int) - x.snd.fst - v)).snd.snd.fst=b∧(nrm x.fst x.snd.fst v ((840:Int) - x.snd.fst - v)).snd.snd.snd=c∧True)∧((True∧xs=xs)∧j=j_1∧True)∧True else False else False else False else False
theorem qplace_P:qplace_T vld adr nrm:=by
 unfold qplace_T
 intro gl xs i hs
 have s:=hs.s
 refine ⟨hs,fun v j q1=>⟨⟨s,q1.fj⟩,fun v1 j q2=>⟨⟨⟨s,q2.fj⟩,fun v2 j q3=>?_⟩,?_⟩⟩⟩
 ·have h1:=q1.fv (by decide)
  have h2:=q2.fv (by decide)
  refine cs (fun _=>⟨⟨s,q3.fj⟩,fun v3 j q4=>?_⟩) (fun _=>cs (fun _=>⟨⟨s,q3.fj⟩,fun v3 j q4=>?_⟩) (fun _=>?_))
  ·have h3:=q4.fv (by decide)
   exact cdI (by omega) ⟨(v,105*v3,j),⟨by simp only; omega,by simp only; omega,q4.fj⟩,⟨rfl,rfl,rfl,trivial⟩,⟨⟨trivial,rfl⟩,rfl,trivial⟩,⟨rfl,rfl,rfl,rfl,trivial⟩,⟨rfl,rfl,rfl,rfl,trivial⟩,trivial⟩
  ·have h3:=q4.fv (by decide)
   exact cdI (by omega) ⟨(v,210*v3,j),⟨by simp only; omega,by simp only; omega,q4.fj⟩,⟨rfl,rfl,rfl,trivial⟩,⟨⟨trivial,rfl⟩,rfl,trivial⟩,⟨rfl,rfl,rfl,rfl,trivial⟩,⟨rfl,rfl,rfl,rfl,trivial⟩,trivial⟩
  ·exact ⟨(v,v1,j),⟨by simp only; omega,by simp only; omega,q3.fj⟩,⟨rfl,rfl,rfl,trivial⟩,⟨⟨trivial,rfl⟩,rfl,trivial⟩,⟨rfl,rfl,rfl,rfl,trivial⟩,⟨rfl,rfl,rfl,rfl,trivial⟩,trivial⟩
 ·rintro ⟨f,a,j⟩ ⟨hf,ha,hj⟩
  simp only at hf ha hj
  dsimp only
  refine cdI (by omega) (cdI (by omega) ⟨⟨s,hj⟩,fun b j q1=>⟨⟨s,q1.fj⟩,fun v2 j q2=>?_⟩⟩)
  have hb:=q1.fv (by omega)
  refine cs (fun _=>?_) (fun _=>?_)
  ·have e:b.tmod 105=b % 105:=Int.tmod_eq_emod_of_nonneg hb.1
   rw [e]
   have hn:=nrm_ok (f:=f) (a:=a) (b:=b - b % 105) (c:=840 - a - (b - b % 105)) ⟨hf,by omega,by omega,by omega,by omega⟩
   exact cdI (by omega) (cdI (by omega) (cdI (by omega) ⟨trivial,_,_,_,_,_,⟨hn.1,hn.2,q2.fj⟩,⟨rfl,rfl,rfl,rfl,trivial⟩,⟨⟨trivial,rfl⟩,rfl,trivial⟩,trivial⟩))
  ·have hn:=nrm_ok (f:=f) (a:=a) (b:=b) (c:=840 - a - b) ⟨hf,by omega,by omega,by omega,by omega⟩
   exact cdI (by omega) (cdI (by omega) ⟨trivial,_,_,_,_,_,⟨hn.1,hn.2,q2.fj⟩,⟨rfl,rfl,rfl,rfl,trivial⟩,⟨⟨trivial,rfl⟩,rfl,trivial⟩,trivial⟩)
def qplace_S (vld:Int→Int→Int→Int→Bool) (adr:Int→Int→Int→Int→List (List AV)) (nrm:Int→Int→Int→Int→Int × Int × Int × Int):Prop:=∀ (gl:Glob) (xs:List (List AV)) (i:Int),SrcQ xs i→fnQ Tryd.prog { glob:=gl,spec:=lk [(15,(rNormal_s vld adr nrm))],specH:=lk [],specQ:=lk [(5,qn_s)],nowf:=true } { nt:=55,drop:=drp [(1,1984),(2,2048),(3,16384),(4,491520),(5,1048576),(6,31457280),(7,4261412864),(8,12884901888),(9,4363686772736),(10,558551906910208),(11,17451448556060672),(12,18014398509481984)],fr:=1000,kp:=[0] } (invs [(100007,plaC xs)]) 6 Tryd.f6 [.ptr 0 0] [.cells [.sl 1 false xs,.int .i64 i]] (fun r2 bs2=>∃ (f a b c j:Int),(PlaQ f a b c j)∧le r2 (.agg [.int .i64 f,.int .i64 a,.int .i64 b,.int .i64 c])∧leBs bs2 [.cells [.sl 1 false xs,.int .i64 j]])
theorem qplace_e (vld:Int→Int→Int→Int→Bool) (adr:Int→Int→Int→Int→List (List AV)) (nrm:Int→Int→Int→Int→Int × Int × Int × Int):qplace_T vld adr nrm=qplace_S vld adr nrm:=by kernel_rfl
theorem qplace_v:qplace_S vld adr nrm:=Eq.mp (qplace_e ..) (qplace_P)
theorem qplace_ok (gl:Glob):QOK Tryd.prog gl 6 qplace_s:=by
 refine ⟨fok Tryd.func6 (by kernel_rfl) (by kernel_rfl),?_⟩
 intro xs bs T h K hT
 unfold qplace_s at h
 split at h
 ·simp only [Option.some.injEq] at h
  subst h
  obtain ⟨hp,hK⟩:=hT
  obtain ⟨r,bs2,⟨o0,o1,o2,o3,o4,hq,hl,hb⟩,hC⟩:=fnQ_sound tyNil (by exact specOK rfl rfl ⟨(rNormal_ok gl),trivial⟩ trivial (d:=qsOf rfl ⟨(qn_ok gl),trivial⟩)) (by kernel_rfl) Tryd.func6 (qplace_v gl _ _ hp)
  exact ⟨_,_,hK o0 o1 o2 o3 o4 hq,hC.le hl hb⟩
 ·cases h
end Go.Proofs.YtldiagnbagpliaaDoor
namespace Go.Proofs.YtldiagnbagpliaaDoor
open Go
set_option linter.unusedVariables false
set_option linter.unusedSimpArgs false
def nam6:List ByteArray:=[⟨#[65,76,80,72,65]⟩,⟨#[66,82,65,86,79]⟩,⟨#[48,49,50,51,52]⟩,⟨#[68,69,76,84,65]⟩,⟨#[69,67,72,79,55]⟩,⟨#[55,55,55,55,55]⟩]
theorem sT {xs:List (List AV)} {j:Int}:((True∧xs=xs)∧j=j∧True)∧True:=⟨⟨⟨trivial,rfl⟩,rfl,trivial⟩,trivial⟩
theorem in_bd {c:Int} (h:1≤c∧c≤11):-1000≤inLo c∧inLo c+1≤inHi c∧inHi c≤11000∧inLo c+40≤(inLo c+inHi c).tdiv 2∧(inLo c+inHi c).tdiv 2+40≤inHi c:=by
 have hc:c=1∨c=2∨c=3∨c=4∨c=5∨c=6∨c=7∨c=8∨c=9∨c=10∨c=11:=by omega
 rcases hc with rfl | rfl | rfl | rfl | rfl | rfl | rfl | rfl | rfl | rfl | rfl <;> decide
structure NamQ (s:ByteArray) (j:Int):Prop where
 fs:s ∈ nam6
 fj:0≤j
def qname_s:SpQ
 | [.ptr 0 0],[.cells [.sl 1 false xs,.int .i64 i]]=>some (fun K=>(SrcQ xs i)∧(∀ (s:ByteArray) (j:Int),(NamQ s j)→K (.str s) [.cells [.sl 1 false xs,.int .i64 j]]))
 | _,_=>none
def qname_T:Prop :=
  ∀ (gl:Glob) (xs:List (List AV)) (i:Int),SrcQ xs i→(SrcQ xs i∧((6:Nat)=6∧(1:Nat)≤(6:Nat)∧(6:Nat)≤(1000:Nat))∧StrsA [[AV.str { data:=#[(65:UInt8),(76:UInt8),(80:UInt8),(72:UInt8),(65:UInt8)] }],[AV.str { data:=#[(66:UInt8),(82:UInt8),(65:UInt8),(86:UInt8),(79:UInt8)] }],[AV.str { data:=#[(48:UInt8),(49:UInt8),(50:UInt8),(51:UInt8),(52:UInt8)] }],[AV.str {
 data:=#[(68:UInt8),(69:UInt8),(76:UInt8),(84:UInt8),(65:UInt8)] }],[AV.str { data:=#[(69:UInt8),(67:UInt8),(72:UInt8),(79:UInt8),(55:UInt8)] }],[AV.str { data:=#[(55:UInt8),(55:UInt8),(55:UInt8),(55:UInt8),(55:UInt8)] }]])∧∀ (v:ByteArray) (j:Int),PickQ [[AV.str { data:=#[(65:UInt8),(76:UInt8),(80:UInt8),(72:UInt8),(65:UInt8)] }],[AV.str { data :=
 #[(66:UInt8),(82:UInt8),(65:UInt8),(86:UInt8),(79:UInt8)] }],[AV.str { data:=#[(48:UInt8),(49:UInt8),(50:UInt8),(51:UInt8),(52:UInt8)] }],[AV.str { data:=#[(68:UInt8),(69:UInt8),(76:UInt8),(84:UInt8),(65:UInt8)] }],[AV.str { data:=#[(69:UInt8),(67:UInt8),(72:UInt8),(79:UInt8),(55:UInt8)] }],[AV.str { data:=#[(55:UInt8),(55:UInt8),(55:UInt8),(55
:UInt8),(55:UInt8)] }]] (AV.str v) j→∃ s j_1,NamQ s j_1∧v=s∧((True∧xs=xs)∧j=j_1∧True)∧True
theorem qname_P:qname_T:=by
 unfold qname_T
 intro gl xs i hs
 refine ⟨⟨hs,⟨rfl,by decide,by decide⟩,⟨fun x hx=>?_⟩⟩,fun v j q=>⟨_,_,⟨?_,q.fj⟩,rfl,sT⟩⟩
 ·simp only [List.mem_cons,List.not_mem_nil,or_false] at hx
  rcases hx with rfl | rfl | rfl | rfl | rfl | rfl <;> exact ⟨_,rfl⟩
 ·have:=q.fm
  simp only [List.mem_cons,List.cons.injEq,AV.str.injEq,and_true,List.not_mem_nil,or_false] at this
  unfold nam6
  simp only [List.mem_cons,List.not_mem_nil,or_false]
  exact this
def qname_S:Prop:=∀ (gl:Glob) (xs:List (List AV)) (i:Int),SrcQ xs i→fnQ Tryd.prog { glob:=gl,spec:=lk [],specH:=lk [],specQ:=lk [(60,qtext_s)],nowf:=true } { nt:=6,drop:=drp [(1,56)],fr:=1000,kp:=[0] } (fun _ _=>none) 6 Tryd.f26 [.ptr 0 0] [.cells [.sl 1 false xs,.int .i64 i]] (fun r2 bs2=>∃ (s:ByteArray) (j:Int),(NamQ s j)∧le r2 (.str s)∧leBs bs2 [.cells [.sl 1 false xs,.int .i64 j]])
theorem qname_e:qname_T=qname_S:=by kernel_rfl
theorem qname_v:qname_S:=Eq.mp (qname_e ..) (qname_P)
theorem qname_ok (gl:Glob):QOK Tryd.prog gl 26 qname_s:=by
 refine ⟨fok Tryd.func26 (by kernel_rfl) (by kernel_rfl),?_⟩
 intro xs bs T h K hT
 unfold qname_s at h
 split at h
 ·simp only [Option.some.injEq] at h
  subst h
  obtain ⟨hp,hK⟩:=hT
  obtain ⟨r,bs2,⟨o0,o1,hq,hl,hb⟩,hC⟩:=fnQ_sound tyNil (by exact specOK rfl rfl trivial trivial (d:=qsOf rfl ⟨(qtext_ok gl),trivial⟩)) (by kernel_rfl) Tryd.func26 (qname_v gl _ _ hp)
  exact ⟨_,_,hK o0 o1 hq,hC.le hl hb⟩
 ·cases h
structure SomQ (c v j:Int):Prop where
 fv:inLo c≤v∧v≤inHi c
 fj:0≤j
def qsome_s (iL:Int→ByteArray) (inLo:Int→Int) (inHi:Int→Int) (inD:Int→Int) (inE:Int→Int):SpQ
 | [.ptr 0 0,.int .i64 c],[.cells [.sl 1 false xs,.int .i64 i]]=>some (fun K=>(SrcQ xs i∧1≤c∧c≤11)∧(∀ (v j:Int),(SomQ c v j)→K (.agg [.int .i64 c,.int .i64 v]) [.cells [.sl 1 false xs,.int .i64 j]]))
 | _,_=>none
def qsome_T (iL:Int→ByteArray) (inLo:Int→Int) (inHi:Int→Int) (inD:Int→Int) (inE:Int→Int):Prop :=
  ∀ (gl:Glob) (xs:List (List AV)) (i c:Int),SrcQ xs i∧1≤c∧c≤(11:Int)→True∧(SrcQ xs i∧inLo c≤inHi c∧(-1000000000:Int)≤inLo c∧inHi c≤(1000000000:Int))∧∀ (v j:Int),(inLo c≤v∧v≤inHi c)∧0≤j→SrcQ xs j∧∀ (v_1 j:Int),NumQ (5:Int) v_1 j→bif decide (v_1=(0:Int)) then (SrcQ xs j∧((2:Nat)=[[AV.int .i64 (inLo c)],[AV.int .i64 (inHi c)]].length∧(1:Nat)≤(2:Nat)∧(2:Nat) ≤
 (1000:Nat))∧IntsB [[AV.int .i64 (inLo c)],[AV.int .i64 (inHi c)]])∧∀ (v j:Int),PickQ [[AV.int .i64 (inLo c)],[AV.int .i64 (inHi c)]] (AV.int .i64 v) j→∃ v_2 j_1,SomQ c v_2 j_1∧(c=c∧v=v_2∧True)∧((True∧xs=xs)∧j=j_1∧True)∧True else bif decide (v_1=(1:Int)) then bif decide (rng .i64 (inLo c+inHi c)) then bif decide (rng .i64 ((inLo c+inHi c).tdiv (2:Int))) then (SrcQ xs j∧(-40:Int) ≤
 (40:Int)∧(-1000000000:Int)≤(-40:Int)∧(40:Int)≤(1000000000:Int))∧∀ (v j:Int),((-40:Int)≤v∧v≤(40:Int))∧0≤j→bif decide (rng .i64 ((inLo c+inHi c).tdiv (2:Int)+v)) then ∃ v_2 j_1,SomQ c v_2 j_1∧(c=c∧(inLo c+inHi c).tdiv (2:Int)+v=v_2∧True)∧((True∧xs=xs)∧j=j_1∧True)∧True else False else False else False else bif decide (v_1=(2:Int)) then bif decide (rng .i64 (inLo c+inHi c))
 then bif decide (rng .i64 ((inLo c+inHi c).tdiv (2:Int))) then (SrcQ xs j∧(-40:Int)≤(40:Int)∧(-1000000000:Int)≤(-40:Int)∧(40:Int)≤(1000000000:Int))∧∀ (v j:Int),((-40:Int)≤v∧v≤(40:Int))∧0≤j→bif decide (rng .i64 ((inLo c+inHi c).tdiv (2:Int)+v)) then ∃ v_2 j_1,SomQ c v_2 j_1∧(c=c∧(inLo c+inHi c).tdiv (2:Int)+v=v_2∧True)∧((True∧xs=xs)∧j=j_1∧True)∧True else False else False
 else False else ∃ v_2 j_1,SomQ c v_2 j_1∧(c=c∧v=v_2∧True)∧((True∧xs=xs)∧j=j_1∧True)∧True
theorem qsome_P:qsome_T iL inLo inHi inD inE:=by
 unfold qsome_T
 intro gl xs i c ⟨hs,h1,h2⟩
 have s:=hs.s
 have b:=in_bd ⟨h1,h2⟩
 refine ⟨trivial,⟨hs,by omega,by omega,by omega⟩,fun v j q1=>⟨⟨s,q1.2⟩,fun v1 j q2=>?_⟩⟩
 have mid:∀ j,0≤j→cond (decide (rng .i64 (inLo c+inHi c))) (cond (decide (rng .i64 ((inLo c+inHi c).tdiv 2))) ((SrcQ xs j∧(-40:Int)≤40∧(-1000000000:Int)≤-40∧(40:Int)≤1000000000)∧∀ (v j:Int),(-40≤v∧v≤40)∧0≤j→cond (decide (rng .i64 ((inLo c+inHi c).tdiv 2+v))) (∃ v_2 j_1,SomQ c v_2 j_1∧(c=c∧(inLo c+inHi c).tdiv 2+v=v_2∧True)∧((True∧xs=xs)∧j=j_1∧True)∧True) False) False) False:=by
  intro j hj
  exact cdI (by omega) (cdI (by omega) ⟨⟨⟨s,hj⟩,by decide,by decide,by decide⟩,fun v j q=>cdI (by omega) ⟨_,_,⟨by omega,q.2⟩,⟨rfl,rfl,trivial⟩,sT⟩⟩)
 refine cs (fun _=>⟨⟨⟨s,q2.fj⟩,⟨rfl,by decide,by decide⟩,ints_of [inLo c,inHi c] ?_⟩,fun v j q3=>?_⟩) (fun _=>cs (fun _=>mid _ q2.fj) (fun _=>cs (fun _=>mid _ q2.fj) (fun _=>⟨_,_,⟨q1.1,q2.fj⟩,⟨rfl,rfl,trivial⟩,sT⟩)))
 ·intro n hn
  simp only [List.mem_cons,List.not_mem_nil,or_false] at hn
  show _∧_
  omega
 ·have:=pick_of [inLo c,inHi c] q3
  simp only [List.mem_cons,List.not_mem_nil,or_false] at this
  exact ⟨_,_,⟨by omega,q3.fj⟩,⟨rfl,rfl,trivial⟩,sT⟩
def qsome_S (iL:Int→ByteArray) (inLo:Int→Int) (inHi:Int→Int) (inD:Int→Int) (inE:Int→Int):Prop:=∀ (gl:Glob) (xs:List (List AV)) (i c:Int),SrcQ xs i∧1≤c∧c≤11→fnQ Tryd.prog { glob:=gl,spec:=lk [(68,(rdesc_s iL inLo inHi inD inE))],specH:=lk [],specQ:=lk [(5,qn_s),(28,qrange_s),(67,qpick_s)],nowf:=true } { nt:=47,drop:=drp [(1,7936),(2,2088960),(3,2097152),(4,16777216),(5,8556380160),(6,17179869184),(7,34359738368),(8,70300024700928),(9,70368744177664)],fr:=1000,kp:=[0] } (fun _ _=>none) 6 Tryd.f31 [.ptr 0 0,.int .i64 c] [.cells [.sl 1 false xs,.int .i64 i]] (fun r2 bs2=>∃ (v j:Int),(SomQ c v j)∧le r2 (.agg [.int .i64 c,.int .i64 v])∧leBs bs2 [.cells [.sl 1 false xs,.int .i64 j]])
theorem qsome_e (iL:Int→ByteArray) (inLo:Int→Int) (inHi:Int→Int) (inD:Int→Int) (inE:Int→Int):qsome_T iL inLo inHi inD inE=qsome_S iL inLo inHi inD inE:=by kernel_rfl
theorem qsome_v:qsome_S iL inLo inHi inD inE:=Eq.mp (qsome_e ..) (qsome_P)
theorem qsome_ok (gl:Glob):QOK Tryd.prog gl 31 (qsome_s iL inLo inHi inD inE):=by
 refine ⟨fok Tryd.func31 (by kernel_rfl) (by kernel_rfl),?_⟩
 intro xs bs T h K hT
 unfold qsome_s at h
 split at h
 ·simp only [Option.some.injEq] at h
  subst h
  obtain ⟨hp,hK⟩:=hT
  obtain ⟨r,bs2,⟨o0,o1,hq,hl,hb⟩,hC⟩:=fnQ_sound tyNil (by exact specOK rfl rfl ⟨(rdesc_ok gl),trivial⟩ trivial (d:=qsOf rfl ⟨(qn_ok gl),(qrange_ok gl),(qpick_ok gl),trivial⟩)) (by kernel_rfl) Tryd.func31 (qsome_v gl _ _ _ hp)
  exact ⟨_,_,hK o0 o1 hq,hC.le hl hb⟩
 ·cases h
structure RdV (c:Int) (ys:List (List AV)):Prop where
 frow:∀ i,i < ys.length→∃ e v:Int,ys.getD i []=[.int .i64 e,.int .i64 v]∧(1≤e∧e < c)∧inLo e≤v∧v≤inHi e
 fasc:∀ i j:Nat,i < j→j < ys.length→rE (ys.getD i []) < rE (ys.getD j [])
 flen:(ys.length:Int)≤c - 1
theorem rdV_nil (c:Int) (h:1≤c):RdV c []:=⟨fun i h=>by simp at h,fun i j _ h=>by simp at h,by simp; omega⟩
theorem rdV_up {c:Int} {ys:List (List AV)} (h:RdV c ys):RdV (c+1) ys:=⟨fun i hi=>by obtain ⟨e,v,h1,h2,h3⟩:=h.frow i hi; exact ⟨e,v,h1,by omega,h3⟩,h.fasc,by have:=h.flen; omega⟩
theorem gD_app {α:Type} {xs ys:List α} {d:α} {i:Nat}:(xs++ys).getD i d=if i < xs.length then xs.getD i d else ys.getD (i - xs.length) d:=by
 rw [List.getD_eq_getElem?_getD,List.getD_eq_getElem?_getD,List.getD_eq_getElem?_getD]
 by_cases h:i < xs.length
 ·rw [if_pos h,List.getElem?_append_left h]
 ·rw [if_neg h,List.getElem?_append_right (by omega)]
theorem rdV_add {c v:Int} {ys:List (List AV)} (h:RdV c ys) (hc:1≤c) (hv:inLo c≤v∧v≤inHi c):RdV (c+1) (ys++[[.int .i64 c,.int .i64 v]]):=by
 refine ⟨fun i hi=>?_,fun i j hij hj=>?_,by have:=h.flen; simp; omega⟩
 ·rw [List.length_append,List.length_singleton] at hi
  rw [gD_app]
  by_cases hl:i < ys.length
  ·rw [if_pos hl]
   obtain ⟨e,v,h1,h2,h3⟩:=h.frow i hl
   exact ⟨e,v,h1,by omega,h3⟩
  ·rw [if_neg hl,show i - ys.length=0 by omega]
   exact ⟨c,v,rfl,by omega,hv⟩
 ·rw [List.length_append,List.length_singleton] at hj
  rw [gD_app,gD_app]
  by_cases hl:j < ys.length
  ·rw [if_pos hl,if_pos (by omega)]
   exact h.fasc i j hij hl
  ·rw [if_neg hl,if_pos (by omega),show j - ys.length=0 by omega]
   obtain ⟨e,v,h1,h2,h3⟩:=h.frow i (by omega)
   rw [h1]
   show e < c
   omega
structure LstP (x:Int × Int × List (List AV)):Prop where
 fc:1≤x.1∧x.1≤12
 fj:0≤x.2.1
 fr:RdV x.1 x.2.2
def lstI (xs:List (List AV)):LInv:=⟨Int × Int × List (List AV),fun x=>⟨[(0,.ptr 0 0),(3,.rw 1500 2 x.2.2.length),(4,.int .i64 x.1)],[(0,.cells [.sl 1 false xs,.int .i64 x.2.1]),(1500,.row 60 2 x.2.2)]⟩,LstP,fun x=>(12 - x.1).toNat,none⟩
structure RdQ (ys:List (List AV)) (j:Int):Prop where
 fr:RdV 12 ys
 fj:0≤j
def qlist_s:SpQ
 | [.ptr 0 0],[.cells [.sl 1 false xs,.int .i64 i]]=>some (fun K=>(SrcQ xs i)∧(∀ (ys:List (List AV)) (j:Int),(RdQ ys j)→K (.sl 2 false ys) [.cells [.sl 1 false xs,.int .i64 j]]))
 | _,_=>none
def qlist_T (iL:Int→ByteArray) (inLo:Int→Int) (inHi:Int→Int) (inD:Int→Int) (inE:Int→Int):Prop :=
  ∀ (gl:Glob) (xs:List (List AV)) (i:Int),SrcQ xs i→(∃ x,LstP x∧((0:Nat)=0∧(0:Nat)=x.snd.snd.length∧(1:Int)=x.fst∧True)∧((True∧xs=xs)∧i=x.snd.fst∧True)∧[]=x.snd.snd∧True)∧∀ (x:Int × Int × List (List AV)),LstP x→bif decide (x.fst≤(11:Int)) then SrcQ xs x.snd.fst∧∀ (v j:Int),NumQ (3:Int) v j→bif decide (v=(0:Int)) then (SrcQ xs j∧1≤x.fst∧x.fst≤(11:Int))∧∀ (v j:Int),SomQ x.fst v j→bif
 decide (x.snd.snd.length=x.snd.snd.length∧x.snd.snd.length+[[AV.int .i64 x.fst,.int .i64 v]].length≤(9223372036854775807:Nat)∧(x.snd.snd.length+[[AV.int .i64 x.fst,.int .i64 v]].length)*(16:Nat)≤(140737488355328:Nat)) then bif decide (rng .i64 (x.fst+(1:Int))) then ∃ y,LstP y∧(lstI xs).m y < (lstI xs).m x∧((0:Nat)=0∧(x.snd.snd++[[AV.int .i64 x.fst,.int .i64
 v]]).length=y.snd.snd.length∧x.fst+(1:Int)=y.fst∧True)∧((True∧xs=xs)∧j=y.snd.fst∧True)∧x.snd.snd++[[AV.int .i64 x.fst,.int .i64 v]]=y.snd.snd∧True else False else False else bif decide (rng .i64 (x.fst+(1:Int))) then ∃ y,LstP y∧(lstI xs).m y < (lstI xs).m x∧((0:Nat)=0∧x.snd.snd.length=y.snd.snd.length∧x.fst+(1:Int)=y.fst∧True)∧((True∧xs=xs)∧j=y.snd.fst∧True)∧x.snd.snd=y.snd.snd∧True else
 False else bif decide (x.snd.snd.length=x.snd.snd.length) then ∃ ys j,RdQ ys j∧(True∧x.snd.snd=ys)∧((True∧xs=xs)∧x.snd.fst=j∧True)∧True else False
theorem qlist_P:qlist_T iL inLo inHi inD inE:=by
 unfold qlist_T
 intro gl xs i hs
 have s:=hs.s
 refine ⟨⟨(1,i,[]),⟨⟨by simp,by simp⟩,hs.lo,rdV_nil _ (by simp)⟩,⟨rfl,rfl,rfl,trivial⟩,⟨⟨trivial,rfl⟩,rfl,trivial⟩,rfl,trivial⟩,?_⟩
 rintro ⟨c,j,ys⟩ ⟨hc,hj,hr⟩
 simp only at hc hj hr
 have hl:=hr.flen
 refine cs (fun h=>⟨⟨s,hj⟩,fun v j q1=>cs (fun _=>⟨⟨⟨s,q1.fj⟩,hc.1,h⟩,fun v j q2=>?_⟩) (fun _=>?_)⟩) (fun h=>?_)
 ·refine cd1 ⟨rfl,by simp; omega,by simp; omega⟩ (cdI (by simp only; omega) ⟨(c+1,j,ys++[[.int .i64 c,.int .i64 v]]),⟨by simp only at h ⊢; omega,q2.fj,rdV_add hr hc.1 q2.fv⟩,by simp only [lstI] at h ⊢; omega,⟨rfl,rfl,rfl,trivial⟩,⟨⟨trivial,rfl⟩,rfl,trivial⟩,rfl,trivial⟩)
 ·exact cdI (by simp only; omega) ⟨(c+1,j,ys),⟨by simp only at h ⊢; omega,q1.fj,rdV_up hr⟩,by simp only [lstI] at h ⊢; omega,⟨rfl,rfl,rfl,trivial⟩,⟨⟨trivial,rfl⟩,rfl,trivial⟩,rfl,trivial⟩
 ·have e:c=12:=by simp only at h; omega
  subst e
  exact cd1 rfl ⟨_,_,⟨hr,hj⟩,⟨trivial,rfl⟩,sT⟩
def qlist_S (iL:Int→ByteArray) (inLo:Int→Int) (inHi:Int→Int) (inD:Int→Int) (inE:Int→Int):Prop:=∀ (gl:Glob) (xs:List (List AV)) (i:Int),SrcQ xs i→fnQ Tryd.prog { glob:=gl,spec:=lk [],specH:=lk [],specQ:=lk [(5,qn_s),(31,(qsome_s iL inLo inHi inD inE))],nowf:=true } { nt:=19,drop:=drp [(3,32),(4,384),(5,1536),(6,258048),(7,262144)],fr:=1000,kp:=[0],emp:=fun id=>cond (Nat.beq id 2) [(3,1500,60,2)] [] } (invs [(3,lstI xs)]) 6 Tryd.f10 [.ptr 0 0] [.cells [.sl 1 false xs,.int .i64 i]] (fun r2 bs2=>∃ (ys:List (List AV)) (j:Int),(RdQ ys j)∧le r2 (.sl 2 false ys)∧leBs bs2 [.cells [.sl 1 false xs,.int .i64 j]])
theorem qlist_e (iL:Int→ByteArray) (inLo:Int→Int) (inHi:Int→Int) (inD:Int→Int) (inE:Int→Int):qlist_T iL inLo inHi inD inE=qlist_S iL inLo inHi inD inE:=by kernel_rfl
theorem qlist_v:qlist_S iL inLo inHi inD inE:=Eq.mp (qlist_e ..) (qlist_P)
theorem qlist_ok (gl:Glob):QOK Tryd.prog gl 10 qlist_s:=by
 refine ⟨fok Tryd.func10 (by kernel_rfl) (by kernel_rfl),?_⟩
 intro xs bs T h K hT
 unfold qlist_s at h
 split at h
 ·simp only [Option.some.injEq] at h
  subst h
  obtain ⟨hp,hK⟩:=hT
  obtain ⟨r,bs2,⟨o0,o1,hq,hl,hb⟩,hC⟩:=fnQ_sound tyNil (by exact specOK rfl rfl trivial trivial (d:=qsOf rfl ⟨(qn_ok gl),(qsome_ok gl),trivial⟩)) (by kernel_rfl) Tryd.func10 (qlist_v gl _ _ hp)
  exact ⟨_,_,hK o0 o1 hq,hC.le hl hb⟩
 ·cases h
structure RepQ (k:Int) (nm:ByteArray) (t f a b c:Int) (ys:List (List AV)) (j:Int):Prop where
 fk:1≤k∧k≤3
 fn:nm ∈ nam6
 ft:0≤t∧t≤52595999
 fl:k=1→f=0∧a=0∧b=0∧c=0
 fp:¬ k=1→Vld f a b c∧isN f a b c=true
 fr:RdV 12 ys
 fj:0≤j
end Go.Proofs.YtldiagnbagpliaaDoor
namespace Go.Proofs.YtldiagnbagpliaaDoor
open Go
set_option linter.unusedVariables false
set_option linter.unusedSimpArgs false
def cmpI (a b:Int):Int:=if a < b then -1 else if b < a then 1 else 0
theorem cmp_lt {a b:Int} (h:a < b):cmpI a b=-1:=by unfold cmpI; rw [if_pos h]
theorem cmp_eq {a b:Int} (h:a=b):cmpI a b=0:=by unfold cmpI; rw [if_neg (by omega),if_neg (by omega)]
theorem cmp_gt {a b:Int} (h:b < a):cmpI a b=1:=by unfold cmpI; rw [if_neg (by omega),if_pos h]
theorem cmp_neg (p q:Int):cmpI p q < 0↔p < q:=by unfold cmpI; split <;> (try split) <;> omega
theorem cmp_zero (p q:Int):cmpI p q=0↔p=q:=by unfold cmpI; split <;> (try split) <;> omega
def nanI_s:Sp
 | [.int .i64 a]=>some (True,.bool false)
 | _=>none
def nanI_T:Prop :=
 ∀ (gl:Glob) (a:Int),(-9223372036854775808:Int)≤a∧a≤(9223372036854775807:Int)→(decide ¬a=a)=false
theorem nanI_P:nanI_T:=by
 unfold nanI_T
 intro gl a _
 exact decide_eq_false (fun h=>h rfl)
def nanI_S:Prop:=∀ (gl:Glob) (a:Int),fnK Tryd.prog { glob:=gl,spec:=lk [],specH:=lk [] } { nt:=6,drop:=drp [(1,56)] } (fun _ _=>none) 6 Tryd.f83 [.int .i64 a] (.bool false)
theorem nanI_e:nanI_T=nanI_S:=by kernel_rfl
theorem nanI_v:nanI_S:=Eq.mp (nanI_e ..) (nanI_P)
theorem nanI_ok (gl:Glob):SOK Tryd.prog gl 83 nanI_s:=by
 refine ⟨fok Tryd.func83 (by kernel_rfl) (by kernel_rfl),?_⟩
 intro xs pre r h hp
 unfold nanI_s at h
 split at h
 ·simp only [Option.some.injEq,Prod.mk.injEq] at h
  obtain ⟨h1,h2⟩:=h
  subst h1 h2
  exact fnK_sound tyNil (by exact specOK rfl rfl trivial trivial) (by kernel_rfl) Tryd.func83 rfl (nanI_v gl _)
 ·cases h
def fcmpI_s (cmpI:Int→Int→Int):Sp
 | [.int .i64 a,.int .i64 b]=>some (True,.int .i64 (cmpI a b))
 | _=>none
def fcmpI_T (cmpI:Int→Int→Int):Prop :=
 ∀ (gl:Glob) (a b:Int),(-9223372036854775808:Int)≤a∧a≤(9223372036854775807:Int)→(-9223372036854775808:Int)≤b∧b≤(9223372036854775807:Int)→True∧True ∧
 bif decide (a < b) then (-1:Int)=cmpI a b else bif decide (b < a) then (1:Int)=cmpI a b else (0:Int)=cmpI a b
theorem fcmpI_P:fcmpI_T cmpI:=by
 unfold fcmpI_T
 intro gl a b _ _
 unfold cmpI
 refine ⟨trivial,trivial,cs (fun h=>?_) (fun h=>cs (fun k=>?_) (fun k=>?_))⟩
 ·rw [if_pos h]
 ·rw [if_neg h,if_pos k]
 ·rw [if_neg h,if_neg k]
def fcmpI_S (cmpI:Int→Int→Int):Prop:=∀ (gl:Glob) (a b:Int),fnK Tryd.prog { glob:=gl,spec:=lk [(83,nanI_s)],specH:=lk [],nowf:=true } { nt:=20,drop:=drp [(1,384),(2,1536),(9,49152),(11,393216)] } (fun _ _=>none) 6 Tryd.f57 [.int .i64 a,.int .i64 b] (.int .i64 (cmpI a b))
theorem fcmpI_e (cmpI:Int→Int→Int):fcmpI_T cmpI=fcmpI_S cmpI:=by kernel_rfl
theorem fcmpI_v:fcmpI_S cmpI:=Eq.mp (fcmpI_e ..) (fcmpI_P)
theorem fcmpI_ok (gl:Glob):SOK Tryd.prog gl 57 (fcmpI_s cmpI):=by
 refine ⟨fok Tryd.func57 (by kernel_rfl) (by kernel_rfl),?_⟩
 intro xs pre r h hp
 unfold fcmpI_s at h
 split at h
 ·simp only [Option.some.injEq,Prod.mk.injEq] at h
  obtain ⟨h1,h2⟩:=h
  subst h1 h2
  exact fnK_sound tyNil (by exact specOK rfl rfl ⟨(nanI_ok gl),trivial⟩ trivial) (by kernel_rfl) Tryd.func57 rfl (fcmpI_v gl _ _)
 ·cases h
def orI (a b:Int):Int:=if a=0 then b else a
structure OrP (ys:List (List AV)) (i:Int):Prop where
 flo:0≤i
 fhi:i≤ys.length
 fz:∀ j:Nat,(j:Int) < i→cellI (ys.getD j [])=0
structure OrI (ys:List (List AV)) (n:Nat):Prop where
 fn:n=ys.length
 fl:n≤1000
 fi:∀ x ∈ ys,∃ z:Int,x=[.int .i64 z]
end Go.Proofs.YtldiagnbagpliaaDoor
namespace Go.Proofs.YtldiagnbagpliaaDoor
open Go
set_option linter.unusedVariables false
set_option linter.unusedSimpArgs false
theorem csx {p:Prop} [Decidable p] {A B:Prop} (h:p→A) (k:¬ p→B):cond (decide p) A B:=csplit (fun q=>h (of_decide_eq_true q)) (fun q=>k (of_decide_eq_false q))
theorem cmp_an (a b:Int):cmpI b a=- cmpI a b:=by
 unfold cmpI
 split <;> (try split) <;> (try split) <;> omega
def lexI:List Int→List Int→Int
 | [],[]=>0
 | [],_::_=>-1
 | _::_,[]=>1
 | a::x,b::y=>orI (cmpI a b) (lexI x y)
theorem lexI_rfl:∀ x:List Int,lexI x x=0
 | []=>rfl
 | a::x=>by simp only [lexI,orI]; rw [cmp_eq rfl,if_pos rfl]; exact lexI_rfl x
theorem lexI_zero:∀ {x y:List Int},lexI x y=0→x=y
 | [],[],_=>rfl
 | [],_::_,h=>by simp [lexI] at h
 | _::_,[],h=>by simp [lexI] at h
 | a::x,b::y,h=>by
  simp only [lexI,orI] at h
  split at h
  ·next e=>rw [(cmp_zero a b).1 e,lexI_zero h]
  ·next e=>exact absurd h e
theorem lexI_an:∀ x y:List Int,lexI y x=- lexI x y
 | [],[]=>rfl
 | [],_::_=>rfl
 | _::_,[]=>rfl
 | a::x,b::y=>by
  simp only [lexI,orI]
  rw [cmp_an a b,lexI_an x y]
  by_cases h:cmpI a b=0
  ·rw [if_pos (by omega),if_pos h]
  ·rw [if_neg (by omega),if_neg h]
theorem lexI_tr:∀ {x y z:List Int},lexI x y < 0→lexI y z < 0→lexI x z < 0
 | [],[],_,h,_=>by simp [lexI] at h
 | [],_::_,[],_,k=>by simp [lexI] at k
 | [],_::_,_::_,_,_=>by simp [lexI]
 | _::_,[],_,h,_=>by simp [lexI] at h
 | _::_,_::_,[],_,k=>by simp [lexI] at k
 | a::x,b::y,c::z,h,k=>by
  simp only [lexI,orI] at h k ⊢
  have A:=cmp_neg a b
  have B:=cmp_neg b c
  have C:=cmp_neg a c
  have A0:=cmp_zero a b
  have B0:=cmp_zero b c
  have C0:=cmp_zero a c
  by_cases e1:cmpI a b=0
  ·rw [if_pos e1] at h
   by_cases e2:cmpI b c=0
   ·rw [if_pos e2] at k
    rw [if_pos (C0.2 (by rw [A0.1 e1,B0.1 e2]))]
    exact lexI_tr h k
   ·rw [if_neg e2] at k
    have:=A0.1 e1
    rw [if_neg (by rw [this]; exact e2),this]
    exact k
  ·rw [if_neg e1] at h
   have h1:=A.1 h
   by_cases e2:cmpI b c=0
   ·have:=B0.1 e2
    rw [if_neg (by rw [← this]; exact e1),← this]
    exact h
   ·rw [if_neg e2] at k
    have h2:=B.1 k
    have h3:cmpI a c < 0:=C.2 (by omega)
    rw [if_neg (by omega)]
    exact h3
def nmK:List UInt8→List Int
 | []=>[0]
 | b::l=>((b.toNat:Int)+1)::nmK l
def cmpS (a b:ByteArray):Int:=if Op.bytesLess a.toList b.toList then -1 else if Op.bytesLess b.toList a.toList then 1 else 0
theorem lex_nm {x y:List Int}:∀ s t:List UInt8,lexI (nmK s++x) (nmK t++y)=orI (if Op.bytesLess s t then -1 else if Op.bytesLess t s then 1 else 0) (lexI x y)
 | [],[]=>by simp [nmK,lexI,orI,Op.bytesLess,cmpI]
 | [],b::t=>by
  have:cmpI 0 ((b.toNat:Int)+1)=-1:=cmp_lt (by omega)
  simp [nmK,lexI,orI,Op.bytesLess,this]
 | a::s,[]=>by
  have:cmpI ((a.toNat:Int)+1) 0=1:=cmp_gt (by omega)
  simp [nmK,lexI,orI,Op.bytesLess,this]
 | a::s,b::t=>by
  have ih:=lex_nm (x:=x) (y:=y) s t
  simp only [nmK,List.cons_append,lexI,Op.bytesLess]
  rcases Nat.lt_trichotomy a.toNat b.toNat with h | h | h
  ·have h1:a < b:=UInt8.lt_iff_toNat_lt.2 h
   rw [cmp_lt (by omega)]
   simp [h1,orI]
  ·have h1:a=b:=UInt8.toNat_inj.1 h
   subst h1
   have h2:¬ a < a:=UInt8.lt_irrefl a
   rw [cmp_eq rfl,ih]
   simp [h2,orI]
  ·have h1:b < a:=UInt8.lt_iff_toNat_lt.2 h
   have h2:¬ a < b:=fun q=>by have:=UInt8.lt_iff_toNat_lt.1 q; omega
   have h3:¬ a=b:=fun q=>by rw [q] at h; omega
   have h4:¬ b=a:=fun q=>h3 q.symm
   rw [cmp_gt (by omega)]
   simp [h1,h2,h3,h4,orI]
def rdK:List (List AV)→List Int
 | []=>[]
 | r::l=>rE r::rV r::rdK l
end Go.Proofs.YtldiagnbagpliaaDoor
namespace Go.Proofs.YtldiagnbagpliaaDoor
open Go
set_option linter.unusedVariables false
set_option linter.unusedSimpArgs false
abbrev LLA:=List (List AV)
def itA (k:Int) (nm:ByteArray) (t f a b c:Int) (rd:LLA) (co ar:Int):List AV:=[.int .i64 k,.str nm,.int .i64 t,.int .i64 f,.int .i64 a,.int .i64 b,.int .i64 c,.sl 2 false rd,.int .i64 co,.int .i64 ar]
structure ItS (r:List AV):Prop where
 fr:∃ k nm t f a b c rd co ar,r=itA k nm t f a b c rd co ar
def itKy (r:List AV):List Int:=match r with
 | .int _ k::.str n::.int _ t::_=>k::(nmK n.toList++[t])
 | _=>[]
def itRd (r:List AV):LLA:=match r with
 | _::_::_::_::_::_::_::.sl _ _ rd::_=>rd
 | _=>[]
def itCo (r:List AV):Int:=match r with
 | [_,_,_,_,_,_,_,_,.int _ c,_]=>c
 | _=>0
theorem orI_z (a:Int):orI a 0=a:=by unfold orI; split <;> omega
def RdS (rd:LLA):Prop:=∀ r ∈ rd,∃ e v:Int,r=[.int .i64 e,.int .i64 v]
theorem nmK_inj {x y:List Int}:∀ {s t:List UInt8},nmK s++x=nmK t++y→s=t∧x=y
 | [],[],h=>by simpa [nmK] using h
 | [],b::t,h=>by simp only [nmK,List.cons_append,List.cons.injEq] at h; omega
 | a::s,[],h=>by simp only [nmK,List.cons_append,List.cons.injEq] at h; omega
 | a::s,b::t,h=>by
  simp only [nmK,List.cons_append,List.cons.injEq] at h
  obtain ⟨h1,h2⟩:=h
  obtain ⟨h3,h4⟩:=nmK_inj h2
  have:a=b:=UInt8.toNat_inj.1 (by omega)
  exact ⟨by rw [this,h3],h4⟩
theorem str_inj {a b:ByteArray} (h:a.toList=b.toList):a=b:=by
 rw [ByteArray.toList_eq,ByteArray.toList_eq] at h
 obtain ⟨⟨l⟩⟩:=a
 obtain ⟨⟨m⟩⟩:=b
 simp at h
 subst h; rfl
def ltK (p q:List Int):Prop:=lexI p q < 0
def bsF (F:LLA) (q:List Int):Int:=F.foldl (fun m y=>if itKy y=q then max m (itCo y) else m) (-1)
def vsF (F:LLA) (q:List Int):LLA:=F.filter fun y=>decide (itKy y=q)&&decide (itCo y=bsF F q)
def hdK (g:LLA):List Int:=match g with
 | []=>[]
 | y::_=>itKy y
structure GrP (F:LLA) (gs:List LLA):Prop where
 fg:∀ g ∈ gs,g≠[]∧g=vsF F (hdK g)
 fs:(gs.map hdK).Pairwise ltK
 fm:∀ x ∈ F,itKy x ∈ gs.map hdK
end Go.Proofs.YtldiagnbagpliaaDoor
namespace Go.Proofs.YtldiagnbagpliaaDoor
open Go
set_option linter.unusedVariables false
set_option linter.unusedSimpArgs false
structure ItR (r:List AV):Prop where
 fs:ItS r
 fr:RdS (itRd r)
end Go.Proofs.YtldiagnbagpliaaDoor
namespace Go.Proofs.YtldiagnbagpliaaDoor
open Go
open Go.RowKit (Below)
set_option linter.unusedVariables false
set_option linter.unusedSimpArgs false
def badR (r:Nat):Bool:=(decide (r < 65)||decide (90 < r))&&(decide (r < 48)||decide (57 < r))
def nmG (s:ByteArray):Nat→Nat→Bool
 | 0,_=>false
 | f+1,pos=>if pos < s.size then (if badR (Utf8.decode s pos).1 then true else nmG s f (pos+(Utf8.decode s pos).2)) else false
theorem nmG_end (s:ByteArray) (f pos:Nat) (h:¬ pos < s.size):nmG s f pos=false:=by cases f <;> simp [nmG,h]
def okB (b:UInt8):Bool:=!(badR b.toNat)
theorem nmG_eq (s:ByteArray):∀ (f pos:Nat),s.size≤pos+f→nmG s f pos=!((s.data.toList.drop pos).all okB)
 | 0,pos,h=>by
  have hl:s.data.toList.length≤pos:=by simpa using h
  rw [List.drop_eq_nil_of_le hl]; rfl
 | f+1,pos,h=>by
  by_cases hp:pos < s.size
  ·have hl:pos < s.data.toList.length:=by simpa using hp
   have hd:s.data.toList.drop pos=s[pos]'hp::s.data.toList.drop (pos+1):=by
    rw [List.drop_eq_getElem_cons hl]; rfl
   simp only [nmG,hp,if_true]
   rw [hd,List.all_cons]
   by_cases ha:(s[pos]'hp).toNat < 128
   ·rw [decode_ascii s pos hp ha]
    show (if badR (s[pos]'hp).toNat then true else nmG s f (pos+1))=_
    rw [nmG_eq s f (pos+1) (by omega)]
    unfold okB
    cases badR (s[pos]'hp).toNat <;> simp
   ·have h1:=(decode_high s pos hp (by omega)).1
    have b1:badR (Utf8.decode s pos).1=true:=by
     unfold badR
     rw [Bool.and_eq_true,Bool.or_eq_true,Bool.or_eq_true]
     exact ⟨.inr (decide_eq_true (by omega)),.inr (decide_eq_true (by omega))⟩
    have b2:badR (s[pos]'hp).toNat=true:=by
     unfold badR
     rw [Bool.and_eq_true,Bool.or_eq_true,Bool.or_eq_true]
     exact ⟨.inr (decide_eq_true (by omega)),.inr (decide_eq_true (by omega))⟩
    rw [b1]
    unfold okB
    rw [b2]; simp
  ·rw [nmG_end s _ pos hp]
   have hl:s.data.toList.length≤pos:=by simp; omega
   rw [List.drop_eq_nil_of_le hl]; rfl
def nmOk (s:ByteArray):Bool:=decide (s.size=5)&&s.data.toList.all okB
end Go.Proofs.YtldiagnbagpliaaDoor
namespace Go.Proofs.YtldiagnbagpliaaDoor
open Go
set_option linter.unusedVariables false
set_option linter.unusedSimpArgs false
def badZ (r:Int):Bool:=(decide (r < 65)||decide (90 < r))&&(decide (r < 48)||decide (57 < r))
def nmc_s (badZ:Int→Bool):Sp
 | [.int .i32 r]=>some (True,.bool (badZ r))
 | _=>none
def nmc_T (badZ:Int→Bool):Prop :=
 ∀ (gl:Glob) (r:Int),(-2147483648:Int)≤r∧r≤(2147483647:Int)→bif decide (r < (65:Int)) then bif decide (r < (48:Int)) then true=badZ r else decide (57 < r)=badZ r else bif decide (90 < r) then bif decide (r < (48:Int)) then true=badZ r else decide (57 < r)=badZ r else false=badZ r
theorem nmc_P:nmc_T badZ:=by
 unfold nmc_T
 intro gl r _
 unfold badZ
 refine csx (fun h=>csx (fun k=>?_) (fun k=>?_)) (fun h=>csx (fun h2=>csx (fun k=>?_) (fun k=>?_)) (fun h2=>?_)) <;> simp [*]
def nmc_S (badZ:Int→Bool):Prop:=∀ (gl:Glob) (r:Int),fnK Tryd.prog { glob:=gl,spec:=lk [],specH:=lk [],nowf:=true } { nt:=17,drop:=drp [(1,131064)] } (fun _ _=>none) 6 Tryd.f46 [.int .i32 r] (.bool (badZ r))
theorem nmc_e (badZ:Int→Bool):nmc_T badZ=nmc_S badZ:=by kernel_rfl
theorem nmc_v:nmc_S badZ:=Eq.mp (nmc_e ..) (nmc_P)
theorem nmc_ok (gl:Glob):SOK Tryd.prog gl 46 (nmc_s badZ):=by
 refine ⟨fok Tryd.func46 (by kernel_rfl) (by kernel_rfl),?_⟩
 intro xs pre r h hp
 unfold nmc_s at h
 split at h
 ·simp only [Option.some.injEq,Prod.mk.injEq] at h
  obtain ⟨h1,h2⟩:=h
  subst h1 h2
  exact fnK_sound tyNil (by exact specOK rfl rfl trivial trivial) (by kernel_rfl) Tryd.func46 rfl (nmc_v gl _)
 ·cases h
end Go.Proofs.YtldiagnbagpliaaDoor
namespace Go.Proofs.YtldiagnbagpliaaDoor
open Go Go.Lib
open Go.RowKit (Below)
set_option linter.unusedVariables false
set_option linter.unusedSimpArgs false
theorem badZ_nat (r:Nat):badZ (r:Int)=badR r:=by
 unfold badZ badR
 congr 1 <;> congr 1 <;> exact decide_eq_decide.2 (by omega)
def nmI (s:ByteArray):Nat→Nat→Int
 | 0,_=>-1
 | f+1,pos=>if pos < s.size then (if badR (Utf8.decode s pos).1 then (pos:Int) else nmI s f (pos+(Utf8.decode s pos).2)) else -1
theorem nmI_end (s:ByteArray) (f pos:Nat) (h:¬ pos < s.size):nmI s f pos=-1:=by cases f <;> simp [nmI,h]
def nmX (s:ByteArray):Int:=nmI s s.size 0
theorem nmI_ge (s:ByteArray):∀ (f pos:Nat),0≤nmI s f pos↔nmG s f pos=true
 | 0,pos=>by simp [nmI,nmG]
 | f+1,pos=>by
  have e1:nmI s (f+1) pos=if pos < s.size then (if badR (Utf8.decode s pos).1 then (pos:Int) else nmI s f (pos+(Utf8.decode s pos).2)) else -1:=rfl
  have e2:nmG s (f+1) pos=if pos < s.size then (if badR (Utf8.decode s pos).1 then true else nmG s f (pos+(Utf8.decode s pos).2)) else false:=rfl
  rw [e1,e2]
  by_cases hp:pos < s.size
  ·rw [if_pos hp,if_pos hp]
   cases hb:badR (Utf8.decode s pos).1 with
   | true=>simp
   | false=>simpa using nmI_ge s f _
  ·rw [if_neg hp,if_neg hp]; simp
theorem nmX_ge (s:ByteArray):decide (0≤nmX s)=!(s.data.toList.all okB):=by
 rw [Bool.eq_iff_iff,decide_eq_true_iff]
 unfold nmX
 rw [nmI_ge,nmG_eq s _ _ (by omega)]; rfl
theorem nmI_bd (s:ByteArray):∀ (f pos:Nat),-1≤nmI s f pos∧nmI s f pos < s.size+1
 | 0,pos=>by simp only [nmI]; omega
 | f+1,pos=>by
  simp only [nmI]
  split
  ·split
   ·omega
   ·exact nmI_bd s f _
  ·omega
theorem agree_none (w:World):Agree (fun _ _=>none) w:=fun _ _ _ h=>by cases h
theorem nmc_calls (R:Nat) (w:World) (hR:R≤1114111):Calls Tryd.prog 46 #[.int .i32 (R:Int)] w fun e w'=>e=.returned (.bool (badR R))∧Below w.heap.size w w':=by
 have h:=(nmc_ok (fun _=>none)).2 [.int .i32 (R:Int)] _ _ rfl trivial w (fun _ _=>none) #[.int .i32 (R:Int)] (fun g cs h=>by cases h) (agree_none w) (by
  simp only [CVl,CV]
  exact ⟨_,_,rfl,⟨rfl,by show _∧_; omega⟩,rfl⟩)
 refine h.mono ?_
 rintro e w' ⟨u,S',rfl,hb,_,_,_,hu⟩
 simp only [CV] at hu
 rw [hu,badZ_nat]; exact ⟨rfl,hb⟩
set_option maxHeartbeats 2000000 in
set_option maxRecDepth 1000000 in
theorem indexFunc_calls (s:ByteArray) (w:World) :
  Calls Tryd.prog 95 #[.string s,.func (.func 46) #[] #[],.bool true] w fun e w'=>e=.returned (.int .i64 (nmX s))∧Below w.heap.size w w':=by
 have ent:∀ args w,(callFunc 46 args).run Tryd.prog w=.ok (.enter 46 args) w:=enters_of Tryd.func46 (by kernel_rfl) rfl
 go_enter Tryd.func95,Tryd.ntmps95
 go_wp2
 go_loopg [] s.size (fun g wx=>∃ pos:Nat,wx.heap[w.heap.size]?=some (.stringIter s pos)∧Below w.heap.size w wx∧nmI s g pos=nmX s∧s.size≤pos+g)
 case atStart=>exact ⟨0,World.iter_heap w s 0,(Below.refl _ w).alloc (Nat.le_refl _) _,rfl,by omega⟩
 case round =>
  obtain ⟨pos,hit,hbw,hleft,hfu⟩:=hrel
  have hsz:w.heap.size < wr.heap.size:=(Array.getElem?_eq_some_iff.1 hit).1
  by_cases hp:pos < s.size
  ·obtain ⟨g,rfl⟩:∃ g,gk=g+1:=⟨gk - 1,by omega⟩
   have hnx:∀ ty,(Instr.next (.pointer (some ⟨w.heap.size,0,none⟩)) true ty).run Tryd.prog wr=_:=fun ty=>Lib.run_next_any_at wr w.heap.size s pos ty hit hp
   have hwd:=Lib.width_pos s pos
   have hr1:=Lib.rune_le s pos
   obtain ⟨R,hR⟩:∃ R,(Utf8.decode s pos).1=R:=⟨_,rfl⟩
   obtain ⟨K,hK⟩:∃ K,(Utf8.decode s pos).2=K:=⟨_,rfl⟩
   simp only [nmI,hp,if_true,hR,hK] at hleft
   rw [hR,hK] at hnx
   rw [hR] at hr1
   rw [hK] at hwd
   have hit2:=Lib.iterAt_heap wr w.heap.size s pos (pos+K) hit
   have hbw2:=Lib.below_iterAt hbw (k:=w.heap.size) (Nat.le_refl _) s (pos+K)
   obtain ⟨W,hWd⟩:∃ W,wr.iterAt w.heap.size s (pos+K)=W:=⟨_,rfl⟩
   rw [hWd] at hnx hit2 hbw2
   have cS:=nmc_calls R W hr1
   have hWs:w.heap.size < W.heap.size:=(Array.getElem?_eq_some_iff.1 hit2).1
   cases hsp:badR R with
   | true =>
    rw [hsp] at cS
    simp only [hsp,if_true] at hleft
    go_wp2_with (go_at_fn 46; go_fit cS; rintro e W' ⟨rfl,hb⟩)
    go_ret
    exact ⟨by rw [← hleft] <;> rfl,hbw2.trans (hb.mono (by omega))⟩
   | false =>
    rw [hsp] at cS
    simp only [hsp,Bool.false_eq_true,if_false] at hleft
    go_wp2_with (go_at_fn 46; go_fit cS; rintro e W' ⟨rfl,hb⟩)
    go_roundg g
    case measure=>omega
    case rel=>exact ⟨pos+K,(hb.block w.heap.size hWs).trans hit2,hbw2.trans (hb.mono (by omega)),hleft,by omega⟩
  ·have hnx:∀ ty,(Instr.next (.pointer (some ⟨w.heap.size,0,none⟩)) true ty).run Tryd.prog wr=_:=fun ty=>Lib.run_next_end_at wr w.heap.size s pos ty hit hp
   rw [nmI_end s gk pos hp] at hleft
   go_wp2
   go_ret
   exact ⟨by rw [← hleft] <;> rfl,hbw⟩
theorem agree_below {S:Pin} {w w':World} (hA:Agree S w) (hb:Below w.heap.size w w'):Agree S w':=fun b o v h=>by
 obtain ⟨h1,h2⟩:=hA b o v h
 refine ⟨?_,h2⟩
 have hl:=World.block_lt_of_cell? w _ h1
 rw [hb.cell hl]; exact h1
def nix_s:Sp
 | [.str s,.fn 46 [],.bool true]=>some (True,.int .i64 (nmX s))
 | _=>none
theorem nix_ok (gl:Glob):SOK Tryd.prog gl 95 nix_s:=by
 refine ⟨fok Tryd.func95 (by kernel_rfl) (by kernel_rfl),?_⟩
 intro xs pre r h hp
 unfold nix_s at h
 split at h
 ·rename_i s
  simp only [Option.some.injEq,Prod.mk.injEq] at h
  obtain ⟨_,rfl⟩:=h
  intro w S vs hG hA hv
  simp only [CVl,CV] at hv
  obtain ⟨u1,us1,e1,⟨rfl,hs⟩,u2,us2,e2,⟨us,rfl,hus⟩,u3,us3,e3,rfl,e4⟩:=hv
  subst e4 e3 e2
  have hus:us=#[]:=by apply Array.ext'; simpa using hus
  subst hus
  have hvs:vs=#[.string s,.func (.func 46) #[] #[],.bool true]:=by apply Array.ext'; simpa using e1
  subst hvs
  refine (indexFunc_calls s w).mono ?_
  rintro e w' ⟨rfl,hb⟩
  refine ⟨_,S,rfl,hb,.refl _,fun _ _ _=>rfl,agree_below hA hb,?_⟩
  simp only [CV]
  have:=nmI_bd s s.size 0
  exact ⟨trivial,by unfold nmX; show _∧_; unfold maxLen at hs; omega⟩
 ·cases h
end Go.Proofs.YtldiagnbagpliaaDoor
namespace Go.Proofs.YtldiagnbagpliaaDoor
open Go
set_option linter.unusedVariables false
set_option linter.unusedSimpArgs false
def nif_s (nmX:ByteArray→Int):Sp
 | [.str s,.fn 46 []]=>some (True,.int .i64 (nmX s))
 | _=>none
def nif_T (nmX:ByteArray→Int):Prop :=
 ∀ (gl:Glob) (s:ByteArray),s.size.le (9223372036854775807:Nat)→True→True∧YtldiagnbagpliaaDoor.nmX s=nmX s
theorem nif_P:nif_T nmX:=by
 unfold nif_T
 intro gl s _ _
 exact ⟨trivial,rfl⟩
def nif_S (nmX:ByteArray→Int):Prop:=∀ (gl:Glob) (s:ByteArray),fnK Tryd.prog { glob:=gl,spec:=lk [(95,nix_s)],specH:=lk [],nowf:=true } { nt:=8,drop:=drp [(1,224)] } (fun _ _=>none) 6 Tryd.f80 [.str s,.fn 46 []] (.int .i64 (nmX s))
theorem nif_e (nmX:ByteArray→Int):nif_T nmX=nif_S nmX:=by kernel_rfl
theorem nif_v:nif_S nmX:=Eq.mp (nif_e ..) (nif_P)
theorem nif_ok (gl:Glob):SOK Tryd.prog gl 80 (nif_s nmX):=by
 refine ⟨fok Tryd.func80 (by kernel_rfl) (by kernel_rfl),?_⟩
 intro xs pre r h hp
 unfold nif_s at h
 split at h
 ·simp only [Option.some.injEq,Prod.mk.injEq] at h
  obtain ⟨h1,h2⟩:=h
  subst h1 h2
  exact fnK_sound tyNil (by exact specOK rfl rfl ⟨(nix_ok gl),trivial⟩ trivial) (by kernel_rfl) Tryd.func80 rfl (nif_v gl _)
 ·cases h
theorem byte_at (s:ByteArray) {i:Nat} (h:i < s.size):byteI s i=((s.data.toList.getD i 0).toNat:Int):=by
 unfold byteI
 have hl:i < s.data.toList.length:=by simp; exact h
 rw [getElem?_pos s i h,List.getD_eq_getElem?_getD,List.getElem?_eq_getElem hl]
 rfl
def bdB (s:ByteArray):Bool:=!(s.data.toList.all okB)
def ncf_s:Sp
 | [.str s,.fn 46 []]=>some (True,.bool (bdB s))
 | _=>none
def ncf_T:Prop :=
 ∀ (gl:Glob) (s:ByteArray),s.size.le (9223372036854775807:Nat)→True→True∧decide ((0:Int)≤nmX s)=bdB s
theorem ncf_P:ncf_T:=by
 unfold ncf_T
 intro gl s _ _
 exact ⟨trivial,nmX_ge s⟩
def ncf_S:Prop:=∀ (gl:Glob) (s:ByteArray),fnK Tryd.prog { glob:=gl,spec:=lk [(80,(nif_s Go.Proofs.YtldiagnbagpliaaDoor.nmX))],specH:=lk [],nowf:=true } { nt:=9,drop:=drp [(1,480)] } (fun _ _=>none) 6 Tryd.f45 [.str s,.fn 46 []] (.bool (bdB s))
theorem ncf_e:ncf_T=ncf_S:=by kernel_rfl
theorem ncf_v:ncf_S:=Eq.mp (ncf_e ..) (ncf_P)
theorem ncf_ok (gl:Glob):SOK Tryd.prog gl 45 ncf_s:=by
 refine ⟨fok Tryd.func45 (by kernel_rfl) (by kernel_rfl),?_⟩
 intro xs pre r h hp
 unfold ncf_s at h
 split at h
 ·simp only [Option.some.injEq,Prod.mk.injEq] at h
  obtain ⟨h1,h2⟩:=h
  subst h1 h2
  exact fnK_sound tyNil (by exact specOK rfl rfl ⟨(nif_ok gl),trivial⟩ trivial) (by kernel_rfl) Tryd.func45 rfl (ncf_v gl _)
 ·cases h
def gname_s (nmOk:ByteArray→Bool):Sp
 | [.str s]=>some (True,.bool (nmOk s))
 | _=>none
def gname_T (nmOk:ByteArray→Bool):Prop :=
 ∀ (gl:Glob) (s:ByteArray),s.size.le (9223372036854775807:Nat)→bif decide ((↑s.size:Int)=(5:Int)) then True∧(!bdB s)=nmOk s else false=nmOk s
theorem gname_P:gname_T nmOk:=by
 unfold gname_T
 intro gl s _
 unfold nmOk bdB
 refine csx (fun h=>⟨trivial,?_⟩) (fun h=>?_)
 ·rw [decide_eq_true (show s.size=5 by omega)]
  cases s.data.toList.all okB <;> rfl
 ·rw [decide_eq_false (show ¬ s.size=5 by omega)]; rfl
def gname_S (nmOk:ByteArray→Bool):Prop:=∀ (gl:Glob) (s:ByteArray),fnK Tryd.prog { glob:=gl,spec:=lk [(45,ncf_s)],specH:=lk [],nowf:=true } { nt:=11,drop:=drp [(1,2040)] } (fun _ _=>none) 6 Tryd.f18 [.str s] (.bool (nmOk s))
theorem gname_e (nmOk:ByteArray→Bool):gname_T nmOk=gname_S nmOk:=by kernel_rfl
theorem gname_v:gname_S nmOk:=Eq.mp (gname_e ..) (gname_P)
theorem gname_ok (gl:Glob):SOK Tryd.prog gl 18 (gname_s nmOk):=by
 refine ⟨fok Tryd.func18 (by kernel_rfl) (by kernel_rfl),?_⟩
 intro xs pre r h hp
 unfold gname_s at h
 split at h
 ·simp only [Option.some.injEq,Prod.mk.injEq] at h
  obtain ⟨h1,h2⟩:=h
  subst h1 h2
  exact fnK_sound tyNil (by exact specOK rfl rfl ⟨(ncf_ok gl),trivial⟩ trivial) (by kernel_rfl) Tryd.func18 rfl (gname_v gl _)
 ·cases h
def rkind_s:Sp
 | [.int .i64 k]=>some (True,.bool (decide (1≤k∧k≤3)))
 | _=>none
def rkind_T:Prop :=
 ∀ (gl:Glob) (k:Int),(-9223372036854775808:Int)≤k∧k≤(9223372036854775807:Int)→bif decide ((1:Int)≤k) then decide (k≤(3:Int))=decide ((1:Int)≤k∧k ≤
 (3:Int)) else false=decide ((1:Int)≤k∧k≤(3:Int))
theorem rkind_P:rkind_T:=by
 unfold rkind_T
 intro gl k _
 exact csx (fun h=>by simp [h]) (fun h=>by simp [h])
def rkind_S:Prop:=∀ (gl:Glob) (k:Int),fnK Tryd.prog { glob:=gl,spec:=lk [],specH:=lk [],nowf:=true } { nt:=9,drop:=drp [(1,504)] } (fun _ _=>none) 6 Tryd.f62 [.int .i64 k] (.bool (decide (1≤k∧k≤3)))
theorem rkind_e:rkind_T=rkind_S:=by kernel_rfl
theorem rkind_v:rkind_S:=Eq.mp (rkind_e ..) (rkind_P)
theorem rkind_ok (gl:Glob):SOK Tryd.prog gl 62 rkind_s:=by
 refine ⟨fok Tryd.func62 (by kernel_rfl) (by kernel_rfl),?_⟩
 intro xs pre r h hp
 unfold rkind_s at h
 split at h
 ·simp only [Option.some.injEq,Prod.mk.injEq] at h
  obtain ⟨h1,h2⟩:=h
  subst h1 h2
  exact fnK_sound tyNil (by exact specOK rfl rfl trivial trivial) (by kernel_rfl) Tryd.func62 rfl (rkind_v gl _)
 ·cases h
structure NmP (s:ByteArray) (i:Int):Prop where
 flo:0≤i
 fhi:i≤s.size
 fb:∀ j:Nat,(j:Int) < i→okB (s.data.toList.getD j 0)=true
def nmL (s:ByteArray):LInv:=⟨Int,fun i=>⟨[(0,.str s),(2,.bool false),(3,.int .i64 i)],[]⟩,NmP s,fun i=>(s.size - i).toNat,none⟩
def rname_s (nmOk:ByteArray→Bool):Sp
 | [.str s]=>some (True,.bool (nmOk s))
 | _=>none
def rname_T (nmOk:ByteArray→Bool):Prop :=
 ∀ (gl:Glob) (s:ByteArray),s.size.le (9223372036854775807:Nat)→(∃ x,NmP s x∧(s=s∧false=false∧(0:Int)=x∧True)∧True)∧∀ (x:Int),NmP s x→bif decide (x
 < (↑s.size:Int)) then bif decide ((0:Int)≤x∧x < (↑s.size:Int)) then bif decide ((65:Int)≤byteI s x.toNat) then bif decide ((0:Int)≤x∧x < (↑s.size:Int)) then
 bif decide (byteI s x.toNat≤(90:Int)) then bif decide (rng IntKind.i64 (x+(1:Int))) then ∃ y,NmP s y∧(nmL s).m y < (nmL s).m x∧(s=s∧false=false∧x+(1:Int) =
 y∧True)∧True else False else bif decide ((0:Int)≤x∧x < (↑s.size:Int)) then bif decide ((48:Int)≤byteI s x.toNat) then bif decide ((0:Int)≤x∧x < (↑s.size :
 Int)) then bif !decide (byteI s x.toNat≤(57:Int)) then false=nmOk s else bif decide (rng IntKind.i64 (x+(1:Int))) then ∃ y,NmP s y∧(nmL s).m y < (nmL s).m x∧(s=s ∧
 false=false∧x+(1:Int)=y∧True)∧True else False else False else false=nmOk s else False else False else bif decide ((0:Int)≤x∧x < (↑s.size:Int)) then bif
 decide ((48:Int)≤byteI s x.toNat) then bif decide ((0:Int)≤x∧x < (↑s.size:Int)) then bif !decide (byteI s x.toNat≤(57:Int)) then false=nmOk s else bif decide (rng
 IntKind.i64 (x+(1:Int))) then ∃ y,NmP s y∧(nmL s).m y < (nmL s).m x∧(s=s∧false=false∧x+(1:Int)=y∧True)∧True else False else False else false=nmOk s
 else False else False else decide ((↑s.size:Int)=(5:Int))=nmOk s
theorem rname_P:rname_T nmOk:=by
 unfold rname_T
 intro gl s hs
 have hsz:s.size≤9223372036854775807:=hs
 refine ⟨⟨0,⟨by decide,by omega,fun j hj=>by omega⟩,by (repeat' (first | exact trivial | exact rfl | assumption | apply And.intro))⟩,?_⟩
 rintro i ⟨i0,i1,ib⟩
 have hb:i < s.size→okB (s.data.toList.getD i.toNat 0)=!((decide (byteI s i.toNat < 65)||decide (90 < byteI s i.toNat))&&(decide (byteI s i.toNat < 48)||decide (57 < byteI s i.toNat))):=fun hi=>by
  rw [byte_at s (by omega)]
  unfold okB badR
  congr 1
  congr 1 <;> congr 1 <;> exact decide_eq_decide.2 (by omega)
 have good:i < s.size→okB (s.data.toList.getD i.toNat 0)=true→cond (decide (rng .i64 (i+1))) (∃ y,NmP s y∧(nmL s).m y < (nmL s).m i∧(s=s∧false=false∧i+1=y∧True)∧True) False:=fun hi ho =>
  cdI (by omega) ⟨i+1,⟨by omega,by omega,fun j hj=>by
   rcases Int.lt_or_le (j:Int) i with q | q
   ·exact ib j q
   ·rw [show j=i.toNat by omega]; exact ho⟩,by simp only [nmL]; omega,by (repeat' (first | exact trivial | exact rfl | assumption | apply And.intro))⟩
 have bad:i < s.size→okB (s.data.toList.getD i.toNat 0)=false→false=nmOk s:=fun hi ho=>by
  have:s.data.toList.all okB=false:=by
   rw [List.all_eq_false]
   have hl:i.toNat < s.data.toList.length:=by simp; show i.toNat < s.size; omega
   refine ⟨s.data.toList[i.toNat],List.getElem_mem hl,?_⟩
   rw [List.getD_eq_getElem?_getD,List.getElem?_eq_getElem hl] at ho
   simpa using ho
  unfold nmOk
  rw [this]; simp
 have fin:¬ i < s.size→decide ((s.size:Int)=5)=nmOk s:=fun hi=>by
  have:s.data.toList.all okB=true:=by
   rw [List.all_eq_true]
   intro x hx
   obtain ⟨j,hj,rfl⟩:=List.mem_iff_getElem.1 hx
   have hj':j < s.size:=by simpa using hj
   have:=ib j (by omega)
   rw [List.getD_eq_getElem?_getD,List.getElem?_eq_getElem hj] at this
   exact this
  unfold nmOk
  rw [this,Bool.and_true]
  exact decide_eq_decide.2 (by omega)
 have second:i < s.size→¬ (65≤byteI s i.toNat∧byteI s i.toNat≤90)→cond (decide (0≤i∧i < (s.size:Int))) (cond (decide (48≤byteI s i.toNat)) (cond (decide (0≤i∧i < (s.size:Int))) (cond (!decide (byteI s i.toNat≤57)) (false=nmOk s) (cond (decide (rng .i64 (i+1))) (∃ y,NmP s y∧(nmL s).m y < (nmL s).m i∧(s=s∧false=false∧i+1=y∧True)∧True) False)) False) (false=nmOk s)) False:=fun hi hn =>
  cd1 (by omega) (csx (fun h1=>cd1 (by omega) (csplit (fun h2=>bad hi (by rw [hb hi]; simp at h2; simp; omega)) (fun h2=>good hi (by rw [hb hi]; simp at h2; simp; omega)))) (fun h1=>bad hi (by rw [hb hi]; simp; omega)))
 exact csx (fun hi=>cd1 (by omega) (csx (fun h1=>cd1 (by omega) (csx (fun h2=>good hi (by rw [hb hi]; simp; omega)) (fun h2=>second hi (by omega)))) (fun h1=>second hi (by omega)))) fin
def rname_S (nmOk:ByteArray→Bool):Prop:=∀ (gl:Glob) (s:ByteArray),fnK Tryd.prog { glob:=gl,spec:=lk [],specH:=lk [],nowf:=true } { nt:=36,drop:=drp [(2,112),(3,768),(4,4294966272),(6,60129542144)] } (invs [(2,nmL s)]) 6 Tryd.f63 [.str s] (.bool (nmOk s))
theorem rname_e (nmOk:ByteArray→Bool):rname_T nmOk=rname_S nmOk:=by kernel_rfl
theorem rname_v:rname_S nmOk:=Eq.mp (rname_e ..) (rname_P)
theorem rname_ok (gl:Glob):SOK Tryd.prog gl 63 (rname_s nmOk):=by
 refine ⟨fok Tryd.func63 (by kernel_rfl) (by kernel_rfl),?_⟩
 intro xs pre r h hp
 unfold rname_s at h
 split at h
 ·simp only [Option.some.injEq,Prod.mk.injEq] at h
  obtain ⟨h1,h2⟩:=h
  subst h1 h2
  exact fnK_sound tyNil (by exact specOK rfl rfl trivial trivial) (by kernel_rfl) Tryd.func63 rfl (rname_v gl _)
 ·cases h
end Go.Proofs.YtldiagnbagpliaaDoor
namespace Go.Proofs.YtldiagnbagpliaaDoor
open Go
set_option linter.unusedVariables false
set_option linter.unusedSimpArgs false
abbrev LLR:=List (List AV)
def pdA (fr:Int) (cl:Bool) (f a b c:Int) (bs:LLR):List AV:=[.int .i64 fr,.bool cl,.int .i64 f,.int .i64 a,.int .i64 b,.int .i64 c,.sl 2 false bs]
def stA (k:Int) (nm:ByteArray) (ps:LLR):List AV:=[.int .i64 k,.str nm,.sl 7 false ps]
structure PdsP (ps:LLR):Prop where
 fr:∀ i,i < ps.length→∃ (fr:Int) (cl:Bool) (f a b c:Int) (bs:LLR),ps.getD i []=pdA fr cl f a b c bs∧RdsP bs∧bs.length≤1000
 fs:ps.length≤1000000
structure StsP (l:LLR):Prop where
 fr:∀ i,i < l.length→∃ (k:Int) (nm:ByteArray) (ps:LLR),l.getD i []=stA k nm ps∧PdsP ps
 fs:l.length≤1000000
def exK (k:Int):Bool:=decide (1≤k∧k≤3)
def nonP (f a b c:Int):Bool:=decide (f=0∧a=0∧b=0∧c=0)
def bsX (bs:LLR) (i:Nat):Bool:=!(okC (rE (bs.getD i [])))||(decide (1000 < rV (bs.getD i []))||(decide (rV (bs.getD i []) < -1000)||(decide (0 < i)&&decide (rE (bs.getD i [])≤rE (bs.getD (i - 1) [])))))
def bsOk (bs:LLR):Bool:=decide (∀ i,i < bs.length→bsX bs i=false)
def pdV (k fr:Int) (cl:Bool) (f a b c:Int) (bs:LLR):Bool :=
 if fr < 0∨52595999 < fr then false else if cl=true then nonP f a b c&&decide (bs.length=0) else if bsOk bs then (if k=1 then isN f a b c else nonP f a b c) else false
def sNm (r:List AV):ByteArray:=match r with
 | [_,.str s,_]=>s
 | _=>⟨#[]⟩
def sPs (r:List AV):LLR:=match r with
 | [_,_,.sl _ _ ps]=>ps
 | _=>[]
def pdR (k:Int) (r:List AV):Bool:=match r with
 | [.int _ fr,.bool cl,.int _ f,.int _ a,.int _ b,.int _ c,.sl _ _ bs]=>pdV k fr cl f a b c bs
 | _=>false
def s1B (ps:LLR):Bool:=decide (ps.length=0)||decide (8 < (ps.length:Int))
def bdP (k:Int) (r:List AV):Bool:=!(pdR k r)
def p1R (r:List AV):Bool:=s1B (sPs r)
def p2R (r:List AV):Bool:=!(exK (rE r))
def p3R (r:List AV):Bool:=!(nmOk (sNm r))
def p4R (r:List AV):Bool:=(sPs r).any (bdP (rE r))
def p5R (r:List AV):Bool:=!(ascB (sPs r))
structure StsW (l:LLR) (q m:Nat):Prop where
 fr:∀ i,i < l.length→∃ (k:Int) (nm:ByteArray) (ps:LLR),l.getD i []=stA k nm ps∧PdsP ps∧ps.length≤q
 fl:l.length≤m
structure PrdQ (bs:LLR) (j:Int):Prop where
 fr:RdsP bs
 fl:bs.length≤11
 fj:0≤j
structure PrdP (x:Int × Int × Int × Int × Int × Int × Int × LLR):Prop where
 fc:1≤x.2.2.2.2.2.1∧x.2.2.2.2.2.1≤12
 fj:0≤x.2.2.2.2.2.2.1
 fr:RdsP x.2.2.2.2.2.2.2
 fl:(x.2.2.2.2.2.2.2.length:Int) < x.2.2.2.2.2.1
theorem rdsP_nil:RdsP []:=⟨fun i h=>by simp at h,by simp⟩
theorem rds_add {bs:LLR} {e v:Int} (h:RdsP bs) (he:rng .i64 e) (hv:rng .i64 v) (hl:bs.length≤1000):RdsP (bs++[[.int .i64 e,.int .i64 v]]):=by
 refine ⟨fun i hi=>?_,by simp; omega⟩
 rw [List.length_append,List.length_singleton] at hi
 rw [gD_app]
 by_cases q:i < bs.length
 ·rw [if_pos q]; exact h.row i q
 ·rw [if_neg q,show i - bs.length=0 by omega]
  exact ⟨e,v,rfl,he,hv⟩
structure KndQ (k j:Int):Prop where
 fk:1≤k∧k≤3
def qkinds_s:Sp
 | [.str s]=>some (s ∈ nam6,.int .i64 (byteI s 0 % 3+1))
 | _=>none
def qkinds_T:Prop :=
 ∀ (gl:Glob) (s:ByteArray),List.Mem s nam6→s.size.le (9223372036854775807:Nat)→bif decide ((0:Int)≤(0:Int)∧(0:Int) < (↑s.size:Int)) then bif decide (rng .i64 ((1:Int)+(byteI s (0:Nat)).tmod (3:Int))) then (1:Int)+(byteI s (0:Nat)).tmod (3:Int)=byteI s (0:Nat) % (3:Int)+(1:Int) else False else False
theorem qkinds_P:qkinds_T:=by
 unfold qkinds_T
 intro gl s hm _
 have hm:s ∈ nam6:=hm
 unfold nam6 at hm
 simp only [List.mem_cons,List.not_mem_nil,or_false] at hm
 rcases hm with rfl | rfl | rfl | rfl | rfl | rfl <;> exact cd1 (by decide) (cdI (by decide) (by decide))
def qkinds_S:Prop:=∀ (gl:Glob) (s:ByteArray),s ∈ nam6→fnK Tryd.prog { glob:=gl,spec:=lk [],specH:=lk [] } { nt:=8,drop:=drp [(1,248)] } (fun _ _=>none) 6 Tryd.f27 [.str s] (.int .i64 (byteI s 0 % 3+1))
theorem qkinds_e:qkinds_T=qkinds_S:=by kernel_rfl
theorem qkinds_v:qkinds_S:=Eq.mp (qkinds_e ..) (qkinds_P)
theorem qkinds_ok (gl:Glob):SOK Tryd.prog gl 27 qkinds_s:=by
 refine ⟨fok Tryd.func27 (by kernel_rfl) (by kernel_rfl),?_⟩
 intro xs pre r h hp
 unfold qkinds_s at h
 split at h
 ·simp only [Option.some.injEq,Prod.mk.injEq] at h
  obtain ⟨h1,h2⟩:=h
  subst h1 h2
  exact fnK_sound tyNil (by exact specOK rfl rfl trivial trivial) (by kernel_rfl) Tryd.func27 rfl (qkinds_v gl _ hp)
 ·cases h
structure FdP (l:LLR) (i:Int):Prop where
 flo:0≤i
 fhi:i≤l.length
structure FdQ (ps:LLR):Prop where
 fr:PdsP ps
 fl:ps.length≤8
theorem pds_nil:PdsP []:=⟨fun i h=>by simp at h,by simp⟩
structure BsR (bs:LLR) (i:Int):Prop where
 flo:0≤i
 fhi:i≤bs.length
 fno:∀ j:Nat,(j:Int) < i→bsX bs j=false
def rb2 (bs:LLR) (g:Bool):LInv:=⟨Int,fun i=>⟨[(0,.sl 2 g bs),(3,.int .i64 i)],[]⟩,BsR bs,fun i=>(bs.length - i).toNat,none⟩
def rbias_s (iL:Int→ByteArray) (inLo:Int→Int) (inHi:Int→Int) (inD:Int→Int) (inE:Int→Int) (bsOk:LLR→Bool):Sp
 | [.sl 2 g bs]=>some (RdsP bs,.bool (bsOk bs))
 | _=>none
def rbias_T (iL:Int→ByteArray) (inLo:Int→Int) (inHi:Int→Int) (inD:Int→Int) (inE:Int→Int) (bsOk:LLR→Bool):Prop :=
  ∀ (gl:Glob) (g:Bool) (bs:List (List AV)),RdsP bs→True→(∃ x,BsR bs x∧(((bif g then g=true else True)∧bs=bs)∧(0:Int)=x∧True)∧True)∧∀ (x:Int),BsR bs x→bif decide (x < (↑bs.length:Int)) then bif decide (0≤x∧x < (↑bs.length:Int)) then ∃ n,List.take [AV.int .i64 n].length (List.drop (0:Nat) (bs.getD x.toNat []))=[AV.int .i64 n]∧True∧bif decide ¬inE n=(0:Int) then false=bsOk bs else bif
 decide (0≤x∧x < (↑bs.length:Int)) then ∃ n,List.take [AV.int .i64 n].length (List.drop (1:Nat) (bs.getD x.toNat []))=[AV.int .i64 n]∧bif decide (n < (-1000:Int)) then false=bsOk bs else bif decide (0≤x∧x < (↑bs.length:Int)) then ∃ n,List.take [AV.int .i64 n].length (List.drop (1:Nat) (bs.getD x.toNat []))=[AV.int .i64 n]∧bif decide (1000 < n) then false=bsOk bs else bif decide
 (0 < x) then bif decide (rng .i64 (x - (1:Int))) then bif decide (0≤x - (1:Int)∧x - (1:Int) < (↑bs.length:Int)) then ∃ n,List.take [AV.int .i64 n].length (List.drop (0:Nat) (bs.getD (x - (1:Int)).toNat []))=[AV.int .i64 n]∧bif decide (0≤x∧x < (↑bs.length:Int)) then ∃ n_1,List.take [AV.int .i64 n_1].length (List.drop (0:Nat) (bs.getD x.toNat []))=[AV.int .i64 n_1]∧bif decide
 (n_1≤n) then false=bsOk bs else bif decide (rng .i64 (x+(1:Int))) then ∃ y,BsR bs y∧(rb2 bs g).m y < (rb2 bs g).m x∧(((bif g then g=true else True)∧bs=bs)∧x+(1:Int)=y∧True)∧True else False else False else False else False else bif decide (rng .i64 (x+(1:Int))) then ∃ y,BsR bs y∧(rb2 bs g).m y < (rb2 bs g).m x∧(((bif g then g=true else True)∧bs=bs)∧x+(1:Int)=y∧True)∧True else False else
 False else False else False else true=bsOk bs
theorem rbias_P:rbias_T iL inLo inHi inD inE bsOk:=by
 unfold rbias_T
 intro gl g bs hp _
 have hs:=hp.sm
 have bg:cond g (g=true) True:=by cases g <;> trivial
 refine ⟨⟨0,⟨by decide,by omega,fun j h=>by omega⟩,by (repeat' (first | exact trivial | exact rfl | assumption | apply And.intro))⟩,?_⟩
 rintro i ⟨h0,h1,hn⟩
 have bad:i < bs.length→bsX bs i.toNat=true→false=bsOk bs:=fun hi hx=>(decide_eq_false fun h=>by rw [h i.toNat (by omega)] at hx; cases hx).symm
 have good:i < bs.length→bsX bs i.toNat=false→BsR bs (i+1):=fun hi hx=>⟨by omega,by omega,fun j hj=>by
  rcases Nat.lt_or_ge j i.toNat with k | k
  ·exact hn j (by omega)
  ·rw [show j=i.toNat by omega]; exact hx⟩
 refine csx (fun hi=>cd1 (by omega) ?_) (fun hi=>(decide_eq_true fun j hj=>hn j (by omega)).symm)
 obtain ⟨e,v,he,_,_⟩:=hp.row i.toNat (by omega)
 have X:bsX bs i.toNat=(!(okC e)||(decide (1000 < v)||(decide (v < -1000)||(decide (0 < i.toNat)&&decide (e≤rE (bs.getD (i.toNat - 1) [])))))):=by unfold bsX; rw [he]; rfl
 have hE:inE e=0↔okC e=true:=by unfold inE; cases okC e <;> simp
 refine ⟨e,by rw [he]; rfl,trivial,csx (fun q=>bad hi ?_) (fun q=>cd1 (by omega) ⟨v,by rw [he]; rfl,csx (fun q2=>bad hi ?_) (fun q2=>cd1 (by omega) ⟨v,by rw [he]; rfl,csx (fun q3=>bad hi ?_) (fun q3=>csx (fun q4=>cdI (by omega) (cd1 (by omega) ?_)) (fun q4=>cdI (by omega) ⟨i+1,good hi ?_,by simp only [rb2]; omega,by (repeat' (first | exact trivial | exact rfl | assumption | apply And.intro))⟩))⟩)⟩)⟩
 ·have:okC e=false:=by
   cases h:okC e with
   | false=>rfl
   | true=>exact absurd (hE.2 h) q
  rw [X,this]; rfl
 ·rw [X,decide_eq_true q2]; simp
 ·rw [X,decide_eq_true q3]; simp
 ·obtain ⟨e',v',he',_,_⟩:=hp.row (i - 1).toNat (by omega)
  have P:rE (bs.getD (i.toNat - 1) [])=e':=by rw [show i.toNat - 1=(i - 1).toNat by omega,he']; rfl
  refine ⟨e',by rw [he']; rfl,cd1 (by omega) ⟨e,by rw [he]; rfl,csx (fun q5=>bad hi ?_) (fun q5=>cdI (by omega) ⟨i+1,good hi ?_,by simp only [rb2]; omega,by (repeat' (first | exact trivial | exact rfl | assumption | apply And.intro))⟩)⟩⟩
  ·rw [X,P,decide_eq_true q5,decide_eq_true (show 0 < i.toNat by omega)]; simp
  ·rw [X,P,decide_eq_false q5,decide_eq_false q3,decide_eq_false q2,hE.1 (Decidable.not_not.1 q)]; simp
 ·rw [X,decide_eq_false (show ¬ 0 < i.toNat by omega),decide_eq_false q3,decide_eq_false q2,hE.1 (Decidable.not_not.1 q)]; simp
def rbias_S (iL:Int→ByteArray) (inLo:Int→Int) (inHi:Int→Int) (inD:Int→Int) (inE:Int→Int) (bsOk:LLR→Bool):Prop:=∀ (gl:Glob) (g:Bool) (bs:List (List AV)),RdsP bs→fnK Tryd.prog { glob:=gl,spec:=lk [(68,(rdesc_s iL inLo inHi inD inE))],specH:=lk [],shape:=[17,28,36,48,53],nowf:=true } { nt:=57,drop:=drp [(2,448),(3,3072),(4,2093072),(5,72057594035830784)] } (invs [(2,rb2 bs g)]) 6 Tryd.f87 [.sl 2 g bs] (.bool (bsOk bs))
theorem rbias_e (iL:Int→ByteArray) (inLo:Int→Int) (inHi:Int→Int) (inD:Int→Int) (inE:Int→Int) (bsOk:LLR→Bool):rbias_T iL inLo inHi inD inE bsOk=rbias_S iL inLo inHi inD inE bsOk:=by kernel_rfl
theorem rbias_v:rbias_S iL inLo inHi inD inE bsOk:=Eq.mp (rbias_e ..) (rbias_P)
theorem rbias_ok (gl:Glob):SOK Tryd.prog gl 87 (rbias_s iL inLo inHi inD inE bsOk):=by
 refine ⟨fok Tryd.func87 (by kernel_rfl) (by kernel_rfl),?_⟩
 intro xs pre r h hp
 unfold rbias_s at h
 split at h
 ·simp only [Option.some.injEq,Prod.mk.injEq] at h
  obtain ⟨h1,h2⟩:=h
  subst h1 h2
  exact fnK_sound tyNil (by exact specOK rfl rfl ⟨(rdesc_ok gl),trivial⟩ trivial) (by kernel_rfl) Tryd.func87 rfl (rbias_v gl _ _ hp)
 ·cases h
def rperiod_s (nrm:Int→Int→Int→Int→Int × Int × Int × Int) (vld:Int→Int→Int→Int→Bool) (isN:Int→Int→Int→Int→Bool) (pdV:Int→Int→Bool→Int→Int→Int→Int→LLR→Bool) (inB:Int→Bool) (bsOk:LLR→Bool):Sp
 | [.int .i64 k,.agg [.int .i64 fr,.bool cl,.int .i64 f,.int .i64 a,.int .i64 b,.int .i64 c,.sl 2 g bs]]=>some (RdsP bs,.bool (pdV k fr cl f a b c bs))
 | _=>none
def rperiod_T (nrm:Int→Int→Int→Int→Int × Int × Int × Int) (vld:Int→Int→Int→Int→Bool) (isN:Int→Int→Int→Int→Bool) (pdV:Int→Int→Bool→Int→Int→Int→Int→LLR→Bool) (inB:Int→Bool) (bsOk:LLR→Bool) (iL:Int→ByteArray) (inLo:Int→Int) (inHi:Int→Int) (inD:Int→Int) (inE:Int→Int):Prop :=
  ∀ (gl:Glob) (k fr f a b c:Int) (cl g:Bool) (bs:List (List AV)),RdsP bs→IR9 k→(IR9 fr)∧True∧(IR9 f)∧(IR9 a)∧((-9223372036854775808:Int)≤b∧b ≤
 (9223372036854775807:Int))∧(IR9 c)∧True∧True→True∧bif !inB fr then false=pdV k fr cl f a b c bs else bif cl then bif decide (f=(0:Int))&&(decide (a=(0:Int))&&(decide (b=(0:Int))&&(decide (c=(0:Int))&&true))) then decide ((↑bs.length:Int)=(0:Int))=pdV k fr cl f a b c bs else false=pdV k fr cl f a b c bs else bif decide (k=(1:Int)) then
 True∧bif isN f a b c then RdsP bs∧bsOk bs=pdV k fr cl f a b c bs else false=pdV k fr cl f a b c bs else bif decide (f=(0:Int))&&(decide (a=(0:Int))&&(decide (b=(0:Int))&&(decide (c=(0:Int))&&true))) then RdsP bs∧bsOk bs=pdV k fr cl f a b c bs else false=pdV k fr cl f a b c bs
theorem rperiod_P:rperiod_T nrm vld isN pdV inB bsOk iL inLo inHi inD inE:=by
 unfold rperiod_T
 intro gl k fr f a b c cl g bs hp _ _
 have nb:(decide (f=0)&&(decide (a=0)&&(decide (b=0)&&(decide (c=0)&&true))))=nonP f a b c:=by
  unfold nonP
  rw [Bool.eq_iff_iff]; simp
 rw [nb]
 unfold pdV
 refine ⟨trivial,csplit (fun q=>?_) (fun q=>?_)⟩
 ·rw [if_pos (by simp [inB] at q; omega)]
 ·rw [if_neg (by simp [inB] at q; omega)]
  refine csplit (fun q2=>?_) (fun q2=>?_)
  ·rw [if_pos q2]
   have el:decide ((bs.length:Int)=0)=decide (bs.length=0):=decide_eq_decide.2 (by omega)
   rw [el]
   refine csplit (fun q3=>?_) (fun q3=>?_)
   ·rw [q3]; rfl
   ·rw [q3]; rfl
  ·rw [if_neg (by rw [q2]; decide)]
   refine csx (fun q3=>⟨trivial,csplit (fun q4=>⟨hp,?_⟩) (fun q4=>?_)⟩) (fun q3=>csplit (fun q4=>⟨hp,?_⟩) (fun q4=>?_))
   ·rw [if_pos q3,q4]; cases bsOk bs <;> rfl
   ·rw [if_pos q3,q4]; cases bsOk bs <;> rfl
   ·rw [if_neg q3,q4]; cases bsOk bs <;> rfl
   ·rw [if_neg q3,q4]; cases bsOk bs <;> rfl
def rperiod_S (nrm:Int→Int→Int→Int→Int × Int × Int × Int) (vld:Int→Int→Int→Int→Bool) (isN:Int→Int→Int→Int→Bool) (pdV:Int→Int→Bool→Int→Int→Int→Int→LLR→Bool) (inB:Int→Bool) (bsOk:LLR→Bool) (iL:Int→ByteArray) (inLo:Int→Int) (inHi:Int→Int) (inD:Int→Int) (inE:Int→Int):Prop:=∀ (gl:Glob) (k fr f a b c:Int) (cl g:Bool) (bs:List (List AV)),RdsP bs→fnK Tryd.prog { glob:=gl,spec:=lk [(85,(rIn_s inB)),(86,(rIsN_s nrm vld isN)),(87,(rbias_s iL inLo inHi inD inE bsOk))],specH:=lk [],nowf:=true } { nt:=40,drop:=drp [(1,224),(3,512),(4,2095104),(5,2097152),(6,2139095040),(7,1097364144128)],tys:=[27] } (fun _ _=>none) 6 Tryd.f64 [.int .i64 k,.agg [.int .i64 fr,.bool cl,.int .i64 f,.int .i64 a,.int .i64 b,.int .i64 c,.sl 2 g bs]] (.bool (pdV k fr cl f a b c bs))
theorem rperiod_e (nrm:Int→Int→Int→Int→Int × Int × Int × Int) (vld:Int→Int→Int→Int→Bool) (isN:Int→Int→Int→Int→Bool) (pdV:Int→Int→Bool→Int→Int→Int→Int→LLR→Bool) (inB:Int→Bool) (bsOk:LLR→Bool) (iL:Int→ByteArray) (inLo:Int→Int) (inHi:Int→Int) (inD:Int→Int) (inE:Int→Int):rperiod_T nrm vld isN pdV inB bsOk iL inLo inHi inD inE=rperiod_S nrm vld isN pdV inB bsOk iL inLo inHi inD inE:=by kernel_rfl
theorem rperiod_v:rperiod_S nrm vld isN pdV inB bsOk iL inLo inHi inD inE:=Eq.mp (rperiod_e ..) (rperiod_P)
theorem rperiod_ok (gl:Glob):SOK Tryd.prog gl 64 (rperiod_s nrm vld isN pdV inB bsOk):=by
 refine ⟨fok Tryd.func64 (by kernel_rfl) (by kernel_rfl),?_⟩
 intro xs pre r h hp
 unfold rperiod_s at h
 split at h
 ·simp only [Option.some.injEq,Prod.mk.injEq] at h
  obtain ⟨h1,h2⟩:=h
  subst h1 h2
  exact fnK_sound (tyOf (by kernel_rfl)) (by exact specOK rfl rfl ⟨(rIn_ok gl),(rIsN_ok gl),(rbias_ok gl),trivial⟩ trivial) (by kernel_rfl) Tryd.func64 rfl (rperiod_v gl _ _ _ _ _ _ _ _ _ hp)
 ·cases h
structure AnyI (e:Int):Prop where
 ft:True
structure VaI (l:LLR) (x:Int × Bool):Prop where
 flo:0≤x.1
 fhi:x.1≤l.length
structure VaJ (l:LLR) (x:Int × Bool × Bool × Bool × Bool × Bool):Prop where
 flo:0≤x.1
 fhi:x.1≤l.length
structure VaK (ps:LLR) (x:Int × Bool × Bool × Bool × Bool × Bool):Prop where
 flo:0≤x.1
 fhi:x.1≤ps.length
structure Any5 (x:Bool × Bool × Bool × Bool × Bool):Prop where
 ft:True
structure WthQ (ps l:LLR):Prop where
 fq:∀ q,8≤q→ps.length≤q→StsW l q 61
structure WthI (l ps:LLR) (x:Int × Bool × LLR):Prop where
 flo:0≤x.1
 fhi:x.1≤l.length
 fl:(x.2.2.length:Int)≤x.1+cond x.2.1 1 0
 fr:∀ q,8≤q→ps.length≤q→StsW x.2.2 q 61
structure PlsQ (ps:LLR):Prop where
 fr:PdsP ps
 fl:ps.length≤9
structure SetI (ps0:LLR) (x:Int × Bool × LLR):Prop where
 flo:0≤x.1
 fhi:x.1≤ps0.length
 fl:(x.2.2.length:Int)≤x.1+cond x.2.1 1 0
 fr:PdsP x.2.2
structure SetQ (l:LLR):Prop where
 fr:StsW l 8 60
structure RegI (x:Int × Int × LLR):Prop where
 fn:x.1≤12
 fj:0≤x.2.1
 fr:StsW x.2.2 8 60
structure RegQ (l:LLR) (j:Int):Prop where
 fr:StsW l 8 60
 fj:0≤j
end Go.Proofs.YtldiagnbagpliaaDoor
