import Derived.Test.YtgbbmadjdaphnaaGreatDoorTTc
import Derived.Shelf.SlSortCmp.WholeK
import Derived.Test.YtgbbmadjdaphnaaGreatDoorProg
import Derived.Outline
import Derived.WalkKit
import Derived.Handy
import Derived.Deep.RegionHeld3
import Derived.Shelf.Sort.Plain
import Derived.Shelf.Slices.In.SortNone
set_option maxRecDepth 100000
set_option linter.defProp false
set_option linter.unusedVariables false
set_option linter.unusedSimpArgs false
namespace Go.Proofs.YtgbbmadjdaphnaaGreatDoor
open Go
def crn (f:Int) (k:Nat):Int:=crnT.getD (3*f.toNat+k) 0
def fcs:List Int:=[0,1,2,3,4,5,6,7,8,9,10,11,12,13,14,15,16,17,18,19]
def allN:List Int->(Int->Prop)->Prop
 | [],_=>True
 | x::l,p=>p x∧allN l p
theorem allN_get {p:Int->Prop}:∀ {l:List Int} {f:Int},allN l p->f ∈ l->p f
 | [],f,_,h=>by simp at h
 | x::l,f,h,hf=>by
  simp only [allN] at h
  rcases List.mem_cons.1 hf with rfl | hf
  ·exact h.1
  ·exact allN_get h.2 hf
theorem mem_fcs {f:Int} (h:0≤f∧f < 20):f ∈ fcs:=by
 simp only [fcs,List.mem_cons,List.not_mem_nil,or_false]; omega
def fac (n:Int):Bool:=decide (0≤n∧n < 20)
structure Vld (f a b c:Int):Prop where
 face:0≤f∧f < 20
 wa:0≤a∧a≤840
 wb:0≤b∧b≤840
 wc:0≤c∧c≤840
 sum:a+b+c=840
theorem vld_iff (f a b c:Int):Vld f a b c↔(0≤f∧f < 20)∧(0≤a∧a≤840)∧(0≤b∧b≤840)∧(0≤c∧c≤840)∧a+b+c=840 :=
 ⟨λ h=>⟨h.1,h.2,h.3,h.4,h.5⟩,λ h=>⟨h.1,h.2.1,h.2.2.1,h.2.2.2.1,h.2.2.2.2⟩⟩
instance (f a b c:Int):Decidable (Vld f a b c):=decidable_of_iff _ (vld_iff f a b c).symm
def vld (f a b c:Int):Bool:=decide (Vld f a b c)
def wt (f a b c v:Int):Int:=if crn f 2=v then c else if crn f 1=v then b else if crn f 0=v then a else 0
def sel (ws:List Int) (i:Int):Int:=ws.getD i.toNat 0
def face_s:Sp
 | [.int .i64 n]=>some (True,.bool (fac n))
 | _=>none
def face_T:Prop :=
 ∀ (gl:Glob) (n:Int),IR9 n->bif decide (0≤n) then decide (n < (20:Int))=fac n else false=fac n
theorem face_P:face_T:=by
 unfold face_T
 intro gl n hn
 unfold fac
 simp only [cdec,decide_eq_decide,Bool.true_eq,Bool.false_eq,decide_eq_true_eq,decide_eq_false_iff_not]
 omega
theorem face_e:face_T=(∀ (gl:Glob) (n:Int),fnK Tryz.prog { glob:=gl,spec:=lk [],specH:=lk [] } { nt:=9,drop:=drp [(1,504)] } (λ _ _=>none) 6 Tryz.f74 [.int .i64 n] (.bool (fac n))):=by kernel_rfl
def face_v:=Eq.mp (face_e ..) (face_P)
theorem face_ok (gl:Glob):SOK Tryz.prog gl 74 face_s:=by
 refine ⟨fok Tryz.func74 (by kernel_rfl) (by kernel_rfl),?_⟩
 intro xs pre r h hp
 unfold face_s at h
 split at h
 ·cases h
  exact fnK_sound tyNil (by exact specOK rfl rfl trivial trivial) (by kernel_rfl) Tryz.func74 rfl (face_v gl _)
 ·cases h
def valid_s (vld:Int->Int->Int->Int->Bool):Sp
 | [.agg [.int .i64 f,.int .i64 a,.int .i64 b,.int .i64 c]]=>some (True,.bool (vld f a b c))
 | _=>none
def valid_T (vld:Int->Int->Int->Int->Bool):Prop :=
 ∀ (gl:Glob) (f a b c:Int),(IR9 f)∧(IR9 a)∧(IR9 b)∧(IR9 c)∧True->bif decide (a < (0:Int)) then false=vld f a b c else bif decide (840 < a) then false=vld f a b c else bif decide (b < (0:Int)) then false=vld f a b c else bif decide (840 < b) then false=vld f a b c else bif decide (c < (0:Int)) then false=vld f a b c else bif decide (840 < c) then false=vld f a b c else True∧(True->bif fac f then bif decide (rng .i64 (a+b)) then bif decide (rng .i64 (a+b+c)) then decide (a+b+c=(840:Int))=vld f a b c else False else False else false=vld f a b c)
theorem valid_P:valid_T vld:=by
 unfold valid_T
 intro gl f a b c h
 simp only [↓cdecF,cdec,vld,fac]
 simp only [rng,decide_eq_decide,Bool.false_eq,decide_eq_false_iff_not,vld_iff]
 repeat' (first | exact trivial | intro _ | apply And.intro)
 all_goals omega
theorem valid_e (vld:Int->Int->Int->Int->Bool):valid_T vld=(∀ (gl:Glob) (f a b c:Int),fnK Tryz.prog { glob:=gl,spec:=lk [(74,face_s)],specH:=lk [] } { nt:=36,drop:=drp [(1,2016),(3,16384),(4,1015808),(6,2097152),(7,68715282432)] } (λ _ _=>none) 6 Tryz.f32 [.agg [.int .i64 f,.int .i64 a,.int .i64 b,.int .i64 c]] (.bool (vld f a b c))):=by kernel_rfl
def valid_v:=Eq.mp (valid_e ..) (valid_P)
theorem valid_ok (gl:Glob):SOK Tryz.prog gl 32 (valid_s vld):=by
 refine ⟨fok Tryz.func32 (by kernel_rfl) (by kernel_rfl),?_⟩
 intro xs pre r h hp
 unfold valid_s at h
 split at h
 ·cases h
  exact fnK_sound tyNil (by exact specOK rfl rfl ⟨(face_ok gl),trivial⟩ trivial) (by kernel_rfl) Tryz.func32 rfl (valid_v gl _ _ _ _)
 ·cases h
def of_s:Sp
 | [.agg [.int .i64 f,.int .i64 a,.int .i64 b,.int .i64 c]]=>some (0≤f∧f < 20,.agg [.int .i64 (wt f a b c 0),.int .i64 (wt f a b c 1),.int .i64 (wt f a b c 2),.int .i64 (wt f a b c 3),.int .i64 (wt f a b c 4),.int .i64 (wt f a b c 5),.int .i64 (wt f a b c 6),.int .i64 (wt f a b c 7),.int .i64 (wt f a b c 8),.int .i64 (wt f a b c 9),.int .i64 (wt f a b c 10),.int .i64 (wt f a b c 11)])
 | _=>none
def on_s:Sp
 | [.int .i64 n,.agg [.int .i64 w0,.int .i64 w1,.int .i64 w2,.int .i64 w3,.int .i64 w4,.int .i64 w5,.int .i64 w6,.int .i64 w7,.int .i64 w8,.int .i64 w9,.int .i64 w10,.int .i64 w11]]=>some (0≤n∧n < 20,.tup [.agg [.int .i64 n,.int .i64 (sel [w0,w1,w2,w3,w4,w5,w6,w7,w8,w9,w10,w11] (crn n 0)),.int .i64 (sel [w0,w1,w2,w3,w4,w5,w6,w7,w8,w9,w10,w11] (crn n 1)),.int .i64 (sel [w0,w1,w2,w3,w4,w5,w6,w7,w8,w9,w10,w11] (crn n 2))],.bool (vld n (sel [w0,w1,w2,w3,w4,w5,w6,w7,w8,w9,w10,w11] (crn n 0)) (sel [w0,w1,w2,w3,w4,w5,w6,w7,w8,w9,w10,w11] (crn n 1)) (sel [w0,w1,w2,w3,w4,w5,w6,w7,w8,w9,w10,w11] (crn n 2)))])
 | _=>none
def of20_T:Prop :=
 ∀ (a b c:Int),allN fcs λ f=>((IR9 f)∧(IR9 a)∧(IR9 b)∧(IR9 c)∧True->wt f a b c 0=wt f a b c 0∧wt f a b c 1=wt f a b c 1∧wt f a b c 2=wt f a b c 2∧wt f a b c 3=wt f a b c 3∧wt f a b c 4=wt f a b c 4∧wt f a b c 5=wt f a b c 5∧wt f a b c 6=wt f a b c 6∧wt f a b c 7=wt f a b c 7∧wt f a b c 8=wt f a b c 8∧wt f a b c 9=wt f a b c 9∧wt f a b c 10=wt f a b c 10∧wt f a b c 11=wt f a b c 11∧True)
theorem of20_P:of20_T:=by
 unfold of20_T
 intro a b c
 repeat' (first | exact trivial | intro _ | rfl | apply And.intro)
def of20_S:Prop:=∀ a b c:Int,allN fcs λ f=>fnK Tryz.prog { glob:=glb } { nt:=25 } (λ _ _=>none) 6 Tryz.f33 [.agg [.int .i64 f,.int .i64 a,.int .i64 b,.int .i64 c]] (.agg [.int .i64 (wt f a b c 0),.int .i64 (wt f a b c 1),.int .i64 (wt f a b c 2),.int .i64 (wt f a b c 3),.int .i64 (wt f a b c 4),.int .i64 (wt f a b c 5),.int .i64 (wt f a b c 6),.int .i64 (wt f a b c 7),.int .i64 (wt f a b c 8),.int .i64 (wt f a b c 9),.int .i64 (wt f a b c 10),.int .i64 (wt f a b c 11)])
theorem of20_e:of20_T=of20_S:=by kernel_rfl
theorem of20:of20_S:=@Eq.mp (of20_T) (of20_S) (of20_e) (of20_P)
def on20_T:Prop :=
 ∀ (w0 w1 w2 w3 w4 w5 w6 w7 w8 w9 w10 w11:Int),allN fcs λ n=>(IR9 n->(IR9 w0)∧(IR9 w1)∧(IR9 w2)∧(IR9 w3)∧(IR9 w4)∧(IR9 w5)∧(IR9 w6)∧(IR9 w7)∧(IR9 w8)∧(IR9 w9)∧(IR9 w10)∧(IR9 w11)∧True->True∧(n=n∧sel [w0,w1,w2,w3,w4,w5,w6,w7,w8,w9,w10,w11] (crn n 0)=sel [w0,w1,w2,w3,w4,w5,w6,w7,w8,w9,w10,w11] (crn n 0)∧sel [w0,w1,w2,w3,w4,w5,w6,w7,w8,w9,w10,w11] (crn n 1)=sel [w0,w1,w2,w3,w4,w5,w6,w7,w8,w9,w10,w11] (crn n 1)∧sel [w0,w1,w2,w3,w4,w5,w6,w7,w8,w9,w10,w11] (crn n 2)=sel [w0,w1,w2,w3,w4,w5,w6,w7,w8,w9,w10,w11] (crn n 2)∧True)∧vld n (sel [w0,w1,w2,w3,w4,w5,w6,w7,w8,w9,w10,w11] (crn n 0)) (sel [w0,w1,w2,w3,w4,w5,w6,w7,w8,w9,w10,w11] (crn n 1)) (sel [w0,w1,w2,w3,w4,w5,w6,w7,w8,w9,w10,w11] (crn n 2))=vld n (sel [w0,w1,w2,w3,w4,w5,w6,w7,w8,w9,w10,w11] (crn n 0)) (sel [w0,w1,w2,w3,w4,w5,w6,w7,w8,w9,w10,w11] (crn n 1)) (sel [w0,w1,w2,w3,w4,w5,w6,w7,w8,w9,w10,w11] (crn n 2))∧True)
theorem on20_P:on20_T:=by
 unfold on20_T
 intro w0 w1 w2 w3 w4 w5 w6 w7 w8 w9 w10 w11
 repeat' (first | exact trivial | intro _ | rfl | apply And.intro)
def on20_S:Prop:=∀ w0 w1 w2 w3 w4 w5 w6 w7 w8 w9 w10 w11:Int,allN fcs λ n=>fnK Tryz.prog { glob:=glb,spec:=lk [(32,valid_s vld)] } { nt:=28 } (λ _ _=>none) 6 Tryz.f34 [.int .i64 n,.agg [.int .i64 w0,.int .i64 w1,.int .i64 w2,.int .i64 w3,.int .i64 w4,.int .i64 w5,.int .i64 w6,.int .i64 w7,.int .i64 w8,.int .i64 w9,.int .i64 w10,.int .i64 w11]] (.tup [.agg [.int .i64 n,.int .i64 (sel [w0,w1,w2,w3,w4,w5,w6,w7,w8,w9,w10,w11] (crn n 0)),.int .i64 (sel [w0,w1,w2,w3,w4,w5,w6,w7,w8,w9,w10,w11] (crn n 1)),.int .i64 (sel [w0,w1,w2,w3,w4,w5,w6,w7,w8,w9,w10,w11] (crn n 2))],.bool (vld n (sel [w0,w1,w2,w3,w4,w5,w6,w7,w8,w9,w10,w11] (crn n 0)) (sel [w0,w1,w2,w3,w4,w5,w6,w7,w8,w9,w10,w11] (crn n 1)) (sel [w0,w1,w2,w3,w4,w5,w6,w7,w8,w9,w10,w11] (crn n 2)))])
theorem on20_e:on20_T=on20_S:=by kernel_rfl
theorem on20:on20_S:=@Eq.mp (on20_T) (on20_S) (on20_e) (on20_P)
theorem of_ok:SOK Tryz.prog glb 33 of_s:=by
 refine ⟨fok Tryz.func33 (by kernel_rfl) (by kernel_rfl),?_⟩
 intro xs pre r h hp
 unfold of_s at h
 split at h
 ·cases h
  exact fnK_sound tyNil (by exact specOK (l:=[]) (l':=[]) rfl rfl trivial trivial) (by kernel_rfl) Tryz.func33 rfl (allN_get (of20 _ _ _) (mem_fcs hp))
 ·cases h
theorem on_ok:SOK Tryz.prog glb 34 on_s:=by
 refine ⟨fok Tryz.func34 (by kernel_rfl) (by kernel_rfl),?_⟩
 intro xs pre r h hp
 unfold on_s at h
 split at h
 ·cases h
  exact fnK_sound tyNil (by exact specOK (l':=[]) rfl rfl ⟨valid_ok glb,trivial⟩ trivial) (by kernel_rfl) Tryz.func34 rfl (allN_get (on20 _ _ _ _ _ _ _ _ _ _ _ _) (mem_fcs hp))
 ·cases h
def onW (f a b c n:Int) (k:Nat):Int:=wt f a b c (crn n k)
def onV (f a b c n:Int):Bool:=vld n (onW f a b c n 0) (onW f a b c n 1) (onW f a b c n 2)
def wts (f a b c:Int):List Int:=[wt f a b c 0,wt f a b c 1,wt f a b c 2,wt f a b c 3,wt f a b c 4,wt f a b c 5,wt f a b c 6,wt f a b c 7,wt f a b c 8,wt f a b c 9,wt f a b c 10,wt f a b c 11]
theorem sel_wts (f a b c:Int) {n:Int} (h:0≤n∧n < 20):sel (wts f a b c) (crn n 0)=onW f a b c n 0∧sel (wts f a b c) (crn n 1)=onW f a b c n 1∧sel (wts f a b c) (crn n 2)=onW f a b c n 2:=by
 refine allN_get (l:=fcs) (p:=λ n=>sel (wts f a b c) (crn n 0)=onW f a b c n 0∧sel (wts f a b c) (crn n 1)=onW f a b c n 1∧sel (wts f a b c) (crn n 2)=onW f a b c n 2) ?_ (mem_fcs h)
 simp only [allN,fcs]
 repeat' (first | exact trivial | rfl | apply And.intro)
def nrmL (f a b c:Int):List Int->Int × Int × Int × Int
 | []=>(f,a,b,c)
 | n::l=>if onV f a b c n then (n,onW f a b c n 0,onW f a b c n 1,onW f a b c n 2) else nrmL f a b c l
theorem nrmL_t {f a b c n:Int} {l:List Int} (h:onV f a b c n=true):nrmL f a b c (n::l)=(n,onW f a b c n 0,onW f a b c n 1,onW f a b c n 2):=by simp [nrmL,h]
theorem nrmL_f {f a b c n:Int} {l:List Int} (h:onV f a b c n=false):nrmL f a b c (n::l)=nrmL f a b c l:=by simp [nrmL,h]
def nrm (f a b c:Int):Int × Int × Int × Int:=if vld f a b c then nrmL f a b c fcs else (0,0,0,0)
def err (v:Bool):Int:=if v then 0 else 1
def sameW (f a b c f' a' b' c':Int):Bool:=decide (wts f a b c=wts f' a' b' c')
def normal_s (vld:Int->Int->Int->Int->Bool) (nrm:NrT):Sp
 | [.agg [.int .i64 f,.int .i64 a,.int .i64 b,.int .i64 c]]=>some (True,.tup [.agg [.int .i64 (nrm f a b c).1,.int .i64 (nrm f a b c).2.1,.int .i64 (nrm f a b c).2.2.1,.int .i64 (nrm f a b c).2.2.2],.int .i64 (err (vld f a b c))])
 | _=>none
abbrev wt12 (f a b c:Int):=[wt f a b c (0:Int),wt f a b c (1:Int),wt f a b c (2:Int),wt f a b c (3:Int),wt f a b c (4:Int),wt f a b c (5:Int),wt f a b c (6:Int),wt f a b c (7:Int),wt f a b c (8:Int),wt f a b c (9:Int),wt f a b c (10:Int),wt f a b c (11:Int)]
def normal_T (vld':Int->Int->Int->Int->Bool) (nrm:NrT):Prop :=
 ∀ (f a b c:Int),(IR9 f)∧(IR9 a)∧(IR9 b)∧(IR9 c)∧True->True∧bif !vld f a b c then ((0:Int)=(nrm f a b c).1∧(0:Int)=(nrm f a b c).2.1∧(0:Int)=(nrm f a b c).2.2.1∧(0:Int)=(nrm f a b c).2.2.2∧True)∧(1:Int)=err (vld' f a b c)∧True else (0≤f∧f < (20:Int))∧((0:Int)≤(0:Int)∧(0:Int) < (20:Int))∧bif vld 0 (sel (wt12 f a b c) 0) (sel (wt12 f a b c) 1) (sel (wt12 f a b c) 2) then ((0:Int)=(nrm f a b c).1∧sel (wt12 f a b c) 0=(nrm f a b c).2.1∧sel (wt12 f a b c) 1=(nrm f a b c).2.2.1∧sel (wt12 f a b c) 2=(nrm f a b c).2.2.2∧True)∧(0:Int)=err (vld' f a b c)∧True else ((0:Int)≤(1:Int)∧(1:Int) < (20:Int))∧bif vld 1 (sel (wt12 f a b c) 0) (sel (wt12 f a b c) 2) (sel (wt12 f a b c) 3) then ((1:Int)=(nrm f a b c).1∧sel (wt12 f a b c) 0=(nrm f a b c).2.1∧sel (wt12 f a b c) 2=(nrm f a b c).2.2.1∧sel (wt12 f a b c) 3=(nrm f a b c).2.2.2∧True)∧(0:Int)=err (vld' f a b c)∧True else ((0:Int)≤(2:Int)∧(2:Int) < (20:Int))∧bif vld 2 (sel (wt12 f a b c) 0) (sel (wt12 f a b c) 3) (sel (wt12 f a b c) 4) then ((2:Int)=(nrm f a b c).1∧sel (wt12 f a b c) 0=(nrm f a b c).2.1∧sel (wt12 f a b c) 3=(nrm f a b c).2.2.1∧sel (wt12 f a b c) 4=(nrm f a b c).2.2.2∧True)∧(0:Int)=err (vld' f a b c)∧True else ((0:Int)≤(3:Int)∧(3:Int) < (20:Int))∧bif vld 3 (sel (wt12 f a b c) 0) (sel (wt12 f a b c) 4) (sel (wt12 f a b c) 5) then ((3:Int)=(nrm f a b c).1∧sel (wt12 f a b c) 0=(nrm f a b c).2.1∧sel (wt12 f a b c) 4=(nrm f a b c).2.2.1∧sel (wt12 f a b c) 5=(nrm f a b c).2.2.2∧True)∧(0:Int)=err (vld' f a b c)∧True else ((0:Int)≤(4:Int)∧(4:Int) < (20:Int))∧bif vld 4 (sel (wt12 f a b c) 0) (sel (wt12 f a b c) 5) (sel (wt12 f a b c) 1) then ((4:Int)=(nrm f a b c).1∧sel (wt12 f a b c) 0=(nrm f a b c).2.1∧sel (wt12 f a b c) 5=(nrm f a b c).2.2.1∧sel (wt12 f a b c) 1=(nrm f a b c).2.2.2∧True)∧(0:Int)=err (vld' f a b c)∧True else ((0:Int)≤(5:Int)∧(5:Int) < (20:Int))∧bif vld 5 (sel (wt12 f a b c) 1) (sel (wt12 f a b c) 6) (sel (wt12 f a b c) 2) then ((5:Int)=(nrm f a b c).1∧sel (wt12 f a b c) 1=(nrm f a b c).2.1∧sel (wt12 f a b c) 6=(nrm f a b c).2.2.1∧sel (wt12 f a b c) 2=(nrm f a b c).2.2.2∧True)∧(0:Int)=err (vld' f a b c)∧True else ((0:Int)≤(6:Int)∧(6:Int) < (20:Int))∧bif vld 6 (sel (wt12 f a b c) 2) (sel (wt12 f a b c) 7) (sel (wt12 f a b c) 3) then ((6:Int)=(nrm f a b c).1∧sel (wt12 f a b c) 2=(nrm f a b c).2.1∧sel (wt12 f a b c) 7=(nrm f a b c).2.2.1∧sel (wt12 f a b c) 3=(nrm f a b c).2.2.2∧True)∧(0:Int)=err (vld' f a b c)∧True else ((0:Int)≤(7:Int)∧(7:Int) < (20:Int))∧bif vld 7 (sel (wt12 f a b c) 3) (sel (wt12 f a b c) 8) (sel (wt12 f a b c) 4) then ((7:Int)=(nrm f a b c).1∧sel (wt12 f a b c) 3=(nrm f a b c).2.1∧sel (wt12 f a b c) 8=(nrm f a b c).2.2.1∧sel (wt12 f a b c) 4=(nrm f a b c).2.2.2∧True)∧(0:Int)=err (vld' f a b c)∧True else ((0:Int)≤(8:Int)∧(8:Int) < (20:Int))∧bif vld 8 (sel (wt12 f a b c) 4) (sel (wt12 f a b c) 9) (sel (wt12 f a b c) 5) then ((8:Int)=(nrm f a b c).1∧sel (wt12 f a b c) 4=(nrm f a b c).2.1∧sel (wt12 f a b c) 9=(nrm f a b c).2.2.1∧sel (wt12 f a b c) 5=(nrm f a b c).2.2.2∧True)∧(0:Int)=err (vld' f a b c)∧True else ((0:Int)≤(9:Int)∧(9:Int) < (20:Int))∧bif vld 9 (sel (wt12 f a b c) 5) (sel (wt12 f a b c) 10) (sel (wt12 f a b c) 1) then ((9:Int)=(nrm f a b c).1∧sel (wt12 f a b c) 5=(nrm f a b c).2.1∧sel (wt12 f a b c) 10=(nrm f a b c).2.2.1∧sel (wt12 f a b c) 1=(nrm f a b c).2.2.2∧True)∧(0:Int)=err (vld' f a b c)∧True else ((0:Int)≤(10:Int)∧(10:Int) < (20:Int))∧bif vld 10 (sel (wt12 f a b c) 6) (sel (wt12 f a b c) 7) (sel (wt12 f a b c) 2) then ((10:Int)=(nrm f a b c).1∧sel (wt12 f a b c) 6=(nrm f a b c).2.1∧sel (wt12 f a b c) 7=(nrm f a b c).2.2.1∧sel (wt12 f a b c) 2=(nrm f a b c).2.2.2∧True)∧(0:Int)=err (vld' f a b c)∧True else ((0:Int)≤(11:Int)∧(11:Int) < (20:Int))∧bif vld 11 (sel (wt12 f a b c) 7) (sel (wt12 f a b c) 8) (sel (wt12 f a b c) 3) then ((11:Int)=(nrm f a b c).1∧sel (wt12 f a b c) 7=(nrm f a b c).2.1∧sel (wt12 f a b c) 8=(nrm f a b c).2.2.1∧sel (wt12 f a b c) 3=(nrm f a b c).2.2.2∧True)∧(0:Int)=err (vld' f a b c)∧True else ((0:Int)≤(12:Int)∧(12:Int) < (20:Int))∧bif vld 12 (sel (wt12 f a b c) 8) (sel (wt12 f a b c) 9) (sel (wt12 f a b c) 4) then ((12:Int)=(nrm f a b c).1∧sel (wt12 f a b c) 8=(nrm f a b c).2.1∧sel (wt12 f a b c) 9=(nrm f a b c).2.2.1∧sel (wt12 f a b c) 4=(nrm f a b c).2.2.2∧True)∧(0:Int)=err (vld' f a b c)∧True else ((0:Int)≤(13:Int)∧(13:Int) < (20:Int))∧bif vld 13 (sel (wt12 f a b c) 9) (sel (wt12 f a b c) 10) (sel (wt12 f a b c) 5) then ((13:Int)=(nrm f a b c).1∧sel (wt12 f a b c) 9=(nrm f a b c).2.1∧sel (wt12 f a b c) 10=(nrm f a b c).2.2.1∧sel (wt12 f a b c) 5=(nrm f a b c).2.2.2∧True)∧(0:Int)=err (vld' f a b c)∧True else ((0:Int)≤(14:Int)∧(14:Int) < (20:Int))∧bif vld 14 (sel (wt12 f a b c) 10) (sel (wt12 f a b c) 6) (sel (wt12 f a b c) 1) then ((14:Int)=(nrm f a b c).1∧sel (wt12 f a b c) 10=(nrm f a b c).2.1∧sel (wt12 f a b c) 6=(nrm f a b c).2.2.1∧sel (wt12 f a b c) 1=(nrm f a b c).2.2.2∧True)∧(0:Int)=err (vld' f a b c)∧True else ((0:Int)≤(15:Int)∧(15:Int) < (20:Int))∧bif vld 15 (sel (wt12 f a b c) 11) (sel (wt12 f a b c) 7) (sel (wt12 f a b c) 6) then ((15:Int)=(nrm f a b c).1∧sel (wt12 f a b c) 11=(nrm f a b c).2.1∧sel (wt12 f a b c) 7=(nrm f a b c).2.2.1∧sel (wt12 f a b c) 6=(nrm f a b c).2.2.2∧True)∧(0:Int)=err (vld' f a b c)∧True else ((0:Int)≤(16:Int)∧(16:Int) < (20:Int))∧bif vld 16 (sel (wt12 f a b c) 11) (sel (wt12 f a b c) 8) (sel (wt12 f a b c) 7) then ((16:Int)=(nrm f a b c).1∧sel (wt12 f a b c) 11=(nrm f a b c).2.1∧sel (wt12 f a b c) 8=(nrm f a b c).2.2.1∧sel (wt12 f a b c) 7=(nrm f a b c).2.2.2∧True)∧(0:Int)=err (vld' f a b c)∧True else ((0:Int)≤(17:Int)∧(17:Int) < (20:Int))∧bif vld 17 (sel (wt12 f a b c) 11) (sel (wt12 f a b c) 9) (sel (wt12 f a b c) 8) then ((17:Int)=(nrm f a b c).1∧sel (wt12 f a b c) 11=(nrm f a b c).2.1∧sel (wt12 f a b c) 9=(nrm f a b c).2.2.1∧sel (wt12 f a b c) 8=(nrm f a b c).2.2.2∧True)∧(0:Int)=err (vld' f a b c)∧True else ((0:Int)≤(18:Int)∧(18:Int) < (20:Int))∧bif vld 18 (sel (wt12 f a b c) 11) (sel (wt12 f a b c) 10) (sel (wt12 f a b c) 9) then ((18:Int)=(nrm f a b c).1∧sel (wt12 f a b c) 11=(nrm f a b c).2.1∧sel (wt12 f a b c) 10=(nrm f a b c).2.2.1∧sel (wt12 f a b c) 9=(nrm f a b c).2.2.2∧True)∧(0:Int)=err (vld' f a b c)∧True else ((0:Int)≤(19:Int)∧(19:Int) < (20:Int))∧bif vld 19 (sel (wt12 f a b c) 11) (sel (wt12 f a b c) 6) (sel (wt12 f a b c) 10) then ((19:Int)=(nrm f a b c).1∧sel (wt12 f a b c) 11=(nrm f a b c).2.1∧sel (wt12 f a b c) 6=(nrm f a b c).2.2.1∧sel (wt12 f a b c) 10=(nrm f a b c).2.2.2∧True)∧(0:Int)=err (vld' f a b c)∧True else (f=(nrm f a b c).1∧a=(nrm f a b c).2.1∧b=(nrm f a b c).2.2.1∧c=(nrm f a b c).2.2.2∧True)∧(0:Int)=err (vld' f a b c)∧True
theorem normal_P:normal_T vld nrm:=by
  unfold normal_T
  intro f a b c h
  refine ⟨trivial,?_⟩
  unfold nrm err
  cases hv:vld f a b c with
  | false=>exact ⟨⟨rfl,rfl,rfl,rfl,trivial⟩,rfl,trivial⟩
  | true =>
    have v:Vld f a b c:=of_decide_eq_true hv
    rw [if_pos rfl]
    refine ⟨v.face,?_⟩
    unfold fcs
    iterate 20
      (refine ⟨⟨by decide,by decide⟩,csplit (λ h=>?_) (λ h=>?_)⟩
       · rw [nrmL_t (f:=f) (a:=a) (b:=b) (c:=c) h]; exact ⟨⟨rfl,rfl,rfl,rfl,trivial⟩,rfl,trivial⟩
       rw [nrmL_f (f:=f) (a:=a) (b:=b) (c:=c) h])
    exact ⟨⟨rfl,rfl,rfl,rfl,trivial⟩,rfl,trivial⟩
theorem normal_e (vld:Int->Int->Int->Int->Bool) (nrm:NrT):normal_T vld nrm=(∀ (f a b c:Int),fnK Tryz.prog { glob:=glb,spec:=lk [(32,(valid_s Go.Proofs.YtgbbmadjdaphnaaGreatDoor.vld)),(33,of_s),(34,on_s)],specH:=lk [],nowf:=true } { nt:=27,drop:=drp [(1,768),(2,2048),(3,12288),(6,65536),(7,8257536),(9,16777216),(10,33554432),(11,67108864)] } (λ _ _=>none) 21 Tryz.f75 [.agg [.int .i64 f,.int .i64 a,.int .i64 b,.int .i64 c]] (.tup [.agg [.int .i64 (nrm f a b c).1,.int .i64 (nrm f a b c).2.1,.int .i64 (nrm f a b c).2.2.1,.int .i64 (nrm f a b c).2.2.2],.int .i64 (err (vld f a b c))])):=by kernel_rfl
def normal_v:=Eq.mp (normal_e ..) (normal_P)
theorem normal_ok:SOK Tryz.prog glb 75 (normal_s vld nrm):=by
 refine ⟨fok Tryz.func75 (by kernel_rfl) (by kernel_rfl),?_⟩
 intro xs pre r h hp
 unfold normal_s at h
 split at h
 ·cases h
  exact fnK_sound tyNil (by exact specOK rfl rfl ⟨(valid_ok glb),(of_ok),(on_ok),trivial⟩ trivial) (by kernel_rfl) Tryz.func75 rfl (normal_v  _ _ _ _)
 ·cases h
def onRow (f a b c n:Int):List AV:=[.int .i64 n,.int .i64 (onW f a b c n 0),.int .i64 (onW f a b c n 1),.int .i64 (onW f a b c n 2)]
def adrR (f a b c:Int):Nat->LL
 | 0=>[]
 | n+1=>if onV f a b c n then adrR f a b c n++[onRow f a b c n] else adrR f a b c n
def adr (f a b c:Int):LL:=if vld f a b c then adrR f a b c 20 else []
structure AdrP (f a b c:Int) (x:Int × LL):Prop where
 lo:0≤x.1
 hi:x.1≤20
 row:x.2=adrR f a b c x.1.toNat
theorem adr_len (f a b c:Int):∀ n,(adrR f a b c n).length≤n
 | 0=>by simp [adrR]
 | n+1=>by
  have:=adr_len f a b c n
  simp only [adrR]
  split
  ·simp; omega
  ·omega
theorem adr_step {f a b c n:Int} (h:0≤n):adrR f a b c (n+1).toNat=if onV f a b c n then adrR f a b c n.toNat++[onRow f a b c n] else adrR f a b c n.toNat:=by
 rw [show (n+1).toNat=n.toNat+1 by omega]
 simp only [adrR]
 rw [show ((n.toNat:Nat):Int)=n by omega]
def itr {σ:Type} (g:Int->σ->σ):Nat->Int->σ->σ
 | 0,_,s=>s
 | k+1,b,s=>itr g k (b+1) (g b s)
def upto {σ:Type} (g:Int->σ->σ) (b e:Int) (s:σ):σ:=itr g (e - b).toNat b s
theorem upto_lt {σ:Type} {g:Int->σ->σ} {b e:Int} {s:σ} (h:b < e):upto g b e s=upto g (b+1) e (g b s):=by
 unfold upto; rw [show (e - b).toNat=(e - (b+1)).toNat+1 by omega]; rfl
theorem upto_ge {σ:Type} {g:Int->σ->σ} {b e:Int} {s:σ} (h:e≤b):upto g b e s=s:=by
 unfold upto; rw [show (e - b).toNat=0 by omega]; rfl
theorem upto_ind {σ:Type} {g:Int->σ->σ} {p:σ->Prop} (hg:∀ b s,p s->p (g b s)) (b e:Int) {s:σ} (h:p s):p (upto g b e s):=by
 unfold upto
 generalize (e - b).toNat=k
 induction k generalizing b s with
 | zero=>exact h
 | succ k ih=>exact ih (b+1) (hg b s h)
abbrev Pt:=LL × List (Int × AV)
def hN (n:Int):Int:=(840:Int).tdiv n
def rowP (f a b c:Int):List AV:=[.int .i64 f,.int .i64 a,.int .i64 b,.int .i64 c]
def eqP (nrm:NrT) (f a b c:Int):Bool:=decide ((nrm f a b c).1=f)&&(decide ((nrm f a b c).2.1=a)&&(decide ((nrm f a b c).2.2.1=b)&&(decide ((nrm f a b c).2.2.2=c)&&true)))
def ptS (nrm:NrT) (n f a b:Int) (s:Pt):Pt :=
 if eqP nrm f (a*hN n) (b*hN n) ((n - a - b)*hN n)=true then (s.1++[rowP f (a*hN n) (b*hN n) ((n - a - b)*hN n)],mPut s.2 (codeK [f,a*hN n,b*hN n,(n - a - b)*hN n]) (.int .i64 s.1.length)) else s
def ptB (nrm:NrT) (n f a b:Int) (s:Pt):Pt:=upto (ptS nrm n f a) b (n - a+1) s
def ptA (nrm:NrT) (n f a:Int) (s:Pt):Pt:=upto (λ a s=>ptB nrm n f a 0 s) a (n+1) s
def ptF (nrm:NrT) (n f:Int) (s:Pt):Pt:=upto (λ f s=>ptA nrm n f 0 s) f 20 s
def ptG (nrm:NrT) (n:Int):Pt:=ptF nrm n 0 ([],[])
structure PtL (s:Pt) (m:Int):Prop where
 r:(s.1.length:Int)≤m
 i:(s.2.length:Int)≤m
structure PtX (nrm:NrT) (n:Int) (x:Int × Pt):Prop where
 lo:0≤x.1
 hi:x.1≤20
 go:ptF nrm n x.1 x.2=ptG nrm n
 sm:PtL x.2 (25*x.1)
structure PtY (nrm:NrT) (n f:Int) (x:Int × Pt):Prop where
 fl:0≤f
 fh:f < 20
 lo:0≤x.1
 hi:x.1≤n+1
 go:ptF nrm n (f+1) (ptA nrm n f x.1 x.2)=ptG nrm n
 sm:PtL x.2 (25*f+5*x.1)
structure PtZ (nrm:NrT) (n f a:Int) (x:Int × Pt):Prop where
 fl:0≤f
 fh:f < 20
 al:0≤a
 ah:a≤n
 lo:0≤x.1
 hi:x.1≤n - a+1
 go:ptF nrm n (f+1) (ptA nrm n f (a+1) (ptB nrm n f a x.1 x.2))=ptG nrm n
 sm:PtL x.2 (25*f+5*a+x.1)
def ptH (n:Int) (s:Pt):List (Nat × Blk):=[(1015,.cells [.int .i64 n,.int .i64 (hN n),.rw 1500 4 s.1.length,.mpv 1013,.nils,.nils,.nils]),(1500,.row 27 4 s.1),(1013,.mp 27 3 s.2)]
def pt3 (nrm:NrT) (n:Int):LInv:=⟨Int × Pt,λ x=>⟨[(0,.int .i64 n),(3,.ptr 1015 0),(16,.int .i64 x.1)],ptH n x.2⟩,PtX nrm n,λ x=>(20 - x.1).toNat,none⟩
def pt6 (nrm:NrT) (n f:Int):LInv:=⟨Int × Pt,λ x=>⟨[(0,.int .i64 n),(3,.ptr 1015 0),(16,.int .i64 f),(4,.int .i64 f),(5,.int .i64 x.1)],ptH n x.2⟩,PtY nrm n f,λ x=>(n+1 - x.1).toNat,none⟩
def pt9 (nrm:NrT) (n f a:Int):LInv:=⟨Int × Pt,λ x=>⟨[(0,.int .i64 n),(3,.ptr 1015 0),(16,.int .i64 f),(4,.int .i64 f),(5,.int .i64 a),(6,.int .i64 x.1)],ptH n x.2⟩,PtZ nrm n f a,λ x=>(n - a+1 - x.1).toNat,none⟩
def inv2 (j s t:Nat) (L:Int->Int->LInv) (i:Nat) (st:St) (o:Option LInv):Option LInv:=cond (Nat.beq j i) (match lk st.tmps s,lk st.tmps t with
 | some (.int _ a),some (.int _ b)=>some (L a b)
 | _,_=>none) o
theorem csp {p:Prop} [Decidable p] {A B:Prop} (h:p->A) (k:¬ p->B):cond (decide p) A B:=csplit (λ q=>h (of_decide_eq_true q)) (λ q=>k (of_decide_eq_false q))
theorem n14 {n:Int} (h1:1≤n) (h4:n≤4):n=1∨n=2∨n=3∨n=4:=by omega
theorem hN_b {n:Int} (h1:1≤n) (h4:n≤4):210≤hN n∧hN n≤840∧n*hN n=840:=by
 rcases n14 h1 h4 with rfl | rfl | rfl | rfl <;> decide
theorem mulB {x h:Int} (x0:0≤x) (x5:x≤5) (h0:0≤h) (h8:h≤840):0≤x*h∧x*h≤4200 :=
 ⟨Int.mul_nonneg x0 h0,Int.le_trans (Int.mul_le_mul x5 h8 h0 (by decide)) (by decide)⟩
theorem mDel_le (n:Int):∀ l:List (Int × AV),(mDel l n).length≤l.length
 | []=>Nat.le_refl _
 | (k,x)::l=>by
  have:=mDel_le n l
  simp only [mDel]
  cases decide (k=n) <;> simp <;> omega
def mfreq_s:Sp
 | [.int .i64 n]=>some (True,.bool (decide (1≤n∧n≤8)))
 | _=>none
def mfreq_T:Prop :=
 ∀ (gl:Glob) (n:Int),IR9 n->bif decide (1≤n) then decide (n≤(8:Int))=decide (1≤n∧n≤(8:Int)) else false=decide (1≤n∧n≤(8:Int))
theorem mfreq_P:mfreq_T:=by
 unfold mfreq_T
 intro gl n hn
 simp only [cdec,decide_eq_decide,Bool.true_eq,Bool.false_eq,decide_eq_true_eq,decide_eq_false_iff_not]
 omega
theorem mfreq_e:mfreq_T=(∀ (gl:Glob) (n:Int),fnK Tryz.prog { glob:=gl,spec:=lk [],specH:=lk [] } { nt:=9,drop:=drp [(1,504)] } (λ _ _=>none) 6 Tryz.f36 [.int .i64 n] (.bool (decide (1≤n∧n≤8)))):=by kernel_rfl
def mfreq_v:=Eq.mp (mfreq_e ..) (mfreq_P)
theorem mfreq_ok (gl:Glob):SOK Tryz.prog gl 36 mfreq_s:=by
 refine ⟨fok Tryz.func36 (by kernel_rfl) (by kernel_rfl),?_⟩
 intro xs pre r h hp
 unfold mfreq_s at h
 split at h
 ·cases h
  exact fnK_sound tyNil (by exact specOK rfl rfl trivial trivial) (by kernel_rfl) Tryz.func36 rfl (mfreq_v gl _)
 ·cases h
def mpts_s (nrm:NrT) (vld:Int->Int->Int->Int->Bool):SpH
 | [.int .i64 n],[]=>some (1≤n∧n≤4,.ptr 0 0,[.cells [.int .i64 n,.int .i64 (hN n),.sl 4 false (ptG nrm n).1,.mpv 1,.nils,.nils,.nils],.mp 27 3 (ptG nrm n).2])
 | _,_=>none
def mpts_T (nrm:NrT) (vld:Int->Int->Int->Int->Bool):Prop :=
 ∀ (n:Int),1≤n∧n≤(4:Int)->IR9 n->bif decide ¬n=(0:Int) then bif decide (rng IntKind.i64 (Int.tdiv 840 n)) then (∃ x,PtX nrm n x∧(n=n∧(0:Nat)=(0:Nat)∧(0:Int)=x.1∧True)∧(n=n∧Int.tdiv 840 n=hN n∧(0:Nat)=x.2.1.length∧True∧True∧True∧True∧True)∧[]=x.2.1∧[]=x.2.2∧True)∧∀ (x1:Int × Pt),PtX nrm n x1->bif decide (x1.1 < (20:Int)) then (∃ x_1,PtY nrm n x1.1 x_1∧(n=n∧(0:Nat)=(0:Nat)∧x1.1=x1.1∧x1.1=x1.1∧(0:Int)=x_1.1∧True)∧(n=n∧hN n=hN n∧x1.2.1.length=x_1.2.1.length∧True∧True∧True∧True∧True)∧x1.2.1=x_1.2.1∧x1.2.2=x_1.2.2∧True)∧∀ (x2:Int × Pt),PtY nrm n x1.1 x2->bif decide (x2.1≤n) then (∃ x_2,PtZ nrm n x1.1 x2.1 x_2∧(n=n∧(0:Nat)=(0:Nat)∧x1.1=x1.1∧x1.1=x1.1∧x2.1=x2.1∧(0:Int)=x_2.1∧True)∧(n=n∧hN n=hN n∧x2.2.1.length=x_2.2.1.length∧True∧True∧True∧True∧True)∧x2.2.1=x_2.2.1∧x2.2.2=x_2.2.2∧True)∧∀ (x3:Int × Pt),PtZ nrm n x1.1 x2.1 x3->bif decide (rng IntKind.i64 (x2.1+x3.1)) then bif decide (x2.1+x3.1≤n) then bif decide (rng IntKind.i64 (x2.1*hN n)) then bif decide (rng IntKind.i64 (x3.1*hN n)) then bif decide (rng IntKind.i64 (n - x2.1)) then bif decide (rng IntKind.i64 (n - x2.1 - x3.1)) then bif decide (rng IntKind.i64 ((n - x2.1 - x3.1)*hN n)) then True∧bif decide ((nrm x1.1 (x2.1*hN n) (x3.1*hN n) ((n - x2.1 - x3.1)*hN n)).1=x1.1)&&(decide ((nrm x1.1 (x2.1*hN n) (x3.1*hN n) ((n - x2.1 - x3.1)*hN n)).2.1=x2.1*hN n)&&(decide ((nrm x1.1 (x2.1*hN n) (x3.1*hN n) ((n - x2.1 - x3.1)*hN n)).2.2.1=x3.1*hN n)&&(decide ((nrm x1.1 (x2.1*hN n) (x3.1*hN n) ((n - x2.1 - x3.1)*hN n)).2.2.2=(n - x2.1 - x3.1)*hN n)&&true))) then bif decide (x3.2.2.length≤(140737488355327:Nat)) then bif decide (x3.2.1.length=x3.2.1.length∧x3.2.1.length+[[I6 x1.1,I6 (x2.1*hN n),I6 (x3.1*hN n),I6 ((n - x2.1 - x3.1)*hN n)]].length≤(9223372036854775807:Nat)∧(x3.2.1.length+[[I6 x1.1,I6 (x2.1*hN n),I6 (x3.1*hN n),I6 ((n - x2.1 - x3.1)*hN n)]].length)*(32:Nat)≤(140737488355328:Nat)) then bif decide (rng IntKind.i64 (x3.1+(1:Int))) then ∃ y,PtZ nrm n x1.1 x2.1 y∧(pt9 nrm n x1.1 x2.1).m y < (pt9 nrm n x1.1 x2.1).m x3∧(n=n∧(0:Nat)=(0:Nat)∧x1.1=x1.1∧x1.1=x1.1∧x2.1=x2.1∧x3.1+(1:Int)=y.1∧True)∧(n=n∧hN n=hN n∧(x3.2.1++[[I6 x1.1,I6 (x2.1*hN n),I6 (x3.1*hN n),I6 ((n - x2.1 - x3.1)*hN n)]]).length=y.2.1.length∧True∧True∧True∧True∧True)∧x3.2.1++[[I6 x1.1,I6 (x2.1*hN n),I6 (x3.1*hN n),I6 ((n - x2.1 - x3.1)*hN n)]]=y.2.1∧mPut x3.2.2 (codeK [x1.1,x2.1*hN n,x3.1*hN n,(n - x2.1 - x3.1)*hN n]) (I6 (↑x3.2.1.length:Int))=y.2.2∧True else False else False else False else bif decide (rng IntKind.i64 (x3.1+(1:Int))) then ∃ y,PtZ nrm n x1.1 x2.1 y∧(pt9 nrm n x1.1 x2.1).m y < (pt9 nrm n x1.1 x2.1).m x3∧(n=n∧(0:Nat)=(0:Nat)∧x1.1=x1.1∧x1.1=x1.1∧x2.1=x2.1∧x3.1+(1:Int)=y.1∧True)∧(n=n∧hN n=hN n∧x3.2.1.length=y.2.1.length∧True∧True∧True∧True∧True)∧x3.2.1=y.2.1∧x3.2.2=y.2.2∧True else False else False else False else False else False else False else bif decide (rng IntKind.i64 (x2.1+(1:Int))) then ∃ y,PtY nrm n x1.1 y∧(pt6 nrm n x1.1).m y < (pt6 nrm n x1.1).m x2∧(n=n∧(0:Nat)=(0:Nat)∧x1.1=x1.1∧x1.1=x1.1∧x2.1+(1:Int)=y.1∧True)∧(n=n∧hN n=hN n∧x3.2.1.length=y.2.1.length∧True∧True∧True∧True∧True)∧x3.2.1=y.2.1∧x3.2.2=y.2.2∧True else False else False else bif decide (rng IntKind.i64 (x1.1+(1:Int))) then ∃ y,PtX nrm n y∧(pt3 nrm n).m y < (pt3 nrm n).m x1∧(n=n∧(0:Nat)=(0:Nat)∧x1.1+(1:Int)=y.1∧True)∧(n=n∧hN n=hN n∧x2.2.1.length=y.2.1.length∧True∧True∧True∧True∧True)∧x2.2.1=y.2.1∧x2.2.2=y.2.2∧True else False else bif decide (x1.2.1.length=x1.2.1.length) then (0:Nat)=(0:Nat)∧(n=n∧hN n=hN n∧(True∧x1.2.1=(ptG nrm n).1)∧True∧True∧True∧True∧True)∧x1.2.2=(ptG nrm n).2∧True else False else False else False
theorem mpts_P:mpts_T nrm vld:=by
 unfold mpts_T
 delta I6
 intro n ⟨n1,n4⟩ _
 obtain ⟨h2,h8,_⟩:=hN_b n1 n4
 refine cd1 (by omega) (cdI (show -9223372036854775808≤hN n∧hN n≤9223372036854775807 by omega) ⟨⟨(0,[],[]),⟨by decide,by decide,rfl,⟨by decide,by decide⟩⟩,by repeat' first|exact trivial|exact rfl|assumption|apply And.intro⟩,?_⟩)
 rintro ⟨f,s⟩ ⟨fl,fh,fg,fs⟩
 refine csp (λ h=>⟨⟨(0,s),⟨fl,h,Int.le_refl 0,by simp only; omega,(upto_lt h).symm.trans fg,⟨by have:=fs.r; simp only at this ⊢; omega,by have:=fs.i; simp only at this ⊢; omega⟩⟩,by repeat' first|exact trivial|exact rfl|assumption|apply And.intro⟩,?_⟩) (λ h=>?_)
 ·clear fg fs
  rintro ⟨a,s⟩ ⟨f0,f20,al,ah,ag,as_⟩
  refine csp (λ h=>⟨⟨(0,s),⟨f0,f20,al,h,Int.le_refl 0,by simp only at h ⊢; omega,?_,⟨by have:=as_.r; simp only at this ⊢; omega,by have:=as_.i; simp only at this ⊢; omega⟩⟩,by repeat' first|exact trivial|exact rfl|assumption|apply And.intro⟩,?_⟩) (λ h=>?_)
  ·have e:ptA nrm n f a s=ptA nrm n f (a+1) (ptB nrm n f a 0 s):=upto_lt (by simp only at h; omega)
   simp only at ag ⊢
   rw [← e]; exact ag
  ·clear ag as_
   rintro ⟨b,s⟩ ⟨_,_,a0,an,bl,bh,bg,bs⟩
   simp only at a0 an bl bh bg f0 f20
   obtain ⟨m1,m2⟩:=mulB (x:=a) (h:=hN n) a0 (by omega) (by omega) h8
   obtain ⟨m3,m4⟩:=mulB (x:=b) (h:=hN n) bl (by omega) (by omega) h8
   refine cdI (by simp only; omega) (csp (λ h=>?_) (λ h=>?_))
   ·simp only at h
    obtain ⟨m5,m6⟩:=mulB (x:=n - a - b) (h:=hN n) (by omega) (by omega) (by omega) h8
    have br:=bs.r
    have bi:=bs.i
    simp only at br bi
    have e:ptB nrm n f a b s=ptB nrm n f a (b+1) (ptS nrm n f a b s):=upto_lt (by omega)
    rw [e] at bg
    refine cdI (by simp only; omega) (cdI (by simp only; omega) (cdI (by simp only; omega) (cdI (by simp only; omega) (cdI (by simp only; omega) ⟨trivial,csplit (λ q=>?_) (λ q=>?_)⟩))))
    ·have es:ptS nrm n f a b s=(s.1++[rowP f (a*hN n) (b*hN n) ((n - a - b)*hN n)],mPut s.2 (codeK [f,a*hN n,b*hN n,(n - a - b)*hN n]) (.int .i64 s.1.length)):=if_pos q
     rw [es] at bg
     refine cd1 (by simp only; omega) (cd1 ⟨rfl,by simp only [List.length_singleton]; omega,by simp only [List.length_singleton]; omega⟩ (cdI (by simp only; omega) ⟨(b+1,(s.1++[rowP f (a*hN n) (b*hN n) ((n - a - b)*hN n)],mPut s.2 (codeK [f,a*hN n,b*hN n,(n - a - b)*hN n]) (.int .i64 s.1.length))),⟨f0,f20,a0,an,by simp only; omega,by simp only; omega,bg,⟨?_,?_⟩⟩,?_,by repeat' first|exact trivial|exact rfl|assumption|apply And.intro⟩))
     ·simp only [List.length_append,List.length_singleton]; omega
     ·have:=mDel_le (codeK [f,a*hN n,b*hN n,(n - a - b)*hN n]) s.2
      simp only [mPut,List.length_cons]; omega
     ·simp only [pt9]; omega
    ·have es:ptS nrm n f a b s=s:=if_neg (by unfold eqP; rw [q]; decide)
     rw [es] at bg
     refine cdI (by simp only; omega) ⟨(b+1,s),⟨f0,f20,a0,an,by simp only; omega,by simp only; omega,bg,⟨by simp only; omega,by simp only; omega⟩⟩,by simp only [pt9]; omega,by repeat' first|exact trivial|exact rfl|assumption|apply And.intro⟩
   ·simp only at h
    have e:ptB nrm n f a b s=s:=upto_ge (by omega)
    rw [e] at bg
    have br:=bs.r
    have bi:=bs.i
    simp only at br bi
    exact cdI (by simp only; omega) ⟨(a+1,s),⟨f0,f20,by simp only; omega,by simp only; omega,bg,⟨by simp only; omega,by simp only; omega⟩⟩,by simp only [pt6]; omega,by repeat' first|exact trivial|exact rfl|assumption|apply And.intro⟩
  ·simp only at h al ah ag f0 f20
   have e:ptA nrm n f a s=s:=upto_ge (by omega)
   rw [e] at ag
   have br:=as_.r
   have bi:=as_.i
   simp only at br bi
   exact cdI (by simp only; omega) ⟨(f+1,s),⟨by simp only; omega,by simp only; omega,ag,⟨by simp only; omega,by simp only; omega⟩⟩,by simp only [pt3]; omega,by repeat' first|exact trivial|exact rfl|assumption|apply And.intro⟩
 ·simp only at h fl fh fg
  have e:ptF nrm n f s=s:=upto_ge (by omega)
  rw [e] at fg
  subst fg
  exact cd1 rfl (by repeat' first|exact trivial|exact rfl|assumption|apply And.intro)
theorem mpts_e (nrm:NrT) (vld:Int->Int->Int->Int->Bool):mpts_T nrm vld=(∀ (n:Int),1≤n∧n≤4->fnH Tryz.prog { glob:=glb,spec:=lk [(75,(normal_s vld nrm))],specH:=lk [],nowf:=true } { nt:=85,drop:=drp [(1,64512),(4,262144),(6,1572864),(7,12582912),(9,251658240),(10,1610612736),(11,36028794871480320),(12,1116892707587883008),(13,3458764513820540928),(14,9435509593702435651584),(15,9661961823951294107222016),(16,9671406556917033397649408),(17,19342813113834066795298816)],fr:=1000,kp:=[],tys:=[27],frz:=λ id=>cond (Nat.beq id 17) [1001500] [],emp:=λ id=>cond (Nat.beq id 2) [(1101502,1500,27,4)] [] } (λ id st=>cond (Nat.beq id 3) (some (pt3 nrm n)) (inv2 9 4 5 (pt9 nrm n) id st (invsN [(6,4,pt6 nrm n)] id st))) 6 Tryz.f37 [.int .i64 n] [] (.ptr 0 0) [.cells [.int .i64 n,.int .i64 (hN n),.sl 4 false (ptG nrm n).1,.mpv 1,.nils,.nils,.nils],.mp 27 3 (ptG nrm n).2]):=by kernel_rfl
def mpts_v:=Eq.mp (mpts_e ..) (mpts_P)
theorem mpts_ok:HOK Tryz.prog glb 37 (mpts_s nrm vld):=by
 refine ⟨fok Tryz.func37 (by kernel_rfl) (by kernel_rfl),?_⟩
 intro xs bs pre r bs2 h hp
 unfold mpts_s at h
 split at h
 ·cases h
  exact fnH_sound (tyOf (by kernel_rfl)) (by exact specOK rfl rfl ⟨(normal_ok),trivial⟩ trivial) (by kernel_rfl) Tryz.func37 (mpts_v  _ hp)
 ·cases h
theorem gg (g:Bool):cond g (g=true) True:=by cases g <;> trivial
structure PlS (f a b c:Int):Prop where
 f:0≤f∧f < 20
 a:-10000≤a∧a≤10000
 b:-10000≤b∧b≤10000
 c:-10000≤c∧c≤10000
def atV (nrm:NrT) (l:List (Int × AV)) (f a b c:Int):Int:=mInt l (codeK [(nrm f a b c).1,(nrm f a b c).2.1,(nrm f a b c).2.2.1,(nrm f a b c).2.2.2])
def mmoved_s:Sp
 | [.agg [.int .i64 f,.int .i64 a,.int .i64 b,.int .i64 c],.int .i64 x,.int .i64 y,.int .i64 z]=>some (PlS f a b c∧PlS f x y z,.agg [.int .i64 f,.int .i64 (a+x),.int .i64 (b+y),.int .i64 (c+z)])
 | _=>none
def mmoved_T:Prop :=
 ∀ (gl:Glob) (f a b c x y z:Int),PlS f a b c∧PlS f x y z->(IR9 f)∧(IR9 a)∧(IR9 b)∧(IR9 c)∧True->IR9 x->IR9 y->IR9 z->bif decide (rng IntKind.i64 (a+x)) then bif decide (rng IntKind.i64 (b+y)) then bif decide (rng IntKind.i64 (c+z)) then f=f∧a+x=a+x∧b+y=b+y∧c+z=c+z∧True else False else False else False
theorem mmoved_P:mmoved_T:=by
 unfold mmoved_T
 intro gl f a b c x y z ⟨h,k⟩
 intros
 have h1:=h.a; have h2:=h.b; have h3:=h.c; have k1:=k.a; have k2:=k.b; have k3:=k.c
 exact cdI (by omega) (cdI (by omega) (cdI (by omega) (by repeat' first|exact trivial|exact rfl|assumption|apply And.intro)))
theorem mmoved_e:mmoved_T=(∀ (gl:Glob) (f a b c x y z:Int),PlS f a b c∧PlS f x y z->fnK Tryz.prog { glob:=gl,spec:=lk [],specH:=lk [],nowf:=true } { nt:=24,drop:=drp [(1,16776704)] } (λ _ _=>none) 6 Tryz.f123 [.agg [.int .i64 f,.int .i64 a,.int .i64 b,.int .i64 c],.int .i64 x,.int .i64 y,.int .i64 z] (.agg [.int .i64 f,.int .i64 (a+x),.int .i64 (b+y),.int .i64 (c+z)])):=by kernel_rfl
def mmoved_v:=Eq.mp (mmoved_e ..) (mmoved_P)
theorem mmoved_ok (gl:Glob):SOK Tryz.prog gl 123 mmoved_s:=by
 refine ⟨fok Tryz.func123 (by kernel_rfl) (by kernel_rfl),?_⟩
 intro xs pre r h hp
 unfold mmoved_s at h
 split at h
 ·cases h
  exact fnK_sound tyNil (by exact specOK rfl rfl trivial trivial) (by kernel_rfl) Tryz.func123 rfl (mmoved_v gl _ _ _ _ _ _ _ hp)
 ·cases h
def matA_s (nrm:NrT) (vld:Int->Int->Int->Int->Bool):SpH
 | [.ptr 0 0,.agg [.int .i64 f,.int .i64 a,.int .i64 b,.int .i64 c]],[.cells [.int .i64 n,.int .i64 h,.sl 4 g nd,.mpv 1,.rw 2 3 m,.nils,.nils],.mp 27 3 l,.row 162 3 cs]=>some (True,.int .i64 (atV nrm l f a b c),[.cells [.int .i64 n,.int .i64 h,.sl 4 g nd,.mpv 1,.rw 2 3 m,.nils,.nils],.mp 27 3 l,.row 162 3 cs])
 | _,_=>none
def matA_T (nrm:NrT) (vld:Int->Int->Int->Int->Bool):Prop :=
 ∀ (n h f a b c:Int) (g:Bool) (nd cs:LL) (l:List (Int × AV)) (m:Nat),True->(IR9 f)∧(IR9 a)∧(IR9 b)∧(IR9 c)∧True->IR9 n->IR9 h->True->True->True->True->True->True∧mInt l (codeK [(nrm f a b c).1,(nrm f a b c).2.1,(nrm f a b c).2.2.1,(nrm f a b c).2.2.2])=atV nrm l f a b c∧(n=n∧h=h∧((bif g then g=true else True)∧nd=nd)∧True∧m=m∧True∧True∧True)∧l=l∧cs=cs∧True
theorem matA_P:matA_T nrm vld:=by
 unfold matA_T
 intros; (repeat' (first | exact trivial | exact rfl | exact gg _ | assumption | exact Int.add_zero _ | apply And.intro))
theorem matA_e (nrm:NrT) (vld:Int->Int->Int->Int->Bool):matA_T nrm vld=(∀ (n h f a b c:Int) (g:Bool) (nd cs:LL) (l:List (Int × AV)) (m:Nat),fnH Tryz.prog { glob:=glb,spec:=lk [(75,(normal_s vld nrm))],specH:=lk [],nowf:=true } { nt:=18,drop:=drp [(1,3968),(2,258048)],fr:=1000,kp:=[0,1,2] } (λ _ _=>none) 6 Tryz.f124 [.ptr 0 0,.agg [.int .i64 f,.int .i64 a,.int .i64 b,.int .i64 c]] [.cells [.int .i64 n,.int .i64 h,.sl 4 g nd,.mpv 1,.rw 2 3 m,.nils,.nils],.mp 27 3 l,.row 162 3 cs] (.int .i64 (atV nrm l f a b c)) [.cells [.int .i64 n,.int .i64 h,.sl 4 g nd,.mpv 1,.rw 2 3 m,.nils,.nils],.mp 27 3 l,.row 162 3 cs]):=by kernel_rfl
def matA_v:=Eq.mp (matA_e ..) (matA_P)
theorem matA_ok:HOK Tryz.prog glb 124 (matA_s nrm vld):=by
 refine ⟨fok Tryz.func124 (by kernel_rfl) (by kernel_rfl),?_⟩
 intro xs bs pre r bs2 h hp
 unfold matA_s at h
 split at h
 ·cases h
  exact fnH_sound tyNil (by exact specOK rfl rfl ⟨(normal_ok),trivial⟩ trivial) (by kernel_rfl) Tryz.func124 (matA_v  _ _ _ _ _ _ _ _ _ _ _)
 ·cases h
def mupA_s:SpH
 | [.ptr 0 0,.agg [.int .i64 f,.int .i64 a,.int .i64 b,.int .i64 c]],[.cells [.int .i64 n,.int .i64 h,.sl 4 g nd,.mpv 1,.rw 2 3 m,.nils,.nils],.mp 27 3 l,.row 162 3 cs]=>some (PlS f a b c∧0≤h∧h≤840,.agg [.int .i64 f,.int .i64 (a+h),.int .i64 b,.int .i64 c,.int .i64 f,.int .i64 a,.int .i64 (b+h),.int .i64 c,.int .i64 f,.int .i64 a,.int .i64 b,.int .i64 (c+h)],[.cells [.int .i64 n,.int .i64 h,.sl 4 g nd,.mpv 1,.rw 2 3 m,.nils,.nils],.mp 27 3 l,.row 162 3 cs])
 | _,_=>none
def mupA_T:Prop :=
 ∀ (gl:Glob) (n h f a b c:Int) (g:Bool) (nd cs:LL) (l:List (Int × AV)) (m:Nat),PlS f a b c∧0≤h∧h≤(840:Int)->True->(IR9 f)∧(IR9 a)∧(IR9 b)∧(IR9 c)∧True->IR9 n->IR9 h->True->True->True->True->True->(PlS f a b c∧PlS f h 0 0)∧(PlS f a b c∧PlS f 0 h 0)∧(PlS f a b c∧PlS f 0 0 h)∧(f=f∧a+h=a+h∧b+(0:Int)=b∧c+(0:Int)=c∧f=f∧a+(0:Int)=a∧b+h=b+h∧c+(0:Int)=c∧f=f∧a+(0:Int)=a∧b+(0:Int)=b∧c+h=c+h∧True)∧(n=n∧h=h∧((bif g then g=true else True)∧nd=nd)∧True∧m=m∧True∧True∧True)∧l=l∧cs=cs∧True
theorem mupA_P:mupA_T:=by
 unfold mupA_T
 intro gl n h f a b c g nd cs l m ⟨hp,h0,h8⟩
 intros
 have q1:PlS f h 0 0:=⟨hp.f,by omega,by omega,by omega⟩
 have q2:PlS f 0 h 0:=⟨hp.f,by omega,by omega,by omega⟩
 have q3:PlS f 0 0 h:=⟨hp.f,by omega,by omega,by omega⟩
 (repeat' (first | exact trivial | exact rfl | exact gg _ | assumption | exact Int.add_zero _ | apply And.intro))
theorem mupA_e:mupA_T=(∀ (gl:Glob) (n h f a b c:Int) (g:Bool) (nd cs:LL) (l:List (Int × AV)) (m:Nat),PlS f a b c∧0≤h∧h≤840->fnH Tryz.prog { glob:=gl,spec:=lk [(123,mmoved_s)],specH:=lk [],nowf:=true } { nt:=24,drop:=drp [(1,16777184)],fr:=1000,kp:=[0,1,2] } (λ _ _=>none) 6 Tryz.f125 [.ptr 0 0,.agg [.int .i64 f,.int .i64 a,.int .i64 b,.int .i64 c]] [.cells [.int .i64 n,.int .i64 h,.sl 4 g nd,.mpv 1,.rw 2 3 m,.nils,.nils],.mp 27 3 l,.row 162 3 cs] (.agg [.int .i64 f,.int .i64 (a+h),.int .i64 b,.int .i64 c,.int .i64 f,.int .i64 a,.int .i64 (b+h),.int .i64 c,.int .i64 f,.int .i64 a,.int .i64 b,.int .i64 (c+h)]) [.cells [.int .i64 n,.int .i64 h,.sl 4 g nd,.mpv 1,.rw 2 3 m,.nils,.nils],.mp 27 3 l,.row 162 3 cs]):=by kernel_rfl
def mupA_v:=Eq.mp (mupA_e ..) (mupA_P)
theorem mupA_ok (gl:Glob):HOK Tryz.prog gl 125 mupA_s:=by
 refine ⟨fok Tryz.func125 (by kernel_rfl) (by kernel_rfl),?_⟩
 intro xs bs pre r bs2 h hp
 unfold mupA_s at h
 split at h
 ·cases h
  exact fnH_sound tyNil (by exact specOK rfl rfl ⟨(mmoved_ok gl),trivial⟩ trivial) (by kernel_rfl) Tryz.func125 (mupA_v gl _ _ _ _ _ _ _ _ _ _ _ hp)
 ·cases h
def mdnA_s:SpH
 | [.ptr 0 0,.agg [.int .i64 f,.int .i64 a,.int .i64 b,.int .i64 c]],[.cells [.int .i64 n,.int .i64 h,.sl 4 g nd,.mpv 1,.rw 2 3 m,.nils,.nils],.mp 27 3 l,.row 162 3 cs]=>some (PlS f a b c∧0≤h∧h≤840,.agg [.int .i64 f,.int .i64 a,.int .i64 (b+h),.int .i64 (c+h),.int .i64 f,.int .i64 (a+h),.int .i64 b,.int .i64 (c+h),.int .i64 f,.int .i64 (a+h),.int .i64 (b+h),.int .i64 c],[.cells [.int .i64 n,.int .i64 h,.sl 4 g nd,.mpv 1,.rw 2 3 m,.nils,.nils],.mp 27 3 l,.row 162 3 cs])
 | _,_=>none
def mdnA_T:Prop :=
 ∀ (gl:Glob) (n h f a b c:Int) (g:Bool) (nd cs:LL) (l:List (Int × AV)) (m:Nat),PlS f a b c∧0≤h∧h≤(840:Int)->True->(IR9 f)∧(IR9 a)∧(IR9 b)∧(IR9 c)∧True->IR9 n->IR9 h->True->True->True->True->True->(PlS f a b c∧PlS f 0 h h)∧(PlS f a b c∧PlS f h 0 h)∧(PlS f a b c∧PlS f h h 0)∧(f=f∧a+(0:Int)=a∧b+h=b+h∧c+h=c+h∧f=f∧a+h=a+h∧b+(0:Int)=b∧c+h=c+h∧f=f∧a+h=a+h∧b+h=b+h∧c+(0:Int)=c∧True)∧(n=n∧h=h∧((bif g then g=true else True)∧nd=nd)∧True∧m=m∧True∧True∧True)∧l=l∧cs=cs∧True
theorem mdnA_P:mdnA_T:=by
 unfold mdnA_T
 intro gl n h f a b c g nd cs l m ⟨hp,h0,h8⟩
 intros
 have q1:PlS f 0 h h:=⟨hp.f,by omega,by omega,by omega⟩
 have q2:PlS f h 0 h:=⟨hp.f,by omega,by omega,by omega⟩
 have q3:PlS f h h 0:=⟨hp.f,by omega,by omega,by omega⟩
 (repeat' (first | exact trivial | exact rfl | exact gg _ | assumption | exact Int.add_zero _ | apply And.intro))
theorem mdnA_e:mdnA_T=(∀ (gl:Glob) (n h f a b c:Int) (g:Bool) (nd cs:LL) (l:List (Int × AV)) (m:Nat),PlS f a b c∧0≤h∧h≤840->fnH Tryz.prog { glob:=gl,spec:=lk [(123,mmoved_s)],specH:=lk [],nowf:=true } { nt:=36,drop:=drp [(1,68719476704)],fr:=1000,kp:=[0,1,2] } (λ _ _=>none) 6 Tryz.f126 [.ptr 0 0,.agg [.int .i64 f,.int .i64 a,.int .i64 b,.int .i64 c]] [.cells [.int .i64 n,.int .i64 h,.sl 4 g nd,.mpv 1,.rw 2 3 m,.nils,.nils],.mp 27 3 l,.row 162 3 cs] (.agg [.int .i64 f,.int .i64 a,.int .i64 (b+h),.int .i64 (c+h),.int .i64 f,.int .i64 (a+h),.int .i64 b,.int .i64 (c+h),.int .i64 f,.int .i64 (a+h),.int .i64 (b+h),.int .i64 c]) [.cells [.int .i64 n,.int .i64 h,.sl 4 g nd,.mpv 1,.rw 2 3 m,.nils,.nils],.mp 27 3 l,.row 162 3 cs]):=by kernel_rfl
def mdnA_v:=Eq.mp (mdnA_e ..) (mdnA_P)
theorem mdnA_ok (gl:Glob):HOK Tryz.prog gl 126 mdnA_s:=by
 refine ⟨fok Tryz.func126 (by kernel_rfl) (by kernel_rfl),?_⟩
 intro xs bs pre r bs2 h hp
 unfold mdnA_s at h
 split at h
 ·cases h
  exact fnH_sound tyNil (by exact specOK rfl rfl ⟨(mmoved_ok gl),trivial⟩ trivial) (by kernel_rfl) Tryz.func126 (mdnA_v gl _ _ _ _ _ _ _ _ _ _ _ hp)
 ·cases h
end Go.Proofs.YtgbbmadjdaphnaaGreatDoor
namespace Go.Proofs.YtgbbmadjdaphnaaGreatDoor
open Go Go.Shelf
def srtC_ren:Go.Shelf.Ren:=⟨λ | 6=>86 | 15=>139 | 14=>138 | 28=>165 | 29=>166 | 20=>157 | 21=>158 | 22=>159 | 23=>160 | 24=>161 | 25=>162 | 26=>163 | 27=>164 | 46=>199 | 47=>200 | 48=>201 | 49=>202 | 50=>203 | 57=>215 | n=>n,λ | 22=>147 | 24=>162 | 25=>164 | 3=>3 | 39=>73 | 0=>0 | 53=>244 | 55=>67 | 4=>4 | 46=>238 | 45=>237 | 50=>157 | 5=>5 | 9=>9 | 66=>268 | 70=>272 | 76=>281 | 77=>282 | n=>n,λ | n=>n⟩
theorem srtC:Go.Proofs.SlLaysF0.n6 Tryz.prog srtC_ren:={
 mixed:=by kernel_rfl
 f6:=⟨Tryz.f86.name,by decide,Tryz.func86.trans (congrArg some (by kernel_rfl))⟩
 f14:=⟨Tryz.f138.name,by decide,Tryz.func138.trans (congrArg some (by kernel_rfl))⟩
 f15:=Tryz.func139.trans (congrArg some (by kernel_rfl))
 f20:=⟨Tryz.f157.name,by decide,Tryz.func157.trans (congrArg some (by kernel_rfl))⟩
 f21:=⟨Tryz.f158.name,by decide,Tryz.func158.trans (congrArg some (by kernel_rfl))⟩
 f22:=⟨Tryz.f159.name,by decide,Tryz.func159.trans (congrArg some (by kernel_rfl))⟩
 f23:=⟨Tryz.f160.name,by decide,Tryz.func160.trans (congrArg some (by kernel_rfl))⟩
 f24:=⟨Tryz.f161.name,by decide,Tryz.func161.trans (congrArg some (by kernel_rfl))⟩
 f25:=⟨Tryz.f162.name,by decide,Tryz.func162.trans (congrArg some (by kernel_rfl))⟩
 f26:=⟨Tryz.f163.name,by decide,Tryz.func163.trans (congrArg some (by kernel_rfl))⟩
 f27:=⟨Tryz.f164.name,by decide,Tryz.func164.trans (congrArg some (by kernel_rfl))⟩
 f28:=Tryz.func165.trans (congrArg some (by kernel_rfl))
 f29:=Tryz.func166.trans (congrArg some (by kernel_rfl))
 f46:=⟨Tryz.f199.name,by decide,Tryz.func199.trans (congrArg some (by kernel_rfl))⟩
 f47:=Tryz.func200.trans (congrArg some (by kernel_rfl))
 f48:=Tryz.func201.trans (congrArg some (by kernel_rfl))
 f49:=⟨Tryz.f202.name,by decide,Tryz.func202.trans (congrArg some (by kernel_rfl))⟩
 f50:=⟨Tryz.f203.name,by decide,Tryz.func203.trans (congrArg some (by kernel_rfl))⟩
 f57:=⟨Tryz.f215.name,by decide,Tryz.func215.trans (congrArg some (by kernel_rfl))⟩
 t0:=Tryz.underlying0
 a0:=Tryz.isAgg0
 z0:=Tryz.sizeOf0
 v0:=Tryz.zeroValue0
 t3:=Tryz.underlying3
 a3:=Tryz.isAgg3
 z3:=Tryz.sizeOf3
 v3:=Tryz.zeroValue3
 t4:=Tryz.underlying4
 a4:=Tryz.isAgg4
 z4:=Tryz.sizeOf4
 v4:=Tryz.zeroValue4
 t5:=Tryz.underlying5
 a5:=Tryz.isAgg5
 z5:=Tryz.sizeOf5
 v5:=Tryz.zeroValue5
 t9:=Tryz.underlying9
 a9:=Tryz.isAgg9
 z9:=Tryz.sizeOf9
 v9:=Tryz.zeroValue9
 t22:=Tryz.underlying147
 a22:=Tryz.isAgg147
 z22:=Tryz.sizeOf147
 v22:=Tryz.zeroValue147
 t25:=Tryz.underlying164
 a25:=Tryz.isAgg164
 z25:=Tryz.sizeOf164
 v25:=Tryz.zeroValue164
 t39:=Tryz.underlying73
 a39:=Tryz.isAgg73
 z39:=Tryz.sizeOf73
 v39:=Tryz.zeroValue73
 t45:=Tryz.underlying237
 a45:=Tryz.isAgg237
 z45:=Tryz.sizeOf237
 v45:=Tryz.zeroValue237
 t46:=Tryz.underlying238
 a46:=Tryz.isAgg238
 z46:=Tryz.sizeOf238
 v46:=Tryz.zeroValue238
 t50:=Tryz.underlying157
 a50:=Tryz.isAgg157
 z50:=Tryz.sizeOf157
 v50:=Tryz.zeroValue157
 t53:=Tryz.underlying244
 a53:=Tryz.isAgg244
 z53:=Tryz.sizeOf244
 v53:=Tryz.zeroValue244
 t55:=Tryz.underlying67
 a55:=Tryz.isAgg67
 z55:=Tryz.sizeOf67
 v55:=Tryz.zeroValue67
 t66:=Tryz.underlying268
 a66:=Tryz.isAgg268
 z66:=Tryz.sizeOf268
 v66:=Tryz.zeroValue268
 t70:=Tryz.underlying272
 a70:=Tryz.isAgg272
 z70:=Tryz.sizeOf272
 v70:=Tryz.zeroValue272
 t76:=Tryz.underlying281
 a76:=Tryz.isAgg281
 z76:=Tryz.sizeOf281
 v76:=Tryz.zeroValue281
 t77:=Tryz.underlying282
 a77:=Tryz.isAgg282
 z77:=Tryz.sizeOf282
 v77:=Tryz.zeroValue282 }
def srtE_ren:Go.Shelf.Ren:=⟨λ | 6=>90 | 15=>139 | 14=>141 | 28=>165 | 29=>166 | 20=>167 | 21=>168 | 22=>169 | 23=>170 | 24=>171 | 25=>172 | 26=>173 | 27=>174 | 46=>204 | 47=>200 | 48=>201 | 49=>205 | 50=>206 | 57=>216 | n=>n,λ | 22=>109 | 24=>143 | 25=>166 | 3=>3 | 39=>73 | 0=>0 | 53=>244 | 55=>67 | 4=>4 | 46=>238 | 45=>237 | 50=>157 | 5=>5 | 9=>9 | 66=>268 | 70=>272 | 76=>281 | 77=>282 | n=>n,λ | n=>n⟩
theorem srtE:Go.Proofs.SlLaysF0.n6 Tryz.prog srtE_ren:={
 mixed:=by kernel_rfl
 f6:=⟨Tryz.f90.name,by decide,Tryz.func90.trans (congrArg some (by kernel_rfl))⟩
 f14:=⟨Tryz.f141.name,by decide,Tryz.func141.trans (congrArg some (by kernel_rfl))⟩
 f15:=Tryz.func139.trans (congrArg some (by kernel_rfl))
 f20:=⟨Tryz.f167.name,by decide,Tryz.func167.trans (congrArg some (by kernel_rfl))⟩
 f21:=⟨Tryz.f168.name,by decide,Tryz.func168.trans (congrArg some (by kernel_rfl))⟩
 f22:=⟨Tryz.f169.name,by decide,Tryz.func169.trans (congrArg some (by kernel_rfl))⟩
 f23:=⟨Tryz.f170.name,by decide,Tryz.func170.trans (congrArg some (by kernel_rfl))⟩
 f24:=⟨Tryz.f171.name,by decide,Tryz.func171.trans (congrArg some (by kernel_rfl))⟩
 f25:=⟨Tryz.f172.name,by decide,Tryz.func172.trans (congrArg some (by kernel_rfl))⟩
 f26:=⟨Tryz.f173.name,by decide,Tryz.func173.trans (congrArg some (by kernel_rfl))⟩
 f27:=⟨Tryz.f174.name,by decide,Tryz.func174.trans (congrArg some (by kernel_rfl))⟩
 f28:=Tryz.func165.trans (congrArg some (by kernel_rfl))
 f29:=Tryz.func166.trans (congrArg some (by kernel_rfl))
 f46:=⟨Tryz.f204.name,by decide,Tryz.func204.trans (congrArg some (by kernel_rfl))⟩
 f47:=Tryz.func200.trans (congrArg some (by kernel_rfl))
 f48:=Tryz.func201.trans (congrArg some (by kernel_rfl))
 f49:=⟨Tryz.f205.name,by decide,Tryz.func205.trans (congrArg some (by kernel_rfl))⟩
 f50:=⟨Tryz.f206.name,by decide,Tryz.func206.trans (congrArg some (by kernel_rfl))⟩
 f57:=⟨Tryz.f216.name,by decide,Tryz.func216.trans (congrArg some (by kernel_rfl))⟩
 t0:=Tryz.underlying0
 a0:=Tryz.isAgg0
 z0:=Tryz.sizeOf0
 v0:=Tryz.zeroValue0
 t3:=Tryz.underlying3
 a3:=Tryz.isAgg3
 z3:=Tryz.sizeOf3
 v3:=Tryz.zeroValue3
 t4:=Tryz.underlying4
 a4:=Tryz.isAgg4
 z4:=Tryz.sizeOf4
 v4:=Tryz.zeroValue4
 t5:=Tryz.underlying5
 a5:=Tryz.isAgg5
 z5:=Tryz.sizeOf5
 v5:=Tryz.zeroValue5
 t9:=Tryz.underlying9
 a9:=Tryz.isAgg9
 z9:=Tryz.sizeOf9
 v9:=Tryz.zeroValue9
 t22:=Tryz.underlying109
 a22:=Tryz.isAgg109
 z22:=Tryz.sizeOf109
 v22:=Tryz.zeroValue109
 t25:=Tryz.underlying166
 a25:=Tryz.isAgg166
 z25:=Tryz.sizeOf166
 v25:=Tryz.zeroValue166
 t39:=Tryz.underlying73
 a39:=Tryz.isAgg73
 z39:=Tryz.sizeOf73
 v39:=Tryz.zeroValue73
 t45:=Tryz.underlying237
 a45:=Tryz.isAgg237
 z45:=Tryz.sizeOf237
 v45:=Tryz.zeroValue237
 t46:=Tryz.underlying238
 a46:=Tryz.isAgg238
 z46:=Tryz.sizeOf238
 v46:=Tryz.zeroValue238
 t50:=Tryz.underlying157
 a50:=Tryz.isAgg157
 z50:=Tryz.sizeOf157
 v50:=Tryz.zeroValue157
 t53:=Tryz.underlying244
 a53:=Tryz.isAgg244
 z53:=Tryz.sizeOf244
 v53:=Tryz.zeroValue244
 t55:=Tryz.underlying67
 a55:=Tryz.isAgg67
 z55:=Tryz.sizeOf67
 v55:=Tryz.zeroValue67
 t66:=Tryz.underlying268
 a66:=Tryz.isAgg268
 z66:=Tryz.sizeOf268
 v66:=Tryz.zeroValue268
 t70:=Tryz.underlying272
 a70:=Tryz.isAgg272
 z70:=Tryz.sizeOf272
 v70:=Tryz.zeroValue272
 t76:=Tryz.underlying281
 a76:=Tryz.isAgg281
 z76:=Tryz.sizeOf281
 v76:=Tryz.zeroValue281
 t77:=Tryz.underlying282
 a77:=Tryz.isAgg282
 z77:=Tryz.sizeOf282
 v77:=Tryz.zeroValue282 }
end Go.Proofs.YtgbbmadjdaphnaaGreatDoor
namespace Go.Proofs.YtgbbmadjdaphnaaGreatDoor
open Go Go.Sort
def okA:AV->Bool
 | .int .i64 n=>decide (-1000000≤n∧n≤1000000)
 | _=>false
def okR (k:Nat) (r:List AV):Bool:=Nat.beq r.length k&&r.all okA
abbrev RwT (k:Nat):={ r:List AV // okR k r=true }
def aI:AV->Int
 | .int _ n=>n
 | _=>0
def nI (r:List AV) (i:Nat):Int:=aI (r.getD i .undef)
def encR {k:Nat} (r:RwT k):List Value:=r.1.map λ y=>.int .i64 (aI y)
instance (k:Nat):Inhabited (RwT k):=⟨⟨List.replicate k (.int .i64 0),by simp only [okR,List.length_replicate,nbeq_self,Bool.true_and,List.all_replicate]; simp [okA]⟩⟩
def toT (k:Nat) (xs:LL):List (RwT k):=xs.filterMap λ r=>if h:okR k r=true then some ⟨r,h⟩ else none
def sortR (k:Nat) (cf:RwT k->RwT k->Int) (xs:LL):LL:=(pdq (ltOf cf) (toT k xs).toArray 0 (toT k xs).length (Lib.bitLen (toT k xs).length) true true).toList.map Subtype.val
theorem toT_val {k:Nat}:∀ {xs:LL},(∀ r ∈ xs,okR k r=true)->(toT k xs).map Subtype.val=xs
 | [],_=>rfl
 | x::xs,h=>by
  have hx:=h x (by simp)
  have ih:=toT_val (xs:=xs) (λ r hr=>h r (by simp [hr]))
  simp only [toT,List.filterMap_cons,hx,dif_pos,List.map_cons] at ih ⊢
  rw [ih]
theorem okR_at {k:Nat} {r:List AV} (h:okR k r=true) {i:Nat} {y:AV} (e:r[i]?=some y):r.length=k∧y=.int .i64 (aI y)∧-1000000≤aI y∧aI y≤1000000:=by
 simp only [okR,Bool.and_eq_true,List.all_eq_true] at h
 refine ⟨Nat.eq_of_beq_eq_true h.1,?_⟩
 have:=h.2 y (List.mem_of_getElem? e)
 cases y with
 | int q n=>cases q <;> simp only [okA,Bool.false_eq_true] at this; exact ⟨rfl,of_decide_eq_true this⟩
 | _=>cases this
theorem encR_len {k:Nat} (r:RwT k):(encR r).length=k:=by
 have:=r.2
 simp only [okR,Bool.and_eq_true] at this
 simp only [encR,List.length_map]
 exact Nat.eq_of_beq_eq_true this.1
theorem encR_one {k:Nat} (r:RwT k):∀ v ∈ encR r,v.oneCell'=true:=by
 intro v hv
 simp only [encR,List.mem_map] at hv
 obtain ⟨y,_,rfl⟩:=hv
 rfl
theorem sortR_perm {k:Nat} {cf:RwT k->RwT k->Int} (hO:SWO (ltOf cf)) {xs:LL} (h:∀ r ∈ xs,okR k r=true):(sortR k cf xs).Perm xs:=by
 have hp:=(pdq_sorts (ltOf cf) hO (toT k xs).toArray 0 (toT k xs).length (Lib.bitLen (toT k xs).length) true true (Nat.zero_le _) (by simp) (Or.inl rfl)).1
 obtain ⟨h1,_,h3⟩:=hp
 have e1:∀ a:Array (RwT k),a.size=(toT k xs).length->(a.extract 0 (toT k xs).length).toList=a.toList:=by
  intro a ha
  rw [← ha]; simp
 rw [e1 _ (by rw [h1]; simp),e1 _ (by simp)] at h3
 have:=h3.map Subtype.val
 rw [show (toT k xs).toArray.toList=toT k xs from rfl,toT_val h] at this
 exact this
theorem sortR_sorted {k:Nat} {cf:RwT k->RwT k->Int} (hO:SWO (ltOf cf)) (xs:LL):∃ d':List (RwT k),sortR k cf xs=d'.map Subtype.val∧d'.Pairwise λ a b=>ltOf cf b a=false:=by
 have hp:=pdq_sorts (ltOf cf) hO (toT k xs).toArray 0 (toT k xs).length (Lib.bitLen (toT k xs).length) true true (Nat.zero_le _) (by simp) (Or.inl rfl)
 refine ⟨_,rfl,List.pairwise_iff_getElem.2 λ i j hi hj hij=>?_⟩
 have hs:=hp.1.1
 simp only [List.size_toArray] at hs
 have:=hp.2 i j (Nat.zero_le _) hij (by simpa [hs] using hj)
 rw [getElem!_pos _ j (by simpa using hj),getElem!_pos _ i (by simpa using hi)] at this
 exact this
theorem sort_hc {k T f g:Nat} {ρ:Go.Shelf.Ren} {cf:RwT k->RwT k->Int} (hgb:Nat.blt g fnB=true) (hk0:0 < k) (hT:T < 1000000) (L:Go.Proofs.SlLaysF0.n6 Tryz.prog ρ) (hf:ρ.f 6=f) (aE:∀ w,(isAgg (ρ.t 24)).run Tryz.prog w=.ok true w) (zE:∀ w,(Go.sizeOf (ρ.t 24)).run Tryz.prog w=.ok k w)
  (hO:SWO (ltOf cf)) (eg:∀ args w,(callFunc g args).run Tryz.prog w=.ok (.enter g args) w) (hcmp:∀ (blk size:Nat) (w:World),CmpLays Tryz.prog g #[] encR k cf blk 0 size w) {gl:Glob} {xs:LL} (hx:∀ r ∈ xs,okR k r=true) (hne:xs≠[]) (hlen:xs.length≤1000000) :
  HC Tryz.prog gl f [.rw 0 k xs.length,.fn g []] [.row T k xs] (.tup []) [.row T k (sortR k cf xs)]:=by
 intro w S m vs hG hA hnm hheld hinj hv
 obtain ⟨L0,hL0⟩:∃ L0:List Value,L0=vs.toList:=⟨_,rfl⟩
 rw [← hL0] at hv
 simp only [CVl] at hv
 obtain ⟨v0,l1,e0,hv0,v1,l2,rfl,hv1,rfl⟩:=hv
 simp only [CV,CVl] at hv0 hv1
 rw [fnV_lt hgb] at hv1
 obtain ⟨us,rfl,hus⟩:=hv1
 have hus:us=#[]:=by simpa using hus
 subst hus
 have hvs:vs=#[v0,.func (.func g) #[] #[]]:=by rw [← Array.toArray_toList (xs:=vs),← hL0,e0]
 subst hvs
 obtain ⟨A,c,a1,a2,a3,a4⟩:=hheld 0 _ rfl
 have hl0:0 < xs.length:=by cases xs with | nil=>exact absurd rfl hne | cons _ _=>simp
 rcases a4 with ⟨_,rfl⟩ | ⟨b,cur,fr,rfl,b1,b2,b3,b4,b5⟩
 ·omega
 have hfr:=RowMk.lt b2 hT
 subst hfr
 rw [rowTy_lt hT] at b1
 obtain ⟨_,A2,q2,c2,h1,h2,h3⟩:=hv0
 rw [a1] at h1
 simp only [Option.some.injEq,Value.iface.injEq,Value.slice.injEq,true_and] at h1
 obtain ⟨rfl,rfl,rfl⟩:=h1
 have hv0:=h3 rfl
 subst hv0
 obtain ⟨d,hd⟩:∃ d,d=(toT k xs).toArray:=⟨_,rfl⟩
 have hval:=toT_val hx
 have hdl:(toT k xs).length=xs.length:=by rw [← hval,List.length_map,hval]
 have hds:d.size=xs.length:=by rw [hd,List.size_toArray,hdl]
 have hdj:∀ (j:Nat) (hj:j < d.size),(d[j]).1=xs[j]'(by omega):=by
  intro j hj
  subst hd
  have:((toT k xs).map Subtype.val)[j]?=xs[j]?:=by rw [hval]
  rw [List.getElem?_map,List.getElem?_eq_getElem (by rw [hdl]; omega),List.getElem?_eq_getElem (by omega)] at this
  simpa using this
 have hH:HoldsK encR k w b 0 d:=by
  intro t ht
  have hsz:(flatK encR k d).size=d.size*k:=by simp [flatK]
  rw [hsz] at ht
  rw [get_flatK encR k d t ht]
  have hj:t / k < d.size:=(Nat.div_lt_iff_lt_mul hk0).2 ht
  have hi:t % k < k:=Nat.mod_lt _ hk0
  rw [getElem!_pos d _ hj]
  have hjx:t / k < xs.length:=by omega
  obtain ⟨r1,r2⟩:=b5 (t / k) _ (List.getElem?_eq_getElem hjx)
  have hil:t % k < xs[t / k].length:=by rw [r1]; exact hi
  obtain ⟨v,hv1,hv2,hv3⟩:=r2 (t % k) _ (List.getElem?_eq_getElem hil)
  have hok:=okR_at (hx _ (List.getElem_mem hjx)) (List.getElem?_eq_getElem hil)
  have ht2:t / k*k+t % k=t:=by rw [Nat.mul_comm]; exact Nat.div_add_mod t k
  rw [ht2] at hv1
  rw [hok.2.1] at hv3
  simp only [CV] at hv3
  have hen:v=((encR d[t / k])[t % k]!):=by
   have e2:(encR d[t / k])[t % k]?=some (.int .i64 (aI xs[t / k][t % k])):=by
    unfold encR
    rw [List.getElem?_map,hdj _ hj,List.getElem?_eq_getElem hil]; rfl
   rw [List.getElem!_eq_getElem?_getD,e2]
   exact hv3.1
  rw [← hen]
  refine ⟨?_,by simp [World.frozen?,b1]⟩
  simp only [World.cell?,b1,Nat.zero_add,id]
  exact hv1
 have hblk:b < w.heap.size:=(Array.getElem?_eq_some_iff.1 b1).1
 have hcon:=Go.Proofs.AnyQ.slices_SortFunc_eq L k aE zE encR encR_len encR_one cf hO g #[] b 0 c d w eg (hcmp b d.size w) hH hblk (by omega)
 rw [hf,hds] at hcon
 refine hcon.mono ?_
 rintro e w' ⟨rfl,nn,os,rfl⟩
 obtain ⟨D,hD⟩:∃ D,D=pdq (ltOf cf) d 0 xs.length (Lib.bitLen xs.length) true true:=⟨_,rfl⟩
 have hsr:sortR k cf xs=D.toList.map Subtype.val:=by rw [hD,hd,sortR,hdl]
 have hDs:D.size=xs.length:=by
  have:=(pdq_sorts (ltOf cf) hO d 0 xs.length (Lib.bitLen xs.length) true true (Nat.zero_le _) (by omega) (Or.inl rfl)).1.1
  rw [hD,this,hds]
 rw [← hD]
 have heap:∀ i,i < w.heap.size->(sortWorldK encR k w b 0 nn D os).heap[i]?=if b=i then some (.cells (putCells id 0 (flatK encR k D) cur) T (0,0)) else w.heap[i]?:=by
  intro i hi
  unfold sortWorldK putRowK putRow mapBlock grow Sort.ahead
  simp only
  rw [Array.getElem?_append_left (by simpa using hi),Array.getElem?_modify]
  by_cases h:b=i
  ·subst h
   rw [if_pos rfl,if_pos rfl,b1]; rfl
  ·rw [if_neg h,if_neg h]
 have hMb:Mof 1 m b:=⟨0,_,by decide,a1,rfl⟩
 refine ⟨.tuple #[],S,m,rfl,rfl,rfl,rfl,?_,Ext.refl S,?_,?_,?_,hinj,?_,MLe.refl m,?_⟩
 ·unfold sortWorldK putRowK putRow mapBlock grow Sort.ahead
  simp
 ·intro i hi hn
  refine ⟨?_,λ _=>rfl⟩
  rw [heap i hi,if_neg (λ e:b=i=>hn (by subst e; exact hMb))]
 ·intro i o v e
  obtain ⟨h1,h2⟩:=hA i o v e
  refine ⟨?_,h2⟩
  have hi:i < w.heap.size:=hA.lt e
  have hne:b≠i:=λ q=>by subst q; rw [b4 o] at e; cases e
  simp only [World.cell?] at h1 ⊢
  rw [heap i hi,if_neg hne]; exact h1
 ·intro q bb hq
  cases q with
  | succ q=>simp at hq
  | zero =>
   simp only [List.getElem?_cons_zero,Option.some.injEq] at hq
   subst hq
   have hyl:(sortR k cf xs).length=xs.length:=by rw [hsr]; simp [hDs]
   refine ⟨some ⟨b,0,none⟩,c,by rw [hyl]; exact a1,by omega,a3,.inr ⟨b,putCells id 0 (flatK encR k D) cur,(0,0),rfl,?_,RowMk.none,?_,b4,?_⟩⟩
   ·rw [heap b hblk,if_pos rfl,rowTy_lt hT]
   ·unfold putCells
    simp [b3]
   ·intro j x hj
    rw [hsr,List.getElem?_map] at hj
    cases hjD:D.toList[j]? with
    | none=>rw [hjD] at hj; cases hj
    | some r =>
     rw [hjD] at hj
     simp only [Option.map_some,Option.some.injEq] at hj
     subst hj
     have hjl:j < D.size:=by have:=(List.getElem?_eq_some_iff.1 hjD).1; simpa using this
     have hr:D[j]=r:=by
      have:=(List.getElem?_eq_some_iff.1 hjD).2
      simpa using this
     have hrl:r.1.length=k:=by have:=encR_len r; simpa [encR] using this
     refine ⟨hrl,λ i y hi=>?_⟩
     have hil:i < k:=by rw [← hrl]; exact (List.getElem?_eq_some_iff.1 hi).1
     have hok:=okR_at r.2 hi
     have hlt:j*k+i < D.size*k:=Nat.lt_of_lt_of_le (Nat.add_lt_add_left hil _) (by rw [← Nat.succ_mul]; exact Nat.mul_le_mul_right k hjl)
     refine ⟨.int .i64 (aI y),?_,rfl,?_⟩
     ·unfold putCells
      have hlc:j*k+i < cur.size:=by
       rw [b3]
       exact Nat.lt_of_lt_of_le hlt (Nat.mul_le_mul_right k (by omega))
      rw [Array.getElem?_mapIdx,Array.getElem?_eq_getElem hlc,Option.map_some]
      have hsz:(flatK encR k D).size=D.size*k:=by simp [flatK]
      rw [if_pos ⟨Nat.zero_le _,by rw [hsz]; omega⟩,Nat.sub_zero,get_flatK encR k D _ hlt]
      have e1:(j*k+i) / k=j:=by
       rw [Nat.mul_comm,Nat.mul_add_div hk0,Nat.div_eq_of_lt hil]; rfl
      have e2:(j*k+i) % k=i:=by rw [Nat.mul_comm,Nat.mul_add_mod]; exact Nat.mod_eq_of_lt hil
      rw [e1,e2,getElem!_pos D j hjl,hr]
      have e3:(encR r)[i]?=some (.int .i64 (aI y)):=by
       unfold encR
       rw [List.getElem?_map,hi]; rfl
      rw [List.getElem!_eq_getElem?_getD,e3]; rfl
     ·have hb:=hok.2.2
      have hy:=hok.2.1
      generalize aI y=z at hy hb ⊢
      subst hy
      simp only [CV]
      exact ⟨trivial,by show _∧_; omega⟩
 ·intro q u g' hq hu hg
  exact .inr ⟨q,u,hq,hu,hg⟩
 ·simp only [CV,CVl]; exact ⟨#[],rfl,rfl⟩
end Go.Proofs.YtgbbmadjdaphnaaGreatDoor
namespace Go.Proofs.YtgbbmadjdaphnaaGreatDoor
open Go Go.Sort Go.RowKit
@[irreducible] def cmpZ (x y:Int):Int:=if x < y then -1 else if y < x then 1 else 0
set_option maxHeartbeats 400000 in
theorem isnan_any (x:Int) (w:World):Calls Tryz.prog 140 #[.int .i64 x] w λ e w'=>e=.returned (.bool false)∧w'=w:=by
 go_enter Tryz.func140,Tryz.ntmps140
 go_wp2
 go_ret
 exact ⟨by simp,rfl⟩
set_option maxHeartbeats 1000000 in
theorem cmp_any (x y:Int) (w:World):Calls Tryz.prog 89 #[.int .i64 x,.int .i64 y] w λ e w'=>e=.returned (.int .i64 (cmpZ x y))∧w'=w:=by
 unfold cmpZ
 by_cases c1:x < y
 ·rw [if_pos c1]
  go_enter Tryz.func89,Tryz.ntmps89
  go_wp2_with (go_at_call 140; refine (isnan_any _ _).mono ?_; rintro e w' ⟨rfl,rfl⟩)
  go_ret
  exact ⟨rfl,rfl⟩
 ·rw [if_neg c1]
  by_cases c2:y < x
  ·rw [if_pos c2]
   go_enter Tryz.func89,Tryz.ntmps89
   go_wp2_with (go_at_call 140; refine (isnan_any _ _).mono ?_; rintro e w' ⟨rfl,rfl⟩)
   go_ret
   exact ⟨rfl,rfl⟩
  ·rw [if_neg c2]
   go_enter Tryz.func89,Tryz.ntmps89
   go_wp2_with (go_at_call 140; refine (isnan_any _ _).mono ?_; rintro e w' ⟨rfl,rfl⟩)
   go_ret
   exact ⟨rfl,rfl⟩
theorem enc2 (x:RwT 2):(encR x).toArray=#[.int .i64 (nI x.1 0),.int .i64 (nI x.1 1)]:=by
 obtain ⟨r,h⟩:=x
 have hl:r.length=2:=by have:=encR_len ⟨r,h⟩; simpa [encR] using this
 match r,hl with
 | [a,b],_=>rfl
theorem enc3 (x:RwT 3):(encR x).toArray=#[.int .i64 (nI x.1 0),.int .i64 (nI x.1 1),.int .i64 (nI x.1 2)]:=by
 obtain ⟨r,h⟩:=x
 have hl:r.length=3:=by have:=encR_len ⟨r,h⟩; simpa [encR] using this
 match r,hl with
 | [a,b,c],_=>rfl
theorem nI_b {k:Nat} (x:RwT k) {i:Nat} (hi:i < k):-1000000≤nI x.1 i∧nI x.1 i≤1000000:=by
 have hl:x.1.length=k:=by have:=encR_len x; simpa [encR] using this
 have e:x.1[i]?=some (x.1[i]'(by omega)):=List.getElem?_eq_getElem _
 have h:=okR_at x.2 e
 unfold nI
 rw [List.getD_eq_getElem?_getD,e]
 exact h.2.2
@[irreducible] def or3 (x y z:Int):Int:=if x≠0 then x else if y≠0 then y else z
@[irreducible] def or2 (x y:Int):Int:=if x≠0 then x else y
set_option maxHeartbeats 1000000 in
theorem or3_any (b:Nat) (x y z:Int) (c:Nat) (W:World) (h0:W.cell? ⟨b,0,none⟩=some (.int .i64 x)) (h1:W.cell? ⟨b,1,none⟩=some (.int .i64 y)) (h2:W.cell? ⟨b,2,none⟩=some (.int .i64 z)) :
  Calls Tryz.prog 88 #[.slice (some ⟨b,0,none⟩) 3 c] W λ e w'=>e=.returned (.int .i64 (or3 x y z))∧w'=W:=by
 unfold or3
 by_cases hx:x=0
 ·by_cases hy:y=0
  ·subst hx hy
   by_cases hz:z=0
   ·subst hz
    go_enter Tryz.func88,Tryz.ntmps88
    go_wp2
    go_rounds 4
    go_ret
    exact ⟨rfl,rfl⟩
   ·go_enter Tryz.func88,Tryz.ntmps88
    go_wp2
    go_rounds 4
    go_ret
    exact ⟨rfl,rfl⟩
  ·subst hx
   go_enter Tryz.func88,Tryz.ntmps88
   go_wp2
   go_rounds 4
   go_ret
   exact ⟨rfl,rfl⟩
 ·go_enter Tryz.func88,Tryz.ntmps88
  go_wp2
  go_rounds 4
  go_ret
  exact ⟨rfl,rfl⟩
set_option maxHeartbeats 1000000 in
theorem or2_any (b:Nat) (x y:Int) (c:Nat) (W:World) (h0:W.cell? ⟨b,0,none⟩=some (.int .i64 x)) (h1:W.cell? ⟨b,1,none⟩=some (.int .i64 y)) :
  Calls Tryz.prog 88 #[.slice (some ⟨b,0,none⟩) 2 c] W λ e w'=>e=.returned (.int .i64 (or2 x y))∧w'=W:=by
 unfold or2
 by_cases hx:x=0
 ·subst hx
  by_cases hy:y=0
  ·subst hy
   go_enter Tryz.func88,Tryz.ntmps88
   go_wp2
   go_rounds 3
   go_ret
   exact ⟨rfl,rfl⟩
  ·go_enter Tryz.func88,Tryz.ntmps88
   go_wp2
   go_rounds 3
   go_ret
   exact ⟨rfl,rfl⟩
 ·go_enter Tryz.func88,Tryz.ntmps88
  go_wp2
  go_rounds 3
  go_ret
  exact ⟨rfl,rfl⟩
theorem gr3 (W:World) (A B C:Obj):((W.alloc A).alloc B).drew.alloc C=grow (W.drewN 1) (#[A]++#[B]++#[C]):=by
 rw [alloc_eq_grow W,alloc_eq_grow (grow W #[A]),alloc_eq_grow,grow_grow]
 exact grow_grow W.drew _ _
set_option maxHeartbeats 2000000 in
theorem bld2_any (a b c d:Int) (w:World):Calls Tryz.prog 91 #[.agg #[.int .i64 a,.int .i64 b],.agg #[.int .i64 c,.int .i64 d]] w λ e w'=>e=.returned (.int .i64 (or2 (cmpZ a c) (cmpZ b d)))∧∃ q os',w'=grow (w.drewN q) os':=by
 go_enter Tryz.func91,Tryz.ntmps91
 go_wp2_with fail
 go_region_held3 (λ w'=>w'.cell? ⟨w.heap.size,0,none⟩=some (.int .i64 a)∧w'.cell? ⟨w.heap.size,1,none⟩=some (.int .i64 b)∧w'.cell? ⟨w.heap.size+1,0,none⟩=some (.int .i64 c)∧w'.cell? ⟨w.heap.size+1,1,none⟩=some (.int .i64 d))
  (go_keep)
  ((first
   | (go_at_call 89; refine (cmp_any _ _ _).mono ?_; rintro e w2 ⟨rfl,rfl⟩)
   | (go_at_call 88; refine (or2_any _ (cmpZ a c) (cmpZ b d) _ _ ?h1 ?h2).mono ?_; (case h1=>go_simp); (case h2=>go_simp); rintro e w2 ⟨rfl,rfl⟩)))
 all_goals
  go_wp2
  go_ret
  exact ⟨rfl,1,_,gr3 _ _ _ _⟩
set_option maxHeartbeats 4000000 in
theorem bld1_any (a b p c d q:Int) (w:World):Calls Tryz.prog 87 #[.agg #[.int .i64 a,.int .i64 b,.int .i64 p],.agg #[.int .i64 c,.int .i64 d,.int .i64 q]] w λ e w'=>e=.returned (.int .i64 (or3 (cmpZ a c) (cmpZ b d) (cmpZ p q)))∧∃ q os',w'=grow (w.drewN q) os':=by
 go_enter Tryz.func87,Tryz.ntmps87
 go_wp2_with fail
 go_region_held3 (λ w'=>w'.cell? ⟨w.heap.size,0,none⟩=some (.int .i64 a)∧w'.cell? ⟨w.heap.size,1,none⟩=some (.int .i64 b)∧w'.cell? ⟨w.heap.size,2,none⟩=some (.int .i64 p)∧w'.cell? ⟨w.heap.size+1,0,none⟩=some (.int .i64 c)∧w'.cell? ⟨w.heap.size+1,1,none⟩=some (.int .i64 d)∧w'.cell? ⟨w.heap.size+1,2,none⟩=some (.int .i64 q))
  (go_keep)
  ((first
   | (go_at_call 89; refine (cmp_any _ _ _).mono ?_; rintro e w2 ⟨rfl,rfl⟩)
   | (go_at_call 88; refine (or3_any _ (cmpZ a c) (cmpZ b d) (cmpZ p q) _ _ ?h1 ?h2 ?h3).mono ?_; (case h1=>go_simp); (case h2=>go_simp); (case h3=>go_simp); rintro e w2 ⟨rfl,rfl⟩)))
 all_goals
  go_wp2
  go_ret
  exact ⟨rfl,1,_,gr3 _ _ _ _⟩
def cf3 (x y:RwT 3):Int:=or3 (cmpZ (nI x.1 0) (nI y.1 0)) (cmpZ (nI x.1 1) (nI y.1 1)) (cmpZ (nI x.1 2) (nI y.1 2))
def cf2 (x y:RwT 2):Int:=or2 (cmpZ (nI x.1 0) (nI y.1 0)) (cmpZ (nI x.1 1) (nI y.1 1))
theorem cf3_iff (x y:RwT 3):ltOf cf3 x y=decide (nI x.1 0 < nI y.1 0∨(nI x.1 0=nI y.1 0∧(nI x.1 1 < nI y.1 1∨(nI x.1 1=nI y.1 1∧nI x.1 2 < nI y.1 2)))):=by
 unfold ltOf cf3 or3 cmpZ
 apply decide_eq_decide.2
 generalize nI x.1 0=a; generalize nI x.1 1=b; generalize nI x.1 2=c
 generalize nI y.1 0=d; generalize nI y.1 1=e; generalize nI y.1 2=f
 by_cases h1:a < d
 ·simp [h1]
 ·by_cases h2:d < a
  ·simp [h1,h2]; omega
  ·have:a=d:=by omega
   subst this
   by_cases h3:b < e
   ·simp [h3]
   ·by_cases h4:e < b
    ·simp [h3,h4]; omega
    ·have:b=e:=by omega
     subst this
     by_cases h5:c < f
     ·simp [h5]
     ·by_cases h6:f < c <;> simp [h5,h6]
theorem cf2_iff (x y:RwT 2):ltOf cf2 x y=decide (nI x.1 0 < nI y.1 0∨(nI x.1 0=nI y.1 0∧nI x.1 1 < nI y.1 1)):=by
 unfold ltOf cf2 or2 cmpZ
 apply decide_eq_decide.2
 generalize nI x.1 0=a; generalize nI x.1 1=b
 generalize nI y.1 0=d; generalize nI y.1 1=e
 by_cases h1:a < d
 ·simp [h1]
 ·by_cases h2:d < a
  ·simp [h1,h2]; omega
  ·have:a=d:=by omega
   subst this
   by_cases h3:b < e
   ·simp [h3]
   ·by_cases h4:e < b <;> simp [h3,h4]
theorem swo3:SWO (ltOf cf3) where
 irrefl x:=by rw [cf3_iff]; simp
 trans x y z h1 h2:=by rw [cf3_iff] at *; have h1:=of_decide_eq_true h1; have h2:=of_decide_eq_true h2; exact decide_eq_true (by omega)
 ntrans x y z h1 h2:=by rw [cf3_iff] at *; have h1:=of_decide_eq_false h1; have h2:=of_decide_eq_false h2; exact decide_eq_false (by omega)
theorem swo2:SWO (ltOf cf2) where
 irrefl x:=by rw [cf2_iff]; simp
 trans x y z h1 h2:=by rw [cf2_iff] at *; have h1:=of_decide_eq_true h1; have h2:=of_decide_eq_true h2; exact decide_eq_true (by omega)
 ntrans x y z h1 h2:=by rw [cf2_iff] at *; have h1:=of_decide_eq_false h1; have h2:=of_decide_eq_false h2; exact decide_eq_false (by omega)
structure AllR (k:Nat) (xs:LL) (n:Nat):Prop where
 ok:∀ r ∈ xs,okR k r=true
 ne:xs≠[]
 le:xs.length≤1000000
 eq:n=xs.length
def srtC_s:SpH
 | [.rw 0 3 n,.fn 87 []],[.row 162 3 xs]=>some (AllR 3 xs n,.tup [],[.row 162 3 (sortR 3 cf3 xs)])
 | _,_=>none
def srtE_s:SpH
 | [.rw 0 2 n,.fn 91 []],[.row 143 2 xs]=>some (AllR 2 xs n,.tup [],[.row 143 2 (sortR 2 cf2 xs)])
 | _,_=>none
theorem srtC_ok (gl:Glob):HOK Tryz.prog gl 86 srtC_s:=by
 refine ⟨fok Tryz.func86 (by kernel_rfl) (by kernel_rfl),?_⟩
 intro xs bs pre r bs2 h hp
 unfold srtC_s at h
 split at h
 ·cases h
  obtain ⟨o1,o2,o3,rfl⟩:=hp
  refine sort_hc rfl (by decide) (by decide) srtC rfl Tryz.isAgg162 Tryz.sizeOf162 swo3 (enters_of Tryz.func87 (by kernel_rfl) rfl) (λ blk size w m os dk hs x y=>?_) o1 o2 o3
  rw [enc3 x,enc3 y]
  exact bld1_any _ _ _ _ _ _ _
 ·cases h
theorem srtE_ok (gl:Glob):HOK Tryz.prog gl 90 srtE_s:=by
 refine ⟨fok Tryz.func90 (by kernel_rfl) (by kernel_rfl),?_⟩
 intro xs bs pre r bs2 h hp
 unfold srtE_s at h
 split at h
 ·cases h
  obtain ⟨o1,o2,o3,rfl⟩:=hp
  refine sort_hc rfl (by decide) (by decide) srtE rfl Tryz.isAgg143 Tryz.sizeOf143 swo2 (enters_of Tryz.func91 (by kernel_rfl) rfl) (λ blk size w m os dk hs x y=>?_) o1 o2 o3
  rw [enc2 x,enc2 y]
  exact bld2_any _ _ _ _ _
 ·cases h
end Go.Proofs.YtgbbmadjdaphnaaGreatDoor
namespace Go.Proofs.YtgbbmadjdaphnaaGreatDoor
open Go Go.Shelf
def lays189_ren:Go.Shelf.Ren:=⟨λ | 189=>93 | 125=>139 | 257=>142 | 128=>165 | 129=>166 | 294=>175 | 295=>176 | 296=>177 | 297=>178 | 298=>179 | 299=>180 | 216=>181 | 300=>182 | 301=>183 | 328=>207 | 329=>200 | 330=>201 | 331=>208 | 332=>209 | 215=>140 | 343=>217 | n=>n,λ | 28=>22 | 3=>3 | 46=>73 | 0=>0 | 51=>244 | 53=>67 | 4=>4 | 183=>238 | 182=>237 | 131=>157 | 5=>5 | 9=>9 | 218=>268 | 222=>272 | 228=>281 | 229=>282 | n=>n,λ | n=>n⟩
theorem lays189:Go.Proofs.Lays.n189 Tryz.prog lays189_ren:={
 mixed:=by kernel_rfl
 f125:=Tryz.func139.trans (congrArg some (by kernel_rfl))
 f128:=Tryz.func165.trans (congrArg some (by kernel_rfl))
 f129:=Tryz.func166.trans (congrArg some (by kernel_rfl))
 f189:=Tryz.func93.trans (congrArg some (by kernel_rfl))
 f215:=Tryz.func140.trans (congrArg some (by kernel_rfl))
 f216:=Tryz.func181.trans (congrArg some (by kernel_rfl))
 f257:=Tryz.func142.trans (congrArg some (by kernel_rfl))
 f294:=Tryz.func175.trans (congrArg some (by kernel_rfl))
 f295:=Tryz.func176.trans (congrArg some (by kernel_rfl))
 f296:=Tryz.func177.trans (congrArg some (by kernel_rfl))
 f297:=Tryz.func178.trans (congrArg some (by kernel_rfl))
 f298:=Tryz.func179.trans (congrArg some (by kernel_rfl))
 f299:=Tryz.func180.trans (congrArg some (by kernel_rfl))
 f300:=Tryz.func182.trans (congrArg some (by kernel_rfl))
 f301:=Tryz.func183.trans (congrArg some (by kernel_rfl))
 f328:=Tryz.func207.trans (congrArg some (by kernel_rfl))
 f329:=Tryz.func200.trans (congrArg some (by kernel_rfl))
 f330:=Tryz.func201.trans (congrArg some (by kernel_rfl))
 f331:=Tryz.func208.trans (congrArg some (by kernel_rfl))
 f332:=Tryz.func209.trans (congrArg some (by kernel_rfl))
 f343:=Tryz.func217.trans (congrArg some (by kernel_rfl))
 t0:=Tryz.underlying0
 a0:=Tryz.isAgg0
 z0:=Tryz.sizeOf0
 v0:=Tryz.zeroValue0
 t3:=Tryz.underlying3
 a3:=Tryz.isAgg3
 z3:=Tryz.sizeOf3
 v3:=Tryz.zeroValue3
 t4:=Tryz.underlying4
 a4:=Tryz.isAgg4
 z4:=Tryz.sizeOf4
 v4:=Tryz.zeroValue4
 t5:=Tryz.underlying5
 a5:=Tryz.isAgg5
 z5:=Tryz.sizeOf5
 v5:=Tryz.zeroValue5
 t9:=Tryz.underlying9
 a9:=Tryz.isAgg9
 z9:=Tryz.sizeOf9
 v9:=Tryz.zeroValue9
 t28:=Tryz.underlying22
 a28:=Tryz.isAgg22
 z28:=Tryz.sizeOf22
 v28:=Tryz.zeroValue22
 t46:=Tryz.underlying73
 a46:=Tryz.isAgg73
 z46:=Tryz.sizeOf73
 v46:=Tryz.zeroValue73
 t51:=Tryz.underlying244
 a51:=Tryz.isAgg244
 z51:=Tryz.sizeOf244
 v51:=Tryz.zeroValue244
 t53:=Tryz.underlying67
 a53:=Tryz.isAgg67
 z53:=Tryz.sizeOf67
 v53:=Tryz.zeroValue67
 t131:=Tryz.underlying157
 a131:=Tryz.isAgg157
 z131:=Tryz.sizeOf157
 v131:=Tryz.zeroValue157
 t182:=Tryz.underlying237
 a182:=Tryz.isAgg237
 z182:=Tryz.sizeOf237
 v182:=Tryz.zeroValue237
 t183:=Tryz.underlying238
 a183:=Tryz.isAgg238
 z183:=Tryz.sizeOf238
 v183:=Tryz.zeroValue238
 t218:=Tryz.underlying268
 a218:=Tryz.isAgg268
 z218:=Tryz.sizeOf268
 v218:=Tryz.zeroValue268
 t222:=Tryz.underlying272
 a222:=Tryz.isAgg272
 z222:=Tryz.sizeOf272
 v222:=Tryz.zeroValue272
 t228:=Tryz.underlying281
 a228:=Tryz.isAgg281
 z228:=Tryz.sizeOf281
 v228:=Tryz.zeroValue281
 t229:=Tryz.underlying282
 a229:=Tryz.isAgg282
 z229:=Tryz.sizeOf282
 v229:=Tryz.zeroValue282 }
open Go.Sort Go.RowKit in
theorem sortI_any (blk off cap:Nat) (zs:List Int) (w:World) (hH:Holds (Value.int .i64) w blk off zs.toArray) (hblk:blk < w.heap.size) (hsz:zs.length < 4611686018427387904) :
  Calls Tryz.prog 93 #[.slice (some ⟨blk,off,none⟩) zs.length cap] w λ e w' =>
   e=.returned (.tuple #[])∧∃ n os,w'=grow (putRow (Value.int .i64) (Sort.ahead w n) blk off (zs.mergeSort λ x y=>decide (x≤y)).toArray) os:=Any.slices_Sort_int lays189 blk off cap zs w hH hblk hsz
open Go.RowKit Go.Sort in
theorem sortI_none (p:Option Addr) (cap:Nat) (w:World) :
  Calls Tryz.prog 93 #[.slice p 0 cap] w λ e w'=>e=.returned (.tuple #[])∧w'=w:=Any.slices_Sort_int_none lays189 p cap w
open Go.Sort
@[irreducible] def s3 (a b c:Int) (i:Nat):Int:=(([a,b,c].mergeSort λ x y=>decide (x≤y)).getD i 0)
theorem s3_all (a b c:Int):([a,b,c].mergeSort λ x y=>decide (x≤y))=[s3 a b c 0,s3 a b c 1,s3 a b c 2]:=by
 have hl:([a,b,c].mergeSort λ x y=>decide (x≤y)).length=3:=by rw [List.length_mergeSort]; rfl
 unfold s3
 match h:([a,b,c].mergeSort λ x y=>decide (x≤y)),hl with
 | [x,y,z],_=>rfl
theorem s3_mem (a b c:Int) {i:Nat} (hi:i < 3):s3 a b c i=a∨s3 a b c i=b∨s3 a b c i=c:=by
 have hp:=List.mergeSort_perm [a,b,c] λ x y=>decide (x≤y)
 rw [s3_all] at hp
 have:s3 a b c i ∈ [s3 a b c 0,s3 a b c 1,s3 a b c 2]:=by
  rcases (by omega:i=0∨i=1∨i=2) with rfl | rfl | rfl <;> simp
 have:=hp.mem_iff.1 this
 simpa using this
def srt3_s:SpH
 | [.ms 0 0 3 3 1],[.cells [.int .i64 a,.int .i64 b,.int .i64 c]]=>some (True,.tup [],[.cells [.int .i64 (s3 a b c 0),.int .i64 (s3 a b c 1),.int .i64 (s3 a b c 2)]])
 | _,_=>none
theorem sort3_hc {gl:Glob} {a b c:Int}:HC Tryz.prog gl 93 [.ms 0 0 3 3 1] [.cells [.int .i64 a,.int .i64 b,.int .i64 c]] (.tup []) [.cells [.int .i64 (s3 a b c 0),.int .i64 (s3 a b c 1),.int .i64 (s3 a b c 2)]]:=by
 intro w S m vs hG hA hnm hheld hinj hv
 obtain ⟨L0,hL0⟩:∃ L0:List Value,L0=vs.toList:=⟨_,rfl⟩
 rw [← hL0] at hv
 simp only [CVl,CV] at hv
 obtain ⟨v0,l1,e0,⟨g,o,h1,rfl,h2,_,_⟩,rfl⟩:=hv
 have h2:=h2 (by decide)
 subst h2
 have hvs:vs=#[.slice (some ⟨g,0,none⟩) 3 3]:=by rw [← Array.toArray_toList (xs:=vs),← hL0,e0]
 subst hvs
 obtain ⟨g',arr,t,a1,a2,a3,a4⟩:=hheld 0 _ rfl
 rw [h1] at a1
 simp only [Option.some.injEq,Value.pointer.injEq,Addr.mk.injEq,and_self,and_true] at a1
 subst a1
 obtain ⟨La,hLa⟩:∃ La,La=arr.toList:=⟨_,rfl⟩
 rw [← hLa] at a3
 simp only [CVl,CV] at a3
 obtain ⟨u0,k0,e1,⟨rfl,ra⟩,u1,k1,rfl,⟨rfl,rb⟩,u2,k2,rfl,⟨rfl,rc⟩,rfl⟩:=a3
 have harr:arr=#[.int .i64 a,.int .i64 b,.int .i64 c]:=by rw [← Array.toArray_toList (xs:=arr),← hLa,e1]
 subst harr
 have hg:g < w.heap.size:=(Array.getElem?_eq_some_iff.1 a2).1
 have hH:Holds (Value.int .i64) w g 0 ([a,b,c]:List Int).toArray:=by
  intro j hj
  refine ⟨?_,by simp [World.frozen?,a2]⟩
  simp only [World.cell?,a2,Nat.zero_add]
  have hj:j < 3:=by simpa using hj
  rcases (by omega:j=0∨j=1∨j=2) with rfl | rfl | rfl <;> rfl
 refine (sortI_any g 0 3 [a,b,c] w hH hg (by simp)).mono ?_
 rintro e w' ⟨rfl,n,os,rfl⟩
 rw [s3_all]
 obtain ⟨D,hD⟩:∃ D:Array Int,D=#[s3 a b c 0,s3 a b c 1,s3 a b c 2]:=⟨_,rfl⟩
 have hcell:putCells (Value.int .i64) 0 ([s3 a b c 0,s3 a b c 1,s3 a b c 2]:List Int).toArray #[.int .i64 a,.int .i64 b,.int .i64 c]=#[.int .i64 (s3 a b c 0),.int .i64 (s3 a b c 1),.int .i64 (s3 a b c 2)]:=by
  unfold putCells
  rfl
 have heap:∀ i,i < w.heap.size->(grow (putRow (Value.int .i64) (Sort.ahead w n) g 0 ([s3 a b c 0,s3 a b c 1,s3 a b c 2]:List Int).toArray) os).heap[i]?=if g=i then some (.cells #[.int .i64 (s3 a b c 0),.int .i64 (s3 a b c 1),.int .i64 (s3 a b c 2)] t (0,0)) else w.heap[i]?:=by
  intro i hi
  unfold putRow mapBlock grow Sort.ahead
  simp only
  rw [Array.getElem?_append_left (by simpa using hi),Array.getElem?_modify]
  by_cases h:g=i
  ·subst h
   rw [if_pos rfl,if_pos rfl,a2]
   simp only [Option.map_some,onCells,hcell]
  ·rw [if_neg h,if_neg h]
 have hMb:Mof 1 m g:=⟨0,_,by decide,h1,rfl⟩
 have hb:∀ i,i < 3->rng .i64 (s3 a b c i):=λ i hi=>by
  rcases s3_mem a b c hi with e | e | e <;> rw [e] <;> assumption
 refine ⟨.tuple #[],S,m,rfl,rfl,rfl,rfl,?_,Ext.refl S,?_,?_,?_,hinj,?_,MLe.refl m,?_⟩
 ·unfold putRow mapBlock grow Sort.ahead
  simp
 ·intro i hi hn
  refine ⟨?_,λ _=>rfl⟩
  rw [heap i hi,if_neg (λ e:g=i=>hn (by subst e; exact hMb))]
 ·intro i o v e
  obtain ⟨h1,h2⟩:=hA i o v e
  refine ⟨?_,h2⟩
  have hi:i < w.heap.size:=hA.lt e
  have hne:g≠i:=λ q=>by subst q; rw [a4 o] at e; cases e
  simp only [World.cell?] at h1 ⊢
  rw [heap i hi,if_neg hne]; exact h1
 ·intro q bb hq
  cases q with
  | succ q=>simp at hq
  | zero =>
   simp only [List.getElem?_cons_zero,Option.some.injEq] at hq
   subst hq
   refine ⟨g,_,t,h1,by rw [heap g hg,if_pos rfl],?_,a4⟩
   simp only [CVl,CV]
   exact ⟨_,_,rfl,⟨rfl,hb 0 (by decide)⟩,_,_,rfl,⟨rfl,hb 1 (by decide)⟩,_,_,rfl,⟨rfl,hb 2 (by decide)⟩,rfl⟩
 ·intro q u g' hq hu hg
  exact .inr ⟨q,u,hq,hu,hg⟩
 ·simp only [CV,CVl]; exact ⟨#[],rfl,rfl⟩
theorem srt3_ok (gl:Glob):HOK Tryz.prog gl 93 srt3_s:=by
 refine ⟨fok Tryz.func93 (by kernel_rfl) (by kernel_rfl),?_⟩
 intro xs bs pre r bs2 h hp
 unfold srt3_s at h
 split at h
 ·cases h
  exact sort3_hc
 ·cases h
end Go.Proofs.YtgbbmadjdaphnaaGreatDoor
namespace Go.Proofs.YtgbbmadjdaphnaaGreatDoor
open Go
def celR (x y z:Int):List AV:=[.int .i64 (s3 x y z 0),.int .i64 (s3 x y z 1),.int .i64 (s3 x y z 2)]
def celL (nrm:NrT) (l:List (Int × AV)) (f a b c f' a' b' c' f'' a'' b'' c'':Int):List AV:=celR (atV nrm l f a b c) (atV nrm l f' a' b' c') (atV nrm l f'' a'' b'' c'')
def mcell_s (nrm:NrT) (vld:Int->Int->Int->Int->Bool):SpH
 | [.ptr 0 0,.agg [.int .i64 f,.int .i64 a,.int .i64 b,.int .i64 c,.int .i64 f',.int .i64 a',.int .i64 b',.int .i64 c',.int .i64 f'',.int .i64 a'',.int .i64 b'',.int .i64 c'']],[.cells [.int .i64 n,.int .i64 h,.sl 4 g nd,.mpv 1,.rw 2 3 m,.nils,.nils],.mp 27 3 l,.row 162 3 cs]=>some (m=cs.length∧cs.length≤1000,.tup [],[.cells [.int .i64 n,.int .i64 h,.sl 4 g nd,.mpv 1,.rw 2 3 (m+1),.nils,.nils],.mp 27 3 l,.row 162 3 (cs++[celL nrm l f a b c f' a' b' c' f'' a'' b'' c''])])
 | _,_=>none
def mcell_T (nrm:NrT) (vld:Int->Int->Int->Int->Bool):Prop :=
 ∀ (n h f a b c f' a' b' c' f'' a'' b'' c'':Int) (g:Bool) (nd cs:LL) (l:List (Int × AV)) (m:Nat),m=cs.length∧cs.length≤(1000:Nat)->True->(IR9 f)∧(IR9 a)∧(IR9 b)∧(IR9 c)∧(IR9 f')∧(IR9 a')∧(IR9 b')∧(IR9 c')∧(IR9 f'')∧(IR9 a'')∧(IR9 b'')∧(IR9 c'')∧True->IR9 n->IR9 h->True->True->True->True->True->True∧True∧True∧True∧bif decide (m=cs.length∧cs.length+[[I6 (s3 (atV nrm l f a b c) (atV nrm l f' a' b' c') (atV nrm l f'' a'' b'' c'') 0),I6 (s3 (atV nrm l f a b c) (atV nrm l f' a' b' c') (atV nrm l f'' a'' b'' c'') 1),I6 (s3 (atV nrm l f a b c) (atV nrm l f' a' b' c') (atV nrm l f'' a'' b'' c'') 2)]].length≤(9223372036854775807:Nat)∧(cs.length+[[I6 (s3 (atV nrm l f a b c) (atV nrm l f' a' b' c') (atV nrm l f'' a'' b'' c'') 0),I6 (s3 (atV nrm l f a b c) (atV nrm l f' a' b' c') (atV nrm l f'' a'' b'' c'') 1),I6 (s3 (atV nrm l f a b c) (atV nrm l f' a' b' c') (atV nrm l f'' a'' b'' c'') 2)]].length)*(24:Nat)≤(140737488355328:Nat)) then True∧(n=n∧h=h∧((bif g then g=true else True)∧nd=nd)∧True∧(cs++[[I6 (s3 (atV nrm l f a b c) (atV nrm l f' a' b' c') (atV nrm l f'' a'' b'' c'') 0),I6 (s3 (atV nrm l f a b c) (atV nrm l f' a' b' c') (atV nrm l f'' a'' b'' c'') 1),I6 (s3 (atV nrm l f a b c) (atV nrm l f' a' b' c') (atV nrm l f'' a'' b'' c'') 2)]]).length=m+(1:Nat)∧True∧True∧True)∧l=l∧cs++[[I6 (s3 (atV nrm l f a b c) (atV nrm l f' a' b' c') (atV nrm l f'' a'' b'' c'') 0),I6 (s3 (atV nrm l f a b c) (atV nrm l f' a' b' c') (atV nrm l f'' a'' b'' c'') 1),I6 (s3 (atV nrm l f a b c) (atV nrm l f' a' b' c') (atV nrm l f'' a'' b'' c'') 2)]]=cs++[celL nrm l f a b c f' a' b' c' f'' a'' b'' c'']∧True else False
theorem mcell_P:mcell_T nrm vld:=by
 unfold mcell_T
 delta I6
 intro n h f a b c f' a' b' c' f'' a'' b'' c'' g nd cs l m ⟨hm,hl⟩
 intros
 have e:(cs++[celL nrm l f a b c f' a' b' c' f'' a'' b'' c'']).length=m+1:=by rw [List.length_append,hm]; rfl
 refine ⟨trivial,trivial,trivial,trivial,cd1 ⟨hm,by simp only [List.length_singleton]; omega,by simp only [List.length_singleton]; omega⟩ ?_⟩
 (repeat' (first | exact trivial | exact rfl | exact gg _ | assumption | apply And.intro))
theorem mcell_e (nrm:NrT) (vld:Int->Int->Int->Int->Bool):mcell_T nrm vld=(∀ (n h f a b c f' a' b' c' f'' a'' b'' c'':Int) (g:Bool) (nd cs:LL) (l:List (Int × AV)) (m:Nat),m=cs.length∧cs.length≤1000->fnH Tryz.prog { glob:=glb,spec:=lk [],specH:=lk [(93,srt3_s),(124,(matA_s nrm vld))],nowf:=true } { nt:=36,drop:=drp [(4,3072),(5,126976),(6,131072),(7,262144),(8,68718428160)],fr:=1000,kp:=[0,1,2] } (λ _ _=>none) 6 Tryz.f137 [.ptr 0 0,.agg [.int .i64 f,.int .i64 a,.int .i64 b,.int .i64 c,.int .i64 f',.int .i64 a',.int .i64 b',.int .i64 c',.int .i64 f'',.int .i64 a'',.int .i64 b'',.int .i64 c'']] [.cells [.int .i64 n,.int .i64 h,.sl 4 g nd,.mpv 1,.rw 2 3 m,.nils,.nils],.mp 27 3 l,.row 162 3 cs] (.tup []) [.cells [.int .i64 n,.int .i64 h,.sl 4 g nd,.mpv 1,.rw 2 3 (m+1),.nils,.nils],.mp 27 3 l,.row 162 3 (cs++[celL nrm l f a b c f' a' b' c' f'' a'' b'' c''])]):=by kernel_rfl
def mcell_v:=Eq.mp (mcell_e ..) (mcell_P)
theorem mcell_ok:HOK Tryz.prog glb 137 (mcell_s nrm vld):=by
 refine ⟨fok Tryz.func137 (by kernel_rfl) (by kernel_rfl),?_⟩
 intro xs bs pre r bs2 h hp
 unfold mcell_s at h
 split at h
 ·cases h
  exact fnH_sound tyNil (by exact specOK rfl rfl trivial ⟨(srt3_ok glb),(matA_ok),trivial⟩) (by kernel_rfl) Tryz.func137 (mcell_v  _ _ _ _ _ _ _ _ _ _ _ _ _ _ _ _ _ _ _ hp)
 ·cases h
def celU (nrm:NrT) (l:List (Int × AV)) (h f a b c:Int):List AV:=celL nrm l f (a+h) b c f a (b+h) c f a b (c+h)
def celD (nrm:NrT) (l:List (Int × AV)) (h f a b c:Int):List AV:=celL nrm l f (a+0) (b+0+h) (c+(0 - h)+h) f (a+0+h) (b+0) (c+(0 - h)+h) f (a+0+h) (b+0+h) (c+(0 - h))
def celN (nrm:NrT) (l:List (Int × AV)) (h f a b c:Int):LL:=if h≤c then [celU nrm l h f a b c,celD nrm l h f a b c] else [celU nrm l h f a b c]
theorem celN_t {nrm:NrT} {l:List (Int × AV)} {h f a b c:Int} (q:h≤c) (cs:LL):cs++[celU nrm l h f a b c]++[celD nrm l h f a b c]=cs++celN nrm l h f a b c:=by unfold celN; rw [if_pos q,List.append_assoc]; rfl
theorem celN_f {nrm:NrT} {l:List (Int × AV)} {h f a b c:Int} (q:¬ h≤c) (cs:LL):cs++[celU nrm l h f a b c]=cs++celN nrm l h f a b c:=by unfold celN; rw [if_neg q]
def mcells_s (nrm:NrT) (vld:Int->Int->Int->Int->Bool):SpH
 | [.ptr 0 0,.agg [.int .i64 f,.int .i64 a,.int .i64 b,.int .i64 c]],[.cells [.int .i64 n,.int .i64 h,.sl 4 g nd,.mpv 1,.rw 2 3 m,.nils,.nils],.mp 27 3 l,.row 162 3 cs]=>some ((m=cs.length∧cs.length≤999)∧(0≤h∧h≤840)∧(0≤f∧f < 20)∧(0≤a∧a≤840)∧(0≤b∧b≤840)∧0≤c∧c≤840,.tup [],[.cells [.int .i64 n,.int .i64 h,.sl 4 g nd,.mpv 1,.rw 2 3 (cs++celN nrm l h f a b c).length,.nils,.nils],.mp 27 3 l,.row 162 3 (cs++celN nrm l h f a b c)])
 | _,_=>none
def mcells_T (nrm:NrT) (vld:Int->Int->Int->Int->Bool):Prop :=
 ∀ (n h f a b c:Int) (g:Bool) (nd cs:LL) (l:List (Int × AV)) (m:Nat),(m=cs.length∧cs.length≤(999:Nat))∧(0≤h∧h≤(840:Int))∧(0≤f∧f < (20:Int))∧(0≤a∧a≤(840:Int))∧(0≤b∧b≤(840:Int))∧0≤c∧c≤(840:Int)->True->(IR9 f)∧(IR9 a)∧(IR9 b)∧(IR9 c)∧True->IR9 n->IR9 h->True->True->True->True->True->(PlS f a b c∧0≤h∧h≤(840:Int))∧(m=cs.length∧cs.length≤(1000:Nat))∧bif decide (h≤c) then bif decide (rng IntKind.i64 ((0:Int) - h)) then (PlS f a b c∧PlS f 0 0 ((0:Int) - h))∧(PlS f (a+(0:Int)) (b+(0:Int)) (c+((0:Int) - h))∧0≤h∧h≤(840:Int))∧(m+(1:Nat)=(cs++[celL nrm l f (a+h) b c f a (b+h) c f a b (c+h)]).length∧(cs++[celL nrm l f (a+h) b c f a (b+h) c f a b (c+h)]).length≤(1000:Nat))∧True∧(n=n∧h=h∧((bif g then g=true else True)∧nd=nd)∧True∧m+(1:Nat)+(1:Nat)=(cs++celN nrm l h f a b c).length∧True∧True∧True)∧l=l∧cs++[celL nrm l f (a+h) b c f a (b+h) c f a b (c+h)]++[celL nrm l f (a+(0:Int)) (b+(0:Int)+h) (c+((0:Int) - h)+h) f (a+(0:Int)+h) (b+(0:Int)) (c+((0:Int) - h)+h) f (a+(0:Int)+h) (b+(0:Int)+h) (c+((0:Int) - h))]=cs++celN nrm l h f a b c∧True else False else True∧(n=n∧h=h∧((bif g then g=true else True)∧nd=nd)∧True∧m+(1:Nat)=(cs++celN nrm l h f a b c).length∧True∧True∧True)∧l=l∧cs++[celL nrm l f (a+h) b c f a (b+h) c f a b (c+h)]=cs++celN nrm l h f a b c∧True
theorem mcells_P:mcells_T nrm vld:=by
 unfold mcells_T
 intro n h f a b c g nd cs l m ⟨⟨hm,hl⟩,⟨h0,h8⟩,hf,ha,hb,hc0,hc8⟩
 intros
 have q1:PlS f a b c:=⟨hf,by omega,by omega,by omega⟩
 have q2:PlS f 0 0 (0 - h):=⟨hf,by omega,by omega,by omega⟩
 have q3:PlS f (a+0) (b+0) (c+(0 - h)):=⟨hf,by omega,by omega,by omega⟩
 have e1:(cs++[celU nrm l h f a b c]).length=cs.length+1:=by rw [List.length_append]; rfl
 refine ⟨⟨q1,h0,h8⟩,⟨hm,by omega⟩,csp (λ q=>cdI (by omega) ⟨⟨q1,q2⟩,⟨q3,h0,h8⟩,⟨by rw [hm]; exact e1.symm,by have:=e1; simp only [celU] at this; omega⟩,?_⟩) (λ q=>?_)⟩
 ·have e2:m+1+1=(cs++celN nrm l h f a b c).length:=by rw [← celN_t q,List.length_append,e1,hm]; rfl
  have e3:=celN_t (nrm:=nrm) (l:=l) (f:=f) (a:=a) (b:=b) q cs
  simp only [celU,celD] at e3
  (repeat' (first | exact trivial | exact rfl | exact gg _ | assumption | apply And.intro))
 ·have e2:m+1=(cs++celN nrm l h f a b c).length:=by rw [← celN_f q,e1,hm]
  have e3:=celN_f (nrm:=nrm) (l:=l) (f:=f) (a:=a) (b:=b) q cs
  simp only [celU] at e3
  (repeat' (first | exact trivial | exact rfl | exact gg _ | assumption | apply And.intro))
theorem mcells_e (nrm:NrT) (vld:Int->Int->Int->Int->Bool):mcells_T nrm vld=(∀ (n h f a b c:Int) (g:Bool) (nd cs:LL) (l:List (Int × AV)) (m:Nat),(m=cs.length∧cs.length≤999)∧(0≤h∧h≤840)∧(0≤f∧f < 20)∧(0≤a∧a≤840)∧(0≤b∧b≤840)∧0≤c∧c≤840->fnH Tryz.prog { glob:=glb,spec:=lk [(123,mmoved_s)],specH:=lk [(137,(mcell_s nrm vld)),(125,mupA_s),(126,mdnA_s)],nowf:=true } { nt:=27,drop:=drp [(1,240),(2,32256),(3,67043328)],fr:=1000,kp:=[0,1,2] } (λ _ _=>none) 6 Tryz.f85 [.ptr 0 0,.agg [.int .i64 f,.int .i64 a,.int .i64 b,.int .i64 c]] [.cells [.int .i64 n,.int .i64 h,.sl 4 g nd,.mpv 1,.rw 2 3 m,.nils,.nils],.mp 27 3 l,.row 162 3 cs] (.tup []) [.cells [.int .i64 n,.int .i64 h,.sl 4 g nd,.mpv 1,.rw 2 3 (cs++celN nrm l h f a b c).length,.nils,.nils],.mp 27 3 l,.row 162 3 (cs++celN nrm l h f a b c)]):=by kernel_rfl
def mcells_v:=Eq.mp (mcells_e ..) (mcells_P)
theorem mcells_ok:HOK Tryz.prog glb 85 (mcells_s nrm vld):=by
 refine ⟨fok Tryz.func85 (by kernel_rfl) (by kernel_rfl),?_⟩
 intro xs bs pre r bs2 h hp
 unfold mcells_s at h
 split at h
 ·cases h
  exact fnH_sound tyNil (by exact specOK rfl rfl ⟨(mmoved_ok glb),trivial⟩ ⟨(mcell_ok),(mupA_ok glb),(mdnA_ok glb),trivial⟩) (by kernel_rfl) Tryz.func85 (mcells_v  _ _ _ _ _ _ _ _ _ _ _ hp)
 ·cases h
def eqE (r q:List AV):Bool:=decide (nI r 0=nI q 0)&&(decide (nI r 1=nI q 1)&&true)
def cmpB:List AV->LL->LL
 | _,[]=>[]
 | p,x::l=>if eqE x p=true then cmpB x l else x::cmpB x l
def cmpct:LL->LL
 | []=>[]
 | x::l=>x::cmpB x l
structure EdR (xs:LL):Prop where
 fr:∀ i,i < xs.length->∃ a b,xs.getD i []=[.int .i64 a,.int .i64 b]
 le:xs.length≤1000000
def DupE (xs:LL):Prop:=(cmpct xs).length < xs.length
structure CoP (xs:LL) (k:Int):Prop where
 lo:1≤k
 hi:k≤xs.length
 eq:cmpct xs=xs.take k.toNat++cmpB (xs.getD (k.toNat - 1) []) (xs.drop k.toNat)
theorem gD {l:LL} {i:Nat} (h:i < l.length):l.getD i []=l[i]:=by rw [List.getD_eq_getElem?_getD,List.getElem?_eq_getElem h]; rfl
theorem dropC {l:LL} {i:Nat} (h:i < l.length):l.drop i=l.getD i []::l.drop (i+1):=by rw [gD h]; exact List.drop_eq_getElem_cons h
theorem takeC {l:LL} {i:Nat} (h:i < l.length):l.take (i+1)=l.take i++[l.getD i []]:=by rw [gD h,List.take_append_getElem]
theorem cmp1 {xs:LL} (h:1≤xs.length):cmpct xs=xs.take 1++cmpB (xs.getD 0 []) (xs.drop 1):=by
 cases xs with
 | nil=>simp at h
 | cons x l=>rfl
theorem dup2 {xs:LL} (h:DupE xs):2≤xs.length:=by
 unfold DupE at h
 match xs,h with
 | [],h=>simp [cmpct] at h
 | [_],h=>simp [cmpct,cmpB] at h
 | _::_::_,_=>simp
theorem cmpB_t {p x:List AV} {l:LL} (h:eqE x p=true):cmpB p (x::l)=cmpB x l:=if_pos h
theorem cmpB_f {p x:List AV} {l:LL} (h:eqE x p=false):cmpB p (x::l)=x::cmpB x l:=if_neg (by rw [h]; decide)
theorem eqE_at {r q:List AV} {a b c d:Int} (h:r=[.int .i64 a,.int .i64 b]) (k:q=[.int .i64 c,.int .i64 d]):eqE r q=(decide (a=c)&&(decide (b=d)&&true)):=by subst h; subst k; rfl
structure CoQ (xs:LL) (x:Int × Int × Nat × LL):Prop where
 l1:x.2.2.2.length=xs.length
 lo:1≤x.2.1
 kl:1≤x.1
 k0:x.1+1≤x.2.2.1+x.2.1
 hi:x.2.2.1+x.2.1≤xs.length
 eq:cmpct xs=x.2.2.2.take x.1.toNat++cmpB (xs.getD (x.2.2.1+x.2.1.toNat - 1) []) (xs.drop (x.2.2.1+x.2.1.toNat))
 fr:EdR x.2.2.2
 sm:∀ i,x.2.2.1+x.2.1.toNat≤i+1->x.2.2.2.getD i []=xs.getD i []
def co4 (xs:LL) (n:Nat):LInv:=⟨Int,λ k=>⟨[(0,.rw 0 2 n),(3,.int .i64 k)],[(0,.row 143 2 xs)]⟩,CoP xs,λ k=>(n - k).toNat,none⟩
def co9 (xs:LL) (n:Nat):LInv:=⟨Int × Int × Nat × LL,λ x=>⟨[(0,.rw 0 2 n),(3,.int .i64 x.1),(4,.mw 0 2 n x.2.2.1 (n - x.2.2.1) false),(5,.int .i64 x.2.1)],[(0,.row 143 2 x.2.2.2)]⟩,CoQ xs,λ x=>(n - (x.2.2.1+x.2.1)).toNat,none⟩
def mcomp_s:SpH
 | [.rw 0 2 n],[.row 143 2 xs]=>some (n=xs.length∧EdR xs∧DupE xs,.mw 0 2 n 0 (cmpct xs).length false,[.row 143 2 (cmpct xs++List.replicate (n - (cmpct xs).length) [.int .i64 0,.int .i64 0])])
 | _,_=>none
def mcomp_T:Prop :=
 ∀ (gl:Glob) (n:Nat) (xs:LL),n=xs.length∧EdR xs∧(cmpct xs).length.succ.le xs.length->True->bif decide ((↑n:Int) < (2:Int)) then False else (∃ x,CoP xs x∧(n=n∧(1:Int)=x∧True)∧xs=xs∧True)∧∀ (x1:Int),CoP xs x1->bif decide (x1 < (↑n:Int)) then bif decide (0≤x1∧x1 < (↑n:Int)) then bif decide (n=xs.length∧x1.toNat < xs.length) then ∃ n_1 n_2,List.take [I6 n_1,I6 n_2].length (List.drop 0 (xs.getD x1.toNat []))=[I6 n_1,I6 n_2]∧bif decide (rng IntKind.i64 (x1 - (1:Int))) then bif decide (0≤x1 - (1:Int)∧x1 - (1:Int) < (↑n:Int)) then bif decide (n=xs.length∧(x1 - (1:Int)).toNat < xs.length) then ∃ n_3 n_4,List.take [I6 n_3,I6 n_4].length (List.drop 0 (xs.getD (x1 - (1:Int)).toNat []))=[I6 n_3,I6 n_4]∧bif decide (n_1=n_3)&&(decide (n_2=n_4)&&true) then bif decide ((0:Int)≤(↑n:Int)∧(↑n:Int)≤(↑n:Int)) then bif decide (0≤x1∧x1≤(↑n:Int)) then (∃ x_1,CoQ xs x_1∧(n=n∧x1=x_1.1∧(n=n∧(0:Nat)+x1.toNat=x_1.2.2.1∧(↑n:Int).toNat - x1.toNat=n - x_1.2.2.1∧True)∧(1:Int)=x_1.2.1∧True)∧xs=x_1.2.2.2∧True)∧∀ (x2:Int × Int × Nat × LL),CoQ xs x2->bif decide (x2.2.1 < (↑(n - x2.2.2.1):Int)) then bif decide (0≤x2.2.1∧x2.2.1 < (↑(n - x2.2.2.1):Int)) then bif decide (n=x2.2.2.2.length∧x2.2.2.1+x2.2.1.toNat < x2.2.2.2.length) then ∃ n_5 n_6,List.take [I6 n_5,I6 n_6].length (List.drop 0 (x2.2.2.2.getD (x2.2.2.1+x2.2.1.toNat) []))=[I6 n_5,I6 n_6]∧bif decide (rng IntKind.i64 (x2.2.1 - (1:Int))) then bif decide (0≤x2.2.1 - (1:Int)∧x2.2.1 - (1:Int) < (↑(n - x2.2.2.1):Int)) then bif decide (n=x2.2.2.2.length∧x2.2.2.1+(x2.2.1 - (1:Int)).toNat < x2.2.2.2.length) then ∃ n_7 n_8,List.take [I6 n_7,I6 n_8].length (List.drop 0 (x2.2.2.2.getD (x2.2.2.1+(x2.2.1 - (1:Int)).toNat) []))=[I6 n_7,I6 n_8]∧bif !(decide (n_5=n_7)&&(decide (n_6=n_8)&&true)) then bif decide (0≤x2.2.1∧x2.2.1 < (↑(n - x2.2.2.1):Int)) then bif decide (n=x2.2.2.2.length∧x2.2.2.1+x2.2.1.toNat < x2.2.2.2.length) then ∃ n_9 n_10,List.take [I6 n_9,I6 n_10].length (List.drop 0 (x2.2.2.2.getD (x2.2.2.1+x2.2.1.toNat) []))=[I6 n_9,I6 n_10]∧bif decide (0≤x2.1∧x2.1 < (↑n:Int)) then bif decide (n=x2.2.2.2.length∧x2.1.toNat < x2.2.2.2.length) then bif decide (rng IntKind.i64 (x2.1+(1:Int))) then bif decide (rng IntKind.i64 (x2.2.1+(1:Int))) then ∃ y,CoQ xs y∧(co9 xs n).m y < (co9 xs n).m x2∧(n=n∧x2.1+(1:Int)=y.1∧(n=n∧x2.2.2.1=y.2.2.1∧n - x2.2.2.1=n - y.2.2.1∧True)∧x2.2.1+(1:Int)=y.2.1∧True)∧setEl x2.2.2.2 x2.1.toNat 0 [I6 n_9,I6 n_10]=y.2.2.2∧True else False else False else False else False else False else False else bif decide (rng IntKind.i64 (x2.2.1+(1:Int))) then ∃ y,CoQ xs y∧(co9 xs n).m y < (co9 xs n).m x2∧(n=n∧x2.1=y.1∧(n=n∧x2.2.2.1=y.2.2.1∧n - x2.2.2.1=n - y.2.2.1∧True)∧x2.2.1+(1:Int)=y.2.1∧True)∧x2.2.2.2=y.2.2.2∧True else False else False else False else False else False else False else bif decide ((0:Int)≤(↑n:Int)∧(↑n:Int)≤(↑n:Int)) then bif decide (0≤x2.1∧x2.1≤(↑n:Int)) then bif decide (n=x2.2.2.2.length∧(0:Nat)+x2.1.toNat+((↑n:Int).toNat - x2.1.toNat)=x2.2.2.2.length) then bif decide (0≤x2.1∧x2.1≤(↑n:Int)) then bif decide ((0:Int)≤(0:Int)∧0≤x2.1) then (n=n∧(0:Nat)=(0:Nat)∧x2.1.toNat - (0:Nat)=(cmpct xs).length∧True)∧List.take ((0:Nat)+x2.1.toNat) x2.2.2.2++List.replicate ((↑n:Int).toNat - x2.1.toNat) (List.replicate 2 (I6 0))=cmpct xs++List.replicate (n - (cmpct xs).length) [I6 0,I6 0]∧True else False else False else False else False else False else False else False else bif decide (rng IntKind.i64 (x1+(1:Int))) then ∃ y,CoP xs y∧(co4 xs n).m y < (co4 xs n).m x1∧(n=n∧x1+(1:Int)=y∧True)∧xs=xs∧True else False else False else False else False else False else False else False
theorem mcomp_P:mcomp_T:=by
 unfold mcomp_T
 delta I6
 intro gl n xs ⟨hn,hE,hD⟩ _
 subst hn
 have h2:=dup2 hD
 have hle:=hE.le
 have ld:∀ {ys:LL} {i:Nat} {a b:Int},ys.getD i []=[.int .i64 a,.int .i64 b]->List.take [AV.int .i64 a,AV.int .i64 b].length (List.drop 0 (ys.getD i []))=[.int .i64 a,.int .i64 b]:=λ e=>by rw [e]; rfl
 refine csp (λ h=>by omega) (λ h=>⟨⟨1,⟨by decide,by omega,cmp1 (by omega)⟩,by repeat' first|exact trivial|exact rfl|assumption|apply And.intro⟩,?_⟩)
 intro k ⟨k1,kh,ke⟩
 refine csp (λ h=>?_) (λ h=>?_)
 ·obtain ⟨a,b,hab⟩:=hE.fr k.toNat (by omega)
  obtain ⟨c,d,hcd⟩:=hE.fr (k - 1).toNat (by omega)
  have e1:(k - 1).toNat=k.toNat - 1:=by omega
  have hkl:k.toNat < xs.length:=by omega
  rw [dropC hkl] at ke
  refine cd1 (by omega) (cd1 ⟨rfl,hkl⟩ ⟨a,b,ld hab,cdI (by omega) (cd1 (by omega) (cd1 ⟨rfl,by omega⟩ ⟨c,d,ld hcd,csplit (λ q=>?_) (λ q=>?_)⟩))⟩)
  ·rw [← eqE_at hab hcd,e1] at q
   rw [cmpB_t q] at ke
   refine cd1 (by omega) (cd1 (by omega) ⟨⟨(k,1,k.toNat,xs),⟨rfl,Int.le_refl 1,k1,by simp only; omega,by simp only; omega,by simpa using ke,hE,λ _ _=>rfl⟩,⟨⟨rfl,rfl,⟨rfl,by simp,by simp,trivial⟩,rfl,trivial⟩,rfl,trivial⟩⟩,?_⟩)
   clear ke q hab hcd e1 hkl h kh k1
   rintro ⟨k,k2,k0,ys⟩ ⟨l1,lo,kl,hk0,hi,he,hF,sm⟩
   simp only at l1 lo kl hk0 hi he sm hF
   refine csp (λ h=>?_) (λ h=>?_)
   ·simp only at h
    have hkl:k0+k2.toNat < xs.length:=by omega
    have g1:ys.getD (k0+k2.toNat) []=xs.getD (k0+k2.toNat) []:=sm _ (by omega)
    have e1:k0+(k2 - 1).toNat=k0+k2.toNat - 1:=by omega
    have g2:ys.getD (k0+(k2 - 1).toNat) []=xs.getD (k0+k2.toNat - 1) []:=by rw [e1]; exact sm _ (by omega)
    obtain ⟨a,b,hab⟩:=hE.fr (k0+k2.toNat) hkl
    obtain ⟨c,d,hcd⟩:=hE.fr (k0+k2.toNat - 1) (by omega)
    rw [dropC hkl] at he
    refine cd1 (by simp only; omega) (cd1 ⟨l1.symm,by simp only; omega⟩ ⟨a,b,ld (g1.trans hab),cdI (by simp only; omega) (cd1 (by simp only; omega) (cd1 ⟨l1.symm,by simp only; omega⟩ ⟨c,d,ld (g2.trans hcd),csplit (λ q=>?_) (λ q=>?_)⟩))⟩)
    ·rw [← eqE_at hab hcd] at q
     have q:eqE (xs.getD (k0+k2.toNat) []) (xs.getD (k0+k2.toNat - 1) [])=false:=by simpa using q
     rw [cmpB_f q] at he
     have hky:k.toNat < ys.length:=by omega
     have hset:setEl ys k.toNat 0 [.int .i64 a,.int .i64 b]=ys.set k.toNat (xs.getD (k0+k2.toNat) []):=by
      obtain ⟨u,v,huv⟩:=hF.fr k.toNat hky
      unfold setEl
      rw [huv,hab]; rfl
     refine cd1 (by simp only; omega) (cd1 ⟨l1.symm,by simp only; omega⟩ ⟨a,b,ld (g1.trans hab),cd1 (by simp only; omega) (cd1 ⟨l1.symm,hky⟩ (cdI (by simp only; omega) (cdI (by simp only; omega) ⟨(k+1,k2+1,k0,setEl ys k.toNat 0 [.int .i64 a,.int .i64 b]),⟨?_,by simp only; omega,by simp only; omega,by simp only; omega,by simp only; omega,?_,?_,?_⟩,by simp only [co9]; omega,by repeat' first|exact trivial|exact rfl|assumption|apply And.intro⟩)))⟩)
     ·simp only [hset,List.length_set]; exact l1
     ·simp only [hset]
      rw [show (k+1).toNat=k.toNat+1 by omega,show (k2+1).toNat=k2.toNat+1 by omega,takeC (by rw [List.length_set]; exact hky),List.take_set_of_le (Nat.le_refl _),List.getD_eq_getElem?_getD,List.getElem?_set_self hky,Option.getD_some,List.append_assoc]
      exact he
     ·simp only [hset]
      refine ⟨λ i hi=>?_,by rw [List.length_set]; omega⟩
      rw [List.length_set] at hi
      by_cases hik:k.toNat=i
      ·subst hik
       exact ⟨a,b,by rw [List.getD_eq_getElem?_getD,List.getElem?_set_self hky,Option.getD_some]; exact hab⟩
      ·rw [List.getD_eq_getElem?_getD,List.getElem?_set_ne hik,← List.getD_eq_getElem?_getD]
       exact hF.fr i hi
     ·intro i hi
      simp only [hset] at hi ⊢
      rw [List.getD_eq_getElem?_getD,List.getElem?_set_ne (by omega),← List.getD_eq_getElem?_getD]
      exact sm i (by omega)
    ·rw [← eqE_at hab hcd] at q
     have q:eqE (xs.getD (k0+k2.toNat) []) (xs.getD (k0+k2.toNat - 1) [])=true:=by simpa using q
     rw [cmpB_t q] at he
     refine cdI (by simp only; omega) ⟨(k,k2+1,k0,ys),⟨l1,by simp only; omega,kl,by simp only; omega,by simp only; omega,?_,hF,λ i hi=>sm i (by simp only at hi; omega)⟩,by simp only [co9]; omega,by repeat' first|exact trivial|exact rfl|assumption|apply And.intro⟩
     simp only
     rw [show (k2+1).toNat=k2.toNat+1 by omega]
     exact he
   ·simp only at h
    have hz:k0+k2.toNat=xs.length:=by omega
    rw [hz,List.drop_length] at he
    simp only [cmpB,List.append_nil] at he
    have hcl:(cmpct xs).length=k.toNat:=by rw [he,List.length_take]; omega
    refine cd1 (by omega) (cd1 (by simp only; omega) (cd1 ⟨l1.symm,by simp only; omega⟩ (cd1 (by simp only; omega) (cd1 (by simp only; omega) ⟨⟨rfl,rfl,by rw [hcl]; rfl,trivial⟩,?_,trivial⟩))))
    simp only
    rw [hcl,he,Nat.zero_add,Int.toNat_natCast]; rfl
  ·rw [← eqE_at hab hcd,e1] at q
   rw [cmpB_f q] at ke
   refine cdI (by omega) ⟨k+1,⟨by omega,by omega,?_⟩,by simp only [co4]; omega,by repeat' first|exact trivial|exact rfl|assumption|apply And.intro⟩
   rw [show (k+1).toNat=k.toNat+1 by omega,takeC hkl,List.append_assoc]
   exact ke
 ·have hk:k.toNat=xs.length:=by omega
  rw [hk,List.drop_length,List.take_length] at ke
  simp only [cmpB,List.append_nil] at ke
  have hD:(cmpct xs).length < xs.length:=hD
  rw [ke] at hD
  exact absurd hD (Nat.lt_irrefl _)
theorem mcomp_e:mcomp_T=(∀ (gl:Glob) (n:Nat) (xs:LL),n=xs.length∧EdR xs∧DupE xs->fnH Tryz.prog { glob:=gl,spec:=lk [],specH:=lk [],shape:=[19,24,38,43,50],nowf:=true } { nt:=61,drop:=drp [(1,192),(2,512),(4,7168),(5,49152),(6,33488896),(7,469762048),(9,3758096384),(10,25769803776),(11,17557826306048),(12,4468415255281664),(13,13510798882111488),(14,126100789566373888),(15,1008806316530991104),(16,1152921504606846976)],fr:=1000,kp:=[0],tys:=[143] } (invs [(4,co4 xs n),(9,co9 xs n)]) 6 Tryz.f92 [.rw 0 2 n] [.row 143 2 xs] (.mw 0 2 n 0 (cmpct xs).length false) [.row 143 2 (cmpct xs++List.replicate (n - (cmpct xs).length) [.int .i64 0,.int .i64 0])]):=by kernel_rfl
def mcomp_v:=Eq.mp (mcomp_e ..) (mcomp_P)
theorem mcomp_ok (gl:Glob):HOK Tryz.prog gl 92 mcomp_s:=by
 refine ⟨fok Tryz.func92 (by kernel_rfl) (by kernel_rfl),?_⟩
 intro xs bs pre r bs2 h hp
 unfold mcomp_s at h
 split at h
 ·cases h
  exact fnH_sound (tyOf (by kernel_rfl)) (by exact specOK rfl rfl trivial trivial) (by kernel_rfl) Tryz.func92 (mcomp_v gl _ _ hp)
 ·cases h
theorem hc_frz {P:Program} {gl:Glob} {f:FuncId} {xs:List AV} {bs:List Blk} {q m e s:Nat} {ys:LL} (he:e < 2000000) (hq:q=ys.length) (hm:m≤ys.length) (h:HC P gl f xs bs (.mw 0 s q 0 m false) [.row e s ys]):HC P gl f xs bs (.sl s false (ys.take m)) [.gone]:=by
 intro w S mm vs hG hA hnm hheld hinj hv
 refine (h w S mm vs hG hA hnm hheld hinj hv).mono ?_
 rintro ed w' ⟨u,S1,m1,e1,a1,a2,a3,a4,hE,hF,hAg,hH,hI,hO,hM,hcv⟩
 obtain ⟨A,c,h1,h2,h3,hlen,h4,vals,h5,h6,h7,h9,h8⟩:=(hH 0 _ rfl).vals
 rw [rowNm_lo he] at h6
 let S':Pin:=λ b o=>if A=some ⟨b,0,none⟩∧o < vals.length then vals[o]? else S1 b o
 have hun:∀ b,A=some ⟨b,0,none⟩->∀ o,S1 b o=none:=by
  intro b hb o
  rcases h4 with ⟨e1,_⟩ | ⟨g,cur,fr,e1,_,_,_,e2⟩
  ·rw [hb] at e1; cases e1
  ·rw [hb] at e1
   injection e1 with e1
   injection e1 with e1
   subst e1
   exact e2 o
 have hS:Ext S1 S':=by
  intro b o v e1
  show (if A=some ⟨b,0,none⟩∧o < vals.length then vals[o]? else S1 b o)=some v
  rw [if_neg]
  ·exact e1
  ·rintro ⟨hb,_⟩
   rw [hun b hb] at e1; cases e1
 have hfar:∀ b,A≠some ⟨b,0,none⟩->∀ o,S' b o=S1 b o:=by
  intro b hb o
  show (if A=some ⟨b,0,none⟩∧o < vals.length then vals[o]? else S1 b o)=S1 b o
  rw [if_neg (λ q=>hb q.1)]
 refine ⟨u,S',m1,e1,a1,a2,a3,a4,hE.trans hS,λ b hb hn=>⟨(hF b hb hn).1,λ o=>?_⟩,?_,?_,hI,hO,hM,?_⟩
 ·by_cases hA:A=some ⟨b,0,none⟩
  ·rcases hO 0 _ b (by simp) h1 (by rw [hA]; rfl) with z | z
   ·omega
   ·exact absurd z hn
  ·rw [hfar b hA]; exact (hF b hb hn).2 o
 ·intro b o v e1
  by_cases hA:A=some ⟨b,0,none⟩∧o < vals.length
  ·have e2:vals[o]?=some v:=by
    have:S' b o=vals[o]?:=by show (if A=some ⟨b,0,none⟩∧o < vals.length then vals[o]? else S1 b o)=_; rw [if_pos hA]
    rw [← this]; exact e1
   exact ⟨h8 b hA.1 o v e2,h7 v (List.mem_of_getElem? e2)⟩
  ·have:S' b o=S1 b o:=by show (if A=some ⟨b,0,none⟩∧o < vals.length then vals[o]? else S1 b o)=_; rw [if_neg hA]
   rw [this] at e1
   exact hAg b o v e1
 ·intro k b hk
  cases k with
  | succ k=>simp at hk
  | zero =>
   simp only [List.getElem?_cons_zero,Option.some.injEq] at hk
   subst hk
   exact ⟨_,h1,λ g hg=>(hH 0 _ rfl).lt h1 hg⟩
 ·simp only [CV] at hcv ⊢
  obtain ⟨B,d,rfl,p1,p2,p3,p4,p5,A2,q2,c2,p6,p7,p8⟩:=hcv
  rw [h1] at p6
  simp only [Option.some.injEq,Value.iface.injEq,Value.slice.injEq,true_and] at p6
  obtain ⟨rfl,rfl,rfl⟩:=p6
  have hml:(ys.take m).length=m:=by rw [List.length_take]; omega
  refine ⟨B,d,by rw [hml],by rw [hml]; exact p1,p2,(λ e=>by cases e),p3,λ a ha=>⟨λ hd=>p4 a ha,?_⟩⟩
  by_cases hd:d=0
  ·have hm0:m=0:=by omega
   subst hm0
   simp only [List.take_zero,CE]
  ·obtain ⟨g,rfl,hB⟩:=p8 hq hd
   rw [ha] at hB
   injection hB with hB
   subst hB
   simp only [Nat.zero_mul]
   refine CE.mk λ j x hj=>?_
   have hj2:ys[j]?=some x:=by
    rw [List.getElem?_take] at hj
    split at hj
    ·exact hj
    ·cases hj
   have hxl:=hlen x (List.mem_of_getElem? hj2)
   refine ⟨hxl,CC.mk λ i y hi=>?_⟩
   obtain ⟨v,hv,hy⟩:=h6.get (flat_get hlen hj2 hi)
   have hlt:j*s+i < vals.length:=(List.getElem?_eq_some_iff.1 hv).1
   refine ⟨v,?_,hy.ext hS (MLe.refl _)⟩
   show (if some (⟨g,0,none⟩:Addr)=some ⟨g,0,none⟩∧0+j*s+i < vals.length then vals[0+j*s+i]? else S1 g (0+j*s+i))=some v
   rw [Nat.zero_add,if_pos ⟨rfl,hlt⟩]
   exact hv
def mcompF_s:SpH
 | [.rw 0 2 n],[.row 143 2 xs]=>some (n=xs.length∧EdR xs∧DupE xs,.sl 2 false (cmpct xs),[.gone])
 | _,_=>none
theorem mcompF_ok (gl:Glob):HOK Tryz.prog gl 92 mcompF_s:=by
 refine ⟨(mcomp_ok gl).1,?_⟩
 intro xs bs pre r bs2 h hp
 unfold mcompF_s at h
 split at h
 ·rename_i n ys
  simp only [Option.some.injEq,Prod.mk.injEq] at h
  obtain ⟨h1,h2,h3⟩:=h
  subst h1 h2 h3
  have hl:(cmpct ys).length≤n:=by have:(cmpct ys).length < ys.length:=hp.2.2; omega
  have hc:=(mcomp_ok gl).2 [.rw 0 2 n] [.row 143 2 ys] _ _ _ rfl hp
  have:=hc_frz (by decide) (by rw [List.length_append,List.length_replicate]; omega) (by rw [List.length_append]; omega) hc
  rwa [List.take_left] at this
 ·cases h
def preK:Nat->Code->List Code
 | k+1,.seq a b=>a::preK k b
 | _,_=>[]
def tailK:Nat->Code->Code
 | k+1,.seq _ b=>tailK k b
 | _,c=>c
def bodyC (fn:Func):Code:=match fn.body with
 | some c=>c
 | none=>.skip
def acodeL (P:Program) (E:Env) (C:Cx) (inv:Nat->St->Option LInv) (fuel:Nat):List Code->St->(St->Prop)->Prop
 | [],st,K=>K st
 | c::l,st,K=>acode P E C inv fuel c st (λ st'=>acodeL P E C inv fuel l st' K) (λ _ _=>False) (λ _=>False)
def clB (nrm:NrT) (l:List (Int × AV)) (n f a b:Int) (cs:LL):LL:=upto (λ b cs=>cs++celN nrm l (hN n) f (a*hN n) (b*hN n) ((n - 1 - a - b)*hN n)) b (n - a) cs
def clA (nrm:NrT) (l:List (Int × AV)) (n f a:Int) (cs:LL):LL:=upto (λ a cs=>clB nrm l n f a 0 cs) a n cs
def clF (nrm:NrT) (l:List (Int × AV)) (n f:Int) (cs:LL):LL:=upto (λ f cs=>clA nrm l n f 0 cs) f 20 cs
def clG (nrm:NrT) (n:Int):LL:=clF nrm (ptG nrm n).2 n 0 []
def edR (r:List AV):LL:=[[.int .i64 (nI r 0),.int .i64 (nI r 1)],[.int .i64 (nI r 0),.int .i64 (nI r 2)],[.int .i64 (nI r 1),.int .i64 (nI r 2)]]
def edL (cs:LL):LL:=cs.flatMap edR
def celG (nrm:NrT) (n:Int):LL:=sortR 3 cf3 (clG nrm n)
def edgS (nrm:NrT) (n:Int):LL:=sortR 2 cf2 (edL (celG nrm n))
def edgG (nrm:NrT) (n:Int):LL:=cmpct (edgS nrm n)
structure BldP (nrm:NrT) (n:Int):Prop where
 lo:1≤n
 hi:n≤4
 rg:∀ q,0≤mInt (ptG nrm n).2 q∧mInt (ptG nrm n).2 q < 1000
 dup:DupE (edgS nrm n)
structure RowB (cs:LL) (m:Int):Prop where
 ok:∀ r ∈ cs,okR 3 r=true
 le:(cs.length:Int)≤m
structure BlX (nrm:NrT) (n:Int) (x:Int × LL):Prop where
 lo:0≤x.1
 hi:x.1≤20
 go:clF nrm (ptG nrm n).2 n x.1 x.2=clG nrm n
 sm:RowB x.2 (32*x.1)
 ne:x.2=[]->x.1=0
structure BlY (nrm:NrT) (n f:Int) (x:Int × LL):Prop where
 fl:0≤f
 fh:f < 20
 lo:0≤x.1
 hi:x.1≤n
 go:clF nrm (ptG nrm n).2 n (f+1) (clA nrm (ptG nrm n).2 n f x.1 x.2)=clG nrm n
 sm:RowB x.2 (32*f+8*x.1)
 ne:x.2=[]->x.1=0
structure BlZ (nrm:NrT) (n f a:Int) (x:Int × LL):Prop where
 fl:0≤f
 fh:f < 20
 al:0≤a
 ah:a < n
 lo:0≤x.1
 hi:x.1≤n - a
 go:clF nrm (ptG nrm n).2 n (f+1) (clA nrm (ptG nrm n).2 n f (a+1) (clB nrm (ptG nrm n).2 n f a x.1 x.2))=clG nrm n
 sm:RowB x.2 (32*f+8*a+2*x.1)
 ne:x.2=[]->x.1=0
structure BlE (cs:LL) (x:Int × LL):Prop where
 lo:0≤x.1
 hi:x.1≤cs.length
 eq:x.2=edL (cs.take x.1.toNat)
def blH (nrm:NrT) (n:Int) (cs:LL):List (Nat × Blk):=[(1014,.cells [.int .i64 n,.int .i64 (hN n),.sl 4 false (ptG nrm n).1,.mpv 2014,.rw 1600 3 cs.length,.nils,.nils]),(2014,.mp 27 3 (ptG nrm n).2),(1600,.row 162 3 cs)]
def bl3 (nrm:NrT) (n:Int):LInv:=⟨Int × LL,λ x=>⟨[(0,.int .i64 n),(3,.ptr 1014 0),(15,.int .i64 x.1)],blH nrm n x.2⟩,BlX nrm n,λ x=>(20 - x.1).toNat,none⟩
def bl6 (nrm:NrT) (n f:Int):LInv:=⟨Int × LL,λ x=>⟨[(0,.int .i64 n),(3,.ptr 1014 0),(15,.int .i64 f),(4,.int .i64 f),(5,.int .i64 x.1)],blH nrm n x.2⟩,BlY nrm n f,λ x=>(n - x.1).toNat,none⟩
def bl9 (nrm:NrT) (n f a:Int):LInv:=⟨Int × LL,λ x=>⟨[(0,.int .i64 n),(3,.ptr 1014 0),(15,.int .i64 f),(4,.int .i64 f),(5,.int .i64 a),(6,.int .i64 x.1)],blH nrm n x.2⟩,BlZ nrm n f a,λ x=>(n - a - x.1).toNat,none⟩
def bl15 (nrm:NrT) (n:Int):LInv:=⟨Int × LL,λ x=>⟨[(0,.int .i64 n),(3,.ptr 1014 0),(66,.rw 1600 3 (celG nrm n).length),(67,.int .i64 (celG nrm n).length),(68,.int .i64 x.1)],
 [(1014,.cells [.int .i64 n,.int .i64 (hN n),.sl 4 false (ptG nrm n).1,.mpv 2014,.rw 1600 3 (celG nrm n).length,.rw 1700 2 x.2.length,.nils]),(2014,.mp 27 3 (ptG nrm n).2),(1600,.row 162 3 (celG nrm n)),(1700,.row 143 2 x.2)]⟩,BlE (celG nrm n),λ x=>((celG nrm n).length - x.1).toNat,none⟩
theorem at_b {nrm:NrT} {l:List (Int × AV)} (h:∀ q,0≤mInt l q∧mInt l q < 1000) (f a b c:Int):0≤atV nrm l f a b c∧atV nrm l f a b c < 1000:=h _
theorem celR_ok {x y z:Int} (hx:0≤x∧x < 1000) (hy:0≤y∧y < 1000) (hz:0≤z∧z < 1000):okR 3 (celR x y z)=true:=by
 have hb:∀ i,i < 3->-1000000≤s3 x y z i∧s3 x y z i≤1000000:=λ i hi=>by rcases s3_mem x y z hi with e | e | e <;> rw [e] <;> omega
 unfold okR celR
 simp only [List.length_cons,List.length_nil,List.all_cons,List.all_nil,okA,Bool.and_true,decide_eq_true (hb 0 (by decide)),decide_eq_true (hb 1 (by decide)),decide_eq_true (hb 2 (by decide))]
 rfl
theorem celN_ok {nrm:NrT} {l:List (Int × AV)} (hl:∀ q,0≤mInt l q∧mInt l q < 1000) (h f a b c:Int):(∀ r ∈ celN nrm l h f a b c,okR 3 r=true)∧1≤(celN nrm l h f a b c).length∧(celN nrm l h f a b c).length≤2:=by
 have hc:∀ f a b c f' a' b' c' f'' a'' b'' c'',okR 3 (celL nrm l f a b c f' a' b' c' f'' a'' b'' c'')=true:=λ _ _ _ _ _ _ _ _ _ _ _ _=>celR_ok (at_b hl _ _ _ _) (at_b hl _ _ _ _) (at_b hl _ _ _ _)
 unfold celN
 split
 ·refine ⟨λ r hr=>?_,by simp,by simp⟩
  simp only [List.mem_cons,List.not_mem_nil,or_false] at hr
  rcases hr with rfl | rfl <;> exact hc _ _ _ _ _ _ _ _ _ _ _ _
 ·refine ⟨λ r hr=>?_,by simp,by simp⟩
  simp only [List.mem_cons,List.not_mem_nil,or_false] at hr
  subst hr; exact hc _ _ _ _ _ _ _ _ _ _ _ _
theorem ok3 {r:List AV} (h:okR 3 r=true):r=[.int .i64 (nI r 0),.int .i64 (nI r 1),.int .i64 (nI r 2)]∧∀ i,i < 3->-1000000≤nI r i∧nI r i≤1000000:=by
 have hb:=λ i hi=>nI_b (⟨r,h⟩:RwT 3) (i:=i) hi
 have hl:r.length=3:=by have:=encR_len (⟨r,h⟩:RwT 3); simpa [encR] using this
 refine ⟨?_,hb⟩
 match r,hl with
 | [a,b,c],_ =>
  have ha:=(okR_at h (i:=0) rfl).2.1
  have hb:=(okR_at h (i:=1) rfl).2.1
  have hc:=(okR_at h (i:=2) rfl).2.1
  show [a,b,c]=[.int .i64 (aI a),.int .i64 (aI b),.int .i64 (aI c)]
  rw [← ha,← hb,← hc]
theorem ok2 {r:List AV} (h:okR 2 r=true):r=[.int .i64 (nI r 0),.int .i64 (nI r 1)]∧∀ i,i < 2->-1000000≤nI r i∧nI r i≤1000000:=by
 have hb:=λ i hi=>nI_b (⟨r,h⟩:RwT 2) (i:=i) hi
 have hl:r.length=2:=by have:=encR_len (⟨r,h⟩:RwT 2); simpa [encR] using this
 refine ⟨?_,hb⟩
 match r,hl with
 | [a,b],_ =>
  have ha:=(okR_at h (i:=0) rfl).2.1
  have hb:=(okR_at h (i:=1) rfl).2.1
  show [a,b]=[.int .i64 (aI a),.int .i64 (aI b)]
  rw [← ha,← hb]
theorem mk2 {a b:Int} (ha:-1000000≤a∧a≤1000000) (hb:-1000000≤b∧b≤1000000):okR 2 [.int .i64 a,.int .i64 b]=true:=by
 unfold okR
 simp only [List.length_cons,List.length_nil,List.all_cons,List.all_nil,okA,Bool.and_true,decide_eq_true ha,decide_eq_true hb]
 rfl
theorem edR_ok {r:List AV} (h:okR 3 r=true):∀ q ∈ edR r,okR 2 q=true:=by
 have hb:=(ok3 h).2
 intro q hq
 simp only [edR,List.mem_cons,List.not_mem_nil,or_false] at hq
 rcases hq with rfl | rfl | rfl
 ·exact mk2 (hb 0 (by decide)) (hb 1 (by decide))
 ·exact mk2 (hb 0 (by decide)) (hb 2 (by decide))
 ·exact mk2 (hb 1 (by decide)) (hb 2 (by decide))
theorem edL_len (cs:LL):(edL cs).length=3*cs.length:=by
 induction cs with
 | nil=>rfl
 | cons x l ih=>simp only [edL,List.flatMap_cons,List.length_append,List.length_cons] at ih ⊢; rw [ih]; simp [edR]; omega
theorem edL_ok {cs:LL} (h:∀ r ∈ cs,okR 3 r=true):∀ q ∈ edL cs,okR 2 q=true:=by
 intro q hq
 simp only [edL,List.mem_flatMap] at hq
 obtain ⟨r,hr,hq⟩:=hq
 exact edR_ok (h r hr) q hq
def bldT (nrm:NrT) (n:Int):St:=⟨[(0,.int .i64 n),(3,.ptr 1014 0)],[(1014,.cells [.int .i64 n,.int .i64 (hN n),.sl 4 false (ptG nrm n).1,.mpv 2014,.sl 3 false (celG nrm n),.sl 2 false (edgG nrm n),.nils]),(2014,.mp 27 3 (ptG nrm n).2)]⟩
abbrev bldL_1 (nrm:NrT) (n:Int):=(True∧(ptG nrm n).1=(ptG nrm n).1)
def bldL_T:Prop :=
 ∀ (nrm:NrT) (vld:Int->Int->Int->Int->Bool) (n:Int),BldP nrm n->(1≤n∧n≤(4:Int))∧(∃ x,BlX nrm n x∧(n=n∧(0:Nat)=(0:Nat)∧(0:Int)=x.1∧True)∧(n=n∧hN n=hN n∧(bldL_1 nrm n)∧True∧(0:Nat)=x.2.length∧True∧True∧True)∧(ptG nrm n).2=(ptG nrm n).2∧[]=x.2∧True)∧∀ (x1:Int × LL),BlX nrm n x1->bif decide (x1.1 < (20:Int)) then (∃ x_1,BlY nrm n x1.1 x_1∧(n=n∧(0:Nat)=(0:Nat)∧x1.1=x1.1∧x1.1=x1.1∧(0:Int)=x_1.1∧True)∧(n=n∧hN n=hN n∧(bldL_1 nrm n)∧True∧x1.2.length=x_1.2.length∧True∧True∧True)∧(ptG nrm n).2=(ptG nrm n).2∧x1.2=x_1.2∧True)∧∀ (x2:Int × LL),BlY nrm n x1.1 x2->bif decide (x2.1 < n) then (∃ x_2,BlZ nrm n x1.1 x2.1 x_2∧(n=n∧(0:Nat)=(0:Nat)∧x1.1=x1.1∧x1.1=x1.1∧x2.1=x2.1∧(0:Int)=x_2.1∧True)∧(n=n∧hN n=hN n∧(bldL_1 nrm n)∧True∧x2.2.length=x_2.2.length∧True∧True∧True)∧(ptG nrm n).2=(ptG nrm n).2∧x2.2=x_2.2∧True)∧∀ (x3:Int × LL),BlZ nrm n x1.1 x2.1 x3->bif decide (rng IntKind.i64 (x2.1+x3.1)) then bif decide (x2.1+x3.1 < n) then bif decide (rng IntKind.i64 (x2.1*hN n)) then bif decide (rng IntKind.i64 (x3.1*hN n)) then bif decide (rng IntKind.i64 (n - (1:Int))) then bif decide (rng IntKind.i64 (n - (1:Int) - x2.1)) then bif decide (rng IntKind.i64 (n - (1:Int) - x2.1 - x3.1)) then bif decide (rng IntKind.i64 ((n - (1:Int) - x2.1 - x3.1)*hN n)) then ((x3.2.length=x3.2.length∧x3.2.length≤(999:Nat))∧(0≤hN n∧hN n≤(840:Int))∧(0≤x1.1∧x1.1 < (20:Int))∧(0≤x2.1*hN n∧x2.1*hN n≤(840:Int))∧(0≤x3.1*hN n∧x3.1*hN n≤(840:Int))∧(0:Int)≤(n - (1:Int) - x2.1 - x3.1)*hN n∧(n - (1:Int) - x2.1 - x3.1)*hN n≤(840:Int))∧bif decide (rng IntKind.i64 (x3.1+(1:Int))) then ∃ y,BlZ nrm n x1.1 x2.1 y∧(bl9 nrm n x1.1 x2.1).m y < (bl9 nrm n x1.1 x2.1).m x3∧(n=n∧(0:Nat)=(0:Nat)∧x1.1=x1.1∧x1.1=x1.1∧x2.1=x2.1∧x3.1+(1:Int)=y.1∧True)∧(n=n∧hN n=hN n∧(bldL_1 nrm n)∧True∧(x3.2++celN nrm (ptG nrm n).2 (hN n) x1.1 (x2.1*hN n) (x3.1*hN n) ((n - (1:Int) - x2.1 - x3.1)*hN n)).length=y.2.length∧True∧True∧True)∧(ptG nrm n).2=(ptG nrm n).2∧x3.2++celN nrm (ptG nrm n).2 (hN n) x1.1 (x2.1*hN n) (x3.1*hN n) ((n - (1:Int) - x2.1 - x3.1)*hN n)=y.2∧True else False else False else False else False else False else False else False else bif decide (rng IntKind.i64 (x2.1+(1:Int))) then ∃ y,BlY nrm n x1.1 y∧(bl6 nrm n x1.1).m y < (bl6 nrm n x1.1).m x2∧(n=n∧(0:Nat)=(0:Nat)∧x1.1=x1.1∧x1.1=x1.1∧x2.1+(1:Int)=y.1∧True)∧(n=n∧hN n=hN n∧(bldL_1 nrm n)∧True∧x3.2.length=y.2.length∧True∧True∧True)∧(ptG nrm n).2=(ptG nrm n).2∧x3.2=y.2∧True else False else False else bif decide (rng IntKind.i64 (x1.1+(1:Int))) then ∃ y,BlX nrm n y∧(bl3 nrm n).m y < (bl3 nrm n).m x1∧(n=n∧(0:Nat)=(0:Nat)∧x1.1+(1:Int)=y.1∧True)∧(n=n∧hN n=hN n∧(bldL_1 nrm n)∧True∧x2.2.length=y.2.length∧True∧True∧True)∧(ptG nrm n).2=(ptG nrm n).2∧x2.2=y.2∧True else False else AllR 3 x1.2 x1.2.length∧(∃ x_1,BlE (celG nrm n) x_1∧(n=n∧(0:Nat)=(0:Nat)∧x1.2.length=(celG nrm n).length∧(↑x1.2.length:Int)=(↑(celG nrm n).length:Int)∧(0:Int)=x_1.1∧True)∧(n=n∧hN n=hN n∧(bldL_1 nrm n)∧True∧x1.2.length=(celG nrm n).length∧(0:Nat)=x_1.2.length∧True∧True)∧(ptG nrm n).2=(ptG nrm n).2∧sortR 3 cf3 x1.2=celG nrm n∧[]=x_1.2∧True)∧∀ (x4:Int × LL),BlE (celG nrm n) x4->bif decide (x4.1 < (↑(celG nrm n).length:Int)) then bif decide (0≤x4.1∧x4.1 < (↑(celG nrm n).length:Int)) then bif decide ((celG nrm n).length=(celG nrm n).length∧x4.1.toNat < (celG nrm n).length) then ∃ n_1 n_2 n_3,List.take [I6 n_1,I6 n_2,I6 n_3].length (List.drop 0 ((celG nrm n).getD x4.1.toNat []))=[I6 n_1,I6 n_2,I6 n_3]∧bif decide (x4.2.length=x4.2.length∧x4.2.length+[[I6 n_1,I6 n_2],[I6 n_1,I6 n_3],[I6 n_2,I6 n_3]].length≤(9223372036854775807:Nat)∧(x4.2.length+[[I6 n_1,I6 n_2],[I6 n_1,I6 n_3],[I6 n_2,I6 n_3]].length)*(16:Nat)≤(140737488355328:Nat)) then bif decide (rng IntKind.i64 (x4.1+(1:Int))) then ∃ y,BlE (celG nrm n) y∧((λ x4=>bl15 nrm n) 0).m y < ((λ x4=>bl15 nrm n) 0).m x4∧(n=n∧(0:Nat)=(0:Nat)∧(celG nrm n).length=(celG nrm n).length∧(↑(celG nrm n).length:Int)=(↑(celG nrm n).length:Int)∧x4.1+(1:Int)=y.1∧True)∧(n=n∧hN n=hN n∧(bldL_1 nrm n)∧True∧(celG nrm n).length=(celG nrm n).length∧(x4.2++[[I6 n_1,I6 n_2],[I6 n_1,I6 n_3],[I6 n_2,I6 n_3]]).length=y.2.length∧True∧True)∧(ptG nrm n).2=(ptG nrm n).2∧celG nrm n=celG nrm n∧x4.2++[[I6 n_1,I6 n_2],[I6 n_1,I6 n_3],[I6 n_2,I6 n_3]]=y.2∧True else False else False else False else False else AllR 2 x4.2 x4.2.length∧(x4.2.length=(sortR 2 cf2 x4.2).length∧EdR (sortR 2 cf2 x4.2)∧(cmpct (sortR 2 cf2 x4.2)).length.succ.le (sortR 2 cf2 x4.2).length)∧(n=n∧(0:Nat)=(0:Nat)∧True)∧(n=n∧hN n=hN n∧(bldL_1 nrm n)∧True∧((celG nrm n).length=(celG nrm n).length∧celG nrm n=celG nrm n)∧(True∧cmpct (sortR 2 cf2 x4.2)=edgG nrm n)∧True∧True)∧(ptG nrm n).2=(ptG nrm n).2∧True
theorem bldL_P:bldL_T:=by
 unfold bldL_T
 delta bldL_1 I6
 intro nrm vld n hP
 have n1:=hP.lo
 have n4:=hP.hi
 have hl:=hP.rg
 obtain ⟨h2,h8,hh⟩:=hN_b n1 n4
 refine ⟨⟨n1,n4⟩,⟨(0,[]),⟨by decide,by decide,rfl,⟨by simp,by decide⟩,λ _=>rfl⟩,by repeat' first|exact trivial|exact rfl|assumption|apply And.intro⟩,?_⟩
 rintro ⟨f,cs⟩ ⟨fl,fh,fg,⟨fo,fs⟩,fn⟩
 simp only at fl fh fg fo fs fn
 refine csp (λ h=>⟨⟨(0,cs),⟨fl,h,Int.le_refl 0,by simp only; omega,(upto_lt h).symm.trans fg,⟨fo,by simp only; omega⟩,λ _=>rfl⟩,by repeat' first|exact trivial|exact rfl|assumption|apply And.intro⟩,?_⟩) (λ h=>?_)
 ·clear fg fo fs fn
  rintro ⟨a,cs⟩ ⟨f0,f20,al,ah,ag,⟨ao,as_⟩,an⟩
  simp only at f0 f20 al ah ag ao as_ an
  refine csp (λ h=>⟨⟨(0,cs),⟨f0,f20,al,h,Int.le_refl 0,by simp only at h ⊢; omega,?_,⟨ao,by simp only; omega⟩,λ _=>rfl⟩,by repeat' first|exact trivial|exact rfl|assumption|apply And.intro⟩,?_⟩) (λ h=>?_)
  ·have e:clA nrm (ptG nrm n).2 n f a cs=clA nrm (ptG nrm n).2 n f (a+1) (clB nrm (ptG nrm n).2 n f a 0 cs):=upto_lt (by simp only at h; omega)
   simp only
   rw [← e]; exact ag
  ·clear ag ao as_ an
   rintro ⟨b,cs⟩ ⟨_,_,a0,an,bl,bh,bg,⟨bo,bs⟩,bn⟩
   simp only at a0 an bl bh bg bo bs bn
   obtain ⟨m1,m2⟩:=mulB (x:=a) (h:=hN n) a0 (by omega) (by omega) h8
   obtain ⟨m3,m4⟩:=mulB (x:=b) (h:=hN n) bl (by omega) (by omega) h8
   refine cdI (by simp only; omega) (csp (λ h=>?_) (λ h=>?_))
   ·simp only at h
    have hd:∀ x:Int,0≤x->x≤n->0≤x*hN n∧x*hN n≤840:=λ x x0 xn=>⟨Int.mul_nonneg x0 (by omega),by rw [← hh]; exact Int.mul_le_mul_of_nonneg_right xn (by omega)⟩
    have d1:=hd a a0 (by omega)
    have d2:=hd b bl (by omega)
    have d3:=hd (n - 1 - a - b) (by omega) (by omega)
    have e:clB nrm (ptG nrm n).2 n f a b cs=clB nrm (ptG nrm n).2 n f a (b+1) (cs++celN nrm (ptG nrm n).2 (hN n) f (a*hN n) (b*hN n) ((n - 1 - a - b)*hN n)):=upto_lt (by omega)
    rw [e] at bg
    obtain ⟨c1,c2,c3⟩:=celN_ok (nrm:=nrm) hl (hN n) f (a*hN n) (b*hN n) ((n - 1 - a - b)*hN n)
    refine cdI (by simp only; omega) (cdI (by simp only; omega) (cdI (by omega) (cdI (by simp only; omega) (cdI (by simp only; omega) (cdI (by simp only; omega) ⟨⟨⟨rfl,by simp only; omega⟩,⟨by omega,h8⟩,⟨f0,f20⟩,d1,d2,d3⟩,cdI (by simp only; omega) ⟨(b+1,cs++celN nrm (ptG nrm n).2 (hN n) f (a*hN n) (b*hN n) ((n - 1 - a - b)*hN n)),⟨f0,f20,a0,an,by simp only; omega,by simp only; omega,bg,⟨λ r hr=>?_,?_⟩,λ e=>?_⟩,by simp only [bl9]; omega,by repeat' first|exact trivial|exact rfl|assumption|apply And.intro⟩⟩)))))
    ·rcases List.mem_append.1 hr with hr | hr
     ·exact bo r hr
     ·exact c1 r hr
    ·simp only [List.length_append]; omega
    ·have e:cs++celN nrm (ptG nrm n).2 (hN n) f (a*hN n) (b*hN n) ((n - 1 - a - b)*hN n)=[]:=e
     have:=congrArg List.length e
     simp only [List.length_nil] at this
     rw [List.length_append] at this
     omega
   ·simp only at h
    have e:clB nrm (ptG nrm n).2 n f a b cs=cs:=upto_ge (by omega)
    rw [e] at bg
    exact cdI (by simp only; omega) ⟨(a+1,cs),⟨f0,f20,by simp only; omega,by simp only; omega,bg,⟨bo,by simp only; omega⟩,λ e=>by have:=bn e; omega⟩,by simp only [bl6]; omega,by repeat' first|exact trivial|exact rfl|assumption|apply And.intro⟩
  ·simp only at h
   have e:clA nrm (ptG nrm n).2 n f a cs=cs:=upto_ge (by omega)
   rw [e] at ag
   exact cdI (by simp only; omega) ⟨(f+1,cs),⟨by simp only; omega,by simp only; omega,ag,⟨ao,by simp only; omega⟩,λ e=>by have:=an e; omega⟩,by simp only [bl3]; omega,by repeat' first|exact trivial|exact rfl|assumption|apply And.intro⟩
 ·simp only at h
  have e:clF nrm (ptG nrm n).2 n f cs=cs:=upto_ge (by omega)
  rw [e] at fg
  subst fg
  have hne:clG nrm n≠[]:=λ e=>by have:=fn e; omega
  have hpm:=sortR_perm (cf:=cf3) swo3 fo
  have hcl:(celG nrm n).length=(clG nrm n).length:=hpm.length_eq
  have hco:∀ r ∈ celG nrm n,okR 3 r=true:=λ r hr=>fo r (hpm.mem_iff.1 hr)
  refine ⟨⟨fo,hne,by simp only; omega,rfl⟩,⟨(0,[]),⟨Int.le_refl 0,by simp only; omega,rfl⟩,⟨⟨rfl,rfl,hcl.symm,by simp only; omega,rfl,trivial⟩,⟨rfl,rfl,⟨trivial,rfl⟩,trivial,hcl.symm,rfl,trivial,trivial⟩,rfl,rfl,rfl,trivial⟩⟩,?_⟩
  rintro ⟨i,es⟩ ⟨il,ih,ie⟩
  simp only at il ih ie
  refine csp (λ h=>?_) (λ h=>?_)
  ·simp only at h
   have hi:i.toNat < (celG nrm n).length:=by omega
   obtain ⟨p,q,t,hr⟩:∃ p q t,(celG nrm n).getD i.toNat []=[.int .i64 p,.int .i64 q,.int .i64 t]:=⟨_,_,_,(ok3 (hco _ (by rw [gD hi]; exact List.getElem_mem hi):okR 3 ((celG nrm n).getD i.toNat [])=true)).1⟩
   have el:es.length≤3000:=by rw [ie,edL_len,List.length_take]; omega
   refine cd1 (by simp only; omega) (cd1 ⟨rfl,hi⟩ ⟨p,q,t,by rw [hr]; rfl,cd1 ⟨rfl,by simp only [List.length_cons,List.length_nil]; omega,by simp only [List.length_cons,List.length_nil]; omega⟩ (cdI (by simp only; omega) ⟨(i+1,es++[[.int .i64 p,.int .i64 q],[.int .i64 p,.int .i64 t],[.int .i64 q,.int .i64 t]]),⟨by simp only; omega,by simp only; omega,?_⟩,by simp only [bl15]; omega,by repeat' first|exact trivial|exact rfl|assumption|apply And.intro⟩)⟩)
   simp only
   rw [show (i+1).toNat=i.toNat+1 by omega,takeC hi,ie,hr]
   simp only [edL,List.flatMap_append,List.flatMap_cons,List.flatMap_nil,List.append_nil]
   rfl
  ·simp only at h
   have hi:i.toNat=(celG nrm n).length:=by omega
   rw [hi,List.take_length] at ie
   subst ie
   have heo:=edL_ok hco
   have hel:=edL_len (celG nrm n)
   have hpe:=sortR_perm (cf:=cf2) swo2 heo
   have hsl:(sortR 2 cf2 (edL (celG nrm n))).length=(edL (celG nrm n)).length:=hpe.length_eq
   have hen:edL (celG nrm n)≠[]:=λ e=>by
    rw [e] at hel
    have h0:(clG nrm n).length=0:=by simp only [List.length_nil] at hel; omega
    exact hne (List.eq_nil_of_length_eq_zero h0)
   refine ⟨⟨heo,hen,by simp only; omega,rfl⟩,⟨hsl.symm,⟨λ j hj=>?_,by simp only; omega⟩,hP.dup⟩,?_⟩
   ·have:=ok2 (heo _ (hpe.mem_iff.1 (by rw [gD hj]; exact List.getElem_mem hj)):okR 2 ((sortR 2 cf2 (edL (celG nrm n))).getD j [])=true)
    exact ⟨_,_,this.1⟩
   ·(repeat' (first | exact trivial | exact rfl | assumption | apply And.intro))
def bldL_S:Prop:=∀ (nrm:NrT) (vld:Int->Int->Int->Int->Bool) (n:Int),BldP nrm n->acodeL Tryz.prog { glob:=glb,spec:=lk [],specH:=lk [(37,mpts_s nrm vld),(85,mcells_s nrm vld),(86,srtC_s),(90,srtE_s),(92,mcompF_s)],nowf:=true,shape:=[71] } { nt:=180,drop:=drp [(1,24576),(4,131072),(6,786432),(7,6291456),(9,125829120),(10,805306368),(11,72057592964186112),(12,144115188075855872),(13,4323455642275676160),(14,64563604257983430656),(16,3541774862152233910272),(17,79228157791897854723898736640),(18,79228162514264337593543950336),(19,2376844875427930127806318510080),(20,1293003612232793989526637269483520),(21,663315923677824229544770906057867264),(22,4652297985247205555163324710981206016),(24,255211775190703847597530955573826158592),(25,178405621305878064193822282806579460279631872),(26,93535926383216198520050697008095932071087634907136),(27,93536104789177786765035829293842113257979682750464),(28,1309505467048489014710501610113789585611715558506496),(30,71835728478088540235547516897670742982128396352356352),(31,95780971304118053647396689196894323976171195136475136),(32,383123885216472214589586756787577295904684780545900544),(33,766247770432944429179173513575154591809369561091801088)],fr:=1000,kp:=[],emp:=λ id=>cond (Nat.beq id 2) [(1101404,1600,162,3)] (cond (Nat.beq id 14) [(1101405,1700,143,2)] []),frz:=λ id=>cond (Nat.beq id 19) [1001600] [] } (λ id st=>cond (Nat.beq id 3) (some (bl3 nrm n)) (inv2 9 4 5 (bl9 nrm n) id st (invsN [(6,4,bl6 nrm n),(15,68,λ _=>bl15 nrm n)] id st))) 6 (preK 7 (bodyC Tryz.f43)) ⟨[(0,.int .i64 n)],[]⟩ (λ st=>leS st (bldT nrm n))
theorem bldL_e:bldL_T=bldL_S:=by kernel_rfl
theorem bldL:bldL_S:=@Eq.mp (bldL_T) (bldL_S) (bldL_e) (bldL_P)
open Go.RowKit (Below)
def gK (k:Nat):Bool:=Nat.blt k 3000&&!(Nat.beq k 1002)
theorem gK_lt {k:Nat} (h:gK k=true):k < 3000∧k≠1002:=by
 simp only [gK,Bool.and_eq_true,Bool.not_eq_true'] at h
 refine ⟨Nat.le_of_ble_eq_true h.1,λ e=>?_⟩
 subst e; exact absurd h.2 (by decide)
mutual
def gA:AV->Bool
 | .agg cs=>gL cs
 | .tup cs=>gL cs
 | .fn _ cs=>gL cs
 | .ptr j _=>gK j
 | .acc j _ _=>gK j
 | .ms j _ _ _ _=>gK j
 | .rw j _ _=>gK j
 | .mw j _ _ _ _ _=>gK j
 | .prw j _ _ _ _=>gK j
 | .frz j _ _ _=>gK j
 | .mpv j=>gK j
 | _=>true
def gL:List AV->Bool
 | []=>true
 | x::xs=>gA x&&gL xs
end
theorem gN {j k:Nat} (h:gK j=true) (hk:(!(Nat.beq j k))=false):gK k=true:=by
 simp only [Bool.not_eq_false'] at hk
 rw [← Nat.eq_of_beq_eq_true hk]; exact h
mutual
theorem gA_nn {k:Nat}:∀ (x:AV),gA x=true->nn k x=false->gK k=true
 | .agg cs,h,e=>gL_nn cs (by simpa only [gA] using h) (by simpa only [nn] using e)
 | .tup cs,h,e=>gL_nn cs (by simpa only [gA] using h) (by simpa only [nn] using e)
 | .fn _ cs,h,e=>gL_nn cs (by simpa only [gA] using h) (by simpa only [nn] using e)
 | .ptr j _,h,e=>gN (by simpa only [gA] using h) (by simpa only [nn] using e)
 | .acc j _ _,h,e=>gN (by simpa only [gA] using h) (by simpa only [nn] using e)
 | .ms j _ _ _ _,h,e=>gN (by simpa only [gA] using h) (by simpa only [nn] using e)
 | .rw j _ _,h,e=>gN (by simpa only [gA] using h) (by simpa only [nn] using e)
 | .mw j _ _ _ _ _,h,e=>gN (by simpa only [gA] using h) (by simpa only [nn] using e)
 | .prw j _ _ _ _,h,e=>gN (by simpa only [gA] using h) (by simpa only [nn] using e)
 | .frz j _ _ _,h,e=>gN (by simpa only [gA] using h) (by simpa only [nn] using e)
 | .mpv j,h,e=>gN (by simpa only [gA] using h) (by simpa only [nn] using e)
 | .int _ _,_,e=>by simp [nn] at e
 | .bool _,_,e=>by simp [nn] at e
 | .str _,_,e=>by simp [nn] at e
 | .sl _ _ _,_,e=>by simp [nn] at e
 | .nils,_,e=>by simp [nn] at e
 | .ro _,_,e=>by simp [nn] at e
 | .nilp,_,e=>by simp [nn] at e
 | .undef,_,e=>by simp [nn] at e
 | .dead,_,e=>by simp [nn] at e
theorem gL_nn {k:Nat}:∀ (l:List AV),gL l=true->nnl k l=false->gK k=true
 | [],_,e=>by simp [nnl] at e
 | x::l,h,e=>by
  simp only [gL,Bool.and_eq_true] at h
  simp only [nnl,Bool.and_eq_false_iff] at e
  rcases e with e | e
  ·exact gA_nn x h.1 e
  ·exact gL_nn l h.2 e
end
def gB:Blk->Bool
 | .cells cs=>gL cs
 | .row e _ _=>Nat.blt e 2000000
 | .nrow _ _ _ _=>false
 | _=>true
theorem gB_in {b:Blk} {cs:List AV} (h:gB b=true) (hi:Inside b cs) {k:Nat} (e:nnl k cs=false):gK k=true:=by
 cases b with
 | cells ds=>have hi:ds=cs:=hi; subst hi; exact gL_nn _ h e
 | row e0 s xs=>have:e0 < 2000000:=Nat.le_of_ble_eq_true h; have:=hi.1; omega
 | nrow e0 s ks xs=>cases h
 | tok e s n=>exact hi.elim
 | mp kt et l=>exact hi.elim
 | gone=>exact hi.elim
def gT:List (Nat × AV)->Bool
 | []=>true
 | (_,x)::l=>gA x&&gT l
def gH:List (Nat × Blk)->Bool
 | []=>true
 | (k,b)::l=>gK k&&!(Nat.beq k 1116)&&gB b&&gH l
theorem gT_get:∀ {l:List (Nat × AV)} {t:Nat} {x:AV},gT l=true->lk l t=some x->gA x=true
 | [],t,x,_,e=>by simp [lk] at e
 | (j,y)::l,t,x,h,e=>by
  simp only [gT,Bool.and_eq_true] at h
  simp only [lk] at e
  cases hj:Nat.beq j t with
  | true=>rw [hj] at e; simp only [cond_true,Option.some.injEq] at e; subst e; exact h.1
  | false=>rw [hj] at e; exact gT_get h.2 e
theorem gH_get:∀ {l:List (Nat × Blk)} {k:Nat} {b:Blk},gH l=true->lk l k=some b->k < 3000∧k≠1002∧k≠1116∧gB b=true
 | [],t,x,_,e=>by simp [lk] at e
 | (j,y)::l,t,x,h,e=>by
  simp only [gH,Bool.and_eq_true,Bool.not_eq_true'] at h
  simp only [lk] at e
  cases hj:Nat.beq j t with
  | true =>
   rw [hj] at e; simp only [cond_true,Option.some.injEq] at e; subst e
   have:=Nat.eq_of_beq_eq_true hj
   subst this
   exact ⟨(gK_lt h.1.1.1).1,(gK_lt h.1.1.1).2,λ e=>by subst e; exact absurd h.1.1.2 (by decide),h.1.2⟩
  | false=>rw [hj] at e; exact gH_get h.2 e
theorem cv_gd {S:Pin} {x:AV} {m m':Nm} {v:Value} (hg:gA x=true) (hm:∀ k,k < 3000->k≠1002->m' k=m k) (h:CV S x m v):CV S x m' v :=
 CV.mono (Ext.refl S) x m m' v (λ k u hk e=>⟨u,by rw [hm k (gK_lt (gA_nn x hg hk)).1 (gK_lt (gA_nn x hg hk)).2]; exact e,.refl u⟩) h
theorem get_gd {S:Pin} {sl:List (Nat × AV)} {H H':List (Nat × Blk)} {m m':Nm} (hg:gT sl=true) (hm:∀ k,k < 3000->k≠1002->m' k=m k) {t:Nat} {v:Value} (h:CV S (St.get ⟨sl,H⟩ t) m v):CV S (St.get ⟨sl,H'⟩ t) m' v:=by
 unfold St.get at h ⊢
 simp only at h ⊢
 cases e:lk sl t with
 | none=>simp only [CV]
 | some x=>rw [e] at h; exact cv_gd (gT_get hg e) hm h
theorem held_gd {S:Pin} {b:Blk} {m m':Nm} {w:World} {k:Nat} (hg:gB b=true) (hk:k < 3000) (hk':k≠1002) (hm:∀ k,k < 3000->k≠1002->m' k=m k) (h:Held S m w k b):Held S m' w k b :=
 h.keep (Ext.refl S) (λ cs vs hi hv=>CVl.mono (Ext.refl S) cs m m' vs (λ j u hj e=>⟨u,by have:=gK_lt (gB_in hg hi hj); rw [hm j this.1 this.2]; exact e,.refl u⟩) hv) (hm k hk hk') (λ _ _ _ _=>⟨rfl,λ _=>rfl⟩)
theorem lk_app {α:Type} (b:List (Nat × α)) (k:Nat):∀ (a:List (Nat × α)),lk (a++b) k=match lk a k with | some x=>some x | none=>lk b k
 | []=>rfl
 | (j,x)::a=>by
  simp only [List.cons_append,lk]
  cases Nat.beq j k with
  | true=>rfl
  | false=>exact lk_app b k a
def bigE:Nat->List (LL)->LL
 | _,[]=>[]
 | j,ys::l=>[.rw j 1 ys.length]::bigE (j+1) l
def bigR (e:Nat):Nat->List (LL)->List (Nat × Blk)
 | _,[]=>[]
 | j,ys::l=>(j,.row e 1 ys)::bigR e (j+1) l
theorem bigE_get:∀ (l:List (LL)) (i j:Nat),(bigE i l)[j]?=(l[j]?).map λ ys=>[AV.rw (i+j) 1 ys.length]
 | [],i,j=>by simp [bigE]
 | ys::l,i,0=>by simp [bigE]
 | ys::l,i,j+1=>by
  simp only [bigE,List.getElem?_cons_succ]
  rw [bigE_get l (i+1) j,show i+1+j=i+(j+1) by omega]
theorem bigE_len:∀ (l:List (LL)) (i:Nat),(bigE i l).length=l.length
 | [],i=>rfl
 | ys::l,i=>by simp only [bigE,List.length_cons,bigE_len l (i+1)]
theorem bigR_lk (e:Nat):∀ (l:List (LL)) (i k:Nat),lk (bigR e i l) k=if i≤k then (l[k - i]?).map (Blk.row e 1) else none
 | [],i,k=>by simp [bigR,lk]
 | b::l,i,k=>by
  simp only [bigR,lk]
  rw [bigR_lk e l _ k]
  by_cases h:i=k
  ·subst h; rw [nbeq_self]; simp
  ·rw [nbeq_ne h]
   simp only [cond_false]
   by_cases h1:i≤k
   ·rw [if_pos (by omega),if_pos h1,show k - i=(k - (i+1))+1 by omega]; simp
   ·rw [if_neg (by omega),if_neg h1]
abbrev tOut:Nat:=22
abbrev tInn:Nat:=3
def bigH (X:List (Nat × Blk)) (xss:List (LL)):List (Nat × Blk):=X++(1116,.row (tOut+2000000) 1 (bigE 3000 xss))::bigR tInn 3000 xss
def kpJ:List Nat:=1002::names0 4000 200
def smallH (X:List (Nat × Blk)) (els:LL) (ys:LL):List (Nat × Blk):=X++[(1116,.nrow tOut 1 kpJ els),(1002,.row tInn 1 ys)]
theorem big_X {X:List (Nat × Blk)} {xss:List (LL)} {k:Nat} {b:Blk} (h:lk X k=some b):lk (bigH X xss) k=some b:=by
 simp only [bigH,lk_app,h]
theorem big_out {X:List (Nat × Blk)} (hX:gH X=true) (xss:List (LL)):lk (bigH X xss) 1116=some (.row (tOut+2000000) 1 (bigE 3000 xss)):=by
 simp only [bigH,lk_app]
 cases e:lk X 1116 with
 | some b=>exact absurd rfl (gH_get hX e).2.2.1
 | none=>simp only [lk,nbeq_self,cond_true]
theorem big_inn {X:List (Nat × Blk)} (hX:gH X=true) {xss:List (LL)} {j:Nat} {ys:LL} (h:xss[j]?=some ys):lk (bigH X xss) (3000+j)=some (.row tInn 1 ys):=by
 simp only [bigH,lk_app]
 cases e:lk X (3000+j) with
 | some b=>have:=(gH_get hX e).1; omega
 | none =>
  simp only [lk]
  rw [nbeq_ne (by omega:1116≠3000+j),bigR_lk,if_pos (by omega),show 3000+j - 3000=j by omega,h]
  rfl
theorem big_cases {X:List (Nat × Blk)} {xss:List (LL)} {k:Nat} {b:Blk} (h:lk (bigH X xss) k=some b):lk X k=some b∨(k=1116∧b=.row (tOut+2000000) 1 (bigE 3000 xss))∨∃ j ys,k=3000+j∧xss[j]?=some ys∧b=.row tInn 1 ys:=by
 simp only [bigH,lk_app] at h
 cases e:lk X k with
 | some c=>rw [e] at h; exact .inl h
 | none =>
  rw [e] at h
  simp only [lk] at h
  by_cases h1:1116=k
  ·subst h1
   rw [nbeq_self] at h
   simp only [cond_true,Option.some.injEq] at h
   exact .inr (.inl ⟨rfl,h.symm⟩)
  ·rw [nbeq_ne h1,bigR_lk] at h
   simp only [cond_false] at h
   by_cases h2:3000≤k
   ·rw [if_pos h2] at h
    cases e2:xss[k - 3000]? with
    | none=>rw [e2] at h; cases h
    | some ys=>rw [e2] at h; simp only [Option.map_some,Option.some.injEq] at h; exact .inr (.inr ⟨k - 3000,ys,by omega,e2,h.symm⟩)
   ·rw [if_neg h2] at h; cases h
theorem small_X {X:List (Nat × Blk)} {els ys:LL} {k:Nat} {b:Blk} (h:lk X k=some b):lk (smallH X els ys) k=some b:=by
 simp only [smallH,lk_app,h]
theorem small_out {X:List (Nat × Blk)} (hX:gH X=true) (els ys:LL):lk (smallH X els ys) 1116=some (.nrow tOut 1 kpJ els):=by
 simp only [smallH,lk_app]
 cases e:lk X 1116 with
 | some b=>exact absurd rfl (gH_get hX e).2.2.1
 | none=>simp only [lk,nbeq_self,cond_true]
theorem small_inn {X:List (Nat × Blk)} (hX:gH X=true) (els ys:LL):lk (smallH X els ys) 1002=some (.row tInn 1 ys):=by
 simp only [smallH,lk_app]
 cases e:lk X 1002 with
 | some b=>exact absurd rfl (gH_get hX e).2.1
 | none=>simp only [lk,nbeq_ne (by omega:1116≠1002),nbeq_self,cond_true,cond_false]
theorem small_cases {X:List (Nat × Blk)} {els ys:LL} {k:Nat} {b:Blk} (h:lk (smallH X els ys) k=some b):lk X k=some b∨(k=1116∧b=.nrow tOut 1 kpJ els)∨(k=1002∧b=.row tInn 1 ys):=by
 simp only [smallH,lk_app] at h
 cases e:lk X k with
 | some c=>rw [e] at h; exact .inl h
 | none =>
  rw [e] at h
  simp only [lk] at h
  by_cases h1:1116=k
  ·subst h1
   rw [nbeq_self] at h
   simp only [cond_true,Option.some.injEq] at h
   exact .inr (.inl ⟨rfl,h.symm⟩)
  ·rw [nbeq_ne h1] at h
   simp only [cond_false] at h
   by_cases h2:1002=k
   ·subst h2
    rw [nbeq_self] at h
    simp only [cond_true,Option.some.injEq] at h
    exact .inr (.inr ⟨rfl,h.symm⟩)
   ·rw [nbeq_ne h2] at h; cases h
structure JS (G:Gh) (sl:List (Nat × AV)) (X:List (Nat × Blk)) (xss:List (LL)) (a:Act) (w:World) (S:Pin) (m:Nm):Prop where
 rel:Rel G [] ⟨sl,bigH X xss⟩ a w S m
 nil:∀ j,xss[j]?=some []->m (3000+j)=some (.iface 0 (.slice none 0 0))
 gs:gT sl=true
 gh:gH X=true
theorem tOut_lt:¬ tOut+2000000 < 2000000:=by omega
theorem tInn_lt:tInn < 2000000:=by decide
section
variable {G:Gh} {sl:List (Nat × AV)} {X:List (Nat × Blk)} {xss:List (LL)} {a:Act} {w:World} {S:Pin} {m:Nm}
theorem JS.row (h:JS G sl X xss a w S m) {j:Nat} {ys:LL} (hj:xss[j]?=some ys):HeldRow S m w (3000+j) tInn 1 ys:=h.rel.held _ _ (big_inn h.gh hj)
theorem jag_begin (N:Nat) (hR:Rel G [] ⟨sl,X++[(1116,.row tOut 1 (List.replicate N [.nils]))]⟩ a w S m) (hs:gT sl=true) (hX:gH X=true):∃ m',JS G sl X (List.replicate N []) a w S m':=by
 let m2:Nm:=λ k=>if 3000≤k then some (.iface 0 (.slice none 0 0)) else m k
 have hm:∀ k,k < 3000->m2 k=m k:=λ k hk=>if_neg (by omega)
 have hmg:∀ k,3000≤k->m2 k=some (.iface 0 (.slice none 0 0)):=λ k hk=>if_pos hk
 have hx:∀ {k b},lk X k=some b->lk (X++[(1116,.row tOut 1 (List.replicate N [AV.nils]))]) k=some b:=λ h=>by simp only [lk_app,h]
 have ho:lk (X++[(1116,.row tOut 1 (List.replicate N [AV.nils]))]) 1116=some (.row tOut 1 (List.replicate N [AV.nils])):=by
  simp only [lk_app]
  cases e:lk X 1116 with
  | some b=>exact absurd rfl (gH_get hX e).2.2.1
  | none=>simp only [lk,nbeq_self,cond_true]
 have hbk:∀ {k b},lk (bigH X (List.replicate N [])) k=some b->k < 3000->∃ b0,lk (X++[(1116,.row tOut 1 (List.replicate N [AV.nils]))]) k=some b0:=λ h hk=>by
  rcases big_cases h with h | ⟨rfl,_⟩ | ⟨j,ys,rfl,_⟩
  ·exact ⟨_,hx h⟩
  ·exact ⟨_,ho⟩
  ·omega
 have nil2:∀ {k u g},3000≤k->m2 k=some u->bk u=some g->False:=λ hk hu hg=>by
  rw [hmg _ hk] at hu
  injection hu with hu
  subst hu; cases hg
 refine ⟨m2,⟨{ hR with defers:=hR.defers,tmps:=λ t=>get_gd hs (λ k hk _=>hm k hk) (hR.tmps t),held:=?_,inj:=?_,own:=?_,m0:=λ k u e=>absurd (hR.keep k u e) (by simp) },λ j hj=>hmg _ (by omega),hs,hX⟩⟩
 ·intro k b hk
  rcases big_cases hk with hk | ⟨rfl,rfl⟩ | ⟨j,ys,rfl,hj,rfl⟩
  ·have:=gH_get hX hk
   exact held_gd this.2.2.2 this.1 this.2.1 (λ k hk _=>hm k hk) (hR.held _ _ (hx hk))
  ·obtain ⟨A,c,h1,h2,h3,h4⟩:=hR.held _ _ ho
   rw [List.length_replicate] at h1 h2
   refine ⟨A,c,by rw [hm _ (by omega),h1,bigE_len,List.length_replicate],by rw [bigE_len,List.length_replicate]; exact h2,h3,?_⟩
   rcases h4 with h4 | ⟨g,cur,fr,rfl,h7,hfr,h8,h9,h10⟩
   ·exact .inl h4
   ·refine .inr ⟨g,cur,fr,rfl,h7,.inl (hfr.lt (by decide)),h8,h9,λ j x hj=>?_⟩
    rw [bigE_get,List.getElem?_replicate] at hj
    by_cases hjN:j < N
    ·rw [if_pos hjN] at hj
     simp only [Option.map_some,Option.some.injEq,List.length_nil] at hj
     subst hj
     obtain ⟨q1,q2⟩:=h10 j [AV.nils] (by rw [List.getElem?_replicate,if_pos hjN])
     refine ⟨rfl,λ i y hi=>?_⟩
     cases i with
     | succ i=>simp at hi
     | zero =>
      simp at hi; subst hi
      obtain ⟨v,hv,ho,hy⟩:=q2 0 _ rfl
      refine ⟨v,hv,ho,?_⟩
      rw [rowNm_hi tOut_lt]
      simp only [CV] at hy ⊢
      subst hy
      exact ⟨⟨none,0,rfl,Nat.le_refl _,by decide,λ _=>rfl,λ a ha=>by cases ha⟩,none,0,0,hmg _ (by omega),Nat.le_refl _,λ _=>rfl⟩
    ·rw [if_neg hjN] at hj; cases hj
  ·rw [List.getElem?_replicate] at hj
   split at hj
   ·injection hj with hj
    subst hj
    exact ⟨none,0,hmg _ (by omega),Nat.le_refl _,by decide,.inl ⟨rfl,rfl⟩⟩
   ·cases hj
 ·intro k k' b b' u u' g hk hk' hne hu hu' hg hg'
  by_cases h1:3000≤k
  ·exact nil2 h1 hu hg
  ·by_cases h2:3000≤k'
   ·exact nil2 h2 hu' hg'
   ·rw [hm _ (by omega)] at hu hu'
    obtain ⟨c,hc⟩:=hbk hk (by omega)
    obtain ⟨c',hc'⟩:=hbk hk' (by omega)
    exact hR.inj k k' c c' u u' g hc hc' hne hu hu' hg hg'
 ·intro k b u g hk hu hg
  by_cases h1:3000≤k
  ·exact (nil2 h1 hu hg).elim
  ·rw [hm _ (by omega)] at hu
   obtain ⟨c,hc⟩:=hbk hk (by omega)
   exact hR.own k c u g hc hu hg
def phA (m:Nm) (j:Nat):List AV:=match m (3000+j) with
 | some (.iface 0 (.slice (some _) n c))=>[.ms (4000+j) 0 n c 1]
 | _=>[.nils]
def phM (m:Nm) (j:Nat):Option Value:=match m (3000+j) with
 | some (.iface 0 (.slice (some a) _ _))=>some (.pointer (some ⟨a.block,0,none⟩))
 | _=>none
def elJ (m:Nm) (A n:Nat) (j:Nat):List AV:=if j=A then [.rw 1002 1 n] else phA m j
def m1J (m:Nm) (A N:Nat):Nm:=λ k=>if k=1002 then m (3000+A) else if 4000≤k then (if k - 4000 < N∧k - 4000≠A then phM m (k - 4000) else none) else if k < 3000 then m k else none
def m0J (m:Nm) (A N:Nat):Nm:=λ k=>if k=1002∨4000≤k then m1J m A N k else none
def phi (A k:Nat):Nat:=if k=1002 then 3000+A else k
theorem phA_nn {m:Nm} {j k:Nat} {y:AV} {i:Nat} (h:(phA m j)[i]?=some y) (hk:nn k y=false):k=4000+j:=by
 unfold phA at h
 split at h
 ·cases i with
  | zero=>simp at h; subst h; simp only [nn,Bool.not_eq_false'] at hk; exact (Nat.eq_of_beq_eq_true hk).symm
  | succ i=>simp at h
 ·cases i with
  | zero=>simp at h; subst h; simp [nn] at hk
  | succ i=>simp at h
theorem phA_len (m:Nm) (j:Nat):(phA m j).length=1:=by unfold phA; split <;> rfl
theorem names0_in:∀ (n i k:Nat),i≤k->k < i+n->inL k (names0 i n)=true
 | 0,i,k,h1,h2=>by omega
 | n+1,i,k,h1,h2=>by
  simp only [names0,inL]
  by_cases h:i=k
  ·subst h; rw [nbeq_self]; rfl
  ·rw [names0_in n (Nat.succ i) k (by simp only [Nat.succ_eq_add_one]; omega) (by simp only [Nat.succ_eq_add_one]; omega),Bool.or_true]
theorem kpJ_in {k:Nat} (h:k=1002∨(4000≤k∧k < 4200)):inL k kpJ=true:=by
 rcases h with rfl | ⟨h1,h2⟩
 ·simp only [kpJ,inL,nbeq_self,Bool.true_or]
 ·simp only [kpJ,inL]
  rw [names0_in 200 4000 k h1 h2,Bool.or_true]
theorem kpJ_mem {k:Nat} (h:k=1002∨(4000≤k∧k < 4200)):k ∈ kpJ:=inL_of_mem (kpJ_in h)
theorem jag_in (h:JS G sl X xss a w S m) (hN:xss.length≤200) {A:Nat} {ys:LL} (hA:xss[A]?=some ys) :
  ∃ (els:LL) (m1 m0:Nm) (M1:Nat->Prop),els.length=xss.length∧els[A]?=some [.rw 1002 1 ys.length] ∧
   Rel ⟨w,S,m0,M1⟩ kpJ ⟨sl,smallH X els ys⟩ a w S m1 ∧
   ∀ (sl':List (Nat × AV)) (X':List (Nat × Blk)) (ys' els':LL) (a':Act) (w':World) (S':Pin) (m':Nm),gT sl'=true->gH X'=true->(ys'=[]->ys=[])->els'.length=els.length->els'[A]?=some [.rw 1002 1 ys'.length]->(∀ j,j≠A->els'[j]?=els[j]?) ->
    Rel ⟨w,S,m0,M1⟩ kpJ ⟨sl',smallH X' els' ys'⟩ a' w' S' m'->∃ m2,JS G sl' X' (xss.set A ys') a' w' S' m2:=by
 have hR:=h.rel
 have hAN:A < xss.length:=(List.getElem?_eq_some_iff.1 hA).1
 let els:LL:=(List.range xss.length).map (elJ m A ys.length)
 have hel:∀ j,els[j]?=if j < xss.length then some (elJ m A ys.length j) else none:=λ j=>by
  show ((List.range xss.length).map (elJ m A ys.length))[j]?=_
  rw [List.getElem?_map]
  by_cases hj:j < xss.length
  ·rw [if_pos hj,List.getElem?_range hj]; rfl
  ·rw [if_neg hj,List.getElem?_eq_none (by simpa using hj)]; rfl
 have hln:els.length=xss.length:=by show ((List.range xss.length).map _).length=_; simp
 let m1:Nm:=m1J m A xss.length
 let m0:Nm:=m0J m A xss.length
 let M1:Nat->Prop:=λ g=>∃ k b u,lk (smallH X els ys) k=some b∧m1 k=some u∧bk u=some g
 have hm:∀ k,k < 3000->k≠1002->m1 k=m k:=λ k h1 h2=>by
  show (if k=1002 then _ else if 4000≤k then _ else if k < 3000 then m k else none)=_
  rw [if_neg h2,if_neg (by omega),if_pos h1]
 have hm2:m1 1002=m (3000+A):=if_pos rfl
 have hm4:∀ j,j < xss.length->j≠A->m1 (4000+j)=phM m j:=λ j h1 h2=>by
  show (if 4000+j=1002 then _ else if 4000≤4000+j then (if 4000+j - 4000 < xss.length∧4000+j - 4000≠A then phM m (4000+j - 4000) else none) else _)=_
  rw [if_neg (by omega),if_pos (by omega),show 4000+j - 4000=j by omega,if_pos ⟨h1,h2⟩]
 have hphi:∀ {k b},lk (smallH X els ys) k=some b->m1 k=m (phi A k)∧∃ b0,lk (bigH X xss) (phi A k)=some b0:=λ {k b} hk=>by
  rcases small_cases hk with hk | ⟨rfl,_⟩ | ⟨rfl,_⟩
  ·have:=gH_get h.gh hk
   unfold phi
   rw [if_neg this.2.1]
   exact ⟨hm k this.1 this.2.1,_,big_X hk⟩
  ·exact ⟨hm _ (by omega) (by omega),_,big_out h.gh xss⟩
  ·exact ⟨hm2,_,big_inn h.gh hA⟩
 have hphx:∀ {k b},lk (smallH X els ys) k=some b->∀ j,j≠A->phi A k≠3000+j:=λ {k b} hk j hj=>by
  rcases small_cases hk with hk | ⟨rfl,_⟩ | ⟨rfl,_⟩
  ·have:=gH_get h.gh hk
   unfold phi
   rw [if_neg this.2.1]; omega
  ·unfold phi; rw [if_neg (by omega)]; omega
  ·unfold phi; rw [if_pos rfl]; omega
 have hM1:∀ {g},M1 g->G.w0.heap.size≤g∨G.M g:=λ {g} ⟨k,b,u,h1,h2,h3⟩=>by
  obtain ⟨e,b0,hb0⟩:=hphi h1
  rw [e] at h2
  exact hR.own _ b0 u g hb0 h2 h3
 have hM1j:∀ {g},M1 g->∀ {j y u},j≠A->xss[j]?=some y->m (3000+j)=some u->bk u=some g->False:=λ {g} ⟨k,b,u,h1,h2,h3⟩ {j y u'} hj hy hu hg=>by
  obtain ⟨e,b0,hb0⟩:=hphi h1
  rw [e] at h2
  exact hR.inj _ _ _ _ u u' g hb0 (big_inn h.gh hy) (hphx h1 j hj) h2 hu h3 hg
 refine ⟨els,m1,m0,M1,hln,by rw [hel,if_pos hAN]; simp only [elJ,if_true],?_,?_⟩
 ·refine { defers:=hR.defers,pin0:=Ext.refl S,pinNew:=λ _ _ _ _=>rfl,agree:=hR.agree,tmps:=λ t=>get_gd h.gs hm (hR.tmps t),held:=?_,inj:=?_,own:=λ k b u g hk hu hg=>.inr ⟨k,b,u,hk,hu,hg⟩,os:=rfl,tape:=rfl,output:=rfl,size:=Nat.le_refl _,frame:=λ _ _ _=>rfl,m0:=?_,keep:=?_ }
  ·intro k b hk
   rcases small_cases hk with hk | ⟨rfl,rfl⟩ | ⟨rfl,rfl⟩
   ·have:=gH_get h.gh hk
    exact held_gd this.2.2.2 this.1 this.2.1 hm (hR.held _ _ (big_X hk))
   ·obtain ⟨B,c,h1,h2,h3,h4⟩:=hR.held _ _ (big_out h.gh xss)
    rw [bigE_len] at h1 h2
    refine ⟨⟨B,c,by rw [hm _ (by omega) (by omega),h1,hln],by rw [hln]; exact h2,h3,?_⟩,?_⟩
    ·rcases h4 with h4 | ⟨g,cur,fr,rfl,h7,hfr,h8,h9,h10⟩
     ·exact .inl h4
     ·refine .inr ⟨g,cur,fr,rfl,h7,hfr,h8,h9,λ j x hj=>?_⟩
      rw [hel] at hj
      by_cases hjN:j < xss.length
      ·rw [if_pos hjN] at hj
       injection hj with hj
       subst hj
       have hy:xss[j]?=some xss[j]:=List.getElem?_eq_getElem hjN
       obtain ⟨q1,q2⟩:=h10 j _ (by rw [bigE_get,hy]; rfl)
       obtain ⟨v,hv,ho,hc⟩:=q2 0 _ rfl
       rw [rowNm_hi tOut_lt] at hc
       by_cases hjA:j=A
       ·subst hjA
        rw [hA] at hy
        injection hy with hy
        refine ⟨by simp [elJ],λ i y hi=>?_⟩
        rw [elJ,if_pos rfl] at hi
        cases i with
        | succ i=>simp at hi
        | zero =>
         simp at hi; subst hi
         refine ⟨v,hv,ho,?_⟩
         rw [rowNm_hi tOut_lt]
         simp only [CV] at hc ⊢
         rw [hm2,hy]; exact hc
       ·obtain ⟨C,d,r1,r2,r3,r4⟩:=h.row hy
        simp only [CV] at hc
        obtain ⟨_,A1,q,c1,e1,e2,e3⟩:=hc
        rw [r1] at e1
        injection e1 with e1
        injection e1 with _ e1
        injection e1 with e1 e4 e5
        subst e1; subst e4; subst e5
        have hv2:=e3 rfl
        refine ⟨by rw [elJ,if_neg hjA]; exact phA_len m j,λ i y hi=>?_⟩
        rw [elJ,if_neg hjA] at hi
        refine ⟨v,?_,ho,?_⟩
        ·cases i with
         | zero=>exact hv
         | succ i=>have:=(List.getElem?_eq_some_iff.1 hi).1; rw [phA_len] at this; omega
        ·rw [rowNm_hi tOut_lt]
         rcases r4 with ⟨rfl,rfl⟩ | ⟨g',cur',fr',rfl,_⟩
         ·unfold phA at hi
          rw [r1] at hi
          simp only at hi
          cases i with
          | succ i=>simp at hi
          | zero =>
           simp at hi; subst hi
           simp only [CV]
           rw [hv2,Nat.le_zero.1 r2]
         ·unfold phA at hi
          rw [r1] at hi
          simp only at hi
          cases i with
          | succ i=>simp at hi
          | zero =>
           simp at hi; subst hi
           simp only [CV]
           refine ⟨g',0,?_,hv2,λ _=>rfl,r2,r3⟩
           rw [hm4 j hjN hjA,phM,r1]
           rfl
      ·rw [if_neg hjN] at hj; cases hj
    ·intro j i x y hj hi k hk
     rw [hel] at hj
     split at hj
     ·rename_i hjN
      injection hj with hj
      subst hj
      unfold elJ at hi
      split at hi
      ·cases i with
       | zero =>
        simp at hi; subst hi
        simp only [nn,Bool.not_eq_false'] at hk
        exact kpJ_in (.inl (Nat.eq_of_beq_eq_true hk).symm)
       | succ i=>simp at hi
      ·exact kpJ_in (.inr (by have:=phA_nn hi hk; omega))
     ·cases hj
   ·obtain ⟨B,c,h1,h2,h3,h4⟩:=h.row hA
    refine ⟨B,c,hm2.trans h1,h2,h3,?_⟩
    rcases h4 with h4 | ⟨g,cur,fr,rfl,h7,hfr,h8,h9,h10⟩
    ·exact .inl h4
    ·refine .inr ⟨g,cur,fr,rfl,h7,hfr,h8,h9,λ j x hj=>⟨(h10 j x hj).1,λ i y hi=>?_⟩⟩
     have:=(h10 j x hj).2 i y hi
     rw [rowNm_lo tInn_lt] at this ⊢
     exact this
  ·intro k k' b b' u u' g hk hk' hne hu hu' hg
   obtain ⟨e,b0,hb0⟩:=hphi hk
   obtain ⟨e',b0',hb0'⟩:=hphi hk'
   rw [e] at hu
   rw [e'] at hu'
   refine hR.inj _ _ b0 b0' u u' g hb0 hb0' (λ q=>hne ?_) hu hu' hg
   by_cases hk2:k=1002
   ·by_cases hk2':k'=1002
    ·rw [hk2,hk2']
    ·exfalso
     subst hk2
     rcases small_cases hk' with hk' | ⟨rfl,_⟩ | ⟨rfl,_⟩
     ·have:=(gH_get h.gh hk').1
      simp only [phi,if_true,if_neg hk2'] at q; omega
     ·simp [phi] at q; omega
     ·exact hk2' rfl
   ·by_cases hk2':k'=1002
    ·exfalso
     subst hk2'
     rcases small_cases hk with hk | ⟨rfl,_⟩ | ⟨rfl,_⟩
     ·have:=(gH_get h.gh hk).1
      simp only [phi,if_true,if_neg hk2] at q; omega
     ·simp [phi] at q; omega
     ·exact hk2 rfl
    ·simpa only [phi,if_neg hk2,if_neg hk2'] using q
  ·intro k u e
   have e:(if k=1002∨4000≤k then m1 k else none)=some u:=e
   split at e
   ·exact ⟨u,e,.refl u⟩
   ·cases e
  ·intro k u e
   have e:(if k=1002∨4000≤k then m1 k else none)=some u:=e
   split at e
   ·rename_i hk
    rcases hk with rfl | hk
    ·exact kpJ_mem (.inl rfl)
    ·refine kpJ_mem (.inr ⟨hk,?_⟩)
     have e:(if k=1002 then m (3000+A) else if 4000≤k then (if k - 4000 < xss.length∧k - 4000≠A then phM m (k - 4000) else none) else if k < 3000 then m k else none)=some u:=e
     rw [if_neg (by omega),if_pos hk] at e
     split at e
     ·omega
     ·cases e
   ·cases e
 ·intro sl' X' ys' els' a' w' S' m' hs' hX' hnil hln' hA' hoth hR'
  have hW:w.heap.size≤w'.heap.size:=hR'.size
  let m2:Nm:=λ k=>if k=3000+A then m' 1002 else if 3000≤k then m k else m' k
  have g1:∀ k,k < 3000->m2 k=m' k:=λ k hk=>by
   show (if k=3000+A then _ else if 3000≤k then _ else _)=_
   rw [if_neg (by omega),if_neg (by omega)]
  have g2:m2 (3000+A)=m' 1002:=if_pos rfl
  have g3:∀ j,j≠A->m2 (3000+j)=m (3000+j):=λ j hj=>by
   show (if 3000+j=3000+A then _ else if 3000≤3000+j then _ else _)=_
   rw [if_neg (by omega),if_pos (by omega)]
  have far:∀ {j y},j≠A->xss[j]?=some y->∀ {u g},m (3000+j)=some u->bk u=some g->g < w.heap.size∧¬ M1 g∧w'.heap[g]?=w.heap[g]?∧∀ o,S' g o=S g o:=λ {j y} hj hy {u g} hu hg=>by
   have h1:g < w.heap.size:=(hR.held _ _ (big_inn h.gh hy)).lt hu hg
   have h2:¬ M1 g:=λ q=>hM1j q hj hy hu hg
   exact ⟨h1,h2,hR'.frame g h1 h2,λ o=>hR'.pinNew g o h1 h2⟩
  have hxs:∀ {j y},(xss.set A ys')[j]?=some y->(j=A∧y=ys')∨(j≠A∧xss[j]?=some y):=λ {j y} hj=>by
   rw [List.getElem?_set] at hj
   by_cases e:A=j
   ·subst e
    rw [if_pos rfl,if_pos hAN] at hj
    injection hj with hj
    exact .inl ⟨rfl,hj.symm⟩
   ·rw [if_neg e] at hj
    exact .inr ⟨λ q=>e q.symm,hj⟩
  have hrow:=hR'.held _ _ (small_inn hX' els' ys')
  have cls:∀ {k b},lk (bigH X' (xss.set A ys')) k=some b->(∃ q c,lk (smallH X' els' ys') q=some c∧m2 k=m' q∧k=phi A q∧q < 3000)∨∃ j y,k=3000+j∧j≠A∧xss[j]?=some y∧m2 k=m k:=λ {k b} hk=>by
   rcases big_cases hk with hk | ⟨rfl,_⟩ | ⟨j,y,rfl,hj,_⟩
   ·have:=gH_get hX' hk
    exact .inl ⟨k,b,small_X hk,g1 k this.1,by unfold phi; rw [if_neg this.2.1],this.1⟩
   ·exact .inl ⟨1116,_,small_out hX' _ _,g1 _ (by omega),by unfold phi; rw [if_neg (by omega)],by omega⟩
   ·rcases hxs hj with ⟨rfl,rfl⟩ | ⟨hj,hy⟩
    ·exact .inl ⟨1002,_,small_inn hX' _ _,g2,by unfold phi; rw [if_pos rfl],by omega⟩
    ·exact .inr ⟨j,y,rfl,hj,hy,g3 j hj⟩
  refine ⟨m2,⟨{ defers:=hR'.defers,pin0:=hR.pin0.trans hR'.pin0,pinNew:=?_,agree:=hR'.agree,tmps:=λ t=>get_gd hs' (λ k hk _=>g1 k hk) (hR'.tmps t),held:=?_,inj:=?_,own:=?_,os:=hR'.os.trans hR.os,tape:=hR'.tape.trans hR.tape,output:=hR'.output.trans hR.output,size:=Nat.le_trans hR.size hW,frame:=?_,m0:=λ k u e=>absurd (hR.keep k u e) (by simp),keep:=hR.keep },?_,hs',hX'⟩⟩
  ·intro b o hb hn
   have h2:¬ M1 b:=λ q=>by
    rcases hM1 q with q | q
    ·omega
    ·exact hn q
   exact (hR'.pinNew b o (Nat.lt_of_lt_of_le hb hR.size) h2).trans (hR.pinNew b o hb hn)
  ·intro k b hk
   rcases big_cases hk with hk | ⟨rfl,rfl⟩ | ⟨j,y,rfl,hj,rfl⟩
   ·have:=gH_get hX' hk
    exact held_gd this.2.2.2 this.1 this.2.1 (λ k hk _=>g1 k hk) (hR'.held _ _ (small_X hk))
   ·obtain ⟨⟨B,c,h1,h2,h3,h4⟩,_⟩:=hR'.held _ _ (small_out hX' els' ys')
    have hl:(bigE 3000 (xss.set A ys')).length=els'.length:=by rw [bigE_len,List.length_set,hln',hln]
    refine ⟨B,c,by rw [g1 _ (by omega),h1,hl],by rw [hl]; exact h2,h3,?_⟩
    rcases h4 with h4 | ⟨g,cur,fr,rfl,h7,hfr,h8,h9,h10⟩
    ·exact .inl h4
    ·refine .inr ⟨g,cur,fr,rfl,h7,hfr,h8,h9,λ j x hj=>?_⟩
     rw [bigE_get] at hj
     cases hy:(xss.set A ys')[j]? with
     | none=>rw [hy] at hj; cases hj
     | some y =>
      rw [hy] at hj
      simp only [Option.map_some,Option.some.injEq] at hj
      subst hj
      refine ⟨rfl,λ i z hi=>?_⟩
      cases i with
      | succ i=>simp at hi
      | zero =>
       simp at hi; subst hi
       rcases hxs hy with ⟨rfl,rfl⟩ | ⟨hj,hy⟩
       ·obtain ⟨q1,q2⟩:=h10 j _ hA'
        obtain ⟨v,hv,ho,hc⟩:=q2 0 _ rfl
        refine ⟨v,hv,ho,?_⟩
        rw [rowNm_hi tOut_lt] at hc ⊢
        simp only [CV] at hc ⊢
        rw [g2]; exact hc
       ·have hjN:j < xss.length:=(List.getElem?_eq_some_iff.1 hy).1
        have e1:els'[j]?=some (phA m j):=by
         rw [hoth j hj,hel,if_pos hjN,elJ,if_neg hj]
        obtain ⟨C,d,r1,r2,r3,r4⟩:=h.row hy
        rcases r4 with ⟨rfl,rfl⟩ | ⟨g',cur',fr',rfl,r5⟩
        ·have e2:phA m j=[.nils]:=by unfold phA; rw [r1]; rfl
         rw [e2] at e1
         obtain ⟨q1,q2⟩:=h10 j _ e1
         obtain ⟨v,hv,ho,hc⟩:=q2 0 _ rfl
         refine ⟨v,hv,ho,?_⟩
         rw [rowNm_hi tOut_lt] at hc ⊢
         simp only [CV] at hc ⊢
         subst hc
         have hy0:y.length=0:=Nat.le_zero.1 r2
         rw [hy0,g3 j hj,r1,hy0]
         exact ⟨⟨none,0,rfl,Nat.le_refl _,r3,λ _=>rfl,λ a ha=>by cases ha⟩,none,0,0,rfl,Nat.le_refl _,λ _=>rfl⟩
        ·have e2:phA m j=[.ms (4000+j) 0 y.length d 1]:=by unfold phA; rw [r1]; rfl
         rw [e2] at e1
         obtain ⟨q1,q2⟩:=h10 j _ e1
         obtain ⟨v,hv,ho,hc⟩:=q2 0 _ rfl
         refine ⟨v,hv,ho,?_⟩
         rw [rowNm_hi tOut_lt] at hc ⊢
         simp only [CV] at hc ⊢
         obtain ⟨g2',o,k1,k2,k3,k4,k5⟩:=hc
         have hm40:m0 (4000+j)=some (.pointer (some ⟨g',0,none⟩)):=by
          show (if 4000+j=1002∨4000≤4000+j then m1 (4000+j) else none)=_
          rw [if_pos (.inr (by omega)),hm4 j hjN hj,phM,r1]
          rfl
         obtain ⟨u',hu',hgo⟩:=hR'.m0 _ _ hm40
         rw [hgo.ptr] at hu'
         rw [k1] at hu'
         injection hu' with hu'
         injection hu' with hu'
         injection hu' with hu'
         injection hu' with hu'
         subst hu'
         have hd:d≠0:=λ e=>by
          have hy0:y=[]:=List.eq_nil_of_length_eq_zero (by omega)
          rw [hy0] at hy
          have:=h.nil j hy
          rw [r1] at this
          injection this with this
          injection this with _ this
          injection this with this
          cases this
         have ho:=k3 hd
         subst ho
         subst k2
         rw [g3 j hj,r1]
         exact ⟨⟨_,d,rfl,k4,k5,(λ q=>by cases q),λ a ha=>⟨g2',(Option.some.inj ha).symm⟩⟩,_,_,_,rfl,Nat.le_refl _,λ _=>rfl⟩
   ·rcases hxs hj with ⟨rfl,rfl⟩ | ⟨hj,hy⟩
    ·obtain ⟨B,c,h1,h2,h3,h4⟩:=hrow
     refine ⟨B,c,g2.trans h1,h2,h3,?_⟩
     rcases h4 with h4 | ⟨g,cur,fr,rfl,h7,hfr,h8,h9,h10⟩
     ·exact .inl h4
     ·refine .inr ⟨g,cur,fr,rfl,h7,hfr,h8,h9,λ j x hj=>⟨(h10 j x hj).1,λ i y hi=>?_⟩⟩
      have:=(h10 j x hj).2 i y hi
      rw [rowNm_lo tInn_lt] at this ⊢
      exact this
    ·have hh:=hR.held _ _ (big_inn h.gh hy)
     refine hh.keep hR'.pin0 (λ cs vs hi _=>?_) (g3 j hj) (λ u g hu hg=>⟨(far hj hy hu hg).2.2.1,(far hj hy hu hg).2.2.2⟩)
     exact absurd hi.1 (by have:=tInn_lt; omega)
  ·intro k k' b b' u u' g hk hk' hne hu hu' hg hg'
   rcases cls hk with ⟨q,c,hq,e,ek,eq3⟩ | ⟨j,y,rfl,hj,hy,e⟩
   ·rcases cls hk' with ⟨q',c',hq',e',ek',eq3'⟩ | ⟨j',y',rfl,hj',hy',e'⟩
    ·rw [e] at hu
     rw [e'] at hu'
     exact hR'.inj q q' c c' u u' g hq hq' (λ z=>hne (by rw [ek,ek',z])) hu hu' hg hg'
    ·rw [e] at hu
     rw [e'] at hu'
     obtain ⟨f1,f2,_⟩:=far hj' hy' hu' hg'
     rcases hR'.own q c u g hq hu hg with z | z
     ·exact absurd z (Nat.not_le.2 f1)
     ·exact f2 z
   ·rcases cls hk' with ⟨q',c',hq',e',ek',eq3'⟩ | ⟨j',y',rfl,hj',hy',e'⟩
    ·rw [e] at hu
     rw [e'] at hu'
     obtain ⟨f1,f2,_⟩:=far hj hy hu hg
     rcases hR'.own q' c' u' g hq' hu' hg' with z | z
     ·exact absurd z (Nat.not_le.2 f1)
     ·exact f2 z
    ·rw [e] at hu
     rw [e'] at hu'
     exact hR.inj _ _ _ _ u u' g (big_inn h.gh hy) (big_inn h.gh hy') hne hu hu' hg hg'
  ·intro k b u g hk hu hg
   rcases cls hk with ⟨q,c,hq,e,ek,eq3⟩ | ⟨j,y,rfl,hj,hy,e⟩
   ·rw [e] at hu
    rcases hR'.own q c u g hq hu hg with z | z
    ·exact .inl (Nat.le_trans hR.size z)
    ·exact hM1 z
   ·rw [e] at hu
    exact hR.own _ _ u g (big_inn h.gh hy) hu hg
  ·intro b hb hn
   have h2:¬ M1 b:=λ q=>by
    rcases hM1 q with q | q
    ·omega
    ·exact hn q
   exact (hR'.frame b (Nat.lt_of_lt_of_le hb hR.size) h2).trans (hR.frame b hb hn)
  ·intro j hj
   rcases hxs hj with ⟨rfl,e⟩ | ⟨hj,hy⟩
   ·rw [g2]
    have hy0:=hnil e.symm
    subst hy0
    have hn:=h.nil j hA
    have h0:m0 1002=some (.iface 0 (.slice none 0 0)):=by
     show (if 1002=1002∨4000≤1002 then m1 1002 else none)=_
     rw [if_pos (.inl rfl),hm2,hn]
    obtain ⟨u',hu',hgo⟩:=hR'.m0 1002 _ h0
    obtain ⟨B,c,h1,_⟩:=hrow
    rw [← e] at h1
    rcases hgo.row with rfl | ⟨A',n',c',rfl,hlt⟩
    ·exact hu'
    ·rw [hu'] at h1
     injection h1 with h1
     injection h1 with _ h1
     injection h1 with _ h1
     simp only [List.length_nil] at h1
     omega
   ·rw [g3 j hj]; exact h.nil j hy
theorem jag_close (h:JS G sl X xss a w S m):∃ S',Rel G [] ⟨sl,X++[(1116,.row tOut 1 (xss.map λ ys=>[AV.sl 1 false ys]))]⟩ a w S' m:=by
 classical
 have hR:=h.rel
 let P:Nat->Nat->Prop:=λ b o=>∃ j y c,xss[j]?=some y∧m (3000+j)=some (.iface 0 (.slice (some ⟨b,0,none⟩) y.length c))∧o < y.length
 let S':Pin:=λ b o=>if P b o then w.cell? ⟨b,o,none⟩ else S b o
 have hP:∀ {b o},P b o->S' b o=w.cell? ⟨b,o,none⟩:=λ q=>if_pos q
 have hnP:∀ {b o},¬ P b o->S' b o=S b o:=λ q=>if_neg q
 have hx:∀ {k b},lk X k=some b->lk (X++[(1116,Blk.row tOut 1 (xss.map λ ys=>[AV.sl 1 false ys]))]) k=some b:=λ h=>by simp only [lk_app,h]
 have hcs:∀ {k b},lk (X++[(1116,Blk.row tOut 1 (xss.map λ ys=>[AV.sl 1 false ys]))]) k=some b->lk X k=some b∨(k=1116∧b=.row tOut 1 (xss.map λ ys=>[AV.sl 1 false ys])):=λ {k b} hk=>by
  simp only [lk_app] at hk
  cases e:lk X k with
  | some c=>rw [e] at hk; exact .inl hk
  | none =>
   rw [e] at hk
   simp only [lk] at hk
   by_cases h1:1116=k
   ·subst h1
    rw [nbeq_self] at hk
    simp only [cond_true,Option.some.injEq] at hk
    exact .inr ⟨rfl,hk.symm⟩
   ·rw [nbeq_ne h1] at hk; cases hk
 have hbig:∀ {k b},lk (X++[(1116,Blk.row tOut 1 (xss.map λ ys=>[AV.sl 1 false ys]))]) k=some b->k < 3000∧∃ c,lk (bigH X xss) k=some c:=λ hk=>by
  rcases hcs hk with hk | ⟨rfl,_⟩
  ·exact ⟨(gH_get h.gh hk).1,_,big_X hk⟩
  ·exact ⟨by omega,_,big_out h.gh xss⟩
 have row:∀ {j y},xss[j]?=some y->∃ B c vals,m (3000+j)=some (.iface 0 (.slice B y.length c))∧y.length≤c∧c≤maxLen∧(∀ z ∈ y,z.length=1)∧(B=none∧c=0∨∃ g,B=some ⟨g,0,none⟩∧∀ o,S g o=none)∧vals.length=y.length∧CVl S y.flatten noNm vals∧(∀ v ∈ vals,v.oneCell'=true)∧∀ g,B=some ⟨g,0,none⟩->∀ (o:Nat) (v:Value),vals[o]?=some v->w.cell? ⟨g,o,none⟩=some v:=λ {j y} hj=>by
  have hh:Held S m w (3000+j) (.row tInn 1 y):=h.row hj
  obtain ⟨B,c,h1,h2,h3,h4,h5,vals,h6,h7,h8,_,h9⟩:=hh.vals
  rw [rowNm_lo tInn_lt] at h7
  refine ⟨B,c,vals,h1,h2,h3,h4,?_,by omega,h7,h8,h9⟩
  rcases h5 with h5 | ⟨g,_,_,e,_,_,_,e2⟩
  ·exact .inl h5
  ·exact .inr ⟨g,e,e2⟩
 have Pno:∀ {b o},P b o->∀ o',S b o'=none:=λ {b o} ⟨j,y,c,h1,h2,h3⟩ o'=>by
  obtain ⟨B,d,vals,r1,_,_,_,r5,_⟩:=row h1
  rw [h2] at r1
  injection r1 with r1
  injection r1 with _ r1
  injection r1 with r1
  subst r1
  rcases r5 with ⟨e,_⟩ | ⟨g,e,e2⟩
  ·cases e
  ·injection e with e
   injection e with e
   subst e
   exact e2 o'
 have Pcell:∀ {b o},P b o->∃ v,w.cell? ⟨b,o,none⟩=some v∧v.oneCell'=true:=λ {b o} ⟨j,y,c,h1,h2,h3⟩=>by
  obtain ⟨B,d,vals,r1,_,_,_,r5,r6,r7,r8,r9⟩:=row h1
  rw [h2] at r1
  injection r1 with r1
  injection r1 with _ r1
  injection r1 with r1
  subst r1
  have hl:o < vals.length:=by omega
  exact ⟨vals[o],r9 b rfl o _ (List.getElem?_eq_getElem hl),r8 _ (List.getElem_mem hl)⟩
 have Pown:∀ {b o},P b o->∀ {k c u},k < 3000->lk (bigH X xss) k=some c->m k=some u->bk u=some b->False:=λ {b o} ⟨j,y,c,h1,h2,h3⟩ {k d u} hk hc hu hb =>
  hR.inj k (3000+j) d _ u _ b hc (big_inn h.gh h1) (by omega) hu h2 hb rfl
 have hS:Ext S S':=λ b o v e=>by
  by_cases q:P b o
  ·rw [Pno q] at e; cases e
  ·rw [hnP q]; exact e
 have hkeep:∀ {k c u g},k < 3000->lk (bigH X xss) k=some c->m k=some u->bk u=some g->∀ o,S' g o=S g o:=λ hk hc hu hg o=>hnP λ q=>Pown q hk hc hu hg
 refine ⟨S',{ hR with defers:=hR.defers,pin0:=hR.pin0.trans hS,pinNew:=?_,agree:=?_,tmps:=λ t=>((show CV S (St.get ⟨sl,X++[(1116,.row tOut 1 (xss.map λ ys=>[AV.sl 1 false ys]))]⟩ t) m _ from get_gd h.gs (λ _ _ _=>rfl) (hR.tmps t)):CV S _ m _).ext hS (MLe.refl m),held:=?_,inj:=?_,own:=?_,keep:=hR.keep }⟩
 ·intro b o hb hn
  rw [hnP]
  ·exact hR.pinNew b o hb hn
  ·rintro ⟨j,y,c,h1,h2,h3⟩
   rcases hR.own _ _ _ b (big_inn h.gh h1) h2 rfl with q | q
   ·omega
   ·exact hn q
 ·intro b o v e
  by_cases q:P b o
  ·rw [hP q] at e
   obtain ⟨v',h1,h2⟩:=Pcell q
   rw [e] at h1
   injection h1 with h1
   subst h1
   exact ⟨e,h2⟩
  ·rw [hnP q] at e; exact hR.agree b o v e
 ·intro k b hk
  rcases hcs hk with hk | ⟨rfl,rfl⟩
  ·have hg:=gH_get h.gh hk
   exact (hR.held _ _ (big_X hk)).keep hS (λ cs vs _ hv=>hv.ext hS (MLe.refl m)) rfl (λ u g hu hgk=>⟨rfl,hkeep hg.1 (big_X hk) hu hgk⟩)
  ·obtain ⟨B,c,h1,h2,h3,h4⟩:=hR.held _ _ (big_out h.gh xss)
   rw [bigE_len] at h1 h2
   refine ⟨B,c,by rw [List.length_map]; exact h1,by rw [List.length_map]; exact h2,h3,?_⟩
   rcases h4 with h4 | ⟨g,cur,fr,rfl,h7,hfr,h8,h9,h10⟩
   ·exact .inl h4
   ·refine .inr ⟨g,cur,fr,rfl,h7,.inl (RowMk.op hfr),h8,λ o=>(hkeep (by omega) (big_out h.gh xss) h1 rfl o).trans (h9 o),λ j x hj=>?_⟩
    rw [List.getElem?_map] at hj
    cases hy:xss[j]? with
    | none=>rw [hy] at hj; cases hj
    | some y =>
     rw [hy] at hj
     simp only [Option.map_some,Option.some.injEq] at hj
     subst hj
     refine ⟨rfl,λ i z hi=>?_⟩
     cases i with
     | succ i=>simp at hi
     | zero =>
      simp at hi; subst hi
      obtain ⟨q1,q2⟩:=h10 j _ (by rw [bigE_get,hy]; rfl)
      obtain ⟨v,hv,ho,hc⟩:=q2 0 _ rfl
      refine ⟨v,hv,ho,?_⟩
      rw [rowNm_hi tOut_lt] at hc
      rw [rowNm_lo (by decide)]
      simp only [CV] at hc ⊢
      obtain ⟨⟨A0,c0,_,_,_,_,_⟩,A1,q,c1,e1,e2,e3⟩:=hc
      obtain ⟨C,d,vals,r1,r2,r3,r4,r5,r6,r7,r8,r9⟩:=row hy
      rw [r1] at e1
      injection e1 with e1
      injection e1 with _ e1
      injection e1 with e1 e4 e5
      subst e1; subst e4; subst e5
      refine ⟨C,d,e3 rfl,r2,r3,(λ q=>by cases q),?_,?_⟩
      ·rintro rfl
       rcases r5 with ⟨_,e⟩ | ⟨g',e,_⟩
       ·exact e
       ·cases e
      ·intro ad had
       subst had
       rcases r5 with ⟨e,_⟩ | ⟨g',e,e2⟩
       ·cases e
       ·injection e with e
        subst e
        refine ⟨λ _=>rfl,CE.mk λ i x hi=>⟨r4 x (List.mem_of_getElem? hi),CC.mk λ l z hz=>?_⟩⟩
        obtain ⟨u,hu,hcv⟩:=r7.get (flat_get r4 hi hz)
        have hlt:i*1+l < vals.length:=(List.getElem?_eq_some_iff.1 hu).1
        refine ⟨u,?_,hcv.ext hS (MLe.refl _)⟩
        rw [show (0:Nat)+i*1+l=i*1+l by omega,hP ⟨j,y,d,hy,r1,by omega⟩]
        exact r9 g' rfl _ u hu
 ·intro k k' b b' u u' g hk hk' hne hu hu' hg hg'
  obtain ⟨_,c,hc⟩:=hbig hk
  obtain ⟨_,c',hc'⟩:=hbig hk'
  exact hR.inj k k' c c' u u' g hc hc' hne hu hu' hg hg'
 ·intro k b u g hk hu hg
  obtain ⟨_,c,hc⟩:=hbig hk
  exact hR.own k c u g hc hu hg
end
end Go.Proofs.YtgbbmadjdaphnaaGreatDoor
namespace Go.Proofs.YtgbbmadjdaphnaaGreatDoor
open Go Go.Sort
def intsL (zs:List Int):LL:=zs.map λ z=>[.int .i64 z]
def ungI (ys:LL):List Int:=ys.map λ r=>nI r 0
@[irreducible] def sortI (ys:LL):LL:=intsL ((ungI ys).mergeSort λ x y=>decide (x≤y))
theorem sortI_eq (ys:LL):sortI ys=intsL ((ungI ys).mergeSort λ x y=>decide (x≤y)):=by unfold sortI; rfl
theorem sortI_len (ys:LL):(sortI ys).length=ys.length:=by
 rw [sortI_eq]; simp [intsL,ungI,List.length_mergeSort]
theorem sortI_nil:sortI []=[]:=List.eq_nil_of_length_eq_zero (sortI_len [])
theorem ok1 {r:List AV} (h:okR 1 r=true):r=[.int .i64 (nI r 0)]∧-1000000≤nI r 0∧nI r 0≤1000000:=by
 have hl:r.length=1:=by have:=encR_len (⟨r,h⟩:RwT 1); simpa [encR] using this
 match r,hl with
 | [a],_ =>
  have:=okR_at h (i:=0) rfl
  exact ⟨congrArg (λ x=>[x]) this.2.1,this.2.2⟩
structure IntR (ys:LL) (n:Nat):Prop where
 ok:∀ r ∈ ys,okR 1 r=true
 le:ys.length≤1000000
 eq:n=ys.length
def srtI_s:SpH
 | [.rw 0 1 n],[.row 3 1 ys]=>some (IntR ys n,.tup [],[.row 3 1 (sortI ys)])
 | _,_=>none
theorem sortI_hc {gl:Glob} {ys:LL} (hx:∀ r ∈ ys,okR 1 r=true) (hlen:ys.length≤1000000):HC Tryz.prog gl 93 [.rw 0 1 ys.length] [.row 3 1 ys] (.tup []) [.row 3 1 (sortI ys)]:=by
 intro w S m vs hG hA hnm hheld hinj hv
 obtain ⟨L0,hL0⟩:∃ L0:List Value,L0=vs.toList:=⟨_,rfl⟩
 rw [← hL0] at hv
 simp only [CVl] at hv
 obtain ⟨v0,l1,e0,hv0,rfl⟩:=hv
 simp only [CV] at hv0
 have hvs:vs=#[v0]:=by rw [← Array.toArray_toList (xs:=vs),← hL0,e0]
 subst hvs
 obtain ⟨A,c,a1,a2,a3,a4⟩:=hheld 0 _ rfl
 obtain ⟨_,A2,q2,c2,h1,h2,h3⟩:=hv0
 rw [a1] at h1
 simp only [Option.some.injEq,Value.iface.injEq,Value.slice.injEq,true_and] at h1
 obtain ⟨rfl,rfl,rfl⟩:=h1
 have hv0:=h3 rfl
 subst hv0
 by_cases hne:ys=[]
 ·subst hne
  refine (sortI_none A c w).mono ?_
  rintro e w' ⟨rfl,rfl⟩
  refine ⟨.tuple #[],S,m,rfl,rfl,rfl,rfl,Nat.le_refl _,Ext.refl S,λ _ _ _=>⟨rfl,λ _=>rfl⟩,hA,?_,hinj,λ q u g' hq hu hg=>.inr ⟨q,u,hq,hu,hg⟩,MLe.refl m,by simp only [CV,CVl]; exact ⟨#[],rfl,rfl⟩⟩
  intro q bb hq
  cases q with
  | succ q=>simp at hq
  | zero =>
   simp only [List.getElem?_cons_zero,Option.some.injEq] at hq
   subst hq
   rw [sortI_nil]
   exact hheld 0 _ rfl
 have hl0:0 < ys.length:=by cases ys with | nil=>exact absurd rfl hne | cons _ _=>simp
 rcases a4 with ⟨_,rfl⟩ | ⟨b,cur,fr,rfl,b1,b2,b3,b4,b5⟩
 ·omega
 have hfr:=RowMk.lt b2 (by decide)
 subst hfr
 rw [rowTy_lt (by decide)] at b1
 have hul:(ungI ys).length=ys.length:=by simp [ungI]
 have huj:∀ (j:Nat) (hj:j < ys.length),(ungI ys)[j]'(by omega)=nI ys[j] 0:=λ j hj=>by simp [ungI]
 have hH:Holds (Value.int .i64) w b 0 (ungI ys).toArray:=by
  intro j hj
  have hj:j < ys.length:=by simpa [hul] using hj
  obtain ⟨r1,r2⟩:=b5 j _ (List.getElem?_eq_getElem hj)
  obtain ⟨e1,e2⟩:=ok1 (hx _ (List.getElem_mem hj))
  obtain ⟨v,hv1,hv2,hv3⟩:=r2 0 (.int .i64 (nI ys[j] 0)) (by rw [← List.head?_eq_getElem?,e1]; rfl)
  refine ⟨?_,by simp [World.frozen?,b1]⟩
  simp only [World.cell?,b1,Nat.zero_add]
  simp only [CV] at hv3
  rw [Nat.mul_one,Nat.add_zero] at hv1
  rw [hv1,hv3.1]
  congr 2
  simp [huj j hj]
  rw [List.getElem?_eq_getElem (by omega),Option.getD_some,huj j hj]
 have hblk:b < w.heap.size:=(Array.getElem?_eq_some_iff.1 b1).1
 have hcon:=sortI_any b 0 c (ungI ys) w hH hblk (by omega)
 rw [hul] at hcon
 refine hcon.mono ?_
 rintro e w' ⟨rfl,nn,os,rfl⟩
 obtain ⟨D,hD⟩:∃ D,D=((ungI ys).mergeSort λ x y=>decide (x≤y)):=⟨_,rfl⟩
 have hsr:sortI ys=intsL D:=by rw [sortI_eq,hD]
 have hDs:D.length=ys.length:=by rw [hD,List.length_mergeSort,hul]
 have hDm:∀ z ∈ D,-1000000≤z∧z≤1000000:=λ z hz=>by
  rw [hD,(List.mergeSort_perm _ _).mem_iff] at hz
  simp only [ungI,List.mem_map] at hz
  obtain ⟨r,hr,rfl⟩:=hz
  exact (ok1 (hx r hr)).2
 rw [← hD]
 have heap:∀ i,i < w.heap.size->(grow (putRow (Value.int .i64) (Sort.ahead w nn) b 0 D.toArray) os).heap[i]?=if b=i then some (.cells (putCells (Value.int .i64) 0 D.toArray cur) 3 (0,0)) else w.heap[i]?:=by
  intro i hi
  unfold putRow mapBlock grow Sort.ahead
  simp only
  rw [Array.getElem?_append_left (by simpa using hi),Array.getElem?_modify]
  by_cases h:b=i
  ·subst h
   rw [if_pos rfl,if_pos rfl,b1]; rfl
  ·rw [if_neg h,if_neg h]
 have hMb:Mof 1 m b:=⟨0,_,by decide,a1,rfl⟩
 refine ⟨.tuple #[],S,m,rfl,rfl,rfl,rfl,?_,Ext.refl S,?_,?_,?_,hinj,?_,MLe.refl m,?_⟩
 ·unfold putRow mapBlock grow Sort.ahead
  simp
 ·intro i hi hn
  refine ⟨?_,λ _=>rfl⟩
  rw [heap i hi,if_neg (λ e:b=i=>hn (by subst e; exact hMb))]
 ·intro i o v e
  obtain ⟨h1,h2⟩:=hA i o v e
  refine ⟨?_,h2⟩
  have hi:i < w.heap.size:=hA.lt e
  have hne:b≠i:=λ q=>by subst q; rw [b4 o] at e; cases e
  simp only [World.cell?] at h1 ⊢
  rw [heap i hi,if_neg hne]; exact h1
 ·intro q bb hq
  cases q with
  | succ q=>simp at hq
  | zero =>
   simp only [List.getElem?_cons_zero,Option.some.injEq] at hq
   subst hq
   have hyl:=sortI_len ys
   refine ⟨some ⟨b,0,none⟩,c,by rw [hyl]; exact a1,by omega,a3,.inr ⟨b,putCells (Value.int .i64) 0 D.toArray cur,(0,0),rfl,?_,RowMk.none,?_,b4,?_⟩⟩
   ·rw [heap b hblk,if_pos rfl,rowTy_lt (by decide)]
   ·unfold putCells
    simp [b3]
   ·intro j x hj
    rw [hsr] at hj
    simp only [intsL,List.getElem?_map] at hj
    cases hjD:D[j]? with
    | none=>rw [hjD] at hj; cases hj
    | some z =>
     rw [hjD] at hj
     simp only [Option.map_some,Option.some.injEq] at hj
     subst hj
     have hjl:j < D.length:=(List.getElem?_eq_some_iff.1 hjD).1
     refine ⟨rfl,λ i y hi=>?_⟩
     cases i with
     | succ i=>simp at hi
     | zero =>
      simp at hi; subst hi
      refine ⟨.int .i64 z,?_,rfl,?_⟩
      ·unfold putCells
       rw [Nat.mul_one,Nat.add_zero,Array.getElem?_mapIdx,Array.getElem?_eq_getElem (by omega),Option.map_some]
       rw [if_pos ⟨Nat.zero_le _,by simp; omega⟩,Nat.sub_zero]
       congr 2
       rw [getElem!_pos _ j (by simpa using hjl)]
       simpa using (List.getElem?_eq_some_iff.1 hjD).2
      ·have hb:=hDm z (List.mem_of_getElem? hjD)
       simp only [CV]
       exact ⟨trivial,by show _∧_; omega⟩
 ·intro q u g' hq hu hg
  exact .inr ⟨q,u,hq,hu,hg⟩
 ·simp only [CV,CVl]; exact ⟨#[],rfl,rfl⟩
theorem srtI_ok (gl:Glob):HOK Tryz.prog gl 93 srtI_s:=by
 refine ⟨fok Tryz.func93 (by kernel_rfl) (by kernel_rfl),?_⟩
 intro xs bs pre r bs2 h hp
 unfold srtI_s at h
 split at h
 ·cases h
  obtain ⟨o1,o2,rfl⟩:=hp
  exact sortI_hc o1 o2
 ·cases h
end Go.Proofs.YtgbbmadjdaphnaaGreatDoor
namespace Go.Proofs.YtgbbmadjdaphnaaGreatDoor
open Go
def regC (i:Nat):Code->Code
 | .region id ops d=>cond (Nat.beq id i) (.region id ops d) .skip
 | .seq a b=>(match regC i a with | .skip=>regC i b | c=>c)
 | .cond _ x y=>(match regC i x with | .skip=>regC i y | c=>c)
 | .block _ b=>regC i b
 | .loop b=>regC i b
 | _=>.skip
def netJ (n h:Int) (nd cs es:LL) (N:Nat):List AV:=[.int .i64 n,.int .i64 h,.sl 4 false nd,.mpv 2014,.sl 3 false cs,.sl 2 false es,.rw 1116 1 N]
def xJ (n h:Int) (nd cs es:LL) (l:List (Int × AV)) (N:Nat):List (Nat × Blk):=[(1014,.cells (netJ n h nd cs es N)),(2014,.mp 27 3 l)]
def xK (n h:Int) (nd cs es:LL) (l:List (Int × AV)) (N:Nat) (p q:Int):List (Nat × Blk):=[(1014,.cells (netJ n h nd cs es N)),(2014,.mp 27 3 l),(1010,.cells [.int .i64 p,.int .i64 q])]
def sJ (es:LL) (i:Int):List (Nat × AV):=[(3,.ptr 1014 0),(122,.sl 2 false es),(123,.int .i64 es.length),(124,.int .i64 i)]
def sK (es:LL) (i:Int):List (Nat × AV):=[(3,.ptr 1014 0),(122,.sl 2 false es),(123,.int .i64 es.length),(124,.int .i64 i),(10,.ptr 1010 0)]
def sL (N:Nat) (i:Int):List (Nat × AV):=[(3,.ptr 1014 0),(170,.rw 1116 1 N),(171,.int .i64 N),(172,.int .i64 i)]
structure EdX (es:LL) (i p q:Int):Prop where
 lo:0≤i
 hi:i < es.length
 le:es.length≤10000
 at_:es.getD i.toNat []=[.int .i64 p,.int .i64 q]
structure JgP (N A:Nat) (p:Int) (els ys:LL):Prop where
 hp:p=A
 hA:A < N
 hN:N=els.length
 h2:N≤200
 ha:els[A]?=some [.rw 1002 1 ys.length]
 hy:ys.length≤10000
abbrev wrJ (A:Nat) (k:Nat) (els:LL):LL:=setEl els A 0 [.rw 1002 1 k]
noncomputable def bldB:Code:=bodyC Tryz.f43
def CJ:Cx:={ nt:=180,drop:=drp [(1,24576),(4,131072),(6,786432),(7,6291456),(9,125829120),(10,805306368),(11,72057592964186112),(12,144115188075855872),(13,4323455642275676160),(14,64563604257983430656),(16,3541774862152233910272),(17,79228157791897854723898736640),(18,79228162514264337593543950336),(19,2376844875427930127806318510080),(20,1293003612232793989526637269483520),(21,663315923677824229544770906057867264),(22,4652297985247205555163324710981206016),(24,255211775190703847597530955573826158592),(25,178405621305878064193822282806579460279631872),(26,93535926383216198520050697008095932071087634907136),(27,93536104789177786765035829293842113257979682750464),(28,1309505467048489014710501610113789585611715558506496),(30,71835728478088540235547516897670742982128396352356352),(31,95780971304118053647396689196894323976171195136475136),(32,383123885216472214589586756787577295904684780545900544),(33,766247770432944429179173513575154591809369561091801088)],fr:=1000,kp:=kpJ }
def EJ (sh:List Nat) (sz:List (Nat × List Nat)):Env:={ glob:=glb,spec:=lk [],specH:=lk [],nowf:=true,shape:=sh,slz:=sz }
def EI (sh:List Nat) (sz:List (Nat × List Nat)):Env:={ glob:=glb,spec:=lk [],specH:=lk [(93,srtI_s)],nowf:=true,shape:=sh,slz:=sz }
@[irreducible] def acX (P:Program) (E:Env) (C:Cx) (inv:Nat->St->Option LInv) (fuel:Nat) (c:Code) (st:St) (kn:St->Prop) (ke:Nat->St->Prop) (kr:St->Prop):Prop:=acode P E C inv fuel c st kn ke kr
def j23_T:Prop :=
 ∀ (n h i:Int) (nd cs es els ys:LL) (l:List (Int × AV)) (N:Nat),0≤i∧i≤(20000:Int)->(decide (i < (↑es.length:Int))=decide (i < (↑es.length:Int))∧(0:Nat)=(0:Nat)∧(True∧es=es)∧(↑es.length:Int)=(↑es.length:Int)∧i=i∧True)∧(n=n∧h=h∧(True∧nd=nd)∧True∧(True∧cs=cs)∧(True∧es=es)∧N=N∧True)∧l=l∧els=els∧ys=ys∧True
theorem j23_P:j23_T:=by
 unfold j23_T
 intros; (repeat' (first | exact trivial | exact rfl | assumption | apply And.intro))
def j23_S:Prop:=∀ (n h i:Int) (nd cs es els ys:LL) (l:List (Int × AV)) (N:Nat),0≤i∧i≤20000->acX Tryz.prog (EJ [] []) CJ (λ _ _=>none) 6 (regC 23 bldB) ⟨sJ es i,smallH (xJ n h nd cs es l N) els ys⟩ (λ st=>leS st ⟨(125,.bool (decide (i < es.length)))::sJ es i,smallH (xJ n h nd cs es l N) els ys⟩) (λ _ _=>False) (λ _=>False)
theorem j23_e:j23_T=j23_S:=by kernel_rfl
theorem j23:j23_S:=@Eq.mp (j23_T) (j23_S) (j23_e) (j23_P)
def j24_T:Prop :=
 ∀ (n h i p q:Int) (nd cs es els ys:LL) (l:List (Int × AV)) (N:Nat),EdX es i p q->bif decide (0≤i∧i < (↑es.length:Int)) then ∃ n_1 n_2,List.take [AV.int IntKind.i64 n_1,AV.int IntKind.i64 n_2].length (es.getD i.toNat [])=[AV.int IntKind.i64 n_1,AV.int IntKind.i64 n_2]∧((0:Nat)=(0:Nat)∧(True∧es=es)∧(↑es.length:Int)=(↑es.length:Int)∧i=i∧(0:Nat)=(0:Nat)∧True)∧(n=n∧h=h∧(True∧nd=nd)∧True∧(True∧cs=cs)∧(True∧es=es)∧N=N∧True)∧l=l∧(n_1=p∧n_2=q∧True)∧els=els∧ys=ys∧True else False
theorem j24_P:j24_T:=by
 unfold j24_T
 intro n h i p q nd cs es els ys l N hp
 refine cd1 ⟨hp.lo,hp.hi⟩ ⟨p,q,by rw [hp.at_]; rfl,by repeat' first|exact trivial|exact rfl|assumption|apply And.intro⟩
def j24_S:Prop:=∀ (n h i p q:Int) (nd cs es els ys:LL) (l:List (Int × AV)) (N:Nat),EdX es i p q->acX Tryz.prog (EJ [127] []) CJ (λ _ _=>none) 6 (regC 24 bldB) ⟨(125,.bool true)::sJ es i,smallH (xJ n h nd cs es l N) els ys⟩ (λ st=>leS st ⟨sK es i,smallH (xK n h nd cs es l N p q) els ys⟩) (λ _ _=>False) (λ _=>False)
theorem j24_e:j24_T=j24_S:=by kernel_rfl
theorem j24:j24_S:=@Eq.mp (j24_T) (j24_S) (j24_e) (j24_P)
def j25_T:Prop :=
 ∀ (n h i p q:Int) (nd cs es els ys:LL) (l:List (Int × AV)) (N A:Nat),JgP N A p els ys->bif decide (0≤p∧p < (↑N:Int)) then bif decide (N=els.length∧p.toNat < els.length) then ∃ n_1,List.take [AV.rw 1002 1 n_1].length (List.drop 0 (els.getD p.toNat []))=[AV.rw 1002 1 n_1]∧bif decide (n_1=ys.length∧ys.length+[[I6 q]].length≤(9223372036854775807:Nat)∧(ys.length+[[I6 q]].length)*(8:Nat)≤(140737488355328:Nat)) then bif decide (0≤p∧p < (↑N:Int)) then bif decide (N=els.length∧p.toNat < els.length) then ((0:Nat)=(0:Nat)∧(True∧es=es)∧(↑es.length:Int)=(↑es.length:Int)∧i=i∧(0:Nat)=(0:Nat)∧True)∧(n=n∧h=h∧(True∧nd=nd)∧True∧(True∧cs=cs)∧(True∧es=es)∧N=N∧True)∧l=l∧(p=p∧q=q∧True)∧setEl els p.toNat 0 [AV.rw 1002 1 (ys++[[I6 q]]).length]=wrJ A (ys.length+(1:Nat)) els∧ys++[[I6 q]]=ys++[[I6 q]]∧True else False else False else False else False else False
theorem j25_P:j25_T:=by
 unfold j25_T
 delta I6
 intro n h i p q nd cs es els ys l N A hp
 have e:=hp.hp
 have hA:=hp.hA
 have hN:=hp.hN
 have hy:=hp.hy
 have ea:p.toNat=A:=by omega
 have eg:els.getD A []=[.rw 1002 1 ys.length]:=by rw [List.getD_eq_getElem?_getD,hp.ha]; rfl
 rw [ea]
 refine cd1 ⟨by omega,by omega⟩ (cd1 ⟨hN,by omega⟩ ⟨ys.length,by rw [eg]; rfl,cd1 ⟨rfl,by simp only [List.length_cons,List.length_nil]; omega,by simp only [List.length_cons,List.length_nil]; omega⟩ (cd1 ⟨by omega,by omega⟩ (cd1 ⟨hN,by omega⟩ ?_))⟩)
 rw [List.length_append]
 (repeat' (first | exact trivial | exact rfl | assumption | apply And.intro))
def j25_S:Prop:=∀ (n h i p q:Int) (nd cs es els ys:LL) (l:List (Int × AV)) (N A:Nat),JgP N A p els ys->acX Tryz.prog (EJ [141] [(141,[1002001])]) CJ (λ _ _=>none) 6 (regC 25 bldB) ⟨sK es i,smallH (xK n h nd cs es l N p q) els ys⟩ (λ st=>leS st ⟨sK es i,smallH (xK n h nd cs es l N p q) (wrJ A (ys.length+1) els) (ys++[[.int .i64 q]])⟩) (λ _ _=>False) (λ _=>False)
theorem j25_e:j25_T=j25_S:=by kernel_rfl
theorem j25:j25_S:=@Eq.mp (j25_T) (j25_S) (j25_e) (j25_P)
def j26_T:Prop :=
 ∀ (n h i p q:Int) (nd cs es els ys:LL) (l:List (Int × AV)) (N A:Nat),JgP N A q els ys->bif decide (0≤q∧q < (↑N:Int)) then bif decide (N=els.length∧q.toNat < els.length) then ∃ n_1,List.take [AV.rw 1002 1 n_1].length (List.drop 0 (els.getD q.toNat []))=[AV.rw 1002 1 n_1]∧bif decide (n_1=ys.length∧ys.length+[[I6 p]].length≤(9223372036854775807:Nat)∧(ys.length+[[I6 p]].length)*(8:Nat)≤(140737488355328:Nat)) then bif decide (0≤q∧q < (↑N:Int)) then bif decide (N=els.length∧q.toNat < els.length) then ((0:Nat)=(0:Nat)∧(True∧es=es)∧(↑es.length:Int)=(↑es.length:Int)∧i=i∧(0:Nat)=(0:Nat)∧True)∧(n=n∧h=h∧(True∧nd=nd)∧True∧(True∧cs=cs)∧(True∧es=es)∧N=N∧True)∧l=l∧(p=p∧q=q∧True)∧setEl els q.toNat 0 [AV.rw 1002 1 (ys++[[I6 p]]).length]=wrJ A (ys.length+(1:Nat)) els∧ys++[[I6 p]]=ys++[[I6 p]]∧True else False else False else False else False else False
theorem j26_P:j26_T:=by
 unfold j26_T
 delta I6
 intro n h i p q nd cs es els ys l N A hp
 have e:=hp.hp
 have hA:=hp.hA
 have hN:=hp.hN
 have hy:=hp.hy
 have ea:q.toNat=A:=by omega
 have eg:els.getD A []=[.rw 1002 1 ys.length]:=by rw [List.getD_eq_getElem?_getD,hp.ha]; rfl
 rw [ea]
 refine cd1 ⟨by omega,by omega⟩ (cd1 ⟨hN,by omega⟩ ⟨ys.length,by rw [eg]; rfl,cd1 ⟨rfl,by simp only [List.length_cons,List.length_nil]; omega,by simp only [List.length_cons,List.length_nil]; omega⟩ (cd1 ⟨by omega,by omega⟩ (cd1 ⟨hN,by omega⟩ ?_))⟩)
 rw [List.length_append]
 (repeat' (first | exact trivial | exact rfl | assumption | apply And.intro))
def j26_S:Prop:=∀ (n h i p q:Int) (nd cs es els ys:LL) (l:List (Int × AV)) (N A:Nat),JgP N A q els ys->acX Tryz.prog (EJ [160] [(160,[1002001])]) CJ (λ _ _=>none) 6 (regC 26 bldB) ⟨sK es i,smallH (xK n h nd cs es l N p q) els ys⟩ (λ st=>leS st ⟨sK es i,smallH (xK n h nd cs es l N p q) (wrJ A (ys.length+1) els) (ys++[[.int .i64 p]])⟩) (λ _ _=>False) (λ _=>False)
theorem j26_e:j26_T=j26_S:=by kernel_rfl
theorem j26:j26_S:=@Eq.mp (j26_T) (j26_S) (j26_e) (j26_P)
def j27_T:Prop :=
 ∀ (n h i p q:Int) (nd cs es els ys:LL) (l:List (Int × AV)) (N:Nat),0≤i∧i≤(20000:Int)->bif decide (rng IntKind.i64 (i+(1:Int))) then ((0:Nat)=(0:Nat)∧(True∧es=es)∧(↑es.length:Int)=(↑es.length:Int)∧i+(1:Int)=i+(1:Int)∧True)∧(n=n∧h=h∧(True∧nd=nd)∧True∧(True∧cs=cs)∧(True∧es=es)∧N=N∧True)∧l=l∧els=els∧ys=ys∧True else False
theorem j27_P:j27_T:=by
 unfold j27_T
 intro n h i p q nd cs es els ys l N hi
 exact cdI (by omega) (by repeat' first|exact trivial|exact rfl|assumption|apply And.intro)
def j27_S:Prop:=∀ (n h i p q:Int) (nd cs es els ys:LL) (l:List (Int × AV)) (N:Nat),0≤i∧i≤20000->acX Tryz.prog (EJ [] []) CJ (λ _ _=>none) 6 (regC 27 bldB) ⟨sK es i,smallH (xK n h nd cs es l N p q) els ys⟩ (λ st=>leS st ⟨sJ es (i+1),smallH (xJ n h nd cs es l N) els ys⟩) (λ _ _=>False) (λ _=>False)
theorem j27_e:j27_T=j27_S:=by kernel_rfl
theorem j27:j27_S:=@Eq.mp (j27_T) (j27_S) (j27_e) (j27_P)
def j28_T:Prop :=
 ∀ (n h i:Int) (nd cs es els ys:LL) (l:List (Int × AV)) (N:Nat),N≤(200:Nat)->((0:Nat)=(0:Nat)∧N=N∧(↑N:Int)=(↑N:Int)∧(0:Int)=(0:Int)∧True)∧(n=n∧h=h∧(True∧nd=nd)∧True∧(True∧cs=cs)∧(True∧es=es)∧N=N∧True)∧l=l∧els=els∧ys=ys∧True
theorem j28_P:j28_T:=by
 unfold j28_T
 intros; (repeat' (first | exact trivial | exact rfl | assumption | apply And.intro))
def j28_S:Prop:=∀ (n h i:Int) (nd cs es els ys:LL) (l:List (Int × AV)) (N:Nat),N≤200->acX Tryz.prog (EJ [] []) CJ (λ _ _=>none) 6 (regC 28 bldB) ⟨(125,.bool false)::sJ es i,smallH (xJ n h nd cs es l N) els ys⟩ (λ st=>leS st ⟨sL N 0,smallH (xJ n h nd cs es l N) els ys⟩) (λ _ _=>False) (λ _=>False)
theorem j28_e:j28_T=j28_S:=by kernel_rfl
theorem j28:j28_S:=@Eq.mp (j28_T) (j28_S) (j28_e) (j28_P)
def j29_T:Prop :=
 ∀ (n h i:Int) (nd cs es els ys:LL) (l:List (Int × AV)) (N:Nat),0≤i∧i≤(20000:Int)->(decide (i < (↑N:Int))=decide (i < (↑N:Int))∧(0:Nat)=(0:Nat)∧N=N∧(↑N:Int)=(↑N:Int)∧i=i∧True)∧(n=n∧h=h∧(True∧nd=nd)∧True∧(True∧cs=cs)∧(True∧es=es)∧N=N∧True)∧l=l∧els=els∧ys=ys∧True
theorem j29_P:j29_T:=by
 unfold j29_T
 intros; (repeat' (first | exact trivial | exact rfl | assumption | apply And.intro))
def j29_S:Prop:=∀ (n h i:Int) (nd cs es els ys:LL) (l:List (Int × AV)) (N:Nat),0≤i∧i≤20000->acX Tryz.prog (EJ [] []) CJ (λ _ _=>none) 6 (regC 29 bldB) ⟨sL N i,smallH (xJ n h nd cs es l N) els ys⟩ (λ st=>leS st ⟨(173,.bool (decide (i < N)))::sL N i,smallH (xJ n h nd cs es l N) els ys⟩) (λ _ _=>False) (λ _=>False)
theorem j29_e:j29_T=j29_S:=by kernel_rfl
theorem j29:j29_S:=@Eq.mp (j29_T) (j29_S) (j29_e) (j29_P)
def j30_T:Prop :=
 ∀ (n h i:Int) (nd cs es els ys:LL) (l:List (Int × AV)) (N A:Nat),JgP N A i els ys->IntR ys ys.length->bif decide (0≤i∧i < (↑N:Int)) then bif decide (N=els.length∧i.toNat < els.length) then ∃ n_1,List.take [AV.rw 1002 1 n_1].length (List.drop 0 (els.getD i.toNat []))=[AV.rw 1002 1 n_1]∧IntR ys n_1∧((0:Nat)=(0:Nat)∧N=N∧(↑N:Int)=(↑N:Int)∧i=i∧True)∧(n=n∧h=h∧(True∧nd=nd)∧True∧(True∧cs=cs)∧(True∧es=es)∧N=N∧True)∧l=l∧els=els∧sortI ys=sortI ys∧True else False else False
theorem j30_P:j30_T:=by
 unfold j30_T
 intro n h i nd cs es els ys l N A hp hI
 have e:=hp.hp
 have hA:=hp.hA
 have hN:=hp.hN
 have ea:i.toNat=A:=by omega
 have eg:els.getD A []=[.rw 1002 1 ys.length]:=by rw [List.getD_eq_getElem?_getD,hp.ha]; rfl
 rw [ea]
 refine cd1 ⟨by omega,by omega⟩ (cd1 ⟨hN,by omega⟩ ⟨ys.length,by rw [eg]; rfl,hI,by repeat' first|exact trivial|exact rfl|assumption|apply And.intro⟩)
def j30_S:Prop:=∀ (n h i:Int) (nd cs es els ys:LL) (l:List (Int × AV)) (N A:Nat),JgP N A i els ys->IntR ys ys.length->acX Tryz.prog (EI [175] [(175,[1002001])]) CJ (λ _ _=>none) 6 (.seq (regC 30 bldB) (regC 31 bldB)) ⟨(173,.bool true)::sL N i,smallH (xJ n h nd cs es l N) els ys⟩ (λ st=>leS st ⟨sL N i,smallH (xJ n h nd cs es l N) els (sortI ys)⟩) (λ _ _=>False) (λ _=>False)
theorem j30_e:j30_T=j30_S:=by kernel_rfl
theorem j30:j30_S:=@Eq.mp (j30_T) (j30_S) (j30_e) (j30_P)
def j32_T:Prop :=
 ∀ (n h i:Int) (nd cs es els ys:LL) (l:List (Int × AV)) (N:Nat),0≤i∧i≤(20000:Int)->bif decide (rng IntKind.i64 (i+(1:Int))) then ((0:Nat)=(0:Nat)∧N=N∧(↑N:Int)=(↑N:Int)∧i+(1:Int)=i+(1:Int)∧True)∧(n=n∧h=h∧(True∧nd=nd)∧True∧(True∧cs=cs)∧(True∧es=es)∧N=N∧True)∧l=l∧els=els∧ys=ys∧True else False
theorem j32_P:j32_T:=by
 unfold j32_T
 intro n h i nd cs es els ys l N hi
 exact cdI (by omega) (by repeat' first|exact trivial|exact rfl|assumption|apply And.intro)
def j32_S:Prop:=∀ (n h i:Int) (nd cs es els ys:LL) (l:List (Int × AV)) (N:Nat),0≤i∧i≤20000->acX Tryz.prog (EJ [] []) CJ (λ _ _=>none) 6 (regC 32 bldB) ⟨sL N i,smallH (xJ n h nd cs es l N) els ys⟩ (λ st=>leS st ⟨sL N (i+1),smallH (xJ n h nd cs es l N) els ys⟩) (λ _ _=>False) (λ _=>False)
theorem j32_e:j32_T=j32_S:=by kernel_rfl
theorem j32:j32_S:=@Eq.mp (j32_T) (j32_S) (j32_e) (j32_P)
end Go.Proofs.YtgbbmadjdaphnaaGreatDoor
