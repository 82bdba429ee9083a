import Derived.Test.YtgbbmadjdaphnaaGreatDoorTTc
import Derived.Shelf.SlSortCmp.WholeK
import Derived.Test.YtgbbmadjdaphnaaGreatDoorProg
import Derived.Outline
import Derived.WalkKit
import Derived.Handy
import Derived.Deep.RegionHeld3
import Derived.Shelf.Sort.Plain
import Derived.Shelf.Slices.In.SortNone
set_option maxRecDepth 100000
set_option linter.defProp false
set_option linter.unusedVariables false
set_option linter.unusedSimpArgs false
namespace Go.Proofs.YtgbbmadjdaphnaaGreatDoor
open Go
theorem gg (g:Bool):cond g (g=true) True:=by cases g <;> trivial
structure PlS (f a b c:Int):Prop where
 f:0≤f∧f < 20
 a:-10000≤a∧a≤10000
 b:-10000≤b∧b≤10000
 c:-10000≤c∧c≤10000
def atV (nrm:NrT) (l:List (Int × AV)) (f a b c:Int):Int:=vK l (qX [(nrm f a b c).1,(nrm f a b c).2.1,(nrm f a b c).2.2.1,(nrm f a b c).2.2.2])
def lP:Sp
 | [.agg [.int .i64 f,.int .i64 a,.int .i64 b,.int .i64 c],.int .i64 x,.int .i64 y,.int .i64 z]=>some (PlS f a b c∧PlS f x y z,.agg [.int .i64 f,.int .i64 (a+x),.int .i64 (b+y),.int .i64 (c+z)])
 | _=>none
def vE:Prop :=
 ∀ (gl:aX) (f a b c x y z:Int),PlS f a b c∧PlS f x y z->(IR9 f)∧(IR9 a)∧(IR9 b)∧(IR9 c)∧True->IR9 x->IR9 y->IR9 z->bif decide (rng IntKind.i64 (a+x)) then bif decide (rng IntKind.i64 (b+y)) then bif decide (rng IntKind.i64 (c+z)) then f=f∧a+x=a+x∧b+y=b+y∧c+z=c+z∧True else False else False else False
theorem aKe:vE:=by
 unfold vE
 intro gl f a b c x y z ⟨h,k⟩
 intros
 have h1:=h.a; have h2:=h.b; have h3:=h.c; have k1:=k.a; have k2:=k.b; have k3:=k.c
 exact cdI (by omega) (cdI (by omega) (cdI (by omega) (by repeat' first|exact trivial|exact rfl|assumption|apply And.intro)))
theorem aKd:vE=(∀ (gl:aX) (f a b c x y z:Int),PlS f a b c∧PlS f x y z->fnK Tryz.prog { glob:=gl,spec:=lk [],specH:=lk [],nowf:=true } { nt:=24,drop:=drp [(1,16776704)] } (λ _ _=>none) 6 Tryz.f123 [.agg [.int .i64 f,.int .i64 a,.int .i64 b,.int .i64 c],.int .i64 x,.int .i64 y,.int .i64 z] (.agg [.int .i64 f,.int .i64 (a+x),.int .i64 (b+y),.int .i64 (c+z)])):=by kernel_rfl
def aKc:=Eq.mp (aKd ..) (aKe)
theorem pP (gl:aX):SOK Tryz.prog gl 123 lP:=by
 refine ⟨fok Tryz.func123 (by kernel_rfl) (by kernel_rfl),?_⟩
 intro xs pre r h hp
 unfold lP at h
 split at h
 ·cases h
  exact aT bD (by exact aV rfl rfl trivial trivial) (by kernel_rfl) Tryz.func123 rfl (aKc gl _ _ _ _ _ _ _ hp)
 ·cases h
def aGo (nrm:NrT) (vld:Int->Int->Int->Int->Bool):SpH
 | [.ptr 0 0,.agg [.int .i64 f,.int .i64 a,.int .i64 b,.int .i64 c]],[.cells [.int .i64 n,.int .i64 h,.sl 4 g nd,.mpv 1,.rw 2 3 m,.nils,.nils],.mp 27 3 l,.row 162 3 cs]=>some (True,.int .i64 (atV nrm l f a b c),[.cells [.int .i64 n,.int .i64 h,.sl 4 g nd,.mpv 1,.rw 2 3 m,.nils,.nils],.mp 27 3 l,.row 162 3 cs])
 | _,_=>none
def aGp (nrm:NrT) (vld:Int->Int->Int->Int->Bool):Prop :=
 ∀ (n h f a b c:Int) (g:Bool) (nd cs:LL) (l:List (Int × AV)) (m:Nat),True->(IR9 f)∧(IR9 a)∧(IR9 b)∧(IR9 c)∧True->IR9 n->IR9 h->True->True->True->True->True->True∧vK l (qX [(nrm f a b c).1,(nrm f a b c).2.1,(nrm f a b c).2.2.1,(nrm f a b c).2.2.2])=atV nrm l f a b c∧(n=n∧h=h∧((bif g then g=true else True)∧nd=nd)∧True∧m=m∧True∧True∧True)∧l=l∧cs=cs∧True
theorem aSd:aGp nrm vld:=by
 unfold aGp
 intros; (repeat' (first | exact trivial | exact rfl | exact gg _ | assumption | exact Int.add_zero _ | apply And.intro))
theorem aSc (nrm:NrT) (vld:Int->Int->Int->Int->Bool):aGp nrm vld=(∀ (n h f a b c:Int) (g:Bool) (nd cs:LL) (l:List (Int × AV)) (m:Nat),fnH Tryz.prog { glob:=glb,spec:=lk [(75,(oL vld nrm))],specH:=lk [],nowf:=true } { nt:=18,drop:=drp [(1,3968),(2,258048)],fr:=1000,kp:=[0,1,2] } (λ _ _=>none) 6 Tryz.f124 [.ptr 0 0,.agg [.int .i64 f,.int .i64 a,.int .i64 b,.int .i64 c]] [.cells [.int .i64 n,.int .i64 h,.sl 4 g nd,.mpv 1,.rw 2 3 m,.nils,.nils],.mp 27 3 l,.row 162 3 cs] (.int .i64 (atV nrm l f a b c)) [.cells [.int .i64 n,.int .i64 h,.sl 4 g nd,.mpv 1,.rw 2 3 m,.nils,.nils],.mp 27 3 l,.row 162 3 cs]):=by kernel_rfl
def aSb:=Eq.mp (aSc ..) (aSd)
theorem aNP:HOK Tryz.prog glb 124 (aGo nrm vld):=by
 refine ⟨fok Tryz.func124 (by kernel_rfl) (by kernel_rfl),?_⟩
 intro xs bs pre r bs2 h hp
 unfold aGo at h
 split at h
 ·cases h
  exact bC bD (by exact aV rfl rfl ⟨(yB),trivial⟩ trivial) (by kernel_rfl) Tryz.func124 (aSb  _ _ _ _ _ _ _ _ _ _ _)
 ·cases h
def aF0:SpH
 | [.ptr 0 0,.agg [.int .i64 f,.int .i64 a,.int .i64 b,.int .i64 c]],[.cells [.int .i64 n,.int .i64 h,.sl 4 g nd,.mpv 1,.rw 2 3 m,.nils,.nils],.mp 27 3 l,.row 162 3 cs]=>some (PlS f a b c∧0≤h∧h≤840,.agg [.int .i64 f,.int .i64 (a+h),.int .i64 b,.int .i64 c,.int .i64 f,.int .i64 a,.int .i64 (b+h),.int .i64 c,.int .i64 f,.int .i64 a,.int .i64 b,.int .i64 (c+h)],[.cells [.int .i64 n,.int .i64 h,.sl 4 g nd,.mpv 1,.rw 2 3 m,.nils,.nils],.mp 27 3 l,.row 162 3 cs])
 | _,_=>none
def aF1:Prop :=
 ∀ (gl:aX) (n h f a b c:Int) (g:Bool) (nd cs:LL) (l:List (Int × AV)) (m:Nat),PlS f a b c∧0≤h∧h≤(840:Int)->True->(IR9 f)∧(IR9 a)∧(IR9 b)∧(IR9 c)∧True->IR9 n->IR9 h->True->True->True->True->True->(PlS f a b c∧PlS f h 0 0)∧(PlS f a b c∧PlS f 0 h 0)∧(PlS f a b c∧PlS f 0 0 h)∧(f=f∧a+h=a+h∧b+(0:Int)=b∧c+(0:Int)=c∧f=f∧a+(0:Int)=a∧b+h=b+h∧c+(0:Int)=c∧f=f∧a+(0:Int)=a∧b+(0:Int)=b∧c+h=c+h∧True)∧(n=n∧h=h∧((bif g then g=true else True)∧nd=nd)∧True∧m=m∧True∧True∧True)∧l=l∧cs=cs∧True
theorem aRI:aF1:=by
 unfold aF1
 intro gl n h f a b c g nd cs l m ⟨hp,h0,h8⟩
 intros
 have q1:PlS f h 0 0:=⟨hp.f,by omega,by omega,by omega⟩
 have q2:PlS f 0 h 0:=⟨hp.f,by omega,by omega,by omega⟩
 have q3:PlS f 0 0 h:=⟨hp.f,by omega,by omega,by omega⟩
 (repeat' (first | exact trivial | exact rfl | exact gg _ | assumption | exact Int.add_zero _ | apply And.intro))
theorem aRH:aF1=(∀ (gl:aX) (n h f a b c:Int) (g:Bool) (nd cs:LL) (l:List (Int × AV)) (m:Nat),PlS f a b c∧0≤h∧h≤840->fnH Tryz.prog { glob:=gl,spec:=lk [(123,lP)],specH:=lk [],nowf:=true } { nt:=24,drop:=drp [(1,16777184)],fr:=1000,kp:=[0,1,2] } (λ _ _=>none) 6 Tryz.f125 [.ptr 0 0,.agg [.int .i64 f,.int .i64 a,.int .i64 b,.int .i64 c]] [.cells [.int .i64 n,.int .i64 h,.sl 4 g nd,.mpv 1,.rw 2 3 m,.nils,.nils],.mp 27 3 l,.row 162 3 cs] (.agg [.int .i64 f,.int .i64 (a+h),.int .i64 b,.int .i64 c,.int .i64 f,.int .i64 a,.int .i64 (b+h),.int .i64 c,.int .i64 f,.int .i64 a,.int .i64 b,.int .i64 (c+h)]) [.cells [.int .i64 n,.int .i64 h,.sl 4 g nd,.mpv 1,.rw 2 3 m,.nils,.nils],.mp 27 3 l,.row 162 3 cs]):=by kernel_rfl
def aRG:=Eq.mp (aRH ..) (aRI)
theorem aNl (gl:aX):HOK Tryz.prog gl 125 aF0:=by
 refine ⟨fok Tryz.func125 (by kernel_rfl) (by kernel_rfl),?_⟩
 intro xs bs pre r bs2 h hp
 unfold aF0 at h
 split at h
 ·cases h
  exact bC bD (by exact aV rfl rfl ⟨(pP gl),trivial⟩ trivial) (by kernel_rfl) Tryz.func125 (aRG gl _ _ _ _ _ _ _ _ _ _ _ hp)
 ·cases h
def aGi:SpH
 | [.ptr 0 0,.agg [.int .i64 f,.int .i64 a,.int .i64 b,.int .i64 c]],[.cells [.int .i64 n,.int .i64 h,.sl 4 g nd,.mpv 1,.rw 2 3 m,.nils,.nils],.mp 27 3 l,.row 162 3 cs]=>some (PlS f a b c∧0≤h∧h≤840,.agg [.int .i64 f,.int .i64 a,.int .i64 (b+h),.int .i64 (c+h),.int .i64 f,.int .i64 (a+h),.int .i64 b,.int .i64 (c+h),.int .i64 f,.int .i64 (a+h),.int .i64 (b+h),.int .i64 c],[.cells [.int .i64 n,.int .i64 h,.sl 4 g nd,.mpv 1,.rw 2 3 m,.nils,.nils],.mp 27 3 l,.row 162 3 cs])
 | _,_=>none
def aGj:Prop :=
 ∀ (gl:aX) (n h f a b c:Int) (g:Bool) (nd cs:LL) (l:List (Int × AV)) (m:Nat),PlS f a b c∧0≤h∧h≤(840:Int)->True->(IR9 f)∧(IR9 a)∧(IR9 b)∧(IR9 c)∧True->IR9 n->IR9 h->True->True->True->True->True->(PlS f a b c∧PlS f 0 h h)∧(PlS f a b c∧PlS f h 0 h)∧(PlS f a b c∧PlS f h h 0)∧(f=f∧a+(0:Int)=a∧b+h=b+h∧c+h=c+h∧f=f∧a+h=a+h∧b+(0:Int)=b∧c+h=c+h∧f=f∧a+h=a+h∧b+h=b+h∧c+(0:Int)=c∧True)∧(n=n∧h=h∧((bif g then g=true else True)∧nd=nd)∧True∧m=m∧True∧True∧True)∧l=l∧cs=cs∧True
theorem aSa:aGj:=by
 unfold aGj
 intro gl n h f a b c g nd cs l m ⟨hp,h0,h8⟩
 intros
 have q1:PlS f 0 h h:=⟨hp.f,by omega,by omega,by omega⟩
 have q2:PlS f h 0 h:=⟨hp.f,by omega,by omega,by omega⟩
 have q3:PlS f h h 0:=⟨hp.f,by omega,by omega,by omega⟩
 (repeat' (first | exact trivial | exact rfl | exact gg _ | assumption | exact Int.add_zero _ | apply And.intro))
theorem aR9:aGj=(∀ (gl:aX) (n h f a b c:Int) (g:Bool) (nd cs:LL) (l:List (Int × AV)) (m:Nat),PlS f a b c∧0≤h∧h≤840->fnH Tryz.prog { glob:=gl,spec:=lk [(123,lP)],specH:=lk [],nowf:=true } { nt:=36,drop:=drp [(1,68719476704)],fr:=1000,kp:=[0,1,2] } (λ _ _=>none) 6 Tryz.f126 [.ptr 0 0,.agg [.int .i64 f,.int .i64 a,.int .i64 b,.int .i64 c]] [.cells [.int .i64 n,.int .i64 h,.sl 4 g nd,.mpv 1,.rw 2 3 m,.nils,.nils],.mp 27 3 l,.row 162 3 cs] (.agg [.int .i64 f,.int .i64 a,.int .i64 (b+h),.int .i64 (c+h),.int .i64 f,.int .i64 (a+h),.int .i64 b,.int .i64 (c+h),.int .i64 f,.int .i64 (a+h),.int .i64 (b+h),.int .i64 c]) [.cells [.int .i64 n,.int .i64 h,.sl 4 g nd,.mpv 1,.rw 2 3 m,.nils,.nils],.mp 27 3 l,.row 162 3 cs]):=by kernel_rfl
def aR8:=Eq.mp (aR9 ..) (aSa)
theorem aNH (gl:aX):HOK Tryz.prog gl 126 aGi:=by
 refine ⟨fok Tryz.func126 (by kernel_rfl) (by kernel_rfl),?_⟩
 intro xs bs pre r bs2 h hp
 unfold aGi at h
 split at h
 ·cases h
  exact bC bD (by exact aV rfl rfl ⟨(pP gl),trivial⟩ trivial) (by kernel_rfl) Tryz.func126 (aR8 gl _ _ _ _ _ _ _ _ _ _ _ hp)
 ·cases h
end Go.Proofs.YtgbbmadjdaphnaaGreatDoor
namespace Go.Proofs.YtgbbmadjdaphnaaGreatDoor
open Go Go.Shelf
def aJn:Go.Shelf.Ren:=⟨λ | 6=>86 | 15=>139 | 14=>138 | 28=>165 | 29=>166 | 20=>157 | 21=>158 | 22=>159 | 23=>160 | 24=>161 | 25=>162 | 26=>163 | 27=>164 | 46=>199 | 47=>200 | 48=>201 | 49=>202 | 50=>203 | 57=>215 | n=>n,λ | 22=>147 | 24=>162 | 25=>164 | 3=>3 | 39=>73 | 0=>0 | 53=>244 | 55=>67 | 4=>4 | 46=>238 | 45=>237 | 50=>157 | 5=>5 | 9=>9 | 66=>268 | 70=>272 | 76=>281 | 77=>282 | n=>n,λ | n=>n⟩
theorem aXE:Go.Proofs.SlLaysF0.n6 Tryz.prog aJn:={
 mixed:=by kernel_rfl
 f6:=⟨Tryz.f86.name,by decide,Tryz.func86.trans (congrArg some (by kernel_rfl))⟩
 f14:=⟨Tryz.f138.name,by decide,Tryz.func138.trans (congrArg some (by kernel_rfl))⟩
 f15:=Tryz.func139.trans (congrArg some (by kernel_rfl))
 f20:=⟨Tryz.f157.name,by decide,Tryz.func157.trans (congrArg some (by kernel_rfl))⟩
 f21:=⟨Tryz.f158.name,by decide,Tryz.func158.trans (congrArg some (by kernel_rfl))⟩
 f22:=⟨Tryz.f159.name,by decide,Tryz.func159.trans (congrArg some (by kernel_rfl))⟩
 f23:=⟨Tryz.f160.name,by decide,Tryz.func160.trans (congrArg some (by kernel_rfl))⟩
 f24:=⟨Tryz.f161.name,by decide,Tryz.func161.trans (congrArg some (by kernel_rfl))⟩
 f25:=⟨Tryz.f162.name,by decide,Tryz.func162.trans (congrArg some (by kernel_rfl))⟩
 f26:=⟨Tryz.f163.name,by decide,Tryz.func163.trans (congrArg some (by kernel_rfl))⟩
 f27:=⟨Tryz.f164.name,by decide,Tryz.func164.trans (congrArg some (by kernel_rfl))⟩
 f28:=Tryz.func165.trans (congrArg some (by kernel_rfl))
 f29:=Tryz.func166.trans (congrArg some (by kernel_rfl))
 f46:=⟨Tryz.f199.name,by decide,Tryz.func199.trans (congrArg some (by kernel_rfl))⟩
 f47:=Tryz.func200.trans (congrArg some (by kernel_rfl))
 f48:=Tryz.func201.trans (congrArg some (by kernel_rfl))
 f49:=⟨Tryz.f202.name,by decide,Tryz.func202.trans (congrArg some (by kernel_rfl))⟩
 f50:=⟨Tryz.f203.name,by decide,Tryz.func203.trans (congrArg some (by kernel_rfl))⟩
 f57:=⟨Tryz.f215.name,by decide,Tryz.func215.trans (congrArg some (by kernel_rfl))⟩
 t0:=Tryz.underlying0
 a0:=Tryz.isAgg0
 z0:=Tryz.sizeOf0
 v0:=Tryz.zeroValue0
 t3:=Tryz.underlying3
 a3:=Tryz.isAgg3
 z3:=Tryz.sizeOf3
 v3:=Tryz.zeroValue3
 t4:=Tryz.underlying4
 a4:=Tryz.isAgg4
 z4:=Tryz.sizeOf4
 v4:=Tryz.zeroValue4
 t5:=Tryz.underlying5
 a5:=Tryz.isAgg5
 z5:=Tryz.sizeOf5
 v5:=Tryz.zeroValue5
 t9:=Tryz.underlying9
 a9:=Tryz.isAgg9
 z9:=Tryz.sizeOf9
 v9:=Tryz.zeroValue9
 t22:=Tryz.underlying147
 a22:=Tryz.isAgg147
 z22:=Tryz.sizeOf147
 v22:=Tryz.zeroValue147
 t25:=Tryz.underlying164
 a25:=Tryz.isAgg164
 z25:=Tryz.sizeOf164
 v25:=Tryz.zeroValue164
 t39:=Tryz.underlying73
 a39:=Tryz.isAgg73
 z39:=Tryz.sizeOf73
 v39:=Tryz.zeroValue73
 t45:=Tryz.underlying237
 a45:=Tryz.isAgg237
 z45:=Tryz.sizeOf237
 v45:=Tryz.zeroValue237
 t46:=Tryz.underlying238
 a46:=Tryz.isAgg238
 z46:=Tryz.sizeOf238
 v46:=Tryz.zeroValue238
 t50:=Tryz.underlying157
 a50:=Tryz.isAgg157
 z50:=Tryz.sizeOf157
 v50:=Tryz.zeroValue157
 t53:=Tryz.underlying244
 a53:=Tryz.isAgg244
 z53:=Tryz.sizeOf244
 v53:=Tryz.zeroValue244
 t55:=Tryz.underlying67
 a55:=Tryz.isAgg67
 z55:=Tryz.sizeOf67
 v55:=Tryz.zeroValue67
 t66:=Tryz.underlying268
 a66:=Tryz.isAgg268
 z66:=Tryz.sizeOf268
 v66:=Tryz.zeroValue268
 t70:=Tryz.underlying272
 a70:=Tryz.isAgg272
 z70:=Tryz.sizeOf272
 v70:=Tryz.zeroValue272
 t76:=Tryz.underlying281
 a76:=Tryz.isAgg281
 z76:=Tryz.sizeOf281
 v76:=Tryz.zeroValue281
 t77:=Tryz.underlying282
 a77:=Tryz.isAgg282
 z77:=Tryz.sizeOf282
 v77:=Tryz.zeroValue282 }
def aJm:Go.Shelf.Ren:=⟨λ | 6=>90 | 15=>139 | 14=>141 | 28=>165 | 29=>166 | 20=>167 | 21=>168 | 22=>169 | 23=>170 | 24=>171 | 25=>172 | 26=>173 | 27=>174 | 46=>204 | 47=>200 | 48=>201 | 49=>205 | 50=>206 | 57=>216 | n=>n,λ | 22=>109 | 24=>143 | 25=>166 | 3=>3 | 39=>73 | 0=>0 | 53=>244 | 55=>67 | 4=>4 | 46=>238 | 45=>237 | 50=>157 | 5=>5 | 9=>9 | 66=>268 | 70=>272 | 76=>281 | 77=>282 | n=>n,λ | n=>n⟩
theorem aXD:Go.Proofs.SlLaysF0.n6 Tryz.prog aJm:={
 mixed:=by kernel_rfl
 f6:=⟨Tryz.f90.name,by decide,Tryz.func90.trans (congrArg some (by kernel_rfl))⟩
 f14:=⟨Tryz.f141.name,by decide,Tryz.func141.trans (congrArg some (by kernel_rfl))⟩
 f15:=Tryz.func139.trans (congrArg some (by kernel_rfl))
 f20:=⟨Tryz.f167.name,by decide,Tryz.func167.trans (congrArg some (by kernel_rfl))⟩
 f21:=⟨Tryz.f168.name,by decide,Tryz.func168.trans (congrArg some (by kernel_rfl))⟩
 f22:=⟨Tryz.f169.name,by decide,Tryz.func169.trans (congrArg some (by kernel_rfl))⟩
 f23:=⟨Tryz.f170.name,by decide,Tryz.func170.trans (congrArg some (by kernel_rfl))⟩
 f24:=⟨Tryz.f171.name,by decide,Tryz.func171.trans (congrArg some (by kernel_rfl))⟩
 f25:=⟨Tryz.f172.name,by decide,Tryz.func172.trans (congrArg some (by kernel_rfl))⟩
 f26:=⟨Tryz.f173.name,by decide,Tryz.func173.trans (congrArg some (by kernel_rfl))⟩
 f27:=⟨Tryz.f174.name,by decide,Tryz.func174.trans (congrArg some (by kernel_rfl))⟩
 f28:=Tryz.func165.trans (congrArg some (by kernel_rfl))
 f29:=Tryz.func166.trans (congrArg some (by kernel_rfl))
 f46:=⟨Tryz.f204.name,by decide,Tryz.func204.trans (congrArg some (by kernel_rfl))⟩
 f47:=Tryz.func200.trans (congrArg some (by kernel_rfl))
 f48:=Tryz.func201.trans (congrArg some (by kernel_rfl))
 f49:=⟨Tryz.f205.name,by decide,Tryz.func205.trans (congrArg some (by kernel_rfl))⟩
 f50:=⟨Tryz.f206.name,by decide,Tryz.func206.trans (congrArg some (by kernel_rfl))⟩
 f57:=⟨Tryz.f216.name,by decide,Tryz.func216.trans (congrArg some (by kernel_rfl))⟩
 t0:=Tryz.underlying0
 a0:=Tryz.isAgg0
 z0:=Tryz.sizeOf0
 v0:=Tryz.zeroValue0
 t3:=Tryz.underlying3
 a3:=Tryz.isAgg3
 z3:=Tryz.sizeOf3
 v3:=Tryz.zeroValue3
 t4:=Tryz.underlying4
 a4:=Tryz.isAgg4
 z4:=Tryz.sizeOf4
 v4:=Tryz.zeroValue4
 t5:=Tryz.underlying5
 a5:=Tryz.isAgg5
 z5:=Tryz.sizeOf5
 v5:=Tryz.zeroValue5
 t9:=Tryz.underlying9
 a9:=Tryz.isAgg9
 z9:=Tryz.sizeOf9
 v9:=Tryz.zeroValue9
 t22:=Tryz.underlying109
 a22:=Tryz.isAgg109
 z22:=Tryz.sizeOf109
 v22:=Tryz.zeroValue109
 t25:=Tryz.underlying166
 a25:=Tryz.isAgg166
 z25:=Tryz.sizeOf166
 v25:=Tryz.zeroValue166
 t39:=Tryz.underlying73
 a39:=Tryz.isAgg73
 z39:=Tryz.sizeOf73
 v39:=Tryz.zeroValue73
 t45:=Tryz.underlying237
 a45:=Tryz.isAgg237
 z45:=Tryz.sizeOf237
 v45:=Tryz.zeroValue237
 t46:=Tryz.underlying238
 a46:=Tryz.isAgg238
 z46:=Tryz.sizeOf238
 v46:=Tryz.zeroValue238
 t50:=Tryz.underlying157
 a50:=Tryz.isAgg157
 z50:=Tryz.sizeOf157
 v50:=Tryz.zeroValue157
 t53:=Tryz.underlying244
 a53:=Tryz.isAgg244
 z53:=Tryz.sizeOf244
 v53:=Tryz.zeroValue244
 t55:=Tryz.underlying67
 a55:=Tryz.isAgg67
 z55:=Tryz.sizeOf67
 v55:=Tryz.zeroValue67
 t66:=Tryz.underlying268
 a66:=Tryz.isAgg268
 z66:=Tryz.sizeOf268
 v66:=Tryz.zeroValue268
 t70:=Tryz.underlying272
 a70:=Tryz.isAgg272
 z70:=Tryz.sizeOf272
 v70:=Tryz.zeroValue272
 t76:=Tryz.underlying281
 a76:=Tryz.isAgg281
 z76:=Tryz.sizeOf281
 v76:=Tryz.zeroValue281
 t77:=Tryz.underlying282
 a77:=Tryz.isAgg282
 z77:=Tryz.sizeOf282
 v77:=Tryz.zeroValue282 }
end Go.Proofs.YtgbbmadjdaphnaaGreatDoor
namespace Go.Proofs.YtgbbmadjdaphnaaGreatDoor
open Go Go.Sort
def okA:AV->Bool
 | .int .i64 n=>decide (-1000000≤n∧n≤1000000)
 | _=>false
def okR (k:Nat) (r:List AV):Bool:=Nat.beq r.length k&&r.all okA
abbrev RwT (k:Nat):={ r:List AV // okR k r=true }
def aI:AV->Int
 | .int _ n=>n
 | _=>0
def nI (r:List AV) (i:Nat):Int:=aI (r.getD i .undef)
def mG {k:Nat} (r:RwT k):List Value:=r.1.map λ y=>.int .i64 (aI y)
instance (k:Nat):Inhabited (RwT k):=⟨⟨List.replicate k (.int .i64 0),by simp only [okR,List.length_replicate,aY,Bool.true_and,List.all_replicate]; simp [okA]⟩⟩
def toT (k:Nat) (xs:LL):List (RwT k):=xs.filterMap λ r=>if h:okR k r=true then some ⟨r,h⟩ else none
def dC (k:Nat) (cf:RwT k->RwT k->Int) (xs:LL):LL:=(pdq (ltOf cf) (toT k xs).toArray 0 (toT k xs).length (Lib.bitLen (toT k xs).length) true true).toList.map Subtype.val
theorem aAm {k:Nat}:∀ {xs:LL},(∀ r ∈ xs,okR k r=true)->(toT k xs).map Subtype.val=xs
 | [],_=>rfl
 | x::xs,h=>by
  have hx:=h x (by simp)
  have ih:=aAm (xs:=xs) (λ r hr=>h r (by simp [hr]))
  simp only [toT,List.filterMap_cons,hx,dif_pos,List.map_cons] at ih ⊢
  rw [ih]
theorem lL {k:Nat} {r:List AV} (h:okR k r=true) {i:Nat} {y:AV} (e:r[i]?=some y):r.length=k∧y=.int .i64 (aI y)∧-1000000≤aI y∧aI y≤1000000:=by
 simp only [okR,aC,List.all_eq_true] at h
 refine ⟨aA h.1,?_⟩
 have:=h.2 y (aL e)
 cases y with
 | int q n=>cases q <;> simp only [okA,Bool.false_eq_true] at this; exact ⟨rfl,of_decide_eq_true this⟩
 | _=>cases this
theorem fQ {k:Nat} (r:RwT k):(mG r).length=k:=by
 have:=r.2
 simp only [okR,aC] at this
 simp only [mG,List.length_map]
 exact aA this.1
theorem aKS {k:Nat} (r:RwT k):∀ v ∈ mG r,v.oneCell'=true:=by
 intro v hv
 simp only [mG,List.mem_map] at hv
 obtain ⟨y,_,rfl⟩:=hv
 rfl
theorem bY {k:Nat} {cf:RwT k->RwT k->Int} (hO:SWO (ltOf cf)) {xs:LL} (h:∀ r ∈ xs,okR k r=true):(dC k cf xs).Perm xs:=by
 have hp:=(pdq_sorts (ltOf cf) hO (toT k xs).toArray 0 (toT k xs).length (Lib.bitLen (toT k xs).length) true true (Nat.zero_le _) (by simp) (Or.inl rfl)).1
 obtain ⟨h1,_,h3⟩:=hp
 have e1:∀ a:Array (RwT k),a.size=(toT k xs).length->(a.extract 0 (toT k xs).length).toList=a.toList:=by
  intro a ha
  rw [← ha]; simp
 rw [e1 _ (by rw [h1]; simp),e1 _ (by simp)] at h3
 have:=h3.map Subtype.val
 rw [show (toT k xs).toArray.toList=toT k xs from rfl,aAm h] at this
 exact this
theorem nP {k:Nat} {cf:RwT k->RwT k->Int} (hO:SWO (ltOf cf)) (xs:LL):∃ d':List (RwT k),dC k cf xs=d'.map Subtype.val∧d'.Pairwise λ a b=>ltOf cf b a=false:=by
 have hp:=pdq_sorts (ltOf cf) hO (toT k xs).toArray 0 (toT k xs).length (Lib.bitLen (toT k xs).length) true true (Nat.zero_le _) (by simp) (Or.inl rfl)
 refine ⟨_,rfl,List.pairwise_iff_getElem.2 λ i j hi hj hij=>?_⟩
 have hs:=hp.1.1
 simp only [List.size_toArray] at hs
 have:=hp.2 i j (Nat.zero_le _) hij (by simpa [hs] using hj)
 rw [getElem!_pos _ j (by simpa using hj),getElem!_pos _ i (by simpa using hi)] at this
 exact this
theorem aER {k T f g:Nat} {ρ:Go.Shelf.Ren} {cf:RwT k->RwT k->Int} (hgb:Nat.blt g fnB=true) (hk0:0 < k) (hT:T < 1000000) (L:Go.Proofs.SlLaysF0.n6 Tryz.prog ρ) (hf:ρ.f 6=f) (aE:∀ w,(isAgg (ρ.t 24)).run Tryz.prog w=.ok true w) (zE:∀ w,(Go.sizeOf (ρ.t 24)).run Tryz.prog w=.ok k w)
  (hO:SWO (ltOf cf)) (eg:∀ args w,(callFunc g args).run Tryz.prog w=.ok (.enter g args) w) (hcmp:∀ (blk size:Nat) (w:World),CmpLays Tryz.prog g #[] mG k cf blk 0 size w) {gl:aX} {xs:LL} (hx:∀ r ∈ xs,okR k r=true) (hne:xs≠[]) (hlen:xs.length≤1000000) :
  HC Tryz.prog gl f [.rw 0 k xs.length,.fn g []] [.row T k xs] (.tup []) [.row T k (dC k cf xs)]:=by
 intro w S m vs hG hA hnm hheld hinj hv
 obtain ⟨L0,hL0⟩:∃ L0:List Value,L0=vs.toList:=⟨_,rfl⟩
 rw [← hL0] at hv
 simp only [CVl] at hv
 obtain ⟨v0,l1,e0,hv0,v1,l2,rfl,hv1,rfl⟩:=hv
 simp only [CV,CVl] at hv0 hv1
 rw [qJ hgb] at hv1
 obtain ⟨us,rfl,hus⟩:=hv1
 have hus:us=#[]:=by simpa using hus
 subst hus
 have hvs:vs=#[v0,.func (.func g) #[] #[]]:=by rw [← Array.toArray_toList (xs:=vs),← hL0,e0]
 subst hvs
 obtain ⟨A,c,a1,a2,a3,a4⟩:=hheld 0 _ rfl
 have hl0:0 < xs.length:=by cases xs with | nil=>exact absurd rfl hne | cons _ _=>simp
 rcases a4 with ⟨_,rfl⟩ | ⟨b,cur,fr,rfl,b1,b2,b3,b4,b5⟩
 ·omega
 have hfr:=dW.lt b2 hT
 subst hfr
 rw [cA hT] at b1
 obtain ⟨_,A2,q2,c2,h1,h2,h3⟩:=hv0
 rw [a1] at h1
 simp only [aJ,Value.iface.injEq,Value.slice.injEq,true_and] at h1
 obtain ⟨rfl,rfl,rfl⟩:=h1
 have hv0:=h3 rfl
 subst hv0
 obtain ⟨d,hd⟩:∃ d,d=(toT k xs).toArray:=⟨_,rfl⟩
 have hval:=aAm hx
 have hdl:(toT k xs).length=xs.length:=by rw [← hval,List.length_map,hval]
 have hds:d.size=xs.length:=by rw [hd,List.size_toArray,hdl]
 have hdj:∀ (j:Nat) (hj:j < d.size),(d[j]).1=xs[j]'(by omega):=by
  intro j hj
  subst hd
  have:((toT k xs).map Subtype.val)[j]?=xs[j]?:=by rw [hval]
  rw [List.getElem?_map,aD (by rw [hdl]; omega),aD (by omega)] at this
  simpa using this
 have hH:HoldsK mG k w b 0 d:=by
  intro t ht
  have hsz:(flatK mG k d).size=d.size*k:=by simp [flatK]
  rw [hsz] at ht
  rw [get_flatK mG k d t ht]
  have hj:t / k < d.size:=(Nat.div_lt_iff_lt_mul hk0).2 ht
  have hi:t % k < k:=Nat.mod_lt _ hk0
  rw [getElem!_pos d _ hj]
  have hjx:t / k < xs.length:=by omega
  obtain ⟨r1,r2⟩:=b5 (t / k) _ (aD hjx)
  have hil:t % k < xs[t / k].length:=by rw [r1]; exact hi
  obtain ⟨v,hv1,hv2,hv3⟩:=r2 (t % k) _ (aD hil)
  have hok:=lL (hx _ (List.getElem_mem hjx)) (aD hil)
  have ht2:t / k*k+t % k=t:=by rw [Nat.mul_comm]; exact Nat.div_add_mod t k
  rw [ht2] at hv1
  rw [hok.2.1] at hv3
  simp only [CV] at hv3
  have hen:v=((mG d[t / k])[t % k]!):=by
   have e2:(mG d[t / k])[t % k]?=some (.int .i64 (aI xs[t / k][t % k])):=by
    unfold mG
    rw [List.getElem?_map,hdj _ hj,aD hil]; rfl
   rw [List.getElem!_eq_getElem?_getD,e2]
   exact hv3.1
  rw [← hen]
  refine ⟨?_,by simp [World.frozen?,b1]⟩
  simp only [World.cell?,b1,Nat.zero_add,id]
  exact hv1
 have hblk:b < w.heap.size:=(aM.1 b1).1
 have hcon:=Go.Proofs.AnyQ.slices_SortFunc_eq L k aE zE mG fQ aKS cf hO g #[] b 0 c d w eg (hcmp b d.size w) hH hblk (by omega)
 rw [hf,hds] at hcon
 refine hcon.mono ?_
 rintro e w' ⟨rfl,nn,os,rfl⟩
 obtain ⟨D,hD⟩:∃ D,D=pdq (ltOf cf) d 0 xs.length (Lib.bitLen xs.length) true true:=⟨_,rfl⟩
 have hsr:dC k cf xs=D.toList.map Subtype.val:=by rw [hD,hd,dC,hdl]
 have hDs:D.size=xs.length:=by
  have:=(pdq_sorts (ltOf cf) hO d 0 xs.length (Lib.bitLen xs.length) true true (Nat.zero_le _) (by omega) (Or.inl rfl)).1.1
  rw [hD,this,hds]
 rw [← hD]
 have heap:∀ i,i < w.heap.size->(sortWorldK mG k w b 0 nn D os).heap[i]?=if b=i then some (.cells (putCells id 0 (flatK mG k D) cur) T (0,0)) else w.heap[i]?:=by
  intro i hi
  unfold sortWorldK putRowK putRow mapBlock grow Sort.ahead
  simp only
  rw [Array.getElem?_append_left (by simpa using hi),Array.getElem?_modify]
  by_cases h:b=i
  ·subst h
   rw [if_pos rfl,if_pos rfl,b1]; rfl
  ·rw [if_neg h,if_neg h]
 have hMb:Mof 1 m b:=⟨0,_,by decide,a1,rfl⟩
 refine ⟨.tuple #[],S,m,rfl,rfl,rfl,rfl,?_,Ext.refl S,?_,?_,?_,hinj,?_,MLe.refl m,?_⟩
 ·unfold sortWorldK putRowK putRow mapBlock grow Sort.ahead
  simp
 ·intro i hi hn
  refine ⟨?_,λ _=>rfl⟩
  rw [heap i hi,if_neg (λ e:b=i=>hn (by subst e; exact hMb))]
 ·intro i o v e
  obtain ⟨h1,h2⟩:=hA i o v e
  refine ⟨?_,h2⟩
  have hi:i < w.heap.size:=hA.lt e
  have hne:b≠i:=λ q=>by subst q; rw [b4 o] at e; cases e
  simp only [World.cell?] at h1 ⊢
  rw [heap i hi,if_neg hne]; exact h1
 ·intro q bb hq
  cases q with
  | succ q=>simp at hq
  | zero =>
   simp only [List.getElem?_cons_zero,aJ] at hq
   subst hq
   have hyl:(dC k cf xs).length=xs.length:=by rw [hsr]; simp [hDs]
   refine ⟨some ⟨b,0,none⟩,c,by rw [hyl]; exact a1,by omega,a3,.inr ⟨b,putCells id 0 (flatK mG k D) cur,(0,0),rfl,?_,dW.none,?_,b4,?_⟩⟩
   ·rw [heap b hblk,if_pos rfl,cA hT]
   ·unfold putCells
    simp [b3]
   ·intro j x hj
    rw [hsr,List.getElem?_map] at hj
    cases hjD:D.toList[j]? with
    | none=>rw [hjD] at hj; cases hj
    | some r =>
     rw [hjD] at hj
     simp only [Option.map_some,aJ] at hj
     subst hj
     have hjl:j < D.size:=by have:=(aF.1 hjD).1; simpa using this
     have hr:D[j]=r:=by
      have:=(aF.1 hjD).2
      simpa using this
     have hrl:r.1.length=k:=by have:=fQ r; simpa [mG] using this
     refine ⟨hrl,λ i y hi=>?_⟩
     have hil:i < k:=by rw [← hrl]; exact (aF.1 hi).1
     have hok:=lL r.2 hi
     have hlt:j*k+i < D.size*k:=Nat.lt_of_lt_of_le (Nat.add_lt_add_left hil _) (by rw [← Nat.succ_mul]; exact Nat.mul_le_mul_right k hjl)
     refine ⟨.int .i64 (aI y),?_,rfl,?_⟩
     ·unfold putCells
      have hlc:j*k+i < cur.size:=by
       rw [b3]
       exact Nat.lt_of_lt_of_le hlt (Nat.mul_le_mul_right k (by omega))
      rw [Array.getElem?_mapIdx,Array.getElem?_eq_getElem hlc,Option.map_some]
      have hsz:(flatK mG k D).size=D.size*k:=by simp [flatK]
      rw [if_pos ⟨Nat.zero_le _,by rw [hsz]; omega⟩,Nat.sub_zero,get_flatK mG k D _ hlt]
      have e1:(j*k+i) / k=j:=by
       rw [Nat.mul_comm,Nat.mul_add_div hk0,Nat.div_eq_of_lt hil]; rfl
      have e2:(j*k+i) % k=i:=by rw [Nat.mul_comm,Nat.mul_add_mod]; exact Nat.mod_eq_of_lt hil
      rw [e1,e2,getElem!_pos D j hjl,hr]
      have e3:(mG r)[i]?=some (.int .i64 (aI y)):=by
       unfold mG
       rw [List.getElem?_map,hi]; rfl
      rw [List.getElem!_eq_getElem?_getD,e3]; rfl
     ·have hb:=hok.2.2
      have hy:=hok.2.1
      generalize aI y=z at hy hb ⊢
      subst hy
      simp only [CV]
      exact ⟨trivial,by show _∧_; omega⟩
 ·intro q u g' hq hu hg
  exact .inr ⟨q,u,hq,hu,hg⟩
 ·simp only [CV,CVl]; exact ⟨#[],rfl,rfl⟩
end Go.Proofs.YtgbbmadjdaphnaaGreatDoor
namespace Go.Proofs.YtgbbmadjdaphnaaGreatDoor
open Go Go.Sort Go.RowKit
@[irreducible] def wU (x y:Int):Int:=if x < y then -1 else if y < x then 1 else 0
set_option maxHeartbeats 400000 in
theorem pT (x:Int) (w:World):Calls Tryz.prog 140 #[.int .i64 x] w λ e w'=>e=.returned (.bool false)∧w'=w:=by
 go_enter Tryz.func140,Tryz.ntmps140
 go_wp2
 go_ret
 exact ⟨by simp,rfl⟩
set_option maxHeartbeats 1000000 in
theorem aHW (x y:Int) (w:World):Calls Tryz.prog 89 #[.int .i64 x,.int .i64 y] w λ e w'=>e=.returned (.int .i64 (wU x y))∧w'=w:=by
 unfold wU
 by_cases c1:x < y
 ·rw [if_pos c1]
  go_enter Tryz.func89,Tryz.ntmps89
  go_wp2_with (go_at_call 140; refine (pT _ _).mono ?_; rintro e w' ⟨rfl,rfl⟩)
  go_ret
  exact ⟨rfl,rfl⟩
 ·rw [if_neg c1]
  by_cases c2:y < x
  ·rw [if_pos c2]
   go_enter Tryz.func89,Tryz.ntmps89
   go_wp2_with (go_at_call 140; refine (pT _ _).mono ?_; rintro e w' ⟨rfl,rfl⟩)
   go_ret
   exact ⟨rfl,rfl⟩
  ·rw [if_neg c2]
   go_enter Tryz.func89,Tryz.ntmps89
   go_wp2_with (go_at_call 140; refine (pT _ _).mono ?_; rintro e w' ⟨rfl,rfl⟩)
   go_ret
   exact ⟨rfl,rfl⟩
theorem aXn (x:RwT 2):(mG x).toArray=#[.int .i64 (nI x.1 0),.int .i64 (nI x.1 1)]:=by
 obtain ⟨r,h⟩:=x
 have hl:r.length=2:=by have:=fQ ⟨r,h⟩; simpa [mG] using this
 match r,hl with
 | [a,b],_=>rfl
theorem aXm (x:RwT 3):(mG x).toArray=#[.int .i64 (nI x.1 0),.int .i64 (nI x.1 1),.int .i64 (nI x.1 2)]:=by
 obtain ⟨r,h⟩:=x
 have hl:r.length=3:=by have:=fQ ⟨r,h⟩; simpa [mG] using this
 match r,hl with
 | [a,b,c],_=>rfl
theorem aXh {k:Nat} (x:RwT k) {i:Nat} (hi:i < k):-1000000≤nI x.1 i∧nI x.1 i≤1000000:=by
 have hl:x.1.length=k:=by have:=fQ x; simpa [mG] using this
 have e:x.1[i]?=some (x.1[i]'(by omega)):=aD _
 have h:=lL x.2 e
 unfold nI
 rw [aB,e]
 exact h.2.2
@[irreducible] def or3 (x y z:Int):Int:=if x≠0 then x else if y≠0 then y else z
@[irreducible] def or2 (x y:Int):Int:=if x≠0 then x else y
set_option maxHeartbeats 1000000 in
theorem aNd (b:Nat) (x y z:Int) (c:Nat) (W:World) (h0:W.cell? ⟨b,0,none⟩=some (.int .i64 x)) (h1:W.cell? ⟨b,1,none⟩=some (.int .i64 y)) (h2:W.cell? ⟨b,2,none⟩=some (.int .i64 z)) :
  Calls Tryz.prog 88 #[.slice (some ⟨b,0,none⟩) 3 c] W λ e w'=>e=.returned (.int .i64 (or3 x y z))∧w'=W:=by
 unfold or3
 by_cases hx:x=0
 ·by_cases hy:y=0
  ·subst hx hy
   by_cases hz:z=0
   ·subst hz
    go_enter Tryz.func88,Tryz.ntmps88
    go_wp2
    go_rounds 4
    go_ret
    exact ⟨rfl,rfl⟩
   ·go_enter Tryz.func88,Tryz.ntmps88
    go_wp2
    go_rounds 4
    go_ret
    exact ⟨rfl,rfl⟩
  ·subst hx
   go_enter Tryz.func88,Tryz.ntmps88
   go_wp2
   go_rounds 4
   go_ret
   exact ⟨rfl,rfl⟩
 ·go_enter Tryz.func88,Tryz.ntmps88
  go_wp2
  go_rounds 4
  go_ret
  exact ⟨rfl,rfl⟩
set_option maxHeartbeats 1000000 in
theorem aNe (b:Nat) (x y:Int) (c:Nat) (W:World) (h0:W.cell? ⟨b,0,none⟩=some (.int .i64 x)) (h1:W.cell? ⟨b,1,none⟩=some (.int .i64 y)) :
  Calls Tryz.prog 88 #[.slice (some ⟨b,0,none⟩) 2 c] W λ e w'=>e=.returned (.int .i64 (or2 x y))∧w'=W:=by
 unfold or2
 by_cases hx:x=0
 ·subst hx
  by_cases hy:y=0
  ·subst hy
   go_enter Tryz.func88,Tryz.ntmps88
   go_wp2
   go_rounds 3
   go_ret
   exact ⟨rfl,rfl⟩
  ·go_enter Tryz.func88,Tryz.ntmps88
   go_wp2
   go_rounds 3
   go_ret
   exact ⟨rfl,rfl⟩
 ·go_enter Tryz.func88,Tryz.ntmps88
  go_wp2
  go_rounds 3
  go_ret
  exact ⟨rfl,rfl⟩
theorem gr3 (W:World) (A B C:Obj):((W.alloc A).alloc B).drew.alloc C=grow (W.drewN 1) (#[A]++#[B]++#[C]):=by
 rw [alloc_eq_grow W,alloc_eq_grow (grow W #[A]),alloc_eq_grow,grow_grow]
 exact grow_grow W.drew _ _
set_option maxHeartbeats 2000000 in
theorem aK5 (a b c d:Int) (w:World):Calls Tryz.prog 91 #[.agg #[.int .i64 a,.int .i64 b],.agg #[.int .i64 c,.int .i64 d]] w λ e w'=>e=.returned (.int .i64 (or2 (wU a c) (wU b d)))∧∃ q os',w'=grow (w.drewN q) os':=by
 go_enter Tryz.func91,Tryz.ntmps91
 go_wp2_with fail
 go_region_held3 (λ w'=>w'.cell? ⟨w.heap.size,0,none⟩=some (.int .i64 a)∧w'.cell? ⟨w.heap.size,1,none⟩=some (.int .i64 b)∧w'.cell? ⟨w.heap.size+1,0,none⟩=some (.int .i64 c)∧w'.cell? ⟨w.heap.size+1,1,none⟩=some (.int .i64 d))
  (go_keep)
  ((first
   | (go_at_call 89; refine (aHW _ _ _).mono ?_; rintro e w2 ⟨rfl,rfl⟩)
   | (go_at_call 88; refine (aNe _ (wU a c) (wU b d) _ _ ?h1 ?h2).mono ?_; (case h1=>go_simp); (case h2=>go_simp); rintro e w2 ⟨rfl,rfl⟩)))
 all_goals
  go_wp2
  go_ret
  exact ⟨rfl,1,_,gr3 _ _ _ _⟩
set_option maxHeartbeats 4000000 in
theorem aK6 (a b p c d q:Int) (w:World):Calls Tryz.prog 87 #[.agg #[.int .i64 a,.int .i64 b,.int .i64 p],.agg #[.int .i64 c,.int .i64 d,.int .i64 q]] w λ e w'=>e=.returned (.int .i64 (or3 (wU a c) (wU b d) (wU p q)))∧∃ q os',w'=grow (w.drewN q) os':=by
 go_enter Tryz.func87,Tryz.ntmps87
 go_wp2_with fail
 go_region_held3 (λ w'=>w'.cell? ⟨w.heap.size,0,none⟩=some (.int .i64 a)∧w'.cell? ⟨w.heap.size,1,none⟩=some (.int .i64 b)∧w'.cell? ⟨w.heap.size,2,none⟩=some (.int .i64 p)∧w'.cell? ⟨w.heap.size+1,0,none⟩=some (.int .i64 c)∧w'.cell? ⟨w.heap.size+1,1,none⟩=some (.int .i64 d)∧w'.cell? ⟨w.heap.size+1,2,none⟩=some (.int .i64 q))
  (go_keep)
  ((first
   | (go_at_call 89; refine (aHW _ _ _).mono ?_; rintro e w2 ⟨rfl,rfl⟩)
   | (go_at_call 88; refine (aNd _ (wU a c) (wU b d) (wU p q) _ _ ?h1 ?h2 ?h3).mono ?_; (case h1=>go_simp); (case h2=>go_simp); (case h3=>go_simp); rintro e w2 ⟨rfl,rfl⟩)))
 all_goals
  go_wp2
  go_ret
  exact ⟨rfl,1,_,gr3 _ _ _ _⟩
def cf3 (x y:RwT 3):Int:=or3 (wU (nI x.1 0) (nI y.1 0)) (wU (nI x.1 1) (nI y.1 1)) (wU (nI x.1 2) (nI y.1 2))
def cf2 (x y:RwT 2):Int:=or2 (wU (nI x.1 0) (nI y.1 0)) (wU (nI x.1 1) (nI y.1 1))
theorem aBL (x y:RwT 3):ltOf cf3 x y=decide (nI x.1 0 < nI y.1 0∨(nI x.1 0=nI y.1 0∧(nI x.1 1 < nI y.1 1∨(nI x.1 1=nI y.1 1∧nI x.1 2 < nI y.1 2)))):=by
 unfold ltOf cf3 or3 wU
 apply decide_eq_decide.2
 generalize nI x.1 0=a; generalize nI x.1 1=b; generalize nI x.1 2=c
 generalize nI y.1 0=d; generalize nI y.1 1=e; generalize nI y.1 2=f
 by_cases h1:a < d
 ·simp [h1]
 ·by_cases h2:d < a
  ·simp [h1,h2]; omega
  ·have:a=d:=by omega
   subst this
   by_cases h3:b < e
   ·simp [h3]
   ·by_cases h4:e < b
    ·simp [h3,h4]; omega
    ·have:b=e:=by omega
     subst this
     by_cases h5:c < f
     ·simp [h5]
     ·by_cases h6:f < c <;> simp [h5,h6]
theorem rB (x y:RwT 2):ltOf cf2 x y=decide (nI x.1 0 < nI y.1 0∨(nI x.1 0=nI y.1 0∧nI x.1 1 < nI y.1 1)):=by
 unfold ltOf cf2 or2 wU
 apply decide_eq_decide.2
 generalize nI x.1 0=a; generalize nI x.1 1=b
 generalize nI y.1 0=d; generalize nI y.1 1=e
 by_cases h1:a < d
 ·simp [h1]
 ·by_cases h2:d < a
  ·simp [h1,h2]; omega
  ·have:a=d:=by omega
   subst this
   by_cases h3:b < e
   ·simp [h3]
   ·by_cases h4:e < b <;> simp [h3,h4]
theorem aLj:SWO (ltOf cf3) where
 irrefl x:=by rw [aBL]; simp
 trans x y z h1 h2:=by rw [aBL] at *; have h1:=of_decide_eq_true h1; have h2:=of_decide_eq_true h2; exact decide_eq_true (by omega)
 ntrans x y z h1 h2:=by rw [aBL] at *; have h1:=of_decide_eq_false h1; have h2:=of_decide_eq_false h2; exact decide_eq_false (by omega)
theorem aIN:SWO (ltOf cf2) where
 irrefl x:=by rw [rB]; simp
 trans x y z h1 h2:=by rw [rB] at *; have h1:=of_decide_eq_true h1; have h2:=of_decide_eq_true h2; exact decide_eq_true (by omega)
 ntrans x y z h1 h2:=by rw [rB] at *; have h1:=of_decide_eq_false h1; have h2:=of_decide_eq_false h2; exact decide_eq_false (by omega)
structure AllR (k:Nat) (xs:LL) (n:Nat):Prop where
 ok:∀ r ∈ xs,okR k r=true
 ne:xs≠[]
 le:xs.length≤1000000
 eq:n=xs.length
def aEP:SpH
 | [.rw 0 3 n,.fn 87 []],[.row 162 3 xs]=>some (AllR 3 xs n,.tup [],[.row 162 3 (dC 3 cf3 xs)])
 | _,_=>none
def aEO:SpH
 | [.rw 0 2 n,.fn 91 []],[.row 143 2 xs]=>some (AllR 2 xs n,.tup [],[.row 143 2 (dC 2 cf2 xs)])
 | _,_=>none
theorem aMt (gl:aX):HOK Tryz.prog gl 86 aEP:=by
 refine ⟨fok Tryz.func86 (by kernel_rfl) (by kernel_rfl),?_⟩
 intro xs bs pre r bs2 h hp
 unfold aEP at h
 split at h
 ·cases h
  obtain ⟨o1,o2,o3,rfl⟩:=hp
  refine aER rfl (by decide) (by decide) aXE rfl Tryz.isAgg162 Tryz.sizeOf162 aLj (enters_of Tryz.func87 (by kernel_rfl) rfl) (λ blk size w m os dk hs x y=>?_) o1 o2 o3
  rw [aXm x,aXm y]
  exact aK6 _ _ _ _ _ _ _
 ·cases h
theorem aMs (gl:aX):HOK Tryz.prog gl 90 aEO:=by
 refine ⟨fok Tryz.func90 (by kernel_rfl) (by kernel_rfl),?_⟩
 intro xs bs pre r bs2 h hp
 unfold aEO at h
 split at h
 ·cases h
  obtain ⟨o1,o2,o3,rfl⟩:=hp
  refine aER rfl (by decide) (by decide) aXD rfl Tryz.isAgg143 Tryz.sizeOf143 aIN (enters_of Tryz.func91 (by kernel_rfl) rfl) (λ blk size w m os dk hs x y=>?_) o1 o2 o3
  rw [aXn x,aXn y]
  exact aK5 _ _ _ _ _
 ·cases h
end Go.Proofs.YtgbbmadjdaphnaaGreatDoor
namespace Go.Proofs.YtgbbmadjdaphnaaGreatDoor
open Go Go.Shelf
def aA8:Go.Shelf.Ren:=⟨λ | 189=>93 | 125=>139 | 257=>142 | 128=>165 | 129=>166 | 294=>175 | 295=>176 | 296=>177 | 297=>178 | 298=>179 | 299=>180 | 216=>181 | 300=>182 | 301=>183 | 328=>207 | 329=>200 | 330=>201 | 331=>208 | 332=>209 | 215=>140 | 343=>217 | n=>n,λ | 28=>22 | 3=>3 | 46=>73 | 0=>0 | 51=>244 | 53=>67 | 4=>4 | 183=>238 | 182=>237 | 131=>157 | 5=>5 | 9=>9 | 218=>268 | 222=>272 | 228=>281 | 229=>282 | n=>n,λ | n=>n⟩
theorem aGE:Go.Proofs.Lays.n189 Tryz.prog aA8:={
 mixed:=by kernel_rfl
 f125:=Tryz.func139.trans (congrArg some (by kernel_rfl))
 f128:=Tryz.func165.trans (congrArg some (by kernel_rfl))
 f129:=Tryz.func166.trans (congrArg some (by kernel_rfl))
 f189:=Tryz.func93.trans (congrArg some (by kernel_rfl))
 f215:=Tryz.func140.trans (congrArg some (by kernel_rfl))
 f216:=Tryz.func181.trans (congrArg some (by kernel_rfl))
 f257:=Tryz.func142.trans (congrArg some (by kernel_rfl))
 f294:=Tryz.func175.trans (congrArg some (by kernel_rfl))
 f295:=Tryz.func176.trans (congrArg some (by kernel_rfl))
 f296:=Tryz.func177.trans (congrArg some (by kernel_rfl))
 f297:=Tryz.func178.trans (congrArg some (by kernel_rfl))
 f298:=Tryz.func179.trans (congrArg some (by kernel_rfl))
 f299:=Tryz.func180.trans (congrArg some (by kernel_rfl))
 f300:=Tryz.func182.trans (congrArg some (by kernel_rfl))
 f301:=Tryz.func183.trans (congrArg some (by kernel_rfl))
 f328:=Tryz.func207.trans (congrArg some (by kernel_rfl))
 f329:=Tryz.func200.trans (congrArg some (by kernel_rfl))
 f330:=Tryz.func201.trans (congrArg some (by kernel_rfl))
 f331:=Tryz.func208.trans (congrArg some (by kernel_rfl))
 f332:=Tryz.func209.trans (congrArg some (by kernel_rfl))
 f343:=Tryz.func217.trans (congrArg some (by kernel_rfl))
 t0:=Tryz.underlying0
 a0:=Tryz.isAgg0
 z0:=Tryz.sizeOf0
 v0:=Tryz.zeroValue0
 t3:=Tryz.underlying3
 a3:=Tryz.isAgg3
 z3:=Tryz.sizeOf3
 v3:=Tryz.zeroValue3
 t4:=Tryz.underlying4
 a4:=Tryz.isAgg4
 z4:=Tryz.sizeOf4
 v4:=Tryz.zeroValue4
 t5:=Tryz.underlying5
 a5:=Tryz.isAgg5
 z5:=Tryz.sizeOf5
 v5:=Tryz.zeroValue5
 t9:=Tryz.underlying9
 a9:=Tryz.isAgg9
 z9:=Tryz.sizeOf9
 v9:=Tryz.zeroValue9
 t28:=Tryz.underlying22
 a28:=Tryz.isAgg22
 z28:=Tryz.sizeOf22
 v28:=Tryz.zeroValue22
 t46:=Tryz.underlying73
 a46:=Tryz.isAgg73
 z46:=Tryz.sizeOf73
 v46:=Tryz.zeroValue73
 t51:=Tryz.underlying244
 a51:=Tryz.isAgg244
 z51:=Tryz.sizeOf244
 v51:=Tryz.zeroValue244
 t53:=Tryz.underlying67
 a53:=Tryz.isAgg67
 z53:=Tryz.sizeOf67
 v53:=Tryz.zeroValue67
 t131:=Tryz.underlying157
 a131:=Tryz.isAgg157
 z131:=Tryz.sizeOf157
 v131:=Tryz.zeroValue157
 t182:=Tryz.underlying237
 a182:=Tryz.isAgg237
 z182:=Tryz.sizeOf237
 v182:=Tryz.zeroValue237
 t183:=Tryz.underlying238
 a183:=Tryz.isAgg238
 z183:=Tryz.sizeOf238
 v183:=Tryz.zeroValue238
 t218:=Tryz.underlying268
 a218:=Tryz.isAgg268
 z218:=Tryz.sizeOf268
 v218:=Tryz.zeroValue268
 t222:=Tryz.underlying272
 a222:=Tryz.isAgg272
 z222:=Tryz.sizeOf272
 v222:=Tryz.zeroValue272
 t228:=Tryz.underlying281
 a228:=Tryz.isAgg281
 z228:=Tryz.sizeOf281
 v228:=Tryz.zeroValue281
 t229:=Tryz.underlying282
 a229:=Tryz.isAgg282
 z229:=Tryz.sizeOf282
 v229:=Tryz.zeroValue282 }
open Go.Sort Go.RowKit in
theorem xQ (blk off cap:Nat) (zs:List Int) (w:World) (hH:Holds (Value.int .i64) w blk off zs.toArray) (hblk:blk < w.heap.size) (hsz:zs.length < 4611686018427387904) :
  Calls Tryz.prog 93 #[.slice (some ⟨blk,off,none⟩) zs.length cap] w λ e w' =>
   e=.returned (.tuple #[])∧∃ n os,w'=grow (putRow (Value.int .i64) (Sort.ahead w n) blk off (zs.mergeSort λ x y=>decide (x≤y)).toArray) os:=Any.slices_Sort_int aGE blk off cap zs w hH hblk hsz
open Go.RowKit Go.Sort in
theorem aDy (p:Option Addr) (cap:Nat) (w:World) :
  Calls Tryz.prog 93 #[.slice p 0 cap] w λ e w'=>e=.returned (.tuple #[])∧w'=w:=Any.slices_Sort_int_none aGE p cap w
open Go.Sort
@[irreducible] def s3 (a b c:Int) (i:Nat):Int:=(([a,b,c].mergeSort λ x y=>decide (x≤y)).getD i 0)
theorem aE5 (a b c:Int):([a,b,c].mergeSort λ x y=>decide (x≤y))=[s3 a b c 0,s3 a b c 1,s3 a b c 2]:=by
 have hl:([a,b,c].mergeSort λ x y=>decide (x≤y)).length=3:=by rw [List.length_mergeSort]; rfl
 unfold s3
 match h:([a,b,c].mergeSort λ x y=>decide (x≤y)),hl with
 | [x,y,z],_=>rfl
theorem aE4 (a b c:Int) {i:Nat} (hi:i < 3):s3 a b c i=a∨s3 a b c i=b∨s3 a b c i=c:=by
 have hp:=List.mergeSort_perm [a,b,c] λ x y=>decide (x≤y)
 rw [aE5] at hp
 have:s3 a b c i ∈ [s3 a b c 0,s3 a b c 1,s3 a b c 2]:=by
  rcases (by omega:i=0∨i=1∨i=2) with rfl | rfl | rfl <;> simp
 have:=hp.mem_iff.1 this
 simpa using this
def aEQ:SpH
 | [.ms 0 0 3 3 1],[.cells [.int .i64 a,.int .i64 b,.int .i64 c]]=>some (True,.tup [],[.cells [.int .i64 (s3 a b c 0),.int .i64 (s3 a b c 1),.int .i64 (s3 a b c 2)]])
 | _,_=>none
theorem aJq {gl:aX} {a b c:Int}:HC Tryz.prog gl 93 [.ms 0 0 3 3 1] [.cells [.int .i64 a,.int .i64 b,.int .i64 c]] (.tup []) [.cells [.int .i64 (s3 a b c 0),.int .i64 (s3 a b c 1),.int .i64 (s3 a b c 2)]]:=by
 intro w S m vs hG hA hnm hheld hinj hv
 obtain ⟨L0,hL0⟩:∃ L0:List Value,L0=vs.toList:=⟨_,rfl⟩
 rw [← hL0] at hv
 simp only [CVl,CV] at hv
 obtain ⟨v0,l1,e0,⟨g,o,h1,rfl,h2,_,_⟩,rfl⟩:=hv
 have h2:=h2 (by decide)
 subst h2
 have hvs:vs=#[.slice (some ⟨g,0,none⟩) 3 3]:=by rw [← Array.toArray_toList (xs:=vs),← hL0,e0]
 subst hvs
 obtain ⟨g',arr,t,a1,a2,a3,a4⟩:=hheld 0 _ rfl
 rw [h1] at a1
 simp only [aJ,Value.pointer.injEq,Addr.mk.injEq,and_self,and_true] at a1
 subst a1
 obtain ⟨La,hLa⟩:∃ La,La=arr.toList:=⟨_,rfl⟩
 rw [← hLa] at a3
 simp only [CVl,CV] at a3
 obtain ⟨u0,k0,e1,⟨rfl,ra⟩,u1,k1,rfl,⟨rfl,rb⟩,u2,k2,rfl,⟨rfl,rc⟩,rfl⟩:=a3
 have harr:arr=#[.int .i64 a,.int .i64 b,.int .i64 c]:=by rw [← Array.toArray_toList (xs:=arr),← hLa,e1]
 subst harr
 have hg:g < w.heap.size:=(aM.1 a2).1
 have hH:Holds (Value.int .i64) w g 0 ([a,b,c]:List Int).toArray:=by
  intro j hj
  refine ⟨?_,by simp [World.frozen?,a2]⟩
  simp only [World.cell?,a2,Nat.zero_add]
  have hj:j < 3:=by simpa using hj
  rcases (by omega:j=0∨j=1∨j=2) with rfl | rfl | rfl <;> rfl
 refine (xQ g 0 3 [a,b,c] w hH hg (by simp)).mono ?_
 rintro e w' ⟨rfl,n,os,rfl⟩
 rw [aE5]
 obtain ⟨D,hD⟩:∃ D:Array Int,D=#[s3 a b c 0,s3 a b c 1,s3 a b c 2]:=⟨_,rfl⟩
 have hcell:putCells (Value.int .i64) 0 ([s3 a b c 0,s3 a b c 1,s3 a b c 2]:List Int).toArray #[.int .i64 a,.int .i64 b,.int .i64 c]=#[.int .i64 (s3 a b c 0),.int .i64 (s3 a b c 1),.int .i64 (s3 a b c 2)]:=by
  unfold putCells
  rfl
 have heap:∀ i,i < w.heap.size->(grow (putRow (Value.int .i64) (Sort.ahead w n) g 0 ([s3 a b c 0,s3 a b c 1,s3 a b c 2]:List Int).toArray) os).heap[i]?=if g=i then some (.cells #[.int .i64 (s3 a b c 0),.int .i64 (s3 a b c 1),.int .i64 (s3 a b c 2)] t (0,0)) else w.heap[i]?:=by
  intro i hi
  unfold putRow mapBlock grow Sort.ahead
  simp only
  rw [Array.getElem?_append_left (by simpa using hi),Array.getElem?_modify]
  by_cases h:g=i
  ·subst h
   rw [if_pos rfl,if_pos rfl,a2]
   simp only [Option.map_some,onCells,hcell]
  ·rw [if_neg h,if_neg h]
 have hMb:Mof 1 m g:=⟨0,_,by decide,h1,rfl⟩
 have hb:∀ i,i < 3->rng .i64 (s3 a b c i):=λ i hi=>by
  rcases aE4 a b c hi with e | e | e <;> rw [e] <;> assumption
 refine ⟨.tuple #[],S,m,rfl,rfl,rfl,rfl,?_,Ext.refl S,?_,?_,?_,hinj,?_,MLe.refl m,?_⟩
 ·unfold putRow mapBlock grow Sort.ahead
  simp
 ·intro i hi hn
  refine ⟨?_,λ _=>rfl⟩
  rw [heap i hi,if_neg (λ e:g=i=>hn (by subst e; exact hMb))]
 ·intro i o v e
  obtain ⟨h1,h2⟩:=hA i o v e
  refine ⟨?_,h2⟩
  have hi:i < w.heap.size:=hA.lt e
  have hne:g≠i:=λ q=>by subst q; rw [a4 o] at e; cases e
  simp only [World.cell?] at h1 ⊢
  rw [heap i hi,if_neg hne]; exact h1
 ·intro q bb hq
  cases q with
  | succ q=>simp at hq
  | zero =>
   simp only [List.getElem?_cons_zero,aJ] at hq
   subst hq
   refine ⟨g,_,t,h1,by rw [heap g hg,if_pos rfl],?_,a4⟩
   simp only [CVl,CV]
   exact ⟨_,_,rfl,⟨rfl,hb 0 (by decide)⟩,_,_,rfl,⟨rfl,hb 1 (by decide)⟩,_,_,rfl,⟨rfl,hb 2 (by decide)⟩,rfl⟩
 ·intro q u g' hq hu hg
  exact .inr ⟨q,u,hq,hu,hg⟩
 ·simp only [CV,CVl]; exact ⟨#[],rfl,rfl⟩
theorem aMu (gl:aX):HOK Tryz.prog gl 93 aEQ:=by
 refine ⟨fok Tryz.func93 (by kernel_rfl) (by kernel_rfl),?_⟩
 intro xs bs pre r bs2 h hp
 unfold aEQ at h
 split at h
 ·cases h
  exact aJq
 ·cases h
end Go.Proofs.YtgbbmadjdaphnaaGreatDoor
namespace Go.Proofs.YtgbbmadjdaphnaaGreatDoor
open Go
def aPd (x y z:Int):List AV:=[.int .i64 (s3 x y z 0),.int .i64 (s3 x y z 1),.int .i64 (s3 x y z 2)]
def aBM (nrm:NrT) (l:List (Int × AV)) (f a b c f' a' b' c' f'' a'' b'' c'':Int):List AV:=aPd (atV nrm l f a b c) (atV nrm l f' a' b' c') (atV nrm l f'' a'' b'' c'')
def aA1 (nrm:NrT) (vld:Int->Int->Int->Int->Bool):SpH
 | [.ptr 0 0,.agg [.int .i64 f,.int .i64 a,.int .i64 b,.int .i64 c,.int .i64 f',.int .i64 a',.int .i64 b',.int .i64 c',.int .i64 f'',.int .i64 a'',.int .i64 b'',.int .i64 c'']],[.cells [.int .i64 n,.int .i64 h,.sl 4 g nd,.mpv 1,.rw 2 3 m,.nils,.nils],.mp 27 3 l,.row 162 3 cs]=>some (m=cs.length∧cs.length≤1000,.tup [],[.cells [.int .i64 n,.int .i64 h,.sl 4 g nd,.mpv 1,.rw 2 3 (m+1),.nils,.nils],.mp 27 3 l,.row 162 3 (cs++[aBM nrm l f a b c f' a' b' c' f'' a'' b'' c''])])
 | _,_=>none
def aA2 (nrm:NrT) (vld:Int->Int->Int->Int->Bool):Prop :=
 ∀ (n h f a b c f' a' b' c' f'' a'' b'' c'':Int) (g:Bool) (nd cs:LL) (l:List (Int × AV)) (m:Nat),m=cs.length∧cs.length≤(1000:Nat)->True->(IR9 f)∧(IR9 a)∧(IR9 b)∧(IR9 c)∧(IR9 f')∧(IR9 a')∧(IR9 b')∧(IR9 c')∧(IR9 f'')∧(IR9 a'')∧(IR9 b'')∧(IR9 c'')∧True->IR9 n->IR9 h->True->True->True->True->True->True∧True∧True∧True∧bif decide (m=cs.length∧cs.length+[[I6 (s3 (atV nrm l f a b c) (atV nrm l f' a' b' c') (atV nrm l f'' a'' b'' c'') 0),I6 (s3 (atV nrm l f a b c) (atV nrm l f' a' b' c') (atV nrm l f'' a'' b'' c'') 1),I6 (s3 (atV nrm l f a b c) (atV nrm l f' a' b' c') (atV nrm l f'' a'' b'' c'') 2)]].length≤(9223372036854775807:Nat)∧(cs.length+[[I6 (s3 (atV nrm l f a b c) (atV nrm l f' a' b' c') (atV nrm l f'' a'' b'' c'') 0),I6 (s3 (atV nrm l f a b c) (atV nrm l f' a' b' c') (atV nrm l f'' a'' b'' c'') 1),I6 (s3 (atV nrm l f a b c) (atV nrm l f' a' b' c') (atV nrm l f'' a'' b'' c'') 2)]].length)*(24:Nat)≤(140737488355328:Nat)) then True∧(n=n∧h=h∧((bif g then g=true else True)∧nd=nd)∧True∧(cs++[[I6 (s3 (atV nrm l f a b c) (atV nrm l f' a' b' c') (atV nrm l f'' a'' b'' c'') 0),I6 (s3 (atV nrm l f a b c) (atV nrm l f' a' b' c') (atV nrm l f'' a'' b'' c'') 1),I6 (s3 (atV nrm l f a b c) (atV nrm l f' a' b' c') (atV nrm l f'' a'' b'' c'') 2)]]).length=m+(1:Nat)∧True∧True∧True)∧l=l∧cs++[[I6 (s3 (atV nrm l f a b c) (atV nrm l f' a' b' c') (atV nrm l f'' a'' b'' c'') 0),I6 (s3 (atV nrm l f a b c) (atV nrm l f' a' b' c') (atV nrm l f'' a'' b'' c'') 1),I6 (s3 (atV nrm l f a b c) (atV nrm l f' a' b' c') (atV nrm l f'' a'' b'' c'') 2)]]=cs++[aBM nrm l f a b c f' a' b' c' f'' a'' b'' c'']∧True else False
theorem aNN:aA2 nrm vld:=by
 unfold aA2
 delta I6
 intro n h f a b c f' a' b' c' f'' a'' b'' c'' g nd cs l m ⟨hm,hl⟩
 intros
 have e:(cs++[aBM nrm l f a b c f' a' b' c' f'' a'' b'' c'']).length=m+1:=by rw [aG,hm]; rfl
 refine ⟨trivial,trivial,trivial,trivial,cd1 ⟨hm,by simp only [aH]; omega,by simp only [aH]; omega⟩ ?_⟩
 (repeat' (first | exact trivial | exact rfl | exact gg _ | assumption | apply And.intro))
theorem aNM (nrm:NrT) (vld:Int->Int->Int->Int->Bool):aA2 nrm vld=(∀ (n h f a b c f' a' b' c' f'' a'' b'' c'':Int) (g:Bool) (nd cs:LL) (l:List (Int × AV)) (m:Nat),m=cs.length∧cs.length≤1000->fnH Tryz.prog { glob:=glb,spec:=lk [],specH:=lk [(93,aEQ),(124,(aGo nrm vld))],nowf:=true } { nt:=36,drop:=drp [(4,3072),(5,126976),(6,131072),(7,262144),(8,68718428160)],fr:=1000,kp:=[0,1,2] } (λ _ _=>none) 6 Tryz.f137 [.ptr 0 0,.agg [.int .i64 f,.int .i64 a,.int .i64 b,.int .i64 c,.int .i64 f',.int .i64 a',.int .i64 b',.int .i64 c',.int .i64 f'',.int .i64 a'',.int .i64 b'',.int .i64 c'']] [.cells [.int .i64 n,.int .i64 h,.sl 4 g nd,.mpv 1,.rw 2 3 m,.nils,.nils],.mp 27 3 l,.row 162 3 cs] (.tup []) [.cells [.int .i64 n,.int .i64 h,.sl 4 g nd,.mpv 1,.rw 2 3 (m+1),.nils,.nils],.mp 27 3 l,.row 162 3 (cs++[aBM nrm l f a b c f' a' b' c' f'' a'' b'' c''])]):=by kernel_rfl
def aNL:=Eq.mp (aNM ..) (aNN)
theorem aKi:HOK Tryz.prog glb 137 (aA1 nrm vld):=by
 refine ⟨fok Tryz.func137 (by kernel_rfl) (by kernel_rfl),?_⟩
 intro xs bs pre r bs2 h hp
 unfold aA1 at h
 split at h
 ·cases h
  exact bC bD (by exact aV rfl rfl trivial ⟨(aMu glb),(aNP),trivial⟩) (by kernel_rfl) Tryz.func137 (aNL  _ _ _ _ _ _ _ _ _ _ _ _ _ _ _ _ _ _ _ hp)
 ·cases h
def aK0 (nrm:NrT) (l:List (Int × AV)) (h f a b c:Int):List AV:=aBM nrm l f (a+h) b c f a (b+h) c f a b (c+h)
def aUY (nrm:NrT) (l:List (Int × AV)) (h f a b c:Int):List AV:=aBM nrm l f (a+0) (b+0+h) (c+(0 - h)+h) f (a+0+h) (b+0) (c+(0 - h)+h) f (a+0+h) (b+0+h) (c+(0 - h))
def kV (nrm:NrT) (l:List (Int × AV)) (h f a b c:Int):LL:=if h≤c then [aK0 nrm l h f a b c,aUY nrm l h f a b c] else [aK0 nrm l h f a b c]
theorem aLO {nrm:NrT} {l:List (Int × AV)} {h f a b c:Int} (q:h≤c) (cs:LL):cs++[aK0 nrm l h f a b c]++[aUY nrm l h f a b c]=cs++kV nrm l h f a b c:=by unfold kV; rw [if_pos q,List.append_assoc]; rfl
theorem aLP {nrm:NrT} {l:List (Int × AV)} {h f a b c:Int} (q:¬ h≤c) (cs:LL):cs++[aK0 nrm l h f a b c]=cs++kV nrm l h f a b c:=by unfold kV; rw [if_neg q]
def vI (nrm:NrT) (vld:Int->Int->Int->Int->Bool):SpH
 | [.ptr 0 0,.agg [.int .i64 f,.int .i64 a,.int .i64 b,.int .i64 c]],[.cells [.int .i64 n,.int .i64 h,.sl 4 g nd,.mpv 1,.rw 2 3 m,.nils,.nils],.mp 27 3 l,.row 162 3 cs]=>some ((m=cs.length∧cs.length≤999)∧(0≤h∧h≤840)∧(0≤f∧f < 20)∧(0≤a∧a≤840)∧(0≤b∧b≤840)∧0≤c∧c≤840,.tup [],[.cells [.int .i64 n,.int .i64 h,.sl 4 g nd,.mpv 1,.rw 2 3 (cs++kV nrm l h f a b c).length,.nils,.nils],.mp 27 3 l,.row 162 3 (cs++kV nrm l h f a b c)])
 | _,_=>none
def vJ (nrm:NrT) (vld:Int->Int->Int->Int->Bool):Prop :=
 ∀ (n h f a b c:Int) (g:Bool) (nd cs:LL) (l:List (Int × AV)) (m:Nat),(m=cs.length∧cs.length≤(999:Nat))∧(0≤h∧h≤(840:Int))∧(0≤f∧f < (20:Int))∧(0≤a∧a≤(840:Int))∧(0≤b∧b≤(840:Int))∧0≤c∧c≤(840:Int)->True->(IR9 f)∧(IR9 a)∧(IR9 b)∧(IR9 c)∧True->IR9 n->IR9 h->True->True->True->True->True->(PlS f a b c∧0≤h∧h≤(840:Int))∧(m=cs.length∧cs.length≤(1000:Nat))∧bif decide (h≤c) then bif decide (rng IntKind.i64 ((0:Int) - h)) then (PlS f a b c∧PlS f 0 0 ((0:Int) - h))∧(PlS f (a+(0:Int)) (b+(0:Int)) (c+((0:Int) - h))∧0≤h∧h≤(840:Int))∧(m+(1:Nat)=(cs++[aBM nrm l f (a+h) b c f a (b+h) c f a b (c+h)]).length∧(cs++[aBM nrm l f (a+h) b c f a (b+h) c f a b (c+h)]).length≤(1000:Nat))∧True∧(n=n∧h=h∧((bif g then g=true else True)∧nd=nd)∧True∧m+(1:Nat)+(1:Nat)=(cs++kV nrm l h f a b c).length∧True∧True∧True)∧l=l∧cs++[aBM nrm l f (a+h) b c f a (b+h) c f a b (c+h)]++[aBM nrm l f (a+(0:Int)) (b+(0:Int)+h) (c+((0:Int) - h)+h) f (a+(0:Int)+h) (b+(0:Int)) (c+((0:Int) - h)+h) f (a+(0:Int)+h) (b+(0:Int)+h) (c+((0:Int) - h))]=cs++kV nrm l h f a b c∧True else False else True∧(n=n∧h=h∧((bif g then g=true else True)∧nd=nd)∧True∧m+(1:Nat)=(cs++kV nrm l h f a b c).length∧True∧True∧True)∧l=l∧cs++[aBM nrm l f (a+h) b c f a (b+h) c f a b (c+h)]=cs++kV nrm l h f a b c∧True
theorem aKh:vJ nrm vld:=by
 unfold vJ
 intro n h f a b c g nd cs l m ⟨⟨hm,hl⟩,⟨h0,h8⟩,hf,ha,hb,hc0,hc8⟩
 intros
 have q1:PlS f a b c:=⟨hf,by omega,by omega,by omega⟩
 have q2:PlS f 0 0 (0 - h):=⟨hf,by omega,by omega,by omega⟩
 have q3:PlS f (a+0) (b+0) (c+(0 - h)):=⟨hf,by omega,by omega,by omega⟩
 have e1:(cs++[aK0 nrm l h f a b c]).length=cs.length+1:=by rw [aG]; rfl
 refine ⟨⟨q1,h0,h8⟩,⟨hm,by omega⟩,csp (λ q=>cdI (by omega) ⟨⟨q1,q2⟩,⟨q3,h0,h8⟩,⟨by rw [hm]; exact e1.symm,by have:=e1; simp only [aK0] at this; omega⟩,?_⟩) (λ q=>?_)⟩
 ·have e2:m+1+1=(cs++kV nrm l h f a b c).length:=by rw [← aLO q,aG,e1,hm]; rfl
  have e3:=aLO (nrm:=nrm) (l:=l) (f:=f) (a:=a) (b:=b) q cs
  simp only [aK0,aUY] at e3
  (repeat' (first | exact trivial | exact rfl | exact gg _ | assumption | apply And.intro))
 ·have e2:m+1=(cs++kV nrm l h f a b c).length:=by rw [← aLP q,e1,hm]
  have e3:=aLP (nrm:=nrm) (l:=l) (f:=f) (a:=a) (b:=b) q cs
  simp only [aK0] at e3
  (repeat' (first | exact trivial | exact rfl | exact gg _ | assumption | apply And.intro))
theorem aKg (nrm:NrT) (vld:Int->Int->Int->Int->Bool):vJ nrm vld=(∀ (n h f a b c:Int) (g:Bool) (nd cs:LL) (l:List (Int × AV)) (m:Nat),(m=cs.length∧cs.length≤999)∧(0≤h∧h≤840)∧(0≤f∧f < 20)∧(0≤a∧a≤840)∧(0≤b∧b≤840)∧0≤c∧c≤840->fnH Tryz.prog { glob:=glb,spec:=lk [(123,lP)],specH:=lk [(137,(aA1 nrm vld)),(125,aF0),(126,aGi)],nowf:=true } { nt:=27,drop:=drp [(1,240),(2,32256),(3,67043328)],fr:=1000,kp:=[0,1,2] } (λ _ _=>none) 6 Tryz.f85 [.ptr 0 0,.agg [.int .i64 f,.int .i64 a,.int .i64 b,.int .i64 c]] [.cells [.int .i64 n,.int .i64 h,.sl 4 g nd,.mpv 1,.rw 2 3 m,.nils,.nils],.mp 27 3 l,.row 162 3 cs] (.tup []) [.cells [.int .i64 n,.int .i64 h,.sl 4 g nd,.mpv 1,.rw 2 3 (cs++kV nrm l h f a b c).length,.nils,.nils],.mp 27 3 l,.row 162 3 (cs++kV nrm l h f a b c)]):=by kernel_rfl
def aKf:=Eq.mp (aKg ..) (aKh)
theorem aGm:HOK Tryz.prog glb 85 (vI nrm vld):=by
 refine ⟨fok Tryz.func85 (by kernel_rfl) (by kernel_rfl),?_⟩
 intro xs bs pre r bs2 h hp
 unfold vI at h
 split at h
 ·cases h
  exact bC bD (by exact aV rfl rfl ⟨(pP glb),trivial⟩ ⟨(aKi),(aNl glb),(aNH glb),trivial⟩) (by kernel_rfl) Tryz.func85 (aKf  _ _ _ _ _ _ _ _ _ _ _ hp)
 ·cases h
def eqE (r q:List AV):Bool:=decide (nI r 0=nI q 0)&&(decide (nI r 1=nI q 1)&&true)
def oA:List AV->LL->LL
 | _,[]=>[]
 | p,x::l=>if eqE x p=true then oA x l else x::oA x l
def cS:LL->LL
 | []=>[]
 | x::l=>x::oA x l
structure EdR (xs:LL):Prop where
 fr:∀ i,i < xs.length->∃ a b,xs.getD i []=[.int .i64 a,.int .i64 b]
 le:xs.length≤1000000
def aLe (xs:LL):Prop:=(cS xs).length < xs.length
structure CoP (xs:LL) (k:Int):Prop where
 lo:1≤k
 hi:k≤xs.length
 eq:cS xs=xs.take k.toNat++oA (xs.getD (k.toNat - 1) []) (xs.drop k.toNat)
theorem gD {l:LL} {i:Nat} (h:i < l.length):l.getD i []=l[i]:=by rw [aB,aD h]; rfl
theorem aTr {l:LL} {i:Nat} (h:i < l.length):l.drop i=l.getD i []::l.drop (i+1):=by rw [gD h]; exact List.drop_eq_getElem_cons h
theorem aEK {l:LL} {i:Nat} (h:i < l.length):l.take (i+1)=l.take i++[l.getD i []]:=by rw [gD h,List.take_append_getElem]
theorem aXV {xs:LL} (h:1≤xs.length):cS xs=xs.take 1++oA (xs.getD 0 []) (xs.drop 1):=by
 cases xs with
 | nil=>simp at h
 | cons x l=>rfl
theorem aXT {xs:LL} (h:aLe xs):2≤xs.length:=by
 unfold aLe at h
 match xs,h with
 | [],h=>simp [cS] at h
 | [_],h=>simp [cS,oA] at h
 | _::_::_,_=>simp
theorem aLM {p x:List AV} {l:LL} (h:eqE x p=true):oA p (x::l)=oA x l:=if_pos h
theorem aLN {p x:List AV} {l:LL} (h:eqE x p=false):oA p (x::l)=x::oA x l:=if_neg (by rw [h]; decide)
theorem aC5 {r q:List AV} {a b c d:Int} (h:r=[.int .i64 a,.int .i64 b]) (k:q=[.int .i64 c,.int .i64 d]):eqE r q=(decide (a=c)&&(decide (b=d)&&true)):=by subst h; subst k; rfl
structure CoQ (xs:LL) (x:Int × Int × Nat × LL):Prop where
 l1:x.2.2.2.length=xs.length
 lo:1≤x.2.1
 kl:1≤x.1
 k0:x.1+1≤x.2.2.1+x.2.1
 hi:x.2.2.1+x.2.1≤xs.length
 eq:cS xs=x.2.2.2.take x.1.toNat++oA (xs.getD (x.2.2.1+x.2.1.toNat - 1) []) (xs.drop (x.2.2.1+x.2.1.toNat))
 fr:EdR x.2.2.2
 sm:∀ i,x.2.2.1+x.2.1.toNat≤i+1->x.2.2.2.getD i []=xs.getD i []
def co4 (xs:LL) (n:Nat):LInv:=⟨Int,λ k=>⟨[(0,.rw 0 2 n),(3,.int .i64 k)],[(0,.row 143 2 xs)]⟩,CoP xs,λ k=>(n - k).toNat,none⟩
def co9 (xs:LL) (n:Nat):LInv:=⟨Int × Int × Nat × LL,λ x=>⟨[(0,.rw 0 2 n),(3,.int .i64 x.1),(4,.mw 0 2 n x.2.2.1 (n - x.2.2.1) false),(5,.int .i64 x.2.1)],[(0,.row 143 2 x.2.2.2)]⟩,CoQ xs,λ x=>(n - (x.2.2.1+x.2.1)).toNat,none⟩
def aGk:SpH
 | [.rw 0 2 n],[.row 143 2 xs]=>some (n=xs.length∧EdR xs∧aLe xs,.mw 0 2 n 0 (cS xs).length false,[.row 143 2 (cS xs++List.replicate (n - (cS xs).length) [.int .i64 0,.int .i64 0])])
 | _,_=>none
def aA0:Prop :=
 ∀ (gl:aX) (n:Nat) (xs:LL),n=xs.length∧EdR xs∧(cS xs).length.succ.le xs.length->True->bif decide ((↑n:Int) < (2:Int)) then False else (∃ x,CoP xs x∧(n=n∧(1:Int)=x∧True)∧xs=xs∧True)∧∀ (x1:Int),CoP xs x1->bif decide (x1 < (↑n:Int)) then bif decide (0≤x1∧x1 < (↑n:Int)) then bif decide (n=xs.length∧x1.toNat < xs.length) then ∃ n_1 n_2,List.take [I6 n_1,I6 n_2].length (List.drop 0 (xs.getD x1.toNat []))=[I6 n_1,I6 n_2]∧bif decide (rng IntKind.i64 (x1 - (1:Int))) then bif decide (0≤x1 - (1:Int)∧x1 - (1:Int) < (↑n:Int)) then bif decide (n=xs.length∧(x1 - (1:Int)).toNat < xs.length) then ∃ n_3 n_4,List.take [I6 n_3,I6 n_4].length (List.drop 0 (xs.getD (x1 - (1:Int)).toNat []))=[I6 n_3,I6 n_4]∧bif decide (n_1=n_3)&&(decide (n_2=n_4)&&true) then bif decide ((0:Int)≤(↑n:Int)∧(↑n:Int)≤(↑n:Int)) then bif decide (0≤x1∧x1≤(↑n:Int)) then (∃ x_1,CoQ xs x_1∧(n=n∧x1=x_1.1∧(n=n∧(0:Nat)+x1.toNat=x_1.2.2.1∧(↑n:Int).toNat - x1.toNat=n - x_1.2.2.1∧True)∧(1:Int)=x_1.2.1∧True)∧xs=x_1.2.2.2∧True)∧∀ (x2:Int × Int × Nat × LL),CoQ xs x2->bif decide (x2.2.1 < (↑(n - x2.2.2.1):Int)) then bif decide (0≤x2.2.1∧x2.2.1 < (↑(n - x2.2.2.1):Int)) then bif decide (n=x2.2.2.2.length∧x2.2.2.1+x2.2.1.toNat < x2.2.2.2.length) then ∃ n_5 n_6,List.take [I6 n_5,I6 n_6].length (List.drop 0 (x2.2.2.2.getD (x2.2.2.1+x2.2.1.toNat) []))=[I6 n_5,I6 n_6]∧bif decide (rng IntKind.i64 (x2.2.1 - (1:Int))) then bif decide (0≤x2.2.1 - (1:Int)∧x2.2.1 - (1:Int) < (↑(n - x2.2.2.1):Int)) then bif decide (n=x2.2.2.2.length∧x2.2.2.1+(x2.2.1 - (1:Int)).toNat < x2.2.2.2.length) then ∃ n_7 n_8,List.take [I6 n_7,I6 n_8].length (List.drop 0 (x2.2.2.2.getD (x2.2.2.1+(x2.2.1 - (1:Int)).toNat) []))=[I6 n_7,I6 n_8]∧bif !(decide (n_5=n_7)&&(decide (n_6=n_8)&&true)) then bif decide (0≤x2.2.1∧x2.2.1 < (↑(n - x2.2.2.1):Int)) then bif decide (n=x2.2.2.2.length∧x2.2.2.1+x2.2.1.toNat < x2.2.2.2.length) then ∃ n_9 n_10,List.take [I6 n_9,I6 n_10].length (List.drop 0 (x2.2.2.2.getD (x2.2.2.1+x2.2.1.toNat) []))=[I6 n_9,I6 n_10]∧bif decide (0≤x2.1∧x2.1 < (↑n:Int)) then bif decide (n=x2.2.2.2.length∧x2.1.toNat < x2.2.2.2.length) then bif decide (rng IntKind.i64 (x2.1+(1:Int))) then bif decide (rng IntKind.i64 (x2.2.1+(1:Int))) then ∃ y,CoQ xs y∧(co9 xs n).m y < (co9 xs n).m x2∧(n=n∧x2.1+(1:Int)=y.1∧(n=n∧x2.2.2.1=y.2.2.1∧n - x2.2.2.1=n - y.2.2.1∧True)∧x2.2.1+(1:Int)=y.2.1∧True)∧setEl x2.2.2.2 x2.1.toNat 0 [I6 n_9,I6 n_10]=y.2.2.2∧True else False else False else False else False else False else False else bif decide (rng IntKind.i64 (x2.2.1+(1:Int))) then ∃ y,CoQ xs y∧(co9 xs n).m y < (co9 xs n).m x2∧(n=n∧x2.1=y.1∧(n=n∧x2.2.2.1=y.2.2.1∧n - x2.2.2.1=n - y.2.2.1∧True)∧x2.2.1+(1:Int)=y.2.1∧True)∧x2.2.2.2=y.2.2.2∧True else False else False else False else False else False else False else bif decide ((0:Int)≤(↑n:Int)∧(↑n:Int)≤(↑n:Int)) then bif decide (0≤x2.1∧x2.1≤(↑n:Int)) then bif decide (n=x2.2.2.2.length∧(0:Nat)+x2.1.toNat+((↑n:Int).toNat - x2.1.toNat)=x2.2.2.2.length) then bif decide (0≤x2.1∧x2.1≤(↑n:Int)) then bif decide ((0:Int)≤(0:Int)∧0≤x2.1) then (n=n∧(0:Nat)=(0:Nat)∧x2.1.toNat - (0:Nat)=(cS xs).length∧True)∧List.take ((0:Nat)+x2.1.toNat) x2.2.2.2++List.replicate ((↑n:Int).toNat - x2.1.toNat) (List.replicate 2 (I6 0))=cS xs++List.replicate (n - (cS xs).length) [I6 0,I6 0]∧True else False else False else False else False else False else False else False else bif decide (rng IntKind.i64 (x1+(1:Int))) then ∃ y,CoP xs y∧(co4 xs n).m y < (co4 xs n).m x1∧(n=n∧x1+(1:Int)=y∧True)∧xs=xs∧True else False else False else False else False else False else False else False
theorem aNK:aA0:=by
 unfold aA0
 delta I6
 intro gl n xs ⟨hn,hE,hD⟩ _
 subst hn
 have h2:=aXT hD
 have hle:=hE.le
 have ld:∀ {ys:LL} {i:Nat} {a b:Int},ys.getD i []=[.int .i64 a,.int .i64 b]->List.take [AV.int .i64 a,AV.int .i64 b].length (List.drop 0 (ys.getD i []))=[.int .i64 a,.int .i64 b]:=λ e=>by rw [e]; rfl
 refine csp (λ h=>by omega) (λ h=>⟨⟨1,⟨by decide,by omega,aXV (by omega)⟩,by repeat' first|exact trivial|exact rfl|assumption|apply And.intro⟩,?_⟩)
 intro k ⟨k1,kh,ke⟩
 refine csp (λ h=>?_) (λ h=>?_)
 ·obtain ⟨a,b,hab⟩:=hE.fr k.toNat (by omega)
  obtain ⟨c,d,hcd⟩:=hE.fr (k - 1).toNat (by omega)
  have e1:(k - 1).toNat=k.toNat - 1:=by omega
  have hkl:k.toNat < xs.length:=by omega
  rw [aTr hkl] at ke
  refine cd1 (by omega) (cd1 ⟨rfl,hkl⟩ ⟨a,b,ld hab,cdI (by omega) (cd1 (by omega) (cd1 ⟨rfl,by omega⟩ ⟨c,d,ld hcd,dJ (λ q=>?_) (λ q=>?_)⟩))⟩)
  ·rw [← aC5 hab hcd,e1] at q
   rw [aLM q] at ke
   refine cd1 (by omega) (cd1 (by omega) ⟨⟨(k,1,k.toNat,xs),⟨rfl,Int.le_refl 1,k1,by simp only; omega,by simp only; omega,by simpa using ke,hE,λ _ _=>rfl⟩,⟨⟨rfl,rfl,⟨rfl,by simp,by simp,trivial⟩,rfl,trivial⟩,rfl,trivial⟩⟩,?_⟩)
   clear ke q hab hcd e1 hkl h kh k1
   rintro ⟨k,k2,k0,ys⟩ ⟨l1,lo,kl,hk0,hi,he,hF,sm⟩
   simp only at l1 lo kl hk0 hi he sm hF
   refine csp (λ h=>?_) (λ h=>?_)
   ·simp only at h
    have hkl:k0+k2.toNat < xs.length:=by omega
    have g1:ys.getD (k0+k2.toNat) []=xs.getD (k0+k2.toNat) []:=sm _ (by omega)
    have e1:k0+(k2 - 1).toNat=k0+k2.toNat - 1:=by omega
    have g2:ys.getD (k0+(k2 - 1).toNat) []=xs.getD (k0+k2.toNat - 1) []:=by rw [e1]; exact sm _ (by omega)
    obtain ⟨a,b,hab⟩:=hE.fr (k0+k2.toNat) hkl
    obtain ⟨c,d,hcd⟩:=hE.fr (k0+k2.toNat - 1) (by omega)
    rw [aTr hkl] at he
    refine cd1 (by simp only; omega) (cd1 ⟨l1.symm,by simp only; omega⟩ ⟨a,b,ld (g1.trans hab),cdI (by simp only; omega) (cd1 (by simp only; omega) (cd1 ⟨l1.symm,by simp only; omega⟩ ⟨c,d,ld (g2.trans hcd),dJ (λ q=>?_) (λ q=>?_)⟩))⟩)
    ·rw [← aC5 hab hcd] at q
     have q:eqE (xs.getD (k0+k2.toNat) []) (xs.getD (k0+k2.toNat - 1) [])=false:=by simpa using q
     rw [aLN q] at he
     have hky:k.toNat < ys.length:=by omega
     have hset:setEl ys k.toNat 0 [.int .i64 a,.int .i64 b]=ys.set k.toNat (xs.getD (k0+k2.toNat) []):=by
      obtain ⟨u,v,huv⟩:=hF.fr k.toNat hky
      unfold setEl
      rw [huv,hab]; rfl
     refine cd1 (by simp only; omega) (cd1 ⟨l1.symm,by simp only; omega⟩ ⟨a,b,ld (g1.trans hab),cd1 (by simp only; omega) (cd1 ⟨l1.symm,hky⟩ (cdI (by simp only; omega) (cdI (by simp only; omega) ⟨(k+1,k2+1,k0,setEl ys k.toNat 0 [.int .i64 a,.int .i64 b]),⟨?_,by simp only; omega,by simp only; omega,by simp only; omega,by simp only; omega,?_,?_,?_⟩,by simp only [co9]; omega,by repeat' first|exact trivial|exact rfl|assumption|apply And.intro⟩)))⟩)
     ·simp only [hset,List.length_set]; exact l1
     ·simp only [hset]
      rw [show (k+1).toNat=k.toNat+1 by omega,show (k2+1).toNat=k2.toNat+1 by omega,aEK (by rw [List.length_set]; exact hky),List.take_set_of_le (Nat.le_refl _),aB,List.getElem?_set_self hky,Option.getD_some,List.append_assoc]
      exact he
     ·simp only [hset]
      refine ⟨λ i hi=>?_,by rw [List.length_set]; omega⟩
      rw [List.length_set] at hi
      by_cases hik:k.toNat=i
      ·subst hik
       exact ⟨a,b,by rw [aB,List.getElem?_set_self hky,Option.getD_some]; exact hab⟩
      ·rw [aB,List.getElem?_set_ne hik,← aB]
       exact hF.fr i hi
     ·intro i hi
      simp only [hset] at hi ⊢
      rw [aB,List.getElem?_set_ne (by omega),← aB]
      exact sm i (by omega)
    ·rw [← aC5 hab hcd] at q
     have q:eqE (xs.getD (k0+k2.toNat) []) (xs.getD (k0+k2.toNat - 1) [])=true:=by simpa using q
     rw [aLM q] at he
     refine cdI (by simp only; omega) ⟨(k,k2+1,k0,ys),⟨l1,by simp only; omega,kl,by simp only; omega,by simp only; omega,?_,hF,λ i hi=>sm i (by simp only at hi; omega)⟩,by simp only [co9]; omega,by repeat' first|exact trivial|exact rfl|assumption|apply And.intro⟩
     simp only
     rw [show (k2+1).toNat=k2.toNat+1 by omega]
     exact he
   ·simp only at h
    have hz:k0+k2.toNat=xs.length:=by omega
    rw [hz,List.drop_length] at he
    simp only [oA,List.append_nil] at he
    have hcl:(cS xs).length=k.toNat:=by rw [he,List.length_take]; omega
    refine cd1 (by omega) (cd1 (by simp only; omega) (cd1 ⟨l1.symm,by simp only; omega⟩ (cd1 (by simp only; omega) (cd1 (by simp only; omega) ⟨⟨rfl,rfl,by rw [hcl]; rfl,trivial⟩,?_,trivial⟩))))
    simp only
    rw [hcl,he,Nat.zero_add,Int.toNat_natCast]; rfl
  ·rw [← aC5 hab hcd,e1] at q
   rw [aLN q] at ke
   refine cdI (by omega) ⟨k+1,⟨by omega,by omega,?_⟩,by simp only [co4]; omega,by repeat' first|exact trivial|exact rfl|assumption|apply And.intro⟩
   rw [show (k+1).toNat=k.toNat+1 by omega,aEK hkl,List.append_assoc]
   exact ke
 ·have hk:k.toNat=xs.length:=by omega
  rw [hk,List.drop_length,List.take_length] at ke
  simp only [oA,List.append_nil] at ke
  have hD:(cS xs).length < xs.length:=hD
  rw [ke] at hD
  exact absurd hD (Nat.lt_irrefl _)
theorem aNJ:aA0=(∀ (gl:aX) (n:Nat) (xs:LL),n=xs.length∧EdR xs∧aLe xs->fnH Tryz.prog { glob:=gl,spec:=lk [],specH:=lk [],shape:=[19,24,38,43,50],nowf:=true } { nt:=61,drop:=drp [(1,192),(2,512),(4,7168),(5,49152),(6,33488896),(7,469762048),(9,3758096384),(10,25769803776),(11,17557826306048),(12,4468415255281664),(13,13510798882111488),(14,126100789566373888),(15,1008806316530991104),(16,1152921504606846976)],fr:=1000,kp:=[0],tys:=[143] } (xH [(4,co4 xs n),(9,co9 xs n)]) 6 Tryz.f92 [.rw 0 2 n] [.row 143 2 xs] (.mw 0 2 n 0 (cS xs).length false) [.row 143 2 (cS xs++List.replicate (n - (cS xs).length) [.int .i64 0,.int .i64 0])]):=by kernel_rfl
def aNI:=Eq.mp (aNJ ..) (aNK)
theorem aCD (gl:aX):HOK Tryz.prog gl 92 aGk:=by
 refine ⟨fok Tryz.func92 (by kernel_rfl) (by kernel_rfl),?_⟩
 intro xs bs pre r bs2 h hp
 unfold aGk at h
 split at h
 ·cases h
  exact bC (aPI (by kernel_rfl)) (by exact aV rfl rfl trivial trivial) (by kernel_rfl) Tryz.func92 (aNI gl _ _ hp)
 ·cases h
theorem aSB {P:Program} {gl:aX} {f:FuncId} {xs:List AV} {bs:List Blk} {q m e s:Nat} {ys:LL} (he:e < 2000000) (hq:q=ys.length) (hm:m≤ys.length) (h:HC P gl f xs bs (.mw 0 s q 0 m false) [.row e s ys]):HC P gl f xs bs (.sl s false (ys.take m)) [.gone]:=by
 intro w S mm vs hG hA hnm hheld hinj hv
 refine (h w S mm vs hG hA hnm hheld hinj hv).mono ?_
 rintro ed w' ⟨u,S1,m1,e1,a1,a2,a3,a4,hE,hF,hAg,hH,hI,hO,hM,hcv⟩
 obtain ⟨A,c,h1,h2,h3,hlen,h4,vals,h5,h6,h7,h9,h8⟩:=(hH 0 _ rfl).vals
 rw [bG he] at h6
 let S':Pin:=λ b o=>if A=some ⟨b,0,none⟩∧o < vals.length then vals[o]? else S1 b o
 have hun:∀ b,A=some ⟨b,0,none⟩->∀ o,S1 b o=none:=by
  intro b hb o
  rcases h4 with ⟨e1,_⟩ | ⟨g,cur,fr,e1,_,_,_,e2⟩
  ·rw [hb] at e1; cases e1
  ·rw [hb] at e1
   injection e1 with e1
   injection e1 with e1
   subst e1
   exact e2 o
 have hS:Ext S1 S':=by
  intro b o v e1
  show (if A=some ⟨b,0,none⟩∧o < vals.length then vals[o]? else S1 b o)=some v
  rw [if_neg]
  ·exact e1
  ·rintro ⟨hb,_⟩
   rw [hun b hb] at e1; cases e1
 have hfar:∀ b,A≠some ⟨b,0,none⟩->∀ o,S' b o=S1 b o:=by
  intro b hb o
  show (if A=some ⟨b,0,none⟩∧o < vals.length then vals[o]? else S1 b o)=S1 b o
  rw [if_neg (λ q=>hb q.1)]
 refine ⟨u,S',m1,e1,a1,a2,a3,a4,hE.trans hS,λ b hb hn=>⟨(hF b hb hn).1,λ o=>?_⟩,?_,?_,hI,hO,hM,?_⟩
 ·by_cases hA:A=some ⟨b,0,none⟩
  ·rcases hO 0 _ b (by simp) h1 (by rw [hA]; rfl) with z | z
   ·omega
   ·exact absurd z hn
  ·rw [hfar b hA]; exact (hF b hb hn).2 o
 ·intro b o v e1
  by_cases hA:A=some ⟨b,0,none⟩∧o < vals.length
  ·have e2:vals[o]?=some v:=by
    have:S' b o=vals[o]?:=by show (if A=some ⟨b,0,none⟩∧o < vals.length then vals[o]? else S1 b o)=_; rw [if_pos hA]
    rw [← this]; exact e1
   exact ⟨h8 b hA.1 o v e2,h7 v (aL e2)⟩
  ·have:S' b o=S1 b o:=by show (if A=some ⟨b,0,none⟩∧o < vals.length then vals[o]? else S1 b o)=_; rw [if_neg hA]
   rw [this] at e1
   exact hAg b o v e1
 ·intro k b hk
  cases k with
  | succ k=>simp at hk
  | zero =>
   simp only [List.getElem?_cons_zero,aJ] at hk
   subst hk
   exact ⟨_,h1,λ g hg=>(hH 0 _ rfl).lt h1 hg⟩
 ·simp only [CV] at hcv ⊢
  obtain ⟨B,d,rfl,p1,p2,p3,p4,p5,A2,q2,c2,p6,p7,p8⟩:=hcv
  rw [h1] at p6
  simp only [aJ,Value.iface.injEq,Value.slice.injEq,true_and] at p6
  obtain ⟨rfl,rfl,rfl⟩:=p6
  have hml:(ys.take m).length=m:=by rw [List.length_take]; omega
  refine ⟨B,d,by rw [hml],by rw [hml]; exact p1,p2,(λ e=>by cases e),p3,λ a ha=>⟨λ hd=>p4 a ha,?_⟩⟩
  by_cases hd:d=0
  ·have hm0:m=0:=by omega
   subst hm0
   simp only [List.take_zero,CE]
  ·obtain ⟨g,rfl,hB⟩:=p8 hq hd
   rw [ha] at hB
   injection hB with hB
   subst hB
   simp only [Nat.zero_mul]
   refine CE.mk λ j x hj=>?_
   have hj2:ys[j]?=some x:=by
    rw [List.getElem?_take] at hj
    split at hj
    ·exact hj
    ·cases hj
   have hxl:=hlen x (aL hj2)
   refine ⟨hxl,CC.mk λ i y hi=>?_⟩
   obtain ⟨v,hv,hy⟩:=h6.get (jX hlen hj2 hi)
   have hlt:j*s+i < vals.length:=(aF.1 hv).1
   refine ⟨v,?_,hy.ext hS (MLe.refl _)⟩
   show (if some (⟨g,0,none⟩:Addr)=some ⟨g,0,none⟩∧0+j*s+i < vals.length then vals[0+j*s+i]? else S1 g (0+j*s+i))=some v
   rw [Nat.zero_add,if_pos ⟨rfl,hlt⟩]
   exact hv
def vH:SpH
 | [.rw 0 2 n],[.row 143 2 xs]=>some (n=xs.length∧EdR xs∧aLe xs,.sl 2 false (cS xs),[.gone])
 | _,_=>none
theorem aGl (gl:aX):HOK Tryz.prog gl 92 vH:=by
 refine ⟨(aCD gl).1,?_⟩
 intro xs bs pre r bs2 h hp
 unfold vH at h
 split at h
 ·rename_i n ys
  simp only [aJ,Prod.mk.injEq] at h
  obtain ⟨h1,h2,h3⟩:=h
  subst h1 h2 h3
  have hl:(cS ys).length≤n:=by have:(cS ys).length < ys.length:=hp.2.2; omega
  have hc:=(aCD gl).2 [.rw 0 2 n] [.row 143 2 ys] _ _ _ rfl hp
  have:=aSB (by decide) (by rw [aG,List.length_replicate]; omega) (by rw [aG]; omega) hc
  rwa [List.take_left] at this
 ·cases h
def aRf:Nat->Code->List Code
 | k+1,.seq a b=>a::aRf k b
 | _,_=>[]
def aMm:Nat->Code->Code
 | k+1,.seq _ b=>aMm k b
 | _,c=>c
def aTQ (fn:Func):Code:=match fn.body with
 | some c=>c
 | none=>.skip
def zU (P:Program) (E:Env) (C:Cx) (inv:Nat->St->Option LInv) (fuel:Nat):List Code->St->(St->Prop)->Prop
 | [],st,K=>K st
 | c::l,st,K=>cC P E C inv fuel c st (λ st'=>zU P E C inv fuel l st' K) (λ _ _=>False) (λ _=>False)
def clB (nrm:NrT) (l:List (Int × AV)) (n f a b:Int) (cs:LL):LL:=rY (λ b cs=>cs++kV nrm l (hN n) f (a*hN n) (b*hN n) ((n - 1 - a - b)*hN n)) b (n - a) cs
def clA (nrm:NrT) (l:List (Int × AV)) (n f a:Int) (cs:LL):LL:=rY (λ a cs=>clB nrm l n f a 0 cs) a n cs
def clF (nrm:NrT) (l:List (Int × AV)) (n f:Int) (cs:LL):LL:=rY (λ f cs=>clA nrm l n f 0 cs) f 20 cs
def clG (nrm:NrT) (n:Int):LL:=clF nrm (ptG nrm n).2 n 0 []
def edR (r:List AV):LL:=[[.int .i64 (nI r 0),.int .i64 (nI r 1)],[.int .i64 (nI r 0),.int .i64 (nI r 2)],[.int .i64 (nI r 1),.int .i64 (nI r 2)]]
def edL (cs:LL):LL:=cs.flatMap edR
def dB (nrm:NrT) (n:Int):LL:=dC 3 cf3 (clG nrm n)
def aPS (nrm:NrT) (n:Int):LL:=dC 2 cf2 (edL (dB nrm n))
def aS (nrm:NrT) (n:Int):LL:=cS (aPS nrm n)
structure BldP (nrm:NrT) (n:Int):Prop where
 lo:1≤n
 hi:n≤4
 rg:∀ q,0≤vK (ptG nrm n).2 q∧vK (ptG nrm n).2 q < 1000
 dup:aLe (aPS nrm n)
structure RowB (cs:LL) (m:Int):Prop where
 ok:∀ r ∈ cs,okR 3 r=true
 le:(cs.length:Int)≤m
structure BlX (nrm:NrT) (n:Int) (x:Int × LL):Prop where
 lo:0≤x.1
 hi:x.1≤20
 go:clF nrm (ptG nrm n).2 n x.1 x.2=clG nrm n
 sm:RowB x.2 (32*x.1)
 ne:x.2=[]->x.1=0
structure BlY (nrm:NrT) (n f:Int) (x:Int × LL):Prop where
 fl:0≤f
 fh:f < 20
 lo:0≤x.1
 hi:x.1≤n
 go:clF nrm (ptG nrm n).2 n (f+1) (clA nrm (ptG nrm n).2 n f x.1 x.2)=clG nrm n
 sm:RowB x.2 (32*f+8*x.1)
 ne:x.2=[]->x.1=0
structure BlZ (nrm:NrT) (n f a:Int) (x:Int × LL):Prop where
 fl:0≤f
 fh:f < 20
 al:0≤a
 ah:a < n
 lo:0≤x.1
 hi:x.1≤n - a
 go:clF nrm (ptG nrm n).2 n (f+1) (clA nrm (ptG nrm n).2 n f (a+1) (clB nrm (ptG nrm n).2 n f a x.1 x.2))=clG nrm n
 sm:RowB x.2 (32*f+8*a+2*x.1)
 ne:x.2=[]->x.1=0
structure BlE (cs:LL) (x:Int × LL):Prop where
 lo:0≤x.1
 hi:x.1≤cs.length
 eq:x.2=edL (cs.take x.1.toNat)
def blH (nrm:NrT) (n:Int) (cs:LL):List (Nat × Blk):=[(1014,.cells [.int .i64 n,.int .i64 (hN n),.sl 4 false (ptG nrm n).1,.mpv 2014,.rw 1600 3 cs.length,.nils,.nils]),(2014,.mp 27 3 (ptG nrm n).2),(1600,.row 162 3 cs)]
def bl3 (nrm:NrT) (n:Int):LInv:=⟨Int × LL,λ x=>⟨[(0,.int .i64 n),(3,.ptr 1014 0),(15,.int .i64 x.1)],blH nrm n x.2⟩,BlX nrm n,λ x=>(20 - x.1).toNat,none⟩
def bl6 (nrm:NrT) (n f:Int):LInv:=⟨Int × LL,λ x=>⟨[(0,.int .i64 n),(3,.ptr 1014 0),(15,.int .i64 f),(4,.int .i64 f),(5,.int .i64 x.1)],blH nrm n x.2⟩,BlY nrm n f,λ x=>(n - x.1).toNat,none⟩
def bl9 (nrm:NrT) (n f a:Int):LInv:=⟨Int × LL,λ x=>⟨[(0,.int .i64 n),(3,.ptr 1014 0),(15,.int .i64 f),(4,.int .i64 f),(5,.int .i64 a),(6,.int .i64 x.1)],blH nrm n x.2⟩,BlZ nrm n f a,λ x=>(n - a - x.1).toNat,none⟩
def aU0 (nrm:NrT) (n:Int):LInv:=⟨Int × LL,λ x=>⟨[(0,.int .i64 n),(3,.ptr 1014 0),(66,.rw 1600 3 (dB nrm n).length),(67,.int .i64 (dB nrm n).length),(68,.int .i64 x.1)],
 [(1014,.cells [.int .i64 n,.int .i64 (hN n),.sl 4 false (ptG nrm n).1,.mpv 2014,.rw 1600 3 (dB nrm n).length,.rw 1700 2 x.2.length,.nils]),(2014,.mp 27 3 (ptG nrm n).2),(1600,.row 162 3 (dB nrm n)),(1700,.row 143 2 x.2)]⟩,BlE (dB nrm n),λ x=>((dB nrm n).length - x.1).toNat,none⟩
theorem aWT {nrm:NrT} {l:List (Int × AV)} (h:∀ q,0≤vK l q∧vK l q < 1000) (f a b c:Int):0≤atV nrm l f a b c∧atV nrm l f a b c < 1000:=h _
theorem aHX {x y z:Int} (hx:0≤x∧x < 1000) (hy:0≤y∧y < 1000) (hz:0≤z∧z < 1000):okR 3 (aPd x y z)=true:=by
 have hb:∀ i,i < 3->-1000000≤s3 x y z i∧s3 x y z i≤1000000:=λ i hi=>by rcases aE4 x y z hi with e | e | e <;> rw [e] <;> omega
 unfold okR aPd
 simp only [List.length_cons,List.length_nil,List.all_cons,List.all_nil,okA,Bool.and_true,decide_eq_true (hb 0 (by decide)),decide_eq_true (hb 1 (by decide)),decide_eq_true (hb 2 (by decide))]
 rfl
theorem aPe {nrm:NrT} {l:List (Int × AV)} (hl:∀ q,0≤vK l q∧vK l q < 1000) (h f a b c:Int):(∀ r ∈ kV nrm l h f a b c,okR 3 r=true)∧1≤(kV nrm l h f a b c).length∧(kV nrm l h f a b c).length≤2:=by
 have hc:∀ f a b c f' a' b' c' f'' a'' b'' c'',okR 3 (aBM nrm l f a b c f' a' b' c' f'' a'' b'' c'')=true:=λ _ _ _ _ _ _ _ _ _ _ _ _=>aHX (aWT hl _ _ _ _) (aWT hl _ _ _ _) (aWT hl _ _ _ _)
 unfold kV
 split
 ·refine ⟨λ r hr=>?_,by simp,by simp⟩
  simp only [List.mem_cons,List.not_mem_nil,or_false] at hr
  rcases hr with rfl | rfl <;> exact hc _ _ _ _ _ _ _ _ _ _ _ _
 ·refine ⟨λ r hr=>?_,by simp,by simp⟩
  simp only [List.mem_cons,List.not_mem_nil,or_false] at hr
  subst hr; exact hc _ _ _ _ _ _ _ _ _ _ _ _
theorem ok3 {r:List AV} (h:okR 3 r=true):r=[.int .i64 (nI r 0),.int .i64 (nI r 1),.int .i64 (nI r 2)]∧∀ i,i < 3->-1000000≤nI r i∧nI r i≤1000000:=by
 have hb:=λ i hi=>aXh (⟨r,h⟩:RwT 3) (i:=i) hi
 have hl:r.length=3:=by have:=fQ (⟨r,h⟩:RwT 3); simpa [mG] using this
 refine ⟨?_,hb⟩
 match r,hl with
 | [a,b,c],_ =>
  have ha:=(lL h (i:=0) rfl).2.1
  have hb:=(lL h (i:=1) rfl).2.1
  have hc:=(lL h (i:=2) rfl).2.1
  show [a,b,c]=[.int .i64 (aI a),.int .i64 (aI b),.int .i64 (aI c)]
  rw [← ha,← hb,← hc]
theorem ok2 {r:List AV} (h:okR 2 r=true):r=[.int .i64 (nI r 0),.int .i64 (nI r 1)]∧∀ i,i < 2->-1000000≤nI r i∧nI r i≤1000000:=by
 have hb:=λ i hi=>aXh (⟨r,h⟩:RwT 2) (i:=i) hi
 have hl:r.length=2:=by have:=fQ (⟨r,h⟩:RwT 2); simpa [mG] using this
 refine ⟨?_,hb⟩
 match r,hl with
 | [a,b],_ =>
  have ha:=(lL h (i:=0) rfl).2.1
  have hb:=(lL h (i:=1) rfl).2.1
  show [a,b]=[.int .i64 (aI a),.int .i64 (aI b)]
  rw [← ha,← hb]
theorem mk2 {a b:Int} (ha:-1000000≤a∧a≤1000000) (hb:-1000000≤b∧b≤1000000):okR 2 [.int .i64 a,.int .i64 b]=true:=by
 unfold okR
 simp only [List.length_cons,List.length_nil,List.all_cons,List.all_nil,okA,Bool.and_true,decide_eq_true ha,decide_eq_true hb]
 rfl
theorem aTo {r:List AV} (h:okR 3 r=true):∀ q ∈ edR r,okR 2 q=true:=by
 have hb:=(ok3 h).2
 intro q hq
 simp only [edR,List.mem_cons,List.not_mem_nil,or_false] at hq
 rcases hq with rfl | rfl | rfl
 ·exact mk2 (hb 0 (by decide)) (hb 1 (by decide))
 ·exact mk2 (hb 0 (by decide)) (hb 2 (by decide))
 ·exact mk2 (hb 1 (by decide)) (hb 2 (by decide))
theorem aBC (cs:LL):(edL cs).length=3*cs.length:=by
 induction cs with
 | nil=>rfl
 | cons x l ih=>simp only [edL,List.flatMap_cons,aG,List.length_cons] at ih ⊢; rw [ih]; simp [edR]; omega
theorem aTp {cs:LL} (h:∀ r ∈ cs,okR 3 r=true):∀ q ∈ edL cs,okR 2 q=true:=by
 intro q hq
 simp only [edL,List.mem_flatMap] at hq
 obtain ⟨r,hr,hq⟩:=hq
 exact aTo (h r hr) q hq
def aXW (nrm:NrT) (n:Int):St:=⟨[(0,.int .i64 n),(3,.ptr 1014 0)],[(1014,.cells [.int .i64 n,.int .i64 (hN n),.sl 4 false (ptG nrm n).1,.mpv 2014,.sl 3 false (dB nrm n),.sl 2 false (aS nrm n),.nils]),(2014,.mp 27 3 (ptG nrm n).2)]⟩
abbrev kI (nrm:NrT) (n:Int):=(True∧(ptG nrm n).1=(ptG nrm n).1)
def aDh:Prop :=
 ∀ (nrm:NrT) (vld:Int->Int->Int->Int->Bool) (n:Int),BldP nrm n->(1≤n∧n≤(4:Int))∧(∃ x,BlX nrm n x∧(n=n∧(0:Nat)=(0:Nat)∧(0:Int)=x.1∧True)∧(n=n∧hN n=hN n∧(kI nrm n)∧True∧(0:Nat)=x.2.length∧True∧True∧True)∧(ptG nrm n).2=(ptG nrm n).2∧[]=x.2∧True)∧∀ (x1:Int × LL),BlX nrm n x1->bif decide (x1.1 < (20:Int)) then (∃ x_1,BlY nrm n x1.1 x_1∧(n=n∧(0:Nat)=(0:Nat)∧x1.1=x1.1∧x1.1=x1.1∧(0:Int)=x_1.1∧True)∧(n=n∧hN n=hN n∧(kI nrm n)∧True∧x1.2.length=x_1.2.length∧True∧True∧True)∧(ptG nrm n).2=(ptG nrm n).2∧x1.2=x_1.2∧True)∧∀ (x2:Int × LL),BlY nrm n x1.1 x2->bif decide (x2.1 < n) then (∃ x_2,BlZ nrm n x1.1 x2.1 x_2∧(n=n∧(0:Nat)=(0:Nat)∧x1.1=x1.1∧x1.1=x1.1∧x2.1=x2.1∧(0:Int)=x_2.1∧True)∧(n=n∧hN n=hN n∧(kI nrm n)∧True∧x2.2.length=x_2.2.length∧True∧True∧True)∧(ptG nrm n).2=(ptG nrm n).2∧x2.2=x_2.2∧True)∧∀ (x3:Int × LL),BlZ nrm n x1.1 x2.1 x3->bif decide (rng IntKind.i64 (x2.1+x3.1)) then bif decide (x2.1+x3.1 < n) then bif decide (rng IntKind.i64 (x2.1*hN n)) then bif decide (rng IntKind.i64 (x3.1*hN n)) then bif decide (rng IntKind.i64 (n - (1:Int))) then bif decide (rng IntKind.i64 (n - (1:Int) - x2.1)) then bif decide (rng IntKind.i64 (n - (1:Int) - x2.1 - x3.1)) then bif decide (rng IntKind.i64 ((n - (1:Int) - x2.1 - x3.1)*hN n)) then ((x3.2.length=x3.2.length∧x3.2.length≤(999:Nat))∧(0≤hN n∧hN n≤(840:Int))∧(0≤x1.1∧x1.1 < (20:Int))∧(0≤x2.1*hN n∧x2.1*hN n≤(840:Int))∧(0≤x3.1*hN n∧x3.1*hN n≤(840:Int))∧(0:Int)≤(n - (1:Int) - x2.1 - x3.1)*hN n∧(n - (1:Int) - x2.1 - x3.1)*hN n≤(840:Int))∧bif decide (rng IntKind.i64 (x3.1+(1:Int))) then ∃ y,BlZ nrm n x1.1 x2.1 y∧(bl9 nrm n x1.1 x2.1).m y < (bl9 nrm n x1.1 x2.1).m x3∧(n=n∧(0:Nat)=(0:Nat)∧x1.1=x1.1∧x1.1=x1.1∧x2.1=x2.1∧x3.1+(1:Int)=y.1∧True)∧(n=n∧hN n=hN n∧(kI nrm n)∧True∧(x3.2++kV nrm (ptG nrm n).2 (hN n) x1.1 (x2.1*hN n) (x3.1*hN n) ((n - (1:Int) - x2.1 - x3.1)*hN n)).length=y.2.length∧True∧True∧True)∧(ptG nrm n).2=(ptG nrm n).2∧x3.2++kV nrm (ptG nrm n).2 (hN n) x1.1 (x2.1*hN n) (x3.1*hN n) ((n - (1:Int) - x2.1 - x3.1)*hN n)=y.2∧True else False else False else False else False else False else False else False else bif decide (rng IntKind.i64 (x2.1+(1:Int))) then ∃ y,BlY nrm n x1.1 y∧(bl6 nrm n x1.1).m y < (bl6 nrm n x1.1).m x2∧(n=n∧(0:Nat)=(0:Nat)∧x1.1=x1.1∧x1.1=x1.1∧x2.1+(1:Int)=y.1∧True)∧(n=n∧hN n=hN n∧(kI nrm n)∧True∧x3.2.length=y.2.length∧True∧True∧True)∧(ptG nrm n).2=(ptG nrm n).2∧x3.2=y.2∧True else False else False else bif decide (rng IntKind.i64 (x1.1+(1:Int))) then ∃ y,BlX nrm n y∧(bl3 nrm n).m y < (bl3 nrm n).m x1∧(n=n∧(0:Nat)=(0:Nat)∧x1.1+(1:Int)=y.1∧True)∧(n=n∧hN n=hN n∧(kI nrm n)∧True∧x2.2.length=y.2.length∧True∧True∧True)∧(ptG nrm n).2=(ptG nrm n).2∧x2.2=y.2∧True else False else AllR 3 x1.2 x1.2.length∧(∃ x_1,BlE (dB nrm n) x_1∧(n=n∧(0:Nat)=(0:Nat)∧x1.2.length=(dB nrm n).length∧(↑x1.2.length:Int)=(↑(dB nrm n).length:Int)∧(0:Int)=x_1.1∧True)∧(n=n∧hN n=hN n∧(kI nrm n)∧True∧x1.2.length=(dB nrm n).length∧(0:Nat)=x_1.2.length∧True∧True)∧(ptG nrm n).2=(ptG nrm n).2∧dC 3 cf3 x1.2=dB nrm n∧[]=x_1.2∧True)∧∀ (x4:Int × LL),BlE (dB nrm n) x4->bif decide (x4.1 < (↑(dB nrm n).length:Int)) then bif decide (0≤x4.1∧x4.1 < (↑(dB nrm n).length:Int)) then bif decide ((dB nrm n).length=(dB nrm n).length∧x4.1.toNat < (dB nrm n).length) then ∃ n_1 n_2 n_3,List.take [I6 n_1,I6 n_2,I6 n_3].length (List.drop 0 ((dB nrm n).getD x4.1.toNat []))=[I6 n_1,I6 n_2,I6 n_3]∧bif decide (x4.2.length=x4.2.length∧x4.2.length+[[I6 n_1,I6 n_2],[I6 n_1,I6 n_3],[I6 n_2,I6 n_3]].length≤(9223372036854775807:Nat)∧(x4.2.length+[[I6 n_1,I6 n_2],[I6 n_1,I6 n_3],[I6 n_2,I6 n_3]].length)*(16:Nat)≤(140737488355328:Nat)) then bif decide (rng IntKind.i64 (x4.1+(1:Int))) then ∃ y,BlE (dB nrm n) y∧((λ x4=>aU0 nrm n) 0).m y < ((λ x4=>aU0 nrm n) 0).m x4∧(n=n∧(0:Nat)=(0:Nat)∧(dB nrm n).length=(dB nrm n).length∧(↑(dB nrm n).length:Int)=(↑(dB nrm n).length:Int)∧x4.1+(1:Int)=y.1∧True)∧(n=n∧hN n=hN n∧(kI nrm n)∧True∧(dB nrm n).length=(dB nrm n).length∧(x4.2++[[I6 n_1,I6 n_2],[I6 n_1,I6 n_3],[I6 n_2,I6 n_3]]).length=y.2.length∧True∧True)∧(ptG nrm n).2=(ptG nrm n).2∧dB nrm n=dB nrm n∧x4.2++[[I6 n_1,I6 n_2],[I6 n_1,I6 n_3],[I6 n_2,I6 n_3]]=y.2∧True else False else False else False else False else AllR 2 x4.2 x4.2.length∧(x4.2.length=(dC 2 cf2 x4.2).length∧EdR (dC 2 cf2 x4.2)∧(cS (dC 2 cf2 x4.2)).length.succ.le (dC 2 cf2 x4.2).length)∧(n=n∧(0:Nat)=(0:Nat)∧True)∧(n=n∧hN n=hN n∧(kI nrm n)∧True∧((dB nrm n).length=(dB nrm n).length∧dB nrm n=dB nrm n)∧(True∧cS (dC 2 cf2 x4.2)=aS nrm n)∧True∧True)∧(ptG nrm n).2=(ptG nrm n).2∧True
theorem aTT:aDh:=by
 unfold aDh
 delta kI I6
 intro nrm vld n hP
 have n1:=hP.lo
 have n4:=hP.hi
 have hl:=hP.rg
 obtain ⟨h2,h8,hh⟩:=aXk n1 n4
 refine ⟨⟨n1,n4⟩,⟨(0,[]),⟨by decide,by decide,rfl,⟨by simp,by decide⟩,λ _=>rfl⟩,by repeat' first|exact trivial|exact rfl|assumption|apply And.intro⟩,?_⟩
 rintro ⟨f,cs⟩ ⟨fl,fh,fg,⟨fo,fs⟩,fn⟩
 simp only at fl fh fg fo fs fn
 refine csp (λ h=>⟨⟨(0,cs),⟨fl,h,Int.le_refl 0,by simp only; omega,(iL h).symm.trans fg,⟨fo,by simp only; omega⟩,λ _=>rfl⟩,by repeat' first|exact trivial|exact rfl|assumption|apply And.intro⟩,?_⟩) (λ h=>?_)
 ·clear fg fo fs fn
  rintro ⟨a,cs⟩ ⟨f0,f20,al,ah,ag,⟨ao,as_⟩,an⟩
  simp only at f0 f20 al ah ag ao as_ an
  refine csp (λ h=>⟨⟨(0,cs),⟨f0,f20,al,h,Int.le_refl 0,by simp only at h ⊢; omega,?_,⟨ao,by simp only; omega⟩,λ _=>rfl⟩,by repeat' first|exact trivial|exact rfl|assumption|apply And.intro⟩,?_⟩) (λ h=>?_)
  ·have e:clA nrm (ptG nrm n).2 n f a cs=clA nrm (ptG nrm n).2 n f (a+1) (clB nrm (ptG nrm n).2 n f a 0 cs):=iL (by simp only at h; omega)
   simp only
   rw [← e]; exact ag
  ·clear ag ao as_ an
   rintro ⟨b,cs⟩ ⟨_,_,a0,an,bl,bh,bg,⟨bo,bs⟩,bn⟩
   simp only at a0 an bl bh bg bo bs bn
   obtain ⟨m1,m2⟩:=aRM (x:=a) (h:=hN n) a0 (by omega) (by omega) h8
   obtain ⟨m3,m4⟩:=aRM (x:=b) (h:=hN n) bl (by omega) (by omega) h8
   refine cdI (by simp only; omega) (csp (λ h=>?_) (λ h=>?_))
   ·simp only at h
    have hd:∀ x:Int,0≤x->x≤n->0≤x*hN n∧x*hN n≤840:=λ x x0 xn=>⟨Int.mul_nonneg x0 (by omega),by rw [← hh]; exact Int.mul_le_mul_of_nonneg_right xn (by omega)⟩
    have d1:=hd a a0 (by omega)
    have d2:=hd b bl (by omega)
    have d3:=hd (n - 1 - a - b) (by omega) (by omega)
    have e:clB nrm (ptG nrm n).2 n f a b cs=clB nrm (ptG nrm n).2 n f a (b+1) (cs++kV nrm (ptG nrm n).2 (hN n) f (a*hN n) (b*hN n) ((n - 1 - a - b)*hN n)):=iL (by omega)
    rw [e] at bg
    obtain ⟨c1,c2,c3⟩:=aPe (nrm:=nrm) hl (hN n) f (a*hN n) (b*hN n) ((n - 1 - a - b)*hN n)
    refine cdI (by simp only; omega) (cdI (by simp only; omega) (cdI (by omega) (cdI (by simp only; omega) (cdI (by simp only; omega) (cdI (by simp only; omega) ⟨⟨⟨rfl,by simp only; omega⟩,⟨by omega,h8⟩,⟨f0,f20⟩,d1,d2,d3⟩,cdI (by simp only; omega) ⟨(b+1,cs++kV nrm (ptG nrm n).2 (hN n) f (a*hN n) (b*hN n) ((n - 1 - a - b)*hN n)),⟨f0,f20,a0,an,by simp only; omega,by simp only; omega,bg,⟨λ r hr=>?_,?_⟩,λ e=>?_⟩,by simp only [bl9]; omega,by repeat' first|exact trivial|exact rfl|assumption|apply And.intro⟩⟩)))))
    ·rcases List.mem_append.1 hr with hr | hr
     ·exact bo r hr
     ·exact c1 r hr
    ·simp only [aG]; omega
    ·have e:cs++kV nrm (ptG nrm n).2 (hN n) f (a*hN n) (b*hN n) ((n - 1 - a - b)*hN n)=[]:=e
     have:=congrArg List.length e
     simp only [List.length_nil] at this
     rw [aG] at this
     omega
   ·simp only at h
    have e:clB nrm (ptG nrm n).2 n f a b cs=cs:=iM (by omega)
    rw [e] at bg
    exact cdI (by simp only; omega) ⟨(a+1,cs),⟨f0,f20,by simp only; omega,by simp only; omega,bg,⟨bo,by simp only; omega⟩,λ e=>by have:=bn e; omega⟩,by simp only [bl6]; omega,by repeat' first|exact trivial|exact rfl|assumption|apply And.intro⟩
  ·simp only at h
   have e:clA nrm (ptG nrm n).2 n f a cs=cs:=iM (by omega)
   rw [e] at ag
   exact cdI (by simp only; omega) ⟨(f+1,cs),⟨by simp only; omega,by simp only; omega,ag,⟨ao,by simp only; omega⟩,λ e=>by have:=an e; omega⟩,by simp only [bl3]; omega,by repeat' first|exact trivial|exact rfl|assumption|apply And.intro⟩
 ·simp only at h
  have e:clF nrm (ptG nrm n).2 n f cs=cs:=iM (by omega)
  rw [e] at fg
  subst fg
  have hne:clG nrm n≠[]:=λ e=>by have:=fn e; omega
  have hpm:=bY (cf:=cf3) aLj fo
  have hcl:(dB nrm n).length=(clG nrm n).length:=hpm.length_eq
  have hco:∀ r ∈ dB nrm n,okR 3 r=true:=λ r hr=>fo r (hpm.mem_iff.1 hr)
  refine ⟨⟨fo,hne,by simp only; omega,rfl⟩,⟨(0,[]),⟨Int.le_refl 0,by simp only; omega,rfl⟩,⟨⟨rfl,rfl,hcl.symm,by simp only; omega,rfl,trivial⟩,⟨rfl,rfl,⟨trivial,rfl⟩,trivial,hcl.symm,rfl,trivial,trivial⟩,rfl,rfl,rfl,trivial⟩⟩,?_⟩
  rintro ⟨i,es⟩ ⟨il,ih,ie⟩
  simp only at il ih ie
  refine csp (λ h=>?_) (λ h=>?_)
  ·simp only at h
   have hi:i.toNat < (dB nrm n).length:=by omega
   obtain ⟨p,q,t,hr⟩:∃ p q t,(dB nrm n).getD i.toNat []=[.int .i64 p,.int .i64 q,.int .i64 t]:=⟨_,_,_,(ok3 (hco _ (by rw [gD hi]; exact List.getElem_mem hi):okR 3 ((dB nrm n).getD i.toNat [])=true)).1⟩
   have el:es.length≤3000:=by rw [ie,aBC,List.length_take]; omega
   refine cd1 (by simp only; omega) (cd1 ⟨rfl,hi⟩ ⟨p,q,t,by rw [hr]; rfl,cd1 ⟨rfl,by simp only [List.length_cons,List.length_nil]; omega,by simp only [List.length_cons,List.length_nil]; omega⟩ (cdI (by simp only; omega) ⟨(i+1,es++[[.int .i64 p,.int .i64 q],[.int .i64 p,.int .i64 t],[.int .i64 q,.int .i64 t]]),⟨by simp only; omega,by simp only; omega,?_⟩,by simp only [aU0]; omega,by repeat' first|exact trivial|exact rfl|assumption|apply And.intro⟩)⟩)
   simp only
   rw [show (i+1).toNat=i.toNat+1 by omega,aEK hi,ie,hr]
   simp only [edL,List.flatMap_append,List.flatMap_cons,List.flatMap_nil,List.append_nil]
   rfl
  ·simp only at h
   have hi:i.toNat=(dB nrm n).length:=by omega
   rw [hi,List.take_length] at ie
   subst ie
   have heo:=aTp hco
   have hel:=aBC (dB nrm n)
   have hpe:=bY (cf:=cf2) aIN heo
   have hsl:(dC 2 cf2 (edL (dB nrm n))).length=(edL (dB nrm n)).length:=hpe.length_eq
   have hen:edL (dB nrm n)≠[]:=λ e=>by
    rw [e] at hel
    have h0:(clG nrm n).length=0:=by simp only [List.length_nil] at hel; omega
    exact hne (List.eq_nil_of_length_eq_zero h0)
   refine ⟨⟨heo,hen,by simp only; omega,rfl⟩,⟨hsl.symm,⟨λ j hj=>?_,by simp only; omega⟩,hP.dup⟩,?_⟩
   ·have:=ok2 (heo _ (hpe.mem_iff.1 (by rw [gD hj]; exact List.getElem_mem hj)):okR 2 ((dC 2 cf2 (edL (dB nrm n))).getD j [])=true)
    exact ⟨_,_,this.1⟩
   ·(repeat' (first | exact trivial | exact rfl | assumption | apply And.intro))
def aH3:Prop:=∀ (nrm:NrT) (vld:Int->Int->Int->Int->Bool) (n:Int),BldP nrm n->zU Tryz.prog { glob:=glb,spec:=lk [],specH:=lk [(37,aF7 nrm vld),(85,vI nrm vld),(86,aEP),(90,aEO),(92,vH)],nowf:=true,shape:=[71] } { nt:=180,drop:=drp [(1,24576),(4,131072),(6,786432),(7,6291456),(9,125829120),(10,805306368),(11,72057592964186112),(12,144115188075855872),(13,4323455642275676160),(14,64563604257983430656),(16,3541774862152233910272),(17,79228157791897854723898736640),(18,79228162514264337593543950336),(19,2376844875427930127806318510080),(20,1293003612232793989526637269483520),(21,663315923677824229544770906057867264),(22,4652297985247205555163324710981206016),(24,255211775190703847597530955573826158592),(25,178405621305878064193822282806579460279631872),(26,93535926383216198520050697008095932071087634907136),(27,93536104789177786765035829293842113257979682750464),(28,1309505467048489014710501610113789585611715558506496),(30,71835728478088540235547516897670742982128396352356352),(31,95780971304118053647396689196894323976171195136475136),(32,383123885216472214589586756787577295904684780545900544),(33,766247770432944429179173513575154591809369561091801088)],fr:=1000,kp:=[],emp:=λ id=>cond (Nat.beq id 2) [(1101404,1600,162,3)] (cond (Nat.beq id 14) [(1101405,1700,143,2)] []),frz:=λ id=>cond (Nat.beq id 19) [1001600] [] } (λ id st=>cond (Nat.beq id 3) (some (bl3 nrm n)) (aPO 9 4 5 (bl9 nrm n) id st (vQ [(6,4,bl6 nrm n),(15,68,λ _=>aU0 nrm n)] id st))) 6 (aRf 7 (aTQ Tryz.f43)) ⟨[(0,.int .i64 n)],[]⟩ (λ st=>leS st (aXW nrm n))
theorem aTS:aDh=aH3:=by kernel_rfl
theorem aXX:aH3:=@Eq.mp (aDh) (aH3) (aTS) (aTT)
open Go.RowKit (Below)
def gK (k:Nat):Bool:=Nat.blt k 3000&&!(Nat.beq k 1002)
theorem aGU {k:Nat} (h:gK k=true):k < 3000∧k≠1002:=by
 simp only [gK,aC,Bool.not_eq_true'] at h
 refine ⟨aK h.1,λ e=>?_⟩
 subst e; exact absurd h.2 (by decide)
mutual
def gA:AV->Bool
 | .agg cs=>gL cs
 | .tup cs=>gL cs
 | .fn _ cs=>gL cs
 | .ptr j _=>gK j
 | .acc j _ _=>gK j
 | .ms j _ _ _ _=>gK j
 | .rw j _ _=>gK j
 | .mw j _ _ _ _ _=>gK j
 | .prw j _ _ _ _=>gK j
 | .frz j _ _ _=>gK j
 | .mpv j=>gK j
 | _=>true
def gL:List AV->Bool
 | []=>true
 | x::xs=>gA x&&gL xs
end
theorem gN {j k:Nat} (h:gK j=true) (hk:(!(Nat.beq j k))=false):gK k=true:=by
 simp only [Bool.not_eq_false'] at hk
 rw [← aA hk]; exact h
mutual
theorem aOi {k:Nat}:∀ (x:AV),gA x=true->nn k x=false->gK k=true
 | .agg cs,h,e=>aGT cs (by simpa only [gA] using h) (by simpa only [nn] using e)
 | .tup cs,h,e=>aGT cs (by simpa only [gA] using h) (by simpa only [nn] using e)
 | .fn _ cs,h,e=>aGT cs (by simpa only [gA] using h) (by simpa only [nn] using e)
 | .ptr j _,h,e=>gN (by simpa only [gA] using h) (by simpa only [nn] using e)
 | .acc j _ _,h,e=>gN (by simpa only [gA] using h) (by simpa only [nn] using e)
 | .ms j _ _ _ _,h,e=>gN (by simpa only [gA] using h) (by simpa only [nn] using e)
 | .rw j _ _,h,e=>gN (by simpa only [gA] using h) (by simpa only [nn] using e)
 | .mw j _ _ _ _ _,h,e=>gN (by simpa only [gA] using h) (by simpa only [nn] using e)
 | .prw j _ _ _ _,h,e=>gN (by simpa only [gA] using h) (by simpa only [nn] using e)
 | .frz j _ _ _,h,e=>gN (by simpa only [gA] using h) (by simpa only [nn] using e)
 | .mpv j,h,e=>gN (by simpa only [gA] using h) (by simpa only [nn] using e)
 | .int _ _,_,e=>by simp [nn] at e
 | .bool _,_,e=>by simp [nn] at e
 | .str _,_,e=>by simp [nn] at e
 | .sl _ _ _,_,e=>by simp [nn] at e
 | .nils,_,e=>by simp [nn] at e
 | .ro _,_,e=>by simp [nn] at e
 | .nilp,_,e=>by simp [nn] at e
 | .undef,_,e=>by simp [nn] at e
 | .dead,_,e=>by simp [nn] at e
theorem aGT {k:Nat}:∀ (l:List AV),gL l=true->nnl k l=false->gK k=true
 | [],_,e=>by simp [nnl] at e
 | x::l,h,e=>by
  simp only [gL,aC] at h
  simp only [nnl,Bool.and_eq_false_iff] at e
  rcases e with e | e
  ·exact aOi x h.1 e
  ·exact aGT l h.2 e
end
def gB:Blk->Bool
 | .cells cs=>gL cs
 | .row e _ _=>Nat.blt e 2000000
 | .nrow _ _ _ _=>false
 | _=>true
theorem aWE {b:Blk} {cs:List AV} (h:gB b=true) (hi:aIL b cs) {k:Nat} (e:nnl k cs=false):gK k=true:=by
 cases b with
 | cells ds=>have hi:ds=cs:=hi; subst hi; exact aGT _ h e
 | row e0 s xs=>have:e0 < 2000000:=aK h; have:=hi.1; omega
 | nrow e0 s ks xs=>cases h
 | tok e s n=>exact hi.elim
 | mp kt et l=>exact hi.elim
 | gone=>exact hi.elim
def gT:List (Nat × AV)->Bool
 | []=>true
 | (_,x)::l=>gA x&&gT l
def gH:List (Nat × Blk)->Bool
 | []=>true
 | (k,b)::l=>gK k&&!(Nat.beq k 1116)&&gB b&&gH l
theorem aLJ:∀ {l:List (Nat × AV)} {t:Nat} {x:AV},gT l=true->lk l t=some x->gA x=true
 | [],t,x,_,e=>by simp [lk] at e
 | (j,y)::l,t,x,h,e=>by
  simp only [gT,aC] at h
  simp only [lk] at e
  cases hj:Nat.beq j t with
  | true=>rw [hj] at e; simp only [cond_true,aJ] at e; subst e; exact h.1
  | false=>rw [hj] at e; exact aLJ h.2 e
theorem eQ:∀ {l:List (Nat × Blk)} {k:Nat} {b:Blk},gH l=true->lk l k=some b->k < 3000∧k≠1002∧k≠1116∧gB b=true
 | [],t,x,_,e=>by simp [lk] at e
 | (j,y)::l,t,x,h,e=>by
  simp only [gH,aC,Bool.not_eq_true'] at h
  simp only [lk] at e
  cases hj:Nat.beq j t with
  | true =>
   rw [hj] at e; simp only [cond_true,aJ] at e; subst e
   have:=aA hj
   subst this
   exact ⟨(aGU h.1.1.1).1,(aGU h.1.1.1).2,λ e=>by subst e; exact absurd h.1.1.2 (by decide),h.1.2⟩
  | false=>rw [hj] at e; exact eQ h.2 e
theorem aWJ {S:Pin} {x:AV} {m m':Nm} {v:Value} (hg:gA x=true) (hm:∀ k,k < 3000->k≠1002->m' k=m k) (h:CV S x m v):CV S x m' v :=
 CV.mono (Ext.refl S) x m m' v (λ k u hk e=>⟨u,by rw [hm k (aGU (aOi x hg hk)).1 (aGU (aOi x hg hk)).2]; exact e,.refl u⟩) h
theorem aCT {S:Pin} {sl:List (Nat × AV)} {H H':List (Nat × Blk)} {m m':Nm} (hg:gT sl=true) (hm:∀ k,k < 3000->k≠1002->m' k=m k) {t:Nat} {v:Value} (h:CV S (St.get ⟨sl,H⟩ t) m v):CV S (St.get ⟨sl,H'⟩ t) m' v:=by
 unfold St.get at h ⊢
 simp only at h ⊢
 cases e:lk sl t with
 | none=>simp only [CV]
 | some x=>rw [e] at h; exact aWJ (aLJ hg e) hm h
theorem aBg {S:Pin} {b:Blk} {m m':Nm} {w:World} {k:Nat} (hg:gB b=true) (hk:k < 3000) (hk':k≠1002) (hm:∀ k,k < 3000->k≠1002->m' k=m k) (h:fJ S m w k b):fJ S m' w k b :=
 h.keep (Ext.refl S) (λ cs vs hi hv=>CVl.mono (Ext.refl S) cs m m' vs (λ j u hj e=>⟨u,by have:=aGU (aWE hg hi hj); rw [hm j this.1 this.2]; exact e,.refl u⟩) hv) (hm k hk hk') (λ _ _ _ _=>⟨rfl,λ _=>rfl⟩)
theorem fE {α:Type} (b:List (Nat × α)) (k:Nat):∀ (a:List (Nat × α)),lk (a++b) k=match lk a k with | some x=>some x | none=>lk b k
 | []=>rfl
 | (j,x)::a=>by
  simp only [List.cons_append,lk]
  cases Nat.beq j k with
  | true=>rfl
  | false=>exact fE b k a
def aH5:Nat->List (LL)->LL
 | _,[]=>[]
 | j,ys::l=>[.rw j 1 ys.length]::aH5 (j+1) l
def aTU (e:Nat):Nat->List (LL)->List (Nat × Blk)
 | _,[]=>[]
 | j,ys::l=>(j,.row e 1 ys)::aTU e (j+1) l
theorem mE:∀ (l:List (LL)) (i j:Nat),(aH5 i l)[j]?=(l[j]?).map λ ys=>[AV.rw (i+j) 1 ys.length]
 | [],i,j=>by simp [aH5]
 | ys::l,i,0=>by simp [aH5]
 | ys::l,i,j+1=>by
  simp only [aH5,List.getElem?_cons_succ]
  rw [mE l (i+1) j,show i+1+j=i+(j+1) by omega]
theorem jZ:∀ (l:List (LL)) (i:Nat),(aH5 i l).length=l.length
 | [],i=>rfl
 | ys::l,i=>by simp only [aH5,List.length_cons,jZ l (i+1)]
theorem aBN (e:Nat):∀ (l:List (LL)) (i k:Nat),lk (aTU e i l) k=if i≤k then (l[k - i]?).map (Blk.row e 1) else none
 | [],i,k=>by simp [aTU,lk]
 | b::l,i,k=>by
  simp only [aTU,lk]
  rw [aBN e l _ k]
  by_cases h:i=k
  ·subst h; rw [aY]; simp
  ·rw [nbeq_ne h]
   simp only [cond_false]
   by_cases h1:i≤k
   ·rw [if_pos (by omega),if_pos h1,show k - i=(k - (i+1))+1 by omega]; simp
   ·rw [if_neg (by omega),if_neg h1]
abbrev sC:Nat:=22
abbrev aJa:Nat:=3
def aBO (X:List (Nat × Blk)) (xss:List (LL)):List (Nat × Blk):=X++(1116,.row (sC+2000000) 1 (aH5 3000 xss))::aTU aJa 3000 xss
def kpJ:List Nat:=1002::eJ 4000 200
def bV (X:List (Nat × Blk)) (els:LL) (ys:LL):List (Nat × Blk):=X++[(1116,.nrow sC 1 kpJ els),(1002,.row aJa 1 ys)]
theorem aH4 {X:List (Nat × Blk)} {xss:List (LL)} {k:Nat} {b:Blk} (h:lk X k=some b):lk (aBO X xss) k=some b:=by
 simp only [aBO,fE,h]
theorem rE {X:List (Nat × Blk)} (hX:gH X=true) (xss:List (LL)):lk (aBO X xss) 1116=some (.row (sC+2000000) 1 (aH5 3000 xss)):=by
 simp only [aBO,fE]
 cases e:lk X 1116 with
 | some b=>exact absurd rfl (eQ hX e).2.2.1
 | none=>simp only [lk,aY,cond_true]
theorem fZ {X:List (Nat × Blk)} (hX:gH X=true) {xss:List (LL)} {j:Nat} {ys:LL} (h:xss[j]?=some ys):lk (aBO X xss) (3000+j)=some (.row aJa 1 ys):=by
 simp only [aBO,fE]
 cases e:lk X (3000+j) with
 | some b=>have:=(eQ hX e).1; omega
 | none =>
  simp only [lk]
  rw [nbeq_ne (by omega:1116≠3000+j),aBN,if_pos (by omega),show 3000+j - 3000=j by omega,h]
  rfl
theorem mD {X:List (Nat × Blk)} {xss:List (LL)} {k:Nat} {b:Blk} (h:lk (aBO X xss) k=some b):lk X k=some b∨(k=1116∧b=.row (sC+2000000) 1 (aH5 3000 xss))∨∃ j ys,k=3000+j∧xss[j]?=some ys∧b=.row aJa 1 ys:=by
 simp only [aBO,fE] at h
 cases e:lk X k with
 | some c=>rw [e] at h; exact .inl h
 | none =>
  rw [e] at h
  simp only [lk] at h
  by_cases h1:1116=k
  ·subst h1
   rw [aY] at h
   simp only [cond_true,aJ] at h
   exact .inr (.inl ⟨rfl,h.symm⟩)
  ·rw [nbeq_ne h1,aBN] at h
   simp only [cond_false] at h
   by_cases h2:3000≤k
   ·rw [if_pos h2] at h
    cases e2:xss[k - 3000]? with
    | none=>rw [e2] at h; cases h
    | some ys=>rw [e2] at h; simp only [Option.map_some,aJ] at h; exact .inr (.inr ⟨k - 3000,ys,by omega,e2,h.symm⟩)
   ·rw [if_neg h2] at h; cases h
theorem aEU {X:List (Nat × Blk)} {els ys:LL} {k:Nat} {b:Blk} (h:lk X k=some b):lk (bV X els ys) k=some b:=by
 simp only [bV,fE,h]
theorem xR {X:List (Nat × Blk)} (hX:gH X=true) (els ys:LL):lk (bV X els ys) 1116=some (.nrow sC 1 kpJ els):=by
 simp only [bV,fE]
 cases e:lk X 1116 with
 | some b=>exact absurd rfl (eQ hX e).2.2.1
 | none=>simp only [lk,aY,cond_true]
theorem xS {X:List (Nat × Blk)} (hX:gH X=true) (els ys:LL):lk (bV X els ys) 1002=some (.row aJa 1 ys):=by
 simp only [bV,fE]
 cases e:lk X 1002 with
 | some b=>exact absurd rfl (eQ hX e).2.1
 | none=>simp only [lk,nbeq_ne (by omega:1116≠1002),aY,cond_true,cond_false]
theorem eZ {X:List (Nat × Blk)} {els ys:LL} {k:Nat} {b:Blk} (h:lk (bV X els ys) k=some b):lk X k=some b∨(k=1116∧b=.nrow sC 1 kpJ els)∨(k=1002∧b=.row aJa 1 ys):=by
 simp only [bV,fE] at h
 cases e:lk X k with
 | some c=>rw [e] at h; exact .inl h
 | none =>
  rw [e] at h
  simp only [lk] at h
  by_cases h1:1116=k
  ·subst h1
   rw [aY] at h
   simp only [cond_true,aJ] at h
   exact .inr (.inl ⟨rfl,h.symm⟩)
  ·rw [nbeq_ne h1] at h
   simp only [cond_false] at h
   by_cases h2:1002=k
   ·subst h2
    rw [aY] at h
    simp only [cond_true,aJ] at h
    exact .inr (.inr ⟨rfl,h.symm⟩)
   ·rw [nbeq_ne h2] at h; cases h
structure JS (G:Gh) (sl:List (Nat × AV)) (X:List (Nat × Blk)) (xss:List (LL)) (a:Act) (w:World) (S:Pin) (m:Nm):Prop where
 rel:Rel G [] ⟨sl,aBO X xss⟩ a w S m
 nil:∀ j,xss[j]?=some []->m (3000+j)=some (.iface 0 (.slice none 0 0))
 gs:gT sl=true
 gh:gH X=true
theorem iN:¬ sC+2000000 < 2000000:=by omega
theorem uB:aJa < 2000000:=by decide
section
variable {G:Gh} {sl:List (Nat × AV)} {X:List (Nat × Blk)} {xss:List (LL)} {a:Act} {w:World} {S:Pin} {m:Nm}
theorem JS.row (h:JS G sl X xss a w S m) {j:Nat} {ys:LL} (hj:xss[j]?=some ys):kT S m w (3000+j) aJa 1 ys:=h.rel.held _ _ (fZ h.gh hj)
theorem aGJ (N:Nat) (hR:Rel G [] ⟨sl,X++[(1116,.row sC 1 (List.replicate N [.nils]))]⟩ a w S m) (hs:gT sl=true) (hX:gH X=true):∃ m',JS G sl X (List.replicate N []) a w S m':=by
 let m2:Nm:=λ k=>if 3000≤k then some (.iface 0 (.slice none 0 0)) else m k
 have hm:∀ k,k < 3000->m2 k=m k:=λ k hk=>if_neg (by omega)
 have hmg:∀ k,3000≤k->m2 k=some (.iface 0 (.slice none 0 0)):=λ k hk=>if_pos hk
 have hx:∀ {k b},lk X k=some b->lk (X++[(1116,.row sC 1 (List.replicate N [AV.nils]))]) k=some b:=λ h=>by simp only [fE,h]
 have ho:lk (X++[(1116,.row sC 1 (List.replicate N [AV.nils]))]) 1116=some (.row sC 1 (List.replicate N [AV.nils])):=by
  simp only [fE]
  cases e:lk X 1116 with
  | some b=>exact absurd rfl (eQ hX e).2.2.1
  | none=>simp only [lk,aY,cond_true]
 have hbk:∀ {k b},lk (aBO X (List.replicate N [])) k=some b->k < 3000->∃ b0,lk (X++[(1116,.row sC 1 (List.replicate N [AV.nils]))]) k=some b0:=λ h hk=>by
  rcases mD h with h | ⟨rfl,_⟩ | ⟨j,ys,rfl,_⟩
  ·exact ⟨_,hx h⟩
  ·exact ⟨_,ho⟩
  ·omega
 have nil2:∀ {k u g},3000≤k->m2 k=some u->bk u=some g->False:=λ hk hu hg=>by
  rw [hmg _ hk] at hu
  injection hu with hu
  subst hu; cases hg
 refine ⟨m2,⟨{ hR with defers:=hR.defers,tmps:=λ t=>aCT hs (λ k hk _=>hm k hk) (hR.tmps t),held:=?_,inj:=?_,own:=?_,m0:=λ k u e=>absurd (hR.keep k u e) (by simp) },λ j hj=>hmg _ (by omega),hs,hX⟩⟩
 ·intro k b hk
  rcases mD hk with hk | ⟨rfl,rfl⟩ | ⟨j,ys,rfl,hj,rfl⟩
  ·have:=eQ hX hk
   exact aBg this.2.2.2 this.1 this.2.1 (λ k hk _=>hm k hk) (hR.held _ _ (hx hk))
  ·obtain ⟨A,c,h1,h2,h3,h4⟩:=hR.held _ _ ho
   rw [List.length_replicate] at h1 h2
   refine ⟨A,c,by rw [hm _ (by omega),h1,jZ,List.length_replicate],by rw [jZ,List.length_replicate]; exact h2,h3,?_⟩
   rcases h4 with h4 | ⟨g,cur,fr,rfl,h7,hfr,h8,h9,h10⟩
   ·exact .inl h4
   ·refine .inr ⟨g,cur,fr,rfl,h7,.inl (hfr.lt (by decide)),h8,h9,λ j x hj=>?_⟩
    rw [mE,List.getElem?_replicate] at hj
    by_cases hjN:j < N
    ·rw [if_pos hjN] at hj
     simp only [Option.map_some,aJ,List.length_nil] at hj
     subst hj
     obtain ⟨q1,q2⟩:=h10 j [AV.nils] (by rw [List.getElem?_replicate,if_pos hjN])
     refine ⟨rfl,λ i y hi=>?_⟩
     cases i with
     | succ i=>simp at hi
     | zero =>
      simp at hi; subst hi
      obtain ⟨v,hv,ho,hy⟩:=q2 0 _ rfl
      refine ⟨v,hv,ho,?_⟩
      rw [bN iN]
      simp only [CV] at hy ⊢
      subst hy
      exact ⟨⟨none,0,rfl,Nat.le_refl _,by decide,λ _=>rfl,λ a ha=>by cases ha⟩,none,0,0,hmg _ (by omega),Nat.le_refl _,λ _=>rfl⟩
    ·rw [if_neg hjN] at hj; cases hj
  ·rw [List.getElem?_replicate] at hj
   split at hj
   ·injection hj with hj
    subst hj
    exact ⟨none,0,hmg _ (by omega),Nat.le_refl _,by decide,.inl ⟨rfl,rfl⟩⟩
   ·cases hj
 ·intro k k' b b' u u' g hk hk' hne hu hu' hg hg'
  by_cases h1:3000≤k
  ·exact nil2 h1 hu hg
  ·by_cases h2:3000≤k'
   ·exact nil2 h2 hu' hg'
   ·rw [hm _ (by omega)] at hu hu'
    obtain ⟨c,hc⟩:=hbk hk (by omega)
    obtain ⟨c',hc'⟩:=hbk hk' (by omega)
    exact hR.inj k k' c c' u u' g hc hc' hne hu hu' hg hg'
 ·intro k b u g hk hu hg
  by_cases h1:3000≤k
  ·exact (nil2 h1 hu hg).elim
  ·rw [hm _ (by omega)] at hu
   obtain ⟨c,hc⟩:=hbk hk (by omega)
   exact hR.own k c u g hc hu hg
def phA (m:Nm) (j:Nat):List AV:=match m (3000+j) with
 | some (.iface 0 (.slice (some _) n c))=>[.ms (4000+j) 0 n c 1]
 | _=>[.nils]
def phM (m:Nm) (j:Nat):Option Value:=match m (3000+j) with
 | some (.iface 0 (.slice (some a) _ _))=>some (.pointer (some ⟨a.block,0,none⟩))
 | _=>none
def elJ (m:Nm) (A n:Nat) (j:Nat):List AV:=if j=A then [.rw 1002 1 n] else phA m j
def m1J (m:Nm) (A N:Nat):Nm:=λ k=>if k=1002 then m (3000+A) else if 4000≤k then (if k - 4000 < N∧k - 4000≠A then phM m (k - 4000) else none) else if k < 3000 then m k else none
def m0J (m:Nm) (A N:Nat):Nm:=λ k=>if k=1002∨4000≤k then m1J m A N k else none
def phi (A k:Nat):Nat:=if k=1002 then 3000+A else k
theorem aRh {m:Nm} {j k:Nat} {y:AV} {i:Nat} (h:(phA m j)[i]?=some y) (hk:nn k y=false):k=4000+j:=by
 unfold phA at h
 split at h
 ·cases i with
  | zero=>simp at h; subst h; simp only [nn,Bool.not_eq_false'] at hk; exact (aA hk).symm
  | succ i=>simp at h
 ·cases i with
  | zero=>simp at h; subst h; simp [nn] at hk
  | succ i=>simp at h
theorem aFw (m:Nm) (j:Nat):(phA m j).length=1:=by unfold phA; split <;> rfl
theorem yF:∀ (n i k:Nat),i≤k->k < i+n->inL k (eJ i n)=true
 | 0,i,k,h1,h2=>by omega
 | n+1,i,k,h1,h2=>by
  simp only [eJ,inL]
  by_cases h:i=k
  ·subst h; rw [aY]; rfl
  ·rw [yF n (Nat.succ i) k (by simp only [Nat.succ_eq_add_one]; omega) (by simp only [Nat.succ_eq_add_one]; omega),Bool.or_true]
theorem aGG {k:Nat} (h:k=1002∨(4000≤k∧k < 4200)):inL k kpJ=true:=by
 rcases h with rfl | ⟨h1,h2⟩
 ·simp only [kpJ,inL,aY,Bool.true_or]
 ·simp only [kpJ,inL]
  rw [yF 200 4000 k h1 h2,Bool.or_true]
theorem aGF {k:Nat} (h:k=1002∨(4000≤k∧k < 4200)):k ∈ kpJ:=mW (aGG h)
theorem aSn (h:JS G sl X xss a w S m) (hN:xss.length≤200) {A:Nat} {ys:LL} (hA:xss[A]?=some ys) :
  ∃ (els:LL) (m1 m0:Nm) (M1:Nat->Prop),els.length=xss.length∧els[A]?=some [.rw 1002 1 ys.length] ∧
   Rel ⟨w,S,m0,M1⟩ kpJ ⟨sl,bV X els ys⟩ a w S m1 ∧
   ∀ (sl':List (Nat × AV)) (X':List (Nat × Blk)) (ys' els':LL) (a':Act) (w':World) (S':Pin) (m':Nm),gT sl'=true->gH X'=true->(ys'=[]->ys=[])->els'.length=els.length->els'[A]?=some [.rw 1002 1 ys'.length]->(∀ j,j≠A->els'[j]?=els[j]?) ->
    Rel ⟨w,S,m0,M1⟩ kpJ ⟨sl',bV X' els' ys'⟩ a' w' S' m'->∃ m2,JS G sl' X' (xss.set A ys') a' w' S' m2:=by
 have hR:=h.rel
 have hAN:A < xss.length:=(aF.1 hA).1
 let els:LL:=(List.range xss.length).map (elJ m A ys.length)
 have hel:∀ j,els[j]?=if j < xss.length then some (elJ m A ys.length j) else none:=λ j=>by
  show ((List.range xss.length).map (elJ m A ys.length))[j]?=_
  rw [List.getElem?_map]
  by_cases hj:j < xss.length
  ·rw [if_pos hj,List.getElem?_range hj]; rfl
  ·rw [if_neg hj,List.getElem?_eq_none (by simpa using hj)]; rfl
 have hln:els.length=xss.length:=by show ((List.range xss.length).map _).length=_; simp
 let m1:Nm:=m1J m A xss.length
 let m0:Nm:=m0J m A xss.length
 let M1:Nat->Prop:=λ g=>∃ k b u,lk (bV X els ys) k=some b∧m1 k=some u∧bk u=some g
 have hm:∀ k,k < 3000->k≠1002->m1 k=m k:=λ k h1 h2=>by
  show (if k=1002 then _ else if 4000≤k then _ else if k < 3000 then m k else none)=_
  rw [if_neg h2,if_neg (by omega),if_pos h1]
 have hm2:m1 1002=m (3000+A):=if_pos rfl
 have hm4:∀ j,j < xss.length->j≠A->m1 (4000+j)=phM m j:=λ j h1 h2=>by
  show (if 4000+j=1002 then _ else if 4000≤4000+j then (if 4000+j - 4000 < xss.length∧4000+j - 4000≠A then phM m (4000+j - 4000) else none) else _)=_
  rw [if_neg (by omega),if_pos (by omega),show 4000+j - 4000=j by omega,if_pos ⟨h1,h2⟩]
 have hphi:∀ {k b},lk (bV X els ys) k=some b->m1 k=m (phi A k)∧∃ b0,lk (aBO X xss) (phi A k)=some b0:=λ {k b} hk=>by
  rcases eZ hk with hk | ⟨rfl,_⟩ | ⟨rfl,_⟩
  ·have:=eQ h.gh hk
   unfold phi
   rw [if_neg this.2.1]
   exact ⟨hm k this.1 this.2.1,_,aH4 hk⟩
  ·exact ⟨hm _ (by omega) (by omega),_,rE h.gh xss⟩
  ·exact ⟨hm2,_,fZ h.gh hA⟩
 have hphx:∀ {k b},lk (bV X els ys) k=some b->∀ j,j≠A->phi A k≠3000+j:=λ {k b} hk j hj=>by
  rcases eZ hk with hk | ⟨rfl,_⟩ | ⟨rfl,_⟩
  ·have:=eQ h.gh hk
   unfold phi
   rw [if_neg this.2.1]; omega
  ·unfold phi; rw [if_neg (by omega)]; omega
  ·unfold phi; rw [if_pos rfl]; omega
 have hM1:∀ {g},M1 g->G.w0.heap.size≤g∨G.M g:=λ {g} ⟨k,b,u,h1,h2,h3⟩=>by
  obtain ⟨e,b0,hb0⟩:=hphi h1
  rw [e] at h2
  exact hR.own _ b0 u g hb0 h2 h3
 have hM1j:∀ {g},M1 g->∀ {j y u},j≠A->xss[j]?=some y->m (3000+j)=some u->bk u=some g->False:=λ {g} ⟨k,b,u,h1,h2,h3⟩ {j y u'} hj hy hu hg=>by
  obtain ⟨e,b0,hb0⟩:=hphi h1
  rw [e] at h2
  exact hR.inj _ _ _ _ u u' g hb0 (fZ h.gh hy) (hphx h1 j hj) h2 hu h3 hg
 refine ⟨els,m1,m0,M1,hln,by rw [hel,if_pos hAN]; simp only [elJ,if_true],?_,?_⟩
 ·refine { defers:=hR.defers,pin0:=Ext.refl S,pinNew:=λ _ _ _ _=>rfl,agree:=hR.agree,tmps:=λ t=>aCT h.gs hm (hR.tmps t),held:=?_,inj:=?_,own:=λ k b u g hk hu hg=>.inr ⟨k,b,u,hk,hu,hg⟩,os:=rfl,tape:=rfl,output:=rfl,size:=Nat.le_refl _,frame:=λ _ _ _=>rfl,m0:=?_,keep:=?_ }
  ·intro k b hk
   rcases eZ hk with hk | ⟨rfl,rfl⟩ | ⟨rfl,rfl⟩
   ·have:=eQ h.gh hk
    exact aBg this.2.2.2 this.1 this.2.1 hm (hR.held _ _ (aH4 hk))
   ·obtain ⟨B,c,h1,h2,h3,h4⟩:=hR.held _ _ (rE h.gh xss)
    rw [jZ] at h1 h2
    refine ⟨⟨B,c,by rw [hm _ (by omega) (by omega),h1,hln],by rw [hln]; exact h2,h3,?_⟩,?_⟩
    ·rcases h4 with h4 | ⟨g,cur,fr,rfl,h7,hfr,h8,h9,h10⟩
     ·exact .inl h4
     ·refine .inr ⟨g,cur,fr,rfl,h7,hfr,h8,h9,λ j x hj=>?_⟩
      rw [hel] at hj
      by_cases hjN:j < xss.length
      ·rw [if_pos hjN] at hj
       injection hj with hj
       subst hj
       have hy:xss[j]?=some xss[j]:=aD hjN
       obtain ⟨q1,q2⟩:=h10 j _ (by rw [mE,hy]; rfl)
       obtain ⟨v,hv,ho,hc⟩:=q2 0 _ rfl
       rw [bN iN] at hc
       by_cases hjA:j=A
       ·subst hjA
        rw [hA] at hy
        injection hy with hy
        refine ⟨by simp [elJ],λ i y hi=>?_⟩
        rw [elJ,if_pos rfl] at hi
        cases i with
        | succ i=>simp at hi
        | zero =>
         simp at hi; subst hi
         refine ⟨v,hv,ho,?_⟩
         rw [bN iN]
         simp only [CV] at hc ⊢
         rw [hm2,hy]; exact hc
       ·obtain ⟨C,d,r1,r2,r3,r4⟩:=h.row hy
        simp only [CV] at hc
        obtain ⟨_,A1,q,c1,e1,e2,e3⟩:=hc
        rw [r1] at e1
        injection e1 with e1
        injection e1 with _ e1
        injection e1 with e1 e4 e5
        subst e1; subst e4; subst e5
        have hv2:=e3 rfl
        refine ⟨by rw [elJ,if_neg hjA]; exact aFw m j,λ i y hi=>?_⟩
        rw [elJ,if_neg hjA] at hi
        refine ⟨v,?_,ho,?_⟩
        ·cases i with
         | zero=>exact hv
         | succ i=>have:=(aF.1 hi).1; rw [aFw] at this; omega
        ·rw [bN iN]
         rcases r4 with ⟨rfl,rfl⟩ | ⟨g',cur',fr',rfl,_⟩
         ·unfold phA at hi
          rw [r1] at hi
          simp only at hi
          cases i with
          | succ i=>simp at hi
          | zero =>
           simp at hi; subst hi
           simp only [CV]
           rw [hv2,Nat.le_zero.1 r2]
         ·unfold phA at hi
          rw [r1] at hi
          simp only at hi
          cases i with
          | succ i=>simp at hi
          | zero =>
           simp at hi; subst hi
           simp only [CV]
           refine ⟨g',0,?_,hv2,λ _=>rfl,r2,r3⟩
           rw [hm4 j hjN hjA,phM,r1]
           rfl
      ·rw [if_neg hjN] at hj; cases hj
    ·intro j i x y hj hi k hk
     rw [hel] at hj
     split at hj
     ·rename_i hjN
      injection hj with hj
      subst hj
      unfold elJ at hi
      split at hi
      ·cases i with
       | zero =>
        simp at hi; subst hi
        simp only [nn,Bool.not_eq_false'] at hk
        exact aGG (.inl (aA hk).symm)
       | succ i=>simp at hi
      ·exact aGG (.inr (by have:=aRh hi hk; omega))
     ·cases hj
   ·obtain ⟨B,c,h1,h2,h3,h4⟩:=h.row hA
    refine ⟨B,c,hm2.trans h1,h2,h3,?_⟩
    rcases h4 with h4 | ⟨g,cur,fr,rfl,h7,hfr,h8,h9,h10⟩
    ·exact .inl h4
    ·refine .inr ⟨g,cur,fr,rfl,h7,hfr,h8,h9,λ j x hj=>⟨(h10 j x hj).1,λ i y hi=>?_⟩⟩
     have:=(h10 j x hj).2 i y hi
     rw [bG uB] at this ⊢
     exact this
  ·intro k k' b b' u u' g hk hk' hne hu hu' hg
   obtain ⟨e,b0,hb0⟩:=hphi hk
   obtain ⟨e',b0',hb0'⟩:=hphi hk'
   rw [e] at hu
   rw [e'] at hu'
   refine hR.inj _ _ b0 b0' u u' g hb0 hb0' (λ q=>hne ?_) hu hu' hg
   by_cases hk2:k=1002
   ·by_cases hk2':k'=1002
    ·rw [hk2,hk2']
    ·exfalso
     subst hk2
     rcases eZ hk' with hk' | ⟨rfl,_⟩ | ⟨rfl,_⟩
     ·have:=(eQ h.gh hk').1
      simp only [phi,if_true,if_neg hk2'] at q; omega
     ·simp [phi] at q; omega
     ·exact hk2' rfl
   ·by_cases hk2':k'=1002
    ·exfalso
     subst hk2'
     rcases eZ hk with hk | ⟨rfl,_⟩ | ⟨rfl,_⟩
     ·have:=(eQ h.gh hk).1
      simp only [phi,if_true,if_neg hk2] at q; omega
     ·simp [phi] at q; omega
     ·exact hk2 rfl
    ·simpa only [phi,if_neg hk2,if_neg hk2'] using q
  ·intro k u e
   have e:(if k=1002∨4000≤k then m1 k else none)=some u:=e
   split at e
   ·exact ⟨u,e,.refl u⟩
   ·cases e
  ·intro k u e
   have e:(if k=1002∨4000≤k then m1 k else none)=some u:=e
   split at e
   ·rename_i hk
    rcases hk with rfl | hk
    ·exact aGF (.inl rfl)
    ·refine aGF (.inr ⟨hk,?_⟩)
     have e:(if k=1002 then m (3000+A) else if 4000≤k then (if k - 4000 < xss.length∧k - 4000≠A then phM m (k - 4000) else none) else if k < 3000 then m k else none)=some u:=e
     rw [if_neg (by omega),if_pos hk] at e
     split at e
     ·omega
     ·cases e
   ·cases e
 ·intro sl' X' ys' els' a' w' S' m' hs' hX' hnil hln' hA' hoth hR'
  have hW:w.heap.size≤w'.heap.size:=hR'.size
  let m2:Nm:=λ k=>if k=3000+A then m' 1002 else if 3000≤k then m k else m' k
  have g1:∀ k,k < 3000->m2 k=m' k:=λ k hk=>by
   show (if k=3000+A then _ else if 3000≤k then _ else _)=_
   rw [if_neg (by omega),if_neg (by omega)]
  have g2:m2 (3000+A)=m' 1002:=if_pos rfl
  have g3:∀ j,j≠A->m2 (3000+j)=m (3000+j):=λ j hj=>by
   show (if 3000+j=3000+A then _ else if 3000≤3000+j then _ else _)=_
   rw [if_neg (by omega),if_pos (by omega)]
  have far:∀ {j y},j≠A->xss[j]?=some y->∀ {u g},m (3000+j)=some u->bk u=some g->g < w.heap.size∧¬ M1 g∧w'.heap[g]?=w.heap[g]?∧∀ o,S' g o=S g o:=λ {j y} hj hy {u g} hu hg=>by
   have h1:g < w.heap.size:=(hR.held _ _ (fZ h.gh hy)).lt hu hg
   have h2:¬ M1 g:=λ q=>hM1j q hj hy hu hg
   exact ⟨h1,h2,hR'.frame g h1 h2,λ o=>hR'.pinNew g o h1 h2⟩
  have hxs:∀ {j y},(xss.set A ys')[j]?=some y->(j=A∧y=ys')∨(j≠A∧xss[j]?=some y):=λ {j y} hj=>by
   rw [List.getElem?_set] at hj
   by_cases e:A=j
   ·subst e
    rw [if_pos rfl,if_pos hAN] at hj
    injection hj with hj
    exact .inl ⟨rfl,hj.symm⟩
   ·rw [if_neg e] at hj
    exact .inr ⟨λ q=>e q.symm,hj⟩
  have hrow:=hR'.held _ _ (xS hX' els' ys')
  have cls:∀ {k b},lk (aBO X' (xss.set A ys')) k=some b->(∃ q c,lk (bV X' els' ys') q=some c∧m2 k=m' q∧k=phi A q∧q < 3000)∨∃ j y,k=3000+j∧j≠A∧xss[j]?=some y∧m2 k=m k:=λ {k b} hk=>by
   rcases mD hk with hk | ⟨rfl,_⟩ | ⟨j,y,rfl,hj,_⟩
   ·have:=eQ hX' hk
    exact .inl ⟨k,b,aEU hk,g1 k this.1,by unfold phi; rw [if_neg this.2.1],this.1⟩
   ·exact .inl ⟨1116,_,xR hX' _ _,g1 _ (by omega),by unfold phi; rw [if_neg (by omega)],by omega⟩
   ·rcases hxs hj with ⟨rfl,rfl⟩ | ⟨hj,hy⟩
    ·exact .inl ⟨1002,_,xS hX' _ _,g2,by unfold phi; rw [if_pos rfl],by omega⟩
    ·exact .inr ⟨j,y,rfl,hj,hy,g3 j hj⟩
  refine ⟨m2,⟨{ defers:=hR'.defers,pin0:=hR.pin0.trans hR'.pin0,pinNew:=?_,agree:=hR'.agree,tmps:=λ t=>aCT hs' (λ k hk _=>g1 k hk) (hR'.tmps t),held:=?_,inj:=?_,own:=?_,os:=hR'.os.trans hR.os,tape:=hR'.tape.trans hR.tape,output:=hR'.output.trans hR.output,size:=Nat.le_trans hR.size hW,frame:=?_,m0:=λ k u e=>absurd (hR.keep k u e) (by simp),keep:=hR.keep },?_,hs',hX'⟩⟩
  ·intro b o hb hn
   have h2:¬ M1 b:=λ q=>by
    rcases hM1 q with q | q
    ·omega
    ·exact hn q
   exact (hR'.pinNew b o (Nat.lt_of_lt_of_le hb hR.size) h2).trans (hR.pinNew b o hb hn)
  ·intro k b hk
   rcases mD hk with hk | ⟨rfl,rfl⟩ | ⟨j,y,rfl,hj,rfl⟩
   ·have:=eQ hX' hk
    exact aBg this.2.2.2 this.1 this.2.1 (λ k hk _=>g1 k hk) (hR'.held _ _ (aEU hk))
   ·obtain ⟨⟨B,c,h1,h2,h3,h4⟩,_⟩:=hR'.held _ _ (xR hX' els' ys')
    have hl:(aH5 3000 (xss.set A ys')).length=els'.length:=by rw [jZ,List.length_set,hln',hln]
    refine ⟨B,c,by rw [g1 _ (by omega),h1,hl],by rw [hl]; exact h2,h3,?_⟩
    rcases h4 with h4 | ⟨g,cur,fr,rfl,h7,hfr,h8,h9,h10⟩
    ·exact .inl h4
    ·refine .inr ⟨g,cur,fr,rfl,h7,hfr,h8,h9,λ j x hj=>?_⟩
     rw [mE] at hj
     cases hy:(xss.set A ys')[j]? with
     | none=>rw [hy] at hj; cases hj
     | some y =>
      rw [hy] at hj
      simp only [Option.map_some,aJ] at hj
      subst hj
      refine ⟨rfl,λ i z hi=>?_⟩
      cases i with
      | succ i=>simp at hi
      | zero =>
       simp at hi; subst hi
       rcases hxs hy with ⟨rfl,rfl⟩ | ⟨hj,hy⟩
       ·obtain ⟨q1,q2⟩:=h10 j _ hA'
        obtain ⟨v,hv,ho,hc⟩:=q2 0 _ rfl
        refine ⟨v,hv,ho,?_⟩
        rw [bN iN] at hc ⊢
        simp only [CV] at hc ⊢
        rw [g2]; exact hc
       ·have hjN:j < xss.length:=(aF.1 hy).1
        have e1:els'[j]?=some (phA m j):=by
         rw [hoth j hj,hel,if_pos hjN,elJ,if_neg hj]
        obtain ⟨C,d,r1,r2,r3,r4⟩:=h.row hy
        rcases r4 with ⟨rfl,rfl⟩ | ⟨g',cur',fr',rfl,r5⟩
        ·have e2:phA m j=[.nils]:=by unfold phA; rw [r1]; rfl
         rw [e2] at e1
         obtain ⟨q1,q2⟩:=h10 j _ e1
         obtain ⟨v,hv,ho,hc⟩:=q2 0 _ rfl
         refine ⟨v,hv,ho,?_⟩
         rw [bN iN] at hc ⊢
         simp only [CV] at hc ⊢
         subst hc
         have hy0:y.length=0:=Nat.le_zero.1 r2
         rw [hy0,g3 j hj,r1,hy0]
         exact ⟨⟨none,0,rfl,Nat.le_refl _,r3,λ _=>rfl,λ a ha=>by cases ha⟩,none,0,0,rfl,Nat.le_refl _,λ _=>rfl⟩
        ·have e2:phA m j=[.ms (4000+j) 0 y.length d 1]:=by unfold phA; rw [r1]; rfl
         rw [e2] at e1
         obtain ⟨q1,q2⟩:=h10 j _ e1
         obtain ⟨v,hv,ho,hc⟩:=q2 0 _ rfl
         refine ⟨v,hv,ho,?_⟩
         rw [bN iN] at hc ⊢
         simp only [CV] at hc ⊢
         obtain ⟨g2',o,k1,k2,k3,k4,k5⟩:=hc
         have hm40:m0 (4000+j)=some (.pointer (some ⟨g',0,none⟩)):=by
          show (if 4000+j=1002∨4000≤4000+j then m1 (4000+j) else none)=_
          rw [if_pos (.inr (by omega)),hm4 j hjN hj,phM,r1]
          rfl
         obtain ⟨u',hu',hgo⟩:=hR'.m0 _ _ hm40
         rw [hgo.ptr] at hu'
         rw [k1] at hu'
         injection hu' with hu'
         injection hu' with hu'
         injection hu' with hu'
         injection hu' with hu'
         subst hu'
         have hd:d≠0:=λ e=>by
          have hy0:y=[]:=List.eq_nil_of_length_eq_zero (by omega)
          rw [hy0] at hy
          have:=h.nil j hy
          rw [r1] at this
          injection this with this
          injection this with _ this
          injection this with this
          cases this
         have ho:=k3 hd
         subst ho
         subst k2
         rw [g3 j hj,r1]
         exact ⟨⟨_,d,rfl,k4,k5,(λ q=>by cases q),λ a ha=>⟨g2',(Option.some.inj ha).symm⟩⟩,_,_,_,rfl,Nat.le_refl _,λ _=>rfl⟩
   ·rcases hxs hj with ⟨rfl,rfl⟩ | ⟨hj,hy⟩
    ·obtain ⟨B,c,h1,h2,h3,h4⟩:=hrow
     refine ⟨B,c,g2.trans h1,h2,h3,?_⟩
     rcases h4 with h4 | ⟨g,cur,fr,rfl,h7,hfr,h8,h9,h10⟩
     ·exact .inl h4
     ·refine .inr ⟨g,cur,fr,rfl,h7,hfr,h8,h9,λ j x hj=>⟨(h10 j x hj).1,λ i y hi=>?_⟩⟩
      have:=(h10 j x hj).2 i y hi
      rw [bG uB] at this ⊢
      exact this
    ·have hh:=hR.held _ _ (fZ h.gh hy)
     refine hh.keep hR'.pin0 (λ cs vs hi _=>?_) (g3 j hj) (λ u g hu hg=>⟨(far hj hy hu hg).2.2.1,(far hj hy hu hg).2.2.2⟩)
     exact absurd hi.1 (by have:=uB; omega)
  ·intro k k' b b' u u' g hk hk' hne hu hu' hg hg'
   rcases cls hk with ⟨q,c,hq,e,ek,eq3⟩ | ⟨j,y,rfl,hj,hy,e⟩
   ·rcases cls hk' with ⟨q',c',hq',e',ek',eq3'⟩ | ⟨j',y',rfl,hj',hy',e'⟩
    ·rw [e] at hu
     rw [e'] at hu'
     exact hR'.inj q q' c c' u u' g hq hq' (λ z=>hne (by rw [ek,ek',z])) hu hu' hg hg'
    ·rw [e] at hu
     rw [e'] at hu'
     obtain ⟨f1,f2,_⟩:=far hj' hy' hu' hg'
     rcases hR'.own q c u g hq hu hg with z | z
     ·exact absurd z (Nat.not_le.2 f1)
     ·exact f2 z
   ·rcases cls hk' with ⟨q',c',hq',e',ek',eq3'⟩ | ⟨j',y',rfl,hj',hy',e'⟩
    ·rw [e] at hu
     rw [e'] at hu'
     obtain ⟨f1,f2,_⟩:=far hj hy hu hg
     rcases hR'.own q' c' u' g hq' hu' hg' with z | z
     ·exact absurd z (Nat.not_le.2 f1)
     ·exact f2 z
    ·rw [e] at hu
     rw [e'] at hu'
     exact hR.inj _ _ _ _ u u' g (fZ h.gh hy) (fZ h.gh hy') hne hu hu' hg hg'
  ·intro k b u g hk hu hg
   rcases cls hk with ⟨q,c,hq,e,ek,eq3⟩ | ⟨j,y,rfl,hj,hy,e⟩
   ·rw [e] at hu
    rcases hR'.own q c u g hq hu hg with z | z
    ·exact .inl (Nat.le_trans hR.size z)
    ·exact hM1 z
   ·rw [e] at hu
    exact hR.own _ _ u g (fZ h.gh hy) hu hg
  ·intro b hb hn
   have h2:¬ M1 b:=λ q=>by
    rcases hM1 q with q | q
    ·omega
    ·exact hn q
   exact (hR'.frame b (Nat.lt_of_lt_of_le hb hR.size) h2).trans (hR.frame b hb hn)
  ·intro j hj
   rcases hxs hj with ⟨rfl,e⟩ | ⟨hj,hy⟩
   ·rw [g2]
    have hy0:=hnil e.symm
    subst hy0
    have hn:=h.nil j hA
    have h0:m0 1002=some (.iface 0 (.slice none 0 0)):=by
     show (if 1002=1002∨4000≤1002 then m1 1002 else none)=_
     rw [if_pos (.inl rfl),hm2,hn]
    obtain ⟨u',hu',hgo⟩:=hR'.m0 1002 _ h0
    obtain ⟨B,c,h1,_⟩:=hrow
    rw [← e] at h1
    rcases hgo.row with rfl | ⟨A',n',c',rfl,hlt⟩
    ·exact hu'
    ·rw [hu'] at h1
     injection h1 with h1
     injection h1 with _ h1
     injection h1 with _ h1
     simp only [List.length_nil] at h1
     omega
   ·rw [g3 j hj]; exact h.nil j hy
theorem aGI (h:JS G sl X xss a w S m):∃ S',Rel G [] ⟨sl,X++[(1116,.row sC 1 (xss.map λ ys=>[AV.sl 1 false ys]))]⟩ a w S' m:=by
 classical
 have hR:=h.rel
 let P:Nat->Nat->Prop:=λ b o=>∃ j y c,xss[j]?=some y∧m (3000+j)=some (.iface 0 (.slice (some ⟨b,0,none⟩) y.length c))∧o < y.length
 let S':Pin:=λ b o=>if P b o then w.cell? ⟨b,o,none⟩ else S b o
 have hP:∀ {b o},P b o->S' b o=w.cell? ⟨b,o,none⟩:=λ q=>if_pos q
 have hnP:∀ {b o},¬ P b o->S' b o=S b o:=λ q=>if_neg q
 have hx:∀ {k b},lk X k=some b->lk (X++[(1116,Blk.row sC 1 (xss.map λ ys=>[AV.sl 1 false ys]))]) k=some b:=λ h=>by simp only [fE,h]
 have hcs:∀ {k b},lk (X++[(1116,Blk.row sC 1 (xss.map λ ys=>[AV.sl 1 false ys]))]) k=some b->lk X k=some b∨(k=1116∧b=.row sC 1 (xss.map λ ys=>[AV.sl 1 false ys])):=λ {k b} hk=>by
  simp only [fE] at hk
  cases e:lk X k with
  | some c=>rw [e] at hk; exact .inl hk
  | none =>
   rw [e] at hk
   simp only [lk] at hk
   by_cases h1:1116=k
   ·subst h1
    rw [aY] at hk
    simp only [cond_true,aJ] at hk
    exact .inr ⟨rfl,hk.symm⟩
   ·rw [nbeq_ne h1] at hk; cases hk
 have hbig:∀ {k b},lk (X++[(1116,Blk.row sC 1 (xss.map λ ys=>[AV.sl 1 false ys]))]) k=some b->k < 3000∧∃ c,lk (aBO X xss) k=some c:=λ hk=>by
  rcases hcs hk with hk | ⟨rfl,_⟩
  ·exact ⟨(eQ h.gh hk).1,_,aH4 hk⟩
  ·exact ⟨by omega,_,rE h.gh xss⟩
 have row:∀ {j y},xss[j]?=some y->∃ B c vals,m (3000+j)=some (.iface 0 (.slice B y.length c))∧y.length≤c∧c≤maxLen∧(∀ z ∈ y,z.length=1)∧(B=none∧c=0∨∃ g,B=some ⟨g,0,none⟩∧∀ o,S g o=none)∧vals.length=y.length∧CVl S y.flatten dE vals∧(∀ v ∈ vals,v.oneCell'=true)∧∀ g,B=some ⟨g,0,none⟩->∀ (o:Nat) (v:Value),vals[o]?=some v->w.cell? ⟨g,o,none⟩=some v:=λ {j y} hj=>by
  have hh:fJ S m w (3000+j) (.row aJa 1 y):=h.row hj
  obtain ⟨B,c,h1,h2,h3,h4,h5,vals,h6,h7,h8,_,h9⟩:=hh.vals
  rw [bG uB] at h7
  refine ⟨B,c,vals,h1,h2,h3,h4,?_,by omega,h7,h8,h9⟩
  rcases h5 with h5 | ⟨g,_,_,e,_,_,_,e2⟩
  ·exact .inl h5
  ·exact .inr ⟨g,e,e2⟩
 have Pno:∀ {b o},P b o->∀ o',S b o'=none:=λ {b o} ⟨j,y,c,h1,h2,h3⟩ o'=>by
  obtain ⟨B,d,vals,r1,_,_,_,r5,_⟩:=row h1
  rw [h2] at r1
  injection r1 with r1
  injection r1 with _ r1
  injection r1 with r1
  subst r1
  rcases r5 with ⟨e,_⟩ | ⟨g,e,e2⟩
  ·cases e
  ·injection e with e
   injection e with e
   subst e
   exact e2 o'
 have Pcell:∀ {b o},P b o->∃ v,w.cell? ⟨b,o,none⟩=some v∧v.oneCell'=true:=λ {b o} ⟨j,y,c,h1,h2,h3⟩=>by
  obtain ⟨B,d,vals,r1,_,_,_,r5,r6,r7,r8,r9⟩:=row h1
  rw [h2] at r1
  injection r1 with r1
  injection r1 with _ r1
  injection r1 with r1
  subst r1
  have hl:o < vals.length:=by omega
  exact ⟨vals[o],r9 b rfl o _ (aD hl),r8 _ (List.getElem_mem hl)⟩
 have Pown:∀ {b o},P b o->∀ {k c u},k < 3000->lk (aBO X xss) k=some c->m k=some u->bk u=some b->False:=λ {b o} ⟨j,y,c,h1,h2,h3⟩ {k d u} hk hc hu hb =>
  hR.inj k (3000+j) d _ u _ b hc (fZ h.gh h1) (by omega) hu h2 hb rfl
 have hS:Ext S S':=λ b o v e=>by
  by_cases q:P b o
  ·rw [Pno q] at e; cases e
  ·rw [hnP q]; exact e
 have hkeep:∀ {k c u g},k < 3000->lk (aBO X xss) k=some c->m k=some u->bk u=some g->∀ o,S' g o=S g o:=λ hk hc hu hg o=>hnP λ q=>Pown q hk hc hu hg
 refine ⟨S',{ hR with defers:=hR.defers,pin0:=hR.pin0.trans hS,pinNew:=?_,agree:=?_,tmps:=λ t=>((show CV S (St.get ⟨sl,X++[(1116,.row sC 1 (xss.map λ ys=>[AV.sl 1 false ys]))]⟩ t) m _ from aCT h.gs (λ _ _ _=>rfl) (hR.tmps t)):CV S _ m _).ext hS (MLe.refl m),held:=?_,inj:=?_,own:=?_,keep:=hR.keep }⟩
 ·intro b o hb hn
  rw [hnP]
  ·exact hR.pinNew b o hb hn
  ·rintro ⟨j,y,c,h1,h2,h3⟩
   rcases hR.own _ _ _ b (fZ h.gh h1) h2 rfl with q | q
   ·omega
   ·exact hn q
 ·intro b o v e
  by_cases q:P b o
  ·rw [hP q] at e
   obtain ⟨v',h1,h2⟩:=Pcell q
   rw [e] at h1
   injection h1 with h1
   subst h1
   exact ⟨e,h2⟩
  ·rw [hnP q] at e; exact hR.agree b o v e
 ·intro k b hk
  rcases hcs hk with hk | ⟨rfl,rfl⟩
  ·have hg:=eQ h.gh hk
   exact (hR.held _ _ (aH4 hk)).keep hS (λ cs vs _ hv=>hv.ext hS (MLe.refl m)) rfl (λ u g hu hgk=>⟨rfl,hkeep hg.1 (aH4 hk) hu hgk⟩)
  ·obtain ⟨B,c,h1,h2,h3,h4⟩:=hR.held _ _ (rE h.gh xss)
   rw [jZ] at h1 h2
   refine ⟨B,c,by rw [List.length_map]; exact h1,by rw [List.length_map]; exact h2,h3,?_⟩
   rcases h4 with h4 | ⟨g,cur,fr,rfl,h7,hfr,h8,h9,h10⟩
   ·exact .inl h4
   ·refine .inr ⟨g,cur,fr,rfl,h7,.inl (dW.op hfr),h8,λ o=>(hkeep (by omega) (rE h.gh xss) h1 rfl o).trans (h9 o),λ j x hj=>?_⟩
    rw [List.getElem?_map] at hj
    cases hy:xss[j]? with
    | none=>rw [hy] at hj; cases hj
    | some y =>
     rw [hy] at hj
     simp only [Option.map_some,aJ] at hj
     subst hj
     refine ⟨rfl,λ i z hi=>?_⟩
     cases i with
     | succ i=>simp at hi
     | zero =>
      simp at hi; subst hi
      obtain ⟨q1,q2⟩:=h10 j _ (by rw [mE,hy]; rfl)
      obtain ⟨v,hv,ho,hc⟩:=q2 0 _ rfl
      refine ⟨v,hv,ho,?_⟩
      rw [bN iN] at hc
      rw [bG (by decide)]
      simp only [CV] at hc ⊢
      obtain ⟨⟨A0,c0,_,_,_,_,_⟩,A1,q,c1,e1,e2,e3⟩:=hc
      obtain ⟨C,d,vals,r1,r2,r3,r4,r5,r6,r7,r8,r9⟩:=row hy
      rw [r1] at e1
      injection e1 with e1
      injection e1 with _ e1
      injection e1 with e1 e4 e5
      subst e1; subst e4; subst e5
      refine ⟨C,d,e3 rfl,r2,r3,(λ q=>by cases q),?_,?_⟩
      ·rintro rfl
       rcases r5 with ⟨_,e⟩ | ⟨g',e,_⟩
       ·exact e
       ·cases e
      ·intro ad had
       subst had
       rcases r5 with ⟨e,_⟩ | ⟨g',e,e2⟩
       ·cases e
       ·injection e with e
        subst e
        refine ⟨λ _=>rfl,CE.mk λ i x hi=>⟨r4 x (aL hi),CC.mk λ l z hz=>?_⟩⟩
        obtain ⟨u,hu,hcv⟩:=r7.get (jX r4 hi hz)
        have hlt:i*1+l < vals.length:=(aF.1 hu).1
        refine ⟨u,?_,hcv.ext hS (MLe.refl _)⟩
        rw [show (0:Nat)+i*1+l=i*1+l by omega,hP ⟨j,y,d,hy,r1,by omega⟩]
        exact r9 g' rfl _ u hu
 ·intro k k' b b' u u' g hk hk' hne hu hu' hg hg'
  obtain ⟨_,c,hc⟩:=hbig hk
  obtain ⟨_,c',hc'⟩:=hbig hk'
  exact hR.inj k k' c c' u u' g hc hc' hne hu hu' hg hg'
 ·intro k b u g hk hu hg
  obtain ⟨_,c,hc⟩:=hbig hk
  exact hR.own k c u g hc hu hg
end
end Go.Proofs.YtgbbmadjdaphnaaGreatDoor
namespace Go.Proofs.YtgbbmadjdaphnaaGreatDoor
open Go Go.Sort
def aP (zs:List Int):LL:=zs.map λ z=>[.int .i64 z]
def aQ (ys:LL):List Int:=ys.map λ r=>nI r 0
@[irreducible] def fT (ys:LL):LL:=aP ((aQ ys).mergeSort λ x y=>decide (x≤y))
theorem oJ (ys:LL):fT ys=aP ((aQ ys).mergeSort λ x y=>decide (x≤y)):=by unfold fT; rfl
theorem iO (ys:LL):(fT ys).length=ys.length:=by
 rw [oJ]; simp [aP,aQ,List.length_mergeSort]
theorem aES:fT []=[]:=List.eq_nil_of_length_eq_zero (iO [])
theorem ok1 {r:List AV} (h:okR 1 r=true):r=[.int .i64 (nI r 0)]∧-1000000≤nI r 0∧nI r 0≤1000000:=by
 have hl:r.length=1:=by have:=fQ (⟨r,h⟩:RwT 1); simpa [mG] using this
 match r,hl with
 | [a],_ =>
  have:=lL h (i:=0) rfl
  exact ⟨congrArg (λ x=>[x]) this.2.1,this.2.2⟩
structure IntR (ys:LL) (n:Nat):Prop where
 ok:∀ r ∈ ys,okR 1 r=true
 le:ys.length≤1000000
 eq:n=ys.length
def aCf:SpH
 | [.rw 0 1 n],[.row 3 1 ys]=>some (IntR ys n,.tup [],[.row 3 1 (fT ys)])
 | _,_=>none
theorem aJp {gl:aX} {ys:LL} (hx:∀ r ∈ ys,okR 1 r=true) (hlen:ys.length≤1000000):HC Tryz.prog gl 93 [.rw 0 1 ys.length] [.row 3 1 ys] (.tup []) [.row 3 1 (fT ys)]:=by
 intro w S m vs hG hA hnm hheld hinj hv
 obtain ⟨L0,hL0⟩:∃ L0:List Value,L0=vs.toList:=⟨_,rfl⟩
 rw [← hL0] at hv
 simp only [CVl] at hv
 obtain ⟨v0,l1,e0,hv0,rfl⟩:=hv
 simp only [CV] at hv0
 have hvs:vs=#[v0]:=by rw [← Array.toArray_toList (xs:=vs),← hL0,e0]
 subst hvs
 obtain ⟨A,c,a1,a2,a3,a4⟩:=hheld 0 _ rfl
 obtain ⟨_,A2,q2,c2,h1,h2,h3⟩:=hv0
 rw [a1] at h1
 simp only [aJ,Value.iface.injEq,Value.slice.injEq,true_and] at h1
 obtain ⟨rfl,rfl,rfl⟩:=h1
 have hv0:=h3 rfl
 subst hv0
 by_cases hne:ys=[]
 ·subst hne
  refine (aDy A c w).mono ?_
  rintro e w' ⟨rfl,rfl⟩
  refine ⟨.tuple #[],S,m,rfl,rfl,rfl,rfl,Nat.le_refl _,Ext.refl S,λ _ _ _=>⟨rfl,λ _=>rfl⟩,hA,?_,hinj,λ q u g' hq hu hg=>.inr ⟨q,u,hq,hu,hg⟩,MLe.refl m,by simp only [CV,CVl]; exact ⟨#[],rfl,rfl⟩⟩
  intro q bb hq
  cases q with
  | succ q=>simp at hq
  | zero =>
   simp only [List.getElem?_cons_zero,aJ] at hq
   subst hq
   rw [aES]
   exact hheld 0 _ rfl
 have hl0:0 < ys.length:=by cases ys with | nil=>exact absurd rfl hne | cons _ _=>simp
 rcases a4 with ⟨_,rfl⟩ | ⟨b,cur,fr,rfl,b1,b2,b3,b4,b5⟩
 ·omega
 have hfr:=dW.lt b2 (by decide)
 subst hfr
 rw [cA (by decide)] at b1
 have hul:(aQ ys).length=ys.length:=by simp [aQ]
 have huj:∀ (j:Nat) (hj:j < ys.length),(aQ ys)[j]'(by omega)=nI ys[j] 0:=λ j hj=>by simp [aQ]
 have hH:Holds (Value.int .i64) w b 0 (aQ ys).toArray:=by
  intro j hj
  have hj:j < ys.length:=by simpa [hul] using hj
  obtain ⟨r1,r2⟩:=b5 j _ (aD hj)
  obtain ⟨e1,e2⟩:=ok1 (hx _ (List.getElem_mem hj))
  obtain ⟨v,hv1,hv2,hv3⟩:=r2 0 (.int .i64 (nI ys[j] 0)) (by rw [← List.head?_eq_getElem?,e1]; rfl)
  refine ⟨?_,by simp [World.frozen?,b1]⟩
  simp only [World.cell?,b1,Nat.zero_add]
  simp only [CV] at hv3
  rw [Nat.mul_one,Nat.add_zero] at hv1
  rw [hv1,hv3.1]
  congr 2
  simp [huj j hj]
  rw [aD (by omega),Option.getD_some,huj j hj]
 have hblk:b < w.heap.size:=(aM.1 b1).1
 have hcon:=xQ b 0 c (aQ ys) w hH hblk (by omega)
 rw [hul] at hcon
 refine hcon.mono ?_
 rintro e w' ⟨rfl,nn,os,rfl⟩
 obtain ⟨D,hD⟩:∃ D,D=((aQ ys).mergeSort λ x y=>decide (x≤y)):=⟨_,rfl⟩
 have hsr:fT ys=aP D:=by rw [oJ,hD]
 have hDs:D.length=ys.length:=by rw [hD,List.length_mergeSort,hul]
 have hDm:∀ z ∈ D,-1000000≤z∧z≤1000000:=λ z hz=>by
  rw [hD,(List.mergeSort_perm _ _).mem_iff] at hz
  simp only [aQ,List.mem_map] at hz
  obtain ⟨r,hr,rfl⟩:=hz
  exact (ok1 (hx r hr)).2
 rw [← hD]
 have heap:∀ i,i < w.heap.size->(grow (putRow (Value.int .i64) (Sort.ahead w nn) b 0 D.toArray) os).heap[i]?=if b=i then some (.cells (putCells (Value.int .i64) 0 D.toArray cur) 3 (0,0)) else w.heap[i]?:=by
  intro i hi
  unfold putRow mapBlock grow Sort.ahead
  simp only
  rw [Array.getElem?_append_left (by simpa using hi),Array.getElem?_modify]
  by_cases h:b=i
  ·subst h
   rw [if_pos rfl,if_pos rfl,b1]; rfl
  ·rw [if_neg h,if_neg h]
 have hMb:Mof 1 m b:=⟨0,_,by decide,a1,rfl⟩
 refine ⟨.tuple #[],S,m,rfl,rfl,rfl,rfl,?_,Ext.refl S,?_,?_,?_,hinj,?_,MLe.refl m,?_⟩
 ·unfold putRow mapBlock grow Sort.ahead
  simp
 ·intro i hi hn
  refine ⟨?_,λ _=>rfl⟩
  rw [heap i hi,if_neg (λ e:b=i=>hn (by subst e; exact hMb))]
 ·intro i o v e
  obtain ⟨h1,h2⟩:=hA i o v e
  refine ⟨?_,h2⟩
  have hi:i < w.heap.size:=hA.lt e
  have hne:b≠i:=λ q=>by subst q; rw [b4 o] at e; cases e
  simp only [World.cell?] at h1 ⊢
  rw [heap i hi,if_neg hne]; exact h1
 ·intro q bb hq
  cases q with
  | succ q=>simp at hq
  | zero =>
   simp only [List.getElem?_cons_zero,aJ] at hq
   subst hq
   have hyl:=iO ys
   refine ⟨some ⟨b,0,none⟩,c,by rw [hyl]; exact a1,by omega,a3,.inr ⟨b,putCells (Value.int .i64) 0 D.toArray cur,(0,0),rfl,?_,dW.none,?_,b4,?_⟩⟩
   ·rw [heap b hblk,if_pos rfl,cA (by decide)]
   ·unfold putCells
    simp [b3]
   ·intro j x hj
    rw [hsr] at hj
    simp only [aP,List.getElem?_map] at hj
    cases hjD:D[j]? with
    | none=>rw [hjD] at hj; cases hj
    | some z =>
     rw [hjD] at hj
     simp only [Option.map_some,aJ] at hj
     subst hj
     have hjl:j < D.length:=(aF.1 hjD).1
     refine ⟨rfl,λ i y hi=>?_⟩
     cases i with
     | succ i=>simp at hi
     | zero =>
      simp at hi; subst hi
      refine ⟨.int .i64 z,?_,rfl,?_⟩
      ·unfold putCells
       rw [Nat.mul_one,Nat.add_zero,Array.getElem?_mapIdx,Array.getElem?_eq_getElem (by omega),Option.map_some]
       rw [if_pos ⟨Nat.zero_le _,by simp; omega⟩,Nat.sub_zero]
       congr 2
       rw [getElem!_pos _ j (by simpa using hjl)]
       simpa using (aF.1 hjD).2
      ·have hb:=hDm z (aL hjD)
       simp only [CV]
       exact ⟨trivial,by show _∧_; omega⟩
 ·intro q u g' hq hu hg
  exact .inr ⟨q,u,hq,hu,hg⟩
 ·simp only [CV,CVl]; exact ⟨#[],rfl,rfl⟩
theorem aMr (gl:aX):HOK Tryz.prog gl 93 aCf:=by
 refine ⟨fok Tryz.func93 (by kernel_rfl) (by kernel_rfl),?_⟩
 intro xs bs pre r bs2 h hp
 unfold aCf at h
 split at h
 ·cases h
  obtain ⟨o1,o2,rfl⟩:=hp
  exact aJp o1 o2
 ·cases h
end Go.Proofs.YtgbbmadjdaphnaaGreatDoor
namespace Go.Proofs.YtgbbmadjdaphnaaGreatDoor
open Go
def gJ (i:Nat):Code->Code
 | .region id ops d=>cond (Nat.beq id i) (.region id ops d) .skip
 | .seq a b=>(match gJ i a with | .skip=>gJ i b | c=>c)
 | .cond _ x y=>(match gJ i x with | .skip=>gJ i y | c=>c)
 | .block _ b=>gJ i b
 | .loop b=>gJ i b
 | _=>.skip
def aXg (n h:Int) (nd cs es:LL) (N:Nat):List AV:=[.int .i64 n,.int .i64 h,.sl 4 false nd,.mpv 2014,.sl 3 false cs,.sl 2 false es,.rw 1116 1 N]
def xJ (n h:Int) (nd cs es:LL) (l:List (Int × AV)) (N:Nat):List (Nat × Blk):=[(1014,.cells (aXg n h nd cs es N)),(2014,.mp 27 3 l)]
def xK (n h:Int) (nd cs es:LL) (l:List (Int × AV)) (N:Nat) (p q:Int):List (Nat × Blk):=[(1014,.cells (aXg n h nd cs es N)),(2014,.mp 27 3 l),(1010,.cells [.int .i64 p,.int .i64 q])]
def sJ (es:LL) (i:Int):List (Nat × AV):=[(3,.ptr 1014 0),(122,.sl 2 false es),(123,.int .i64 es.length),(124,.int .i64 i)]
def sK (es:LL) (i:Int):List (Nat × AV):=[(3,.ptr 1014 0),(122,.sl 2 false es),(123,.int .i64 es.length),(124,.int .i64 i),(10,.ptr 1010 0)]
def sL (N:Nat) (i:Int):List (Nat × AV):=[(3,.ptr 1014 0),(170,.rw 1116 1 N),(171,.int .i64 N),(172,.int .i64 i)]
structure EdX (es:LL) (i p q:Int):Prop where
 lo:0≤i
 hi:i < es.length
 le:es.length≤10000
 at_:es.getD i.toNat []=[.int .i64 p,.int .i64 q]
structure JgP (N A:Nat) (p:Int) (els ys:LL):Prop where
 hp:p=A
 hA:A < N
 hN:N=els.length
 h2:N≤200
 ha:els[A]?=some [.rw 1002 1 ys.length]
 hy:ys.length≤10000
abbrev wrJ (A:Nat) (k:Nat) (els:LL):LL:=setEl els A 0 [.rw 1002 1 k]
noncomputable def iF:Code:=aTQ Tryz.f43
def CJ:Cx:={ nt:=180,drop:=drp [(1,24576),(4,131072),(6,786432),(7,6291456),(9,125829120),(10,805306368),(11,72057592964186112),(12,144115188075855872),(13,4323455642275676160),(14,64563604257983430656),(16,3541774862152233910272),(17,79228157791897854723898736640),(18,79228162514264337593543950336),(19,2376844875427930127806318510080),(20,1293003612232793989526637269483520),(21,663315923677824229544770906057867264),(22,4652297985247205555163324710981206016),(24,255211775190703847597530955573826158592),(25,178405621305878064193822282806579460279631872),(26,93535926383216198520050697008095932071087634907136),(27,93536104789177786765035829293842113257979682750464),(28,1309505467048489014710501610113789585611715558506496),(30,71835728478088540235547516897670742982128396352356352),(31,95780971304118053647396689196894323976171195136475136),(32,383123885216472214589586756787577295904684780545900544),(33,766247770432944429179173513575154591809369561091801088)],fr:=1000,kp:=kpJ }
def EJ (sh:List Nat) (sz:List (Nat × List Nat)):Env:={ glob:=glb,spec:=lk [],specH:=lk [],nowf:=true,shape:=sh,slz:=sz }
def EI (sh:List Nat) (sz:List (Nat × List Nat)):Env:={ glob:=glb,spec:=lk [],specH:=lk [(93,aCf)],nowf:=true,shape:=sh,slz:=sz }
@[irreducible] def acX (P:Program) (E:Env) (C:Cx) (inv:Nat->St->Option LInv) (fuel:Nat) (c:Code) (st:St) (kn:St->Prop) (ke:Nat->St->Prop) (kr:St->Prop):Prop:=cC P E C inv fuel c st kn ke kr
def aKs:Prop :=
 ∀ (n h i:Int) (nd cs es els ys:LL) (l:List (Int × AV)) (N:Nat),0≤i∧i≤(20000:Int)->(decide (i < (↑es.length:Int))=decide (i < (↑es.length:Int))∧(0:Nat)=(0:Nat)∧(True∧es=es)∧(↑es.length:Int)=(↑es.length:Int)∧i=i∧True)∧(n=n∧h=h∧(True∧nd=nd)∧True∧(True∧cs=cs)∧(True∧es=es)∧N=N∧True)∧l=l∧els=els∧ys=ys∧True
theorem aWz:aKs:=by
 unfold aKs
 intros; (repeat' (first | exact trivial | exact rfl | assumption | apply And.intro))
def aN9:Prop:=∀ (n h i:Int) (nd cs es els ys:LL) (l:List (Int × AV)) (N:Nat),0≤i∧i≤20000->acX Tryz.prog (EJ [] []) CJ (λ _ _=>none) 6 (gJ 23 iF) ⟨sJ es i,bV (xJ n h nd cs es l N) els ys⟩ (λ st=>leS st ⟨(125,.bool (decide (i < es.length)))::sJ es i,bV (xJ n h nd cs es l N) els ys⟩) (λ _ _=>False) (λ _=>False)
theorem aWy:aKs=aN9:=by kernel_rfl
theorem j23:aN9:=@Eq.mp (aKs) (aN9) (aWy) (aWz)
def aKr:Prop :=
 ∀ (n h i p q:Int) (nd cs es els ys:LL) (l:List (Int × AV)) (N:Nat),EdX es i p q->bif decide (0≤i∧i < (↑es.length:Int)) then ∃ n_1 n_2,List.take [AV.int IntKind.i64 n_1,AV.int IntKind.i64 n_2].length (es.getD i.toNat [])=[AV.int IntKind.i64 n_1,AV.int IntKind.i64 n_2]∧((0:Nat)=(0:Nat)∧(True∧es=es)∧(↑es.length:Int)=(↑es.length:Int)∧i=i∧(0:Nat)=(0:Nat)∧True)∧(n=n∧h=h∧(True∧nd=nd)∧True∧(True∧cs=cs)∧(True∧es=es)∧N=N∧True)∧l=l∧(n_1=p∧n_2=q∧True)∧els=els∧ys=ys∧True else False
theorem aWx:aKr:=by
 unfold aKr
 intro n h i p q nd cs es els ys l N hp
 refine cd1 ⟨hp.lo,hp.hi⟩ ⟨p,q,by rw [hp.at_]; rfl,by repeat' first|exact trivial|exact rfl|assumption|apply And.intro⟩
def aN8:Prop:=∀ (n h i p q:Int) (nd cs es els ys:LL) (l:List (Int × AV)) (N:Nat),EdX es i p q->acX Tryz.prog (EJ [127] []) CJ (λ _ _=>none) 6 (gJ 24 iF) ⟨(125,.bool true)::sJ es i,bV (xJ n h nd cs es l N) els ys⟩ (λ st=>leS st ⟨sK es i,bV (xK n h nd cs es l N p q) els ys⟩) (λ _ _=>False) (λ _=>False)
theorem aWw:aKr=aN8:=by kernel_rfl
theorem j24:aN8:=@Eq.mp (aKr) (aN8) (aWw) (aWx)
def aKq:Prop :=
 ∀ (n h i p q:Int) (nd cs es els ys:LL) (l:List (Int × AV)) (N A:Nat),JgP N A p els ys->bif decide (0≤p∧p < (↑N:Int)) then bif decide (N=els.length∧p.toNat < els.length) then ∃ n_1,List.take [AV.rw 1002 1 n_1].length (List.drop 0 (els.getD p.toNat []))=[AV.rw 1002 1 n_1]∧bif decide (n_1=ys.length∧ys.length+[[I6 q]].length≤(9223372036854775807:Nat)∧(ys.length+[[I6 q]].length)*(8:Nat)≤(140737488355328:Nat)) then bif decide (0≤p∧p < (↑N:Int)) then bif decide (N=els.length∧p.toNat < els.length) then ((0:Nat)=(0:Nat)∧(True∧es=es)∧(↑es.length:Int)=(↑es.length:Int)∧i=i∧(0:Nat)=(0:Nat)∧True)∧(n=n∧h=h∧(True∧nd=nd)∧True∧(True∧cs=cs)∧(True∧es=es)∧N=N∧True)∧l=l∧(p=p∧q=q∧True)∧setEl els p.toNat 0 [AV.rw 1002 1 (ys++[[I6 q]]).length]=wrJ A (ys.length+(1:Nat)) els∧ys++[[I6 q]]=ys++[[I6 q]]∧True else False else False else False else False else False
theorem aWv:aKq:=by
 unfold aKq
 delta I6
 intro n h i p q nd cs es els ys l N A hp
 have e:=hp.hp
 have hA:=hp.hA
 have hN:=hp.hN
 have hy:=hp.hy
 have ea:p.toNat=A:=by omega
 have eg:els.getD A []=[.rw 1002 1 ys.length]:=by rw [aB,hp.ha]; rfl
 rw [ea]
 refine cd1 ⟨by omega,by omega⟩ (cd1 ⟨hN,by omega⟩ ⟨ys.length,by rw [eg]; rfl,cd1 ⟨rfl,by simp only [List.length_cons,List.length_nil]; omega,by simp only [List.length_cons,List.length_nil]; omega⟩ (cd1 ⟨by omega,by omega⟩ (cd1 ⟨hN,by omega⟩ ?_))⟩)
 rw [aG]
 (repeat' (first | exact trivial | exact rfl | assumption | apply And.intro))
def aN7:Prop:=∀ (n h i p q:Int) (nd cs es els ys:LL) (l:List (Int × AV)) (N A:Nat),JgP N A p els ys->acX Tryz.prog (EJ [141] [(141,[1002001])]) CJ (λ _ _=>none) 6 (gJ 25 iF) ⟨sK es i,bV (xK n h nd cs es l N p q) els ys⟩ (λ st=>leS st ⟨sK es i,bV (xK n h nd cs es l N p q) (wrJ A (ys.length+1) els) (ys++[[.int .i64 q]])⟩) (λ _ _=>False) (λ _=>False)
theorem aWu:aKq=aN7:=by kernel_rfl
theorem j25:aN7:=@Eq.mp (aKq) (aN7) (aWu) (aWv)
def aKp:Prop :=
 ∀ (n h i p q:Int) (nd cs es els ys:LL) (l:List (Int × AV)) (N A:Nat),JgP N A q els ys->bif decide (0≤q∧q < (↑N:Int)) then bif decide (N=els.length∧q.toNat < els.length) then ∃ n_1,List.take [AV.rw 1002 1 n_1].length (List.drop 0 (els.getD q.toNat []))=[AV.rw 1002 1 n_1]∧bif decide (n_1=ys.length∧ys.length+[[I6 p]].length≤(9223372036854775807:Nat)∧(ys.length+[[I6 p]].length)*(8:Nat)≤(140737488355328:Nat)) then bif decide (0≤q∧q < (↑N:Int)) then bif decide (N=els.length∧q.toNat < els.length) then ((0:Nat)=(0:Nat)∧(True∧es=es)∧(↑es.length:Int)=(↑es.length:Int)∧i=i∧(0:Nat)=(0:Nat)∧True)∧(n=n∧h=h∧(True∧nd=nd)∧True∧(True∧cs=cs)∧(True∧es=es)∧N=N∧True)∧l=l∧(p=p∧q=q∧True)∧setEl els q.toNat 0 [AV.rw 1002 1 (ys++[[I6 p]]).length]=wrJ A (ys.length+(1:Nat)) els∧ys++[[I6 p]]=ys++[[I6 p]]∧True else False else False else False else False else False
theorem aWt:aKp:=by
 unfold aKp
 delta I6
 intro n h i p q nd cs es els ys l N A hp
 have e:=hp.hp
 have hA:=hp.hA
 have hN:=hp.hN
 have hy:=hp.hy
 have ea:q.toNat=A:=by omega
 have eg:els.getD A []=[.rw 1002 1 ys.length]:=by rw [aB,hp.ha]; rfl
 rw [ea]
 refine cd1 ⟨by omega,by omega⟩ (cd1 ⟨hN,by omega⟩ ⟨ys.length,by rw [eg]; rfl,cd1 ⟨rfl,by simp only [List.length_cons,List.length_nil]; omega,by simp only [List.length_cons,List.length_nil]; omega⟩ (cd1 ⟨by omega,by omega⟩ (cd1 ⟨hN,by omega⟩ ?_))⟩)
 rw [aG]
 (repeat' (first | exact trivial | exact rfl | assumption | apply And.intro))
def aN6:Prop:=∀ (n h i p q:Int) (nd cs es els ys:LL) (l:List (Int × AV)) (N A:Nat),JgP N A q els ys->acX Tryz.prog (EJ [160] [(160,[1002001])]) CJ (λ _ _=>none) 6 (gJ 26 iF) ⟨sK es i,bV (xK n h nd cs es l N p q) els ys⟩ (λ st=>leS st ⟨sK es i,bV (xK n h nd cs es l N p q) (wrJ A (ys.length+1) els) (ys++[[.int .i64 p]])⟩) (λ _ _=>False) (λ _=>False)
theorem aWs:aKp=aN6:=by kernel_rfl
theorem j26:aN6:=@Eq.mp (aKp) (aN6) (aWs) (aWt)
def aKo:Prop :=
 ∀ (n h i p q:Int) (nd cs es els ys:LL) (l:List (Int × AV)) (N:Nat),0≤i∧i≤(20000:Int)->bif decide (rng IntKind.i64 (i+(1:Int))) then ((0:Nat)=(0:Nat)∧(True∧es=es)∧(↑es.length:Int)=(↑es.length:Int)∧i+(1:Int)=i+(1:Int)∧True)∧(n=n∧h=h∧(True∧nd=nd)∧True∧(True∧cs=cs)∧(True∧es=es)∧N=N∧True)∧l=l∧els=els∧ys=ys∧True else False
theorem aWr:aKo:=by
 unfold aKo
 intro n h i p q nd cs es els ys l N hi
 exact cdI (by omega) (by repeat' first|exact trivial|exact rfl|assumption|apply And.intro)
def aN5:Prop:=∀ (n h i p q:Int) (nd cs es els ys:LL) (l:List (Int × AV)) (N:Nat),0≤i∧i≤20000->acX Tryz.prog (EJ [] []) CJ (λ _ _=>none) 6 (gJ 27 iF) ⟨sK es i,bV (xK n h nd cs es l N p q) els ys⟩ (λ st=>leS st ⟨sJ es (i+1),bV (xJ n h nd cs es l N) els ys⟩) (λ _ _=>False) (λ _=>False)
theorem aWq:aKo=aN5:=by kernel_rfl
theorem j27:aN5:=@Eq.mp (aKo) (aN5) (aWq) (aWr)
def aKn:Prop :=
 ∀ (n h i:Int) (nd cs es els ys:LL) (l:List (Int × AV)) (N:Nat),N≤(200:Nat)->((0:Nat)=(0:Nat)∧N=N∧(↑N:Int)=(↑N:Int)∧(0:Int)=(0:Int)∧True)∧(n=n∧h=h∧(True∧nd=nd)∧True∧(True∧cs=cs)∧(True∧es=es)∧N=N∧True)∧l=l∧els=els∧ys=ys∧True
theorem aWp:aKn:=by
 unfold aKn
 intros; (repeat' (first | exact trivial | exact rfl | assumption | apply And.intro))
def aN4:Prop:=∀ (n h i:Int) (nd cs es els ys:LL) (l:List (Int × AV)) (N:Nat),N≤200->acX Tryz.prog (EJ [] []) CJ (λ _ _=>none) 6 (gJ 28 iF) ⟨(125,.bool false)::sJ es i,bV (xJ n h nd cs es l N) els ys⟩ (λ st=>leS st ⟨sL N 0,bV (xJ n h nd cs es l N) els ys⟩) (λ _ _=>False) (λ _=>False)
theorem aWo:aKn=aN4:=by kernel_rfl
theorem j28:aN4:=@Eq.mp (aKn) (aN4) (aWo) (aWp)
def aKm:Prop :=
 ∀ (n h i:Int) (nd cs es els ys:LL) (l:List (Int × AV)) (N:Nat),0≤i∧i≤(20000:Int)->(decide (i < (↑N:Int))=decide (i < (↑N:Int))∧(0:Nat)=(0:Nat)∧N=N∧(↑N:Int)=(↑N:Int)∧i=i∧True)∧(n=n∧h=h∧(True∧nd=nd)∧True∧(True∧cs=cs)∧(True∧es=es)∧N=N∧True)∧l=l∧els=els∧ys=ys∧True
theorem aWn:aKm:=by
 unfold aKm
 intros; (repeat' (first | exact trivial | exact rfl | assumption | apply And.intro))
def aN3:Prop:=∀ (n h i:Int) (nd cs es els ys:LL) (l:List (Int × AV)) (N:Nat),0≤i∧i≤20000->acX Tryz.prog (EJ [] []) CJ (λ _ _=>none) 6 (gJ 29 iF) ⟨sL N i,bV (xJ n h nd cs es l N) els ys⟩ (λ st=>leS st ⟨(173,.bool (decide (i < N)))::sL N i,bV (xJ n h nd cs es l N) els ys⟩) (λ _ _=>False) (λ _=>False)
theorem aWm:aKm=aN3:=by kernel_rfl
theorem j29:aN3:=@Eq.mp (aKm) (aN3) (aWm) (aWn)
def aKl:Prop :=
 ∀ (n h i:Int) (nd cs es els ys:LL) (l:List (Int × AV)) (N A:Nat),JgP N A i els ys->IntR ys ys.length->bif decide (0≤i∧i < (↑N:Int)) then bif decide (N=els.length∧i.toNat < els.length) then ∃ n_1,List.take [AV.rw 1002 1 n_1].length (List.drop 0 (els.getD i.toNat []))=[AV.rw 1002 1 n_1]∧IntR ys n_1∧((0:Nat)=(0:Nat)∧N=N∧(↑N:Int)=(↑N:Int)∧i=i∧True)∧(n=n∧h=h∧(True∧nd=nd)∧True∧(True∧cs=cs)∧(True∧es=es)∧N=N∧True)∧l=l∧els=els∧fT ys=fT ys∧True else False else False
theorem aWl:aKl:=by
 unfold aKl
 intro n h i nd cs es els ys l N A hp hI
 have e:=hp.hp
 have hA:=hp.hA
 have hN:=hp.hN
 have ea:i.toNat=A:=by omega
 have eg:els.getD A []=[.rw 1002 1 ys.length]:=by rw [aB,hp.ha]; rfl
 rw [ea]
 refine cd1 ⟨by omega,by omega⟩ (cd1 ⟨hN,by omega⟩ ⟨ys.length,by rw [eg]; rfl,hI,by repeat' first|exact trivial|exact rfl|assumption|apply And.intro⟩)
def aN2:Prop:=∀ (n h i:Int) (nd cs es els ys:LL) (l:List (Int × AV)) (N A:Nat),JgP N A i els ys->IntR ys ys.length->acX Tryz.prog (EI [175] [(175,[1002001])]) CJ (λ _ _=>none) 6 (.seq (gJ 30 iF) (gJ 31 iF)) ⟨(173,.bool true)::sL N i,bV (xJ n h nd cs es l N) els ys⟩ (λ st=>leS st ⟨sL N i,bV (xJ n h nd cs es l N) els (fT ys)⟩) (λ _ _=>False) (λ _=>False)
theorem aWk:aKl=aN2:=by kernel_rfl
theorem j30:aN2:=@Eq.mp (aKl) (aN2) (aWk) (aWl)
def aKk:Prop :=
 ∀ (n h i:Int) (nd cs es els ys:LL) (l:List (Int × AV)) (N:Nat),0≤i∧i≤(20000:Int)->bif decide (rng IntKind.i64 (i+(1:Int))) then ((0:Nat)=(0:Nat)∧N=N∧(↑N:Int)=(↑N:Int)∧i+(1:Int)=i+(1:Int)∧True)∧(n=n∧h=h∧(True∧nd=nd)∧True∧(True∧cs=cs)∧(True∧es=es)∧N=N∧True)∧l=l∧els=els∧ys=ys∧True else False
theorem aWj:aKk:=by
 unfold aKk
 intro n h i nd cs es els ys l N hi
 exact cdI (by omega) (by repeat' first|exact trivial|exact rfl|assumption|apply And.intro)
def aN1:Prop:=∀ (n h i:Int) (nd cs es els ys:LL) (l:List (Int × AV)) (N:Nat),0≤i∧i≤20000->acX Tryz.prog (EJ [] []) CJ (λ _ _=>none) 6 (gJ 32 iF) ⟨sL N i,bV (xJ n h nd cs es l N) els ys⟩ (λ st=>leS st ⟨sL N (i+1),bV (xJ n h nd cs es l N) els ys⟩) (λ _ _=>False) (λ _=>False)
theorem aWi:aKk=aN1:=by kernel_rfl
theorem j32:aN1:=@Eq.mp (aKk) (aN1) (aWi) (aWj)
open Go.RowKit (Below)
variable {P:Program} {S:Pin} {m:Nm} {w:World} {a:Act} {G:Gh} {kp:List Nat} {st:St} {E:Env} {C:Cx}
def aXe (N:Nat):LL:=List.replicate N [.nils]
def CB:Cx:={ nt:=180,drop:=drp [(1,24576),(4,131072),(6,786432),(7,6291456),(9,125829120),(10,805306368),(11,72057592964186112),(12,144115188075855872),(13,4323455642275676160),(14,64563604257983430656),(16,3541774862152233910272),(17,79228157791897854723898736640),(18,79228162514264337593543950336),(19,2376844875427930127806318510080),(20,1293003612232793989526637269483520),(21,663315923677824229544770906057867264),(22,4652297985247205555163324710981206016),(24,255211775190703847597530955573826158592),(25,178405621305878064193822282806579460279631872),(26,93535926383216198520050697008095932071087634907136),(27,93536104789177786765035829293842113257979682750464),(28,1309505467048489014710501610113789585611715558506496),(30,71835728478088540235547516897670742982128396352356352),(31,95780971304118053647396689196894323976171195136475136),(32,383123885216472214589586756787577295904684780545900544),(33,766247770432944429179173513575154591809369561091801088)],fr:=1000,kp:=[] }
def CF:Cx:={ nt:=180,drop:=drp [(1,24576),(4,131072),(6,786432),(7,6291456),(9,125829120),(10,805306368),(11,72057592964186112),(12,144115188075855872),(13,4323455642275676160),(14,64563604257983430656),(16,3541774862152233910272),(17,79228157791897854723898736640),(18,79228162514264337593543950336),(19,2376844875427930127806318510080),(20,1293003612232793989526637269483520),(21,663315923677824229544770906057867264),(22,4652297985247205555163324710981206016),(24,255211775190703847597530955573826158592),(25,178405621305878064193822282806579460279631872),(26,93535926383216198520050697008095932071087634907136),(27,93536104789177786765035829293842113257979682750464),(28,1309505467048489014710501610113789585611715558506496),(30,71835728478088540235547516897670742982128396352356352),(31,95780971304118053647396689196894323976171195136475136),(32,383123885216472214589586756787577295904684780545900544),(33,766247770432944429179173513575154591809369561091801088)],fr:=1000,kp:=[],frz:=λ id=>cond (Nat.beq id 33) [1001116] [] }
def aKt:Prop :=
 ∀ (n h:Int) (nd cs es:LL) (l:List (Int × AV)),nd.length≤(200:Nat)->bif decide ((0:Int)≤(↑nd.length:Int)∧(↑nd.length:Int)≤(↑nd.length:Int)∧(24:Int)*(↑nd.length:Int)≤(281474976710656:Int)∧(↑nd.length:Int)≤(9223372036854775807:Int)) then ((0:Nat)=(0:Nat)∧(True∧es=es)∧(↑es.length:Int)=(↑es.length:Int)∧(0:Int)=(0:Int)∧True)∧(n=n∧h=h∧(True∧nd=nd)∧True∧(True∧cs=cs)∧(True∧es=es)∧(↑nd.length:Int).toNat=nd.length∧True)∧l=l∧List.replicate (↑nd.length:Int).toNat [AV.nils]=aXe nd.length∧True else False
theorem aWB:aKt:=by
 unfold aKt
 intro n h nd cs es l hn
 exact cd1 ⟨by omega,by omega,by omega,by omega⟩ (by repeat' first|exact trivial|exact rfl|assumption|apply And.intro)
def aOa:Prop:=∀ (n h:Int) (nd cs es:LL) (l:List (Int × AV)),nd.length≤200->acX Tryz.prog (EJ [] []) CB (λ _ _=>none) 6 (.seq (gJ 21 iF) (gJ 22 iF)) ⟨[(0,.int .i64 n),(3,.ptr 1014 0)],[(1014,.cells [.int .i64 n,.int .i64 h,.sl 4 false nd,.mpv 2014,.sl 3 false cs,.sl 2 false es,.nils]),(2014,.mp 27 3 l)]⟩ (λ st=>leS st ⟨sJ es 0,xJ n h nd cs es l nd.length++[(1116,.row sC 1 (aXe nd.length))]⟩) (λ _ _=>False) (λ _=>False)
theorem aWA:aKt=aOa:=by kernel_rfl
theorem j21:aOa:=@Eq.mp (aKt) (aOa) (aWA) (aWB)
def aKj:Prop :=
 ∀ (n h:Int) (nd cs es nx:LL) (l:List (Int × AV)) (N:Nat),N=nx.length->bif decide (N=nx.length) then (0:Nat)=(0:Nat)∧(n=n∧h=h∧(True∧nd=nd)∧True∧(True∧cs=cs)∧(True∧es=es)∧(True∧nx=nx)∧True)∧l=l∧True else False
theorem aWh:aKj:=by
 unfold aKj
 intro n h nd cs es nx l N hN
 exact cd1 hN (by repeat' first|exact trivial|exact rfl|assumption|apply And.intro)
def aN0:Prop:=∀ (n h:Int) (nd cs es nx:LL) (l:List (Int × AV)) (N:Nat),N=nx.length->acX Tryz.prog (EJ [] []) CF (λ _ _=>none) 6 (.seq (gJ 33 iF) .ret) ⟨(173,.bool false)::sL N N,xJ n h nd cs es l N++[(1116,.row sC 1 nx)]⟩ (λ _=>False) (λ _ _=>False) (λ st=>aAx Tryz.prog (EJ [] []) CB st (Tryz.f43).results.toList (aKR [] (.ptr 0 0) [.cells [.int .i64 n,.int .i64 h,.sl 4 false nd,.mpv 1,.sl 3 false cs,.sl 2 false es,.sl 1 false nx],.mp 27 3 l]))
theorem aWg:aKj=aN0:=by kernel_rfl
theorem j33:aN0:=@Eq.mp (aKj) (aN0) (aWg) (aWh)
theorem aAy {inv:Nat->St->Option LInv} {fuel:Nat} (hT:TyOK P C.tys) (hS:cF P E) (hM:P.follows .mixedOrders=true) (hG:GOK E G.S0) {c:Code} {kn:St->Prop} (h:cC P E C inv fuel c st kn (λ _ _=>False) (λ _=>False)) (hR:Rel G C.kp st a w S m) (hn:a.tmps.size=C.nt) {Q:Exit->Act->World->Prop}
  (hQ:∀ st' a' w' S' m',kn st'->Rel G C.kp st' a' w' S' m'->a'.tmps.size=C.nt->Q .normal a' w'):c.wp P Q a w:=by
 refine Go.wp_mono (bM hT hS hM hG c st kn _ _ h a w S m hR hn) ?_
 intro e a' w' he
 cases e with
 | normal=>obtain ⟨st',S',m',hk,hR',hn'⟩:=he; exact hQ st' a' w' S' m' hk hR' hn'
 | exit _=>obtain ⟨_,_,_,hk,_⟩:=he; exact hk.elim
 | ret=>obtain ⟨_,_,_,hk,_⟩:=he; exact hk.elim
 | _=>exact he.elim
theorem zT {inv:Nat->St->Option LInv} {fuel:Nat} (hT:TyOK P C.tys) (hS:cF P E) (hM:P.follows .mixedOrders=true) (hG:GOK E G.S0) {Q:Exit->Act->World->Prop}:∀ (k:Nat) (c:Code) (st:St) (K:St->Prop),zU P E C inv fuel (aRf k c) st K->∀ (a:Act) (w:World) (S:Pin) (m:Nm),Rel G C.kp st a w S m->a.tmps.size=C.nt ->
  (∀ st' a' w' S' m',K st'->Rel G C.kp st' a' w' S' m'->a'.tmps.size=C.nt->(aMm k c).wp P Q a' w')->c.wp P Q a w
 | 0,c,st,K,h,a,w,S,m,hR,hn,hQ=>hQ st a w S m (by simpa only [aRf,zU] using h) hR hn
 | k+1,.seq x y,st,K,h,a,w,S,m,hR,hn,hQ=>by
  simp only [aRf,zU] at h
  refine wp_seq (aAy hT hS hM hG h hR hn λ st' a' w' S' m' hk hR' hn'=>?_)
  exact zT hT hS hM hG k y st' K hk a' w' S' m' hR' hn' hQ
 | k+1,.skip,st,K,h,a,w,S,m,hR,hn,hQ=>hQ st a w S m h hR hn
 | k+1,.label _,st,K,h,a,w,S,m,hR,hn,hQ=>hQ st a w S m h hR hn
 | k+1,.region _ _ _,st,K,h,a,w,S,m,hR,hn,hQ=>hQ st a w S m h hR hn
 | k+1,.cond _ _ _,st,K,h,a,w,S,m,hR,hn,hQ=>hQ st a w S m h hR hn
 | k+1,.block _ _,st,K,h,a,w,S,m,hR,hn,hQ=>hQ st a w S m h hR hn
 | k+1,.loop _,st,K,h,a,w,S,m,hR,hn,hQ=>hQ st a w S m h hR hn
 | k+1,.exit _,st,K,h,a,w,S,m,hR,hn,hQ=>hQ st a w S m h hR hn
 | k+1,.ret,st,K,h,a,w,S,m,hR,hn,hQ=>hQ st a w S m h hR hn
 | k+1,.goto _,st,K,h,a,w,S,m,hR,hn,hQ=>hQ st a w S m h hR hn
 | k+1,.refuse _,st,K,h,a,w,S,m,hR,hn,hQ=>hQ st a w S m h hR hn
 | k+1,.scope _,st,K,h,a,w,S,m,hR,hn,hQ=>hQ st a w S m h hR hn
 | k+1,.rangeFunc _ _ _ _,st,K,h,a,w,S,m,hR,hn,hQ=>hQ st a w S m h hR hn
theorem set_same {α:Type} {l:List α} {i:Nat} {x:α} (h:l[i]?=some x):l.set i x=l:=by
 apply List.ext_getElem?
 intro j
 rw [List.getElem?_set]
 split
 ·rename_i e; subst e; split
  ·exact h.symm
  ·rename_i q; rw [List.getElem?_eq_none (by omega)]
 ·rfl
theorem vO {inv:Nat->St->Option LInv} {fuel:Nat} (hT:TyOK P C.tys) (hS:cF P E) (hM:P.follows .mixedOrders=true) (hG:GOK E G.S0) (hkp:C.kp=kpJ) {sl:List (Nat × AV)} {X:List (Nat × Blk)} {xss:List (LL)} (h:JS G sl X xss a w S m) (hn:a.tmps.size=C.nt) (hN:xss.length≤200) {A:Nat} {ys:LL} (hA:xss[A]?=some ys)
  {c:Code} {sl':List (Nat × AV)} {X':List (Nat × Blk)} {ys':LL} {eo:LL->LL}
  (VC:∀ els:LL,els.length=xss.length->els[A]?=some [.rw 1002 1 ys.length]->acX P E C inv fuel c ⟨sl,bV X els ys⟩ (λ st=>leS st ⟨sl',bV X' (eo els) ys'⟩) (λ _ _=>False) (λ _=>False))
  (hs':gT sl'=true) (hX':gH X'=true) (hnil:ys'=[]->ys=[]) (heo:∀ els:LL,els.length=xss.length->els[A]?=some [.rw 1002 1 ys.length]->(eo els).length=els.length∧(eo els)[A]?=some [.rw 1002 1 ys'.length]∧∀ j,j≠A->(eo els)[j]?=els[j]?)
  {Q:Exit->Act->World->Prop} (hQ:∀ a w S m,JS G sl' X' (xss.set A ys') a w S m->a.tmps.size=C.nt->Q .normal a w):c.wp P Q a w:=by
 obtain ⟨els,m1,m0,M1,h1,h2,hR,back⟩:=aSn h hN hA
 have hG':GOK E (Gh.mk w S m0 M1).S0:=λ g cs e=>CC.mono h.rel.pin0 cs g 0 (hG g cs e)
 refine aAy hT hS hM hG' (by have q:=VC els h1 h2; unfold acX at q; exact q) (by rw [hkp]; exact hR) hn λ st' a' w' S' m' hk hR' hn'=>?_
 rw [hkp] at hR'
 obtain ⟨e1,e2,e3⟩:=heo els h1 h2
 obtain ⟨m2,hJ⟩:=back sl' X' ys' (eo els) a' w' S' m' hs' hX' hnil e1 e2 e3 (hR'.le hk)
 exact hQ a' w' S' m2 hJ hn'
theorem mV {inv:Nat->St->Option LInv} {fuel:Nat} (hT:TyOK P C.tys) (hS:cF P E) (hM:P.follows .mixedOrders=true) (hG:GOK E G.S0) (hkp:C.kp=kpJ) {sl:List (Nat × AV)} {X:List (Nat × Blk)} {xss:List (LL)} (h:JS G sl X xss a w S m) (hn:a.tmps.size=C.nt) (hN:xss.length≤200) (hN1:1≤xss.length)
  {c:Code} {sl':List (Nat × AV)} {X':List (Nat × Blk)}
  (VC:∀ els ys:LL,els.length=xss.length->acX P E C inv fuel c ⟨sl,bV X els ys⟩ (λ st=>leS st ⟨sl',bV X' els ys⟩) (λ _ _=>False) (λ _=>False))
  (hs':gT sl'=true) (hX':gH X'=true) {Q:Exit->Act->World->Prop} (hQ:∀ a w S m,JS G sl' X' xss a w S m->a.tmps.size=C.nt->Q .normal a w):c.wp P Q a w:=by
 have h0:xss[0]?=some xss[0]:=aD hN1
 refine vO (eo:=id) hT hS hM hG hkp h hn hN h0 (λ els e _=>VC els _ e) hs' hX' id (λ els _ e2=>⟨rfl,e2,λ _ _=>rfl⟩) λ a w S m hJ hn'=>?_
 rw [set_same h0] at hJ
 exact hQ a w S m hJ hn'
theorem aK4:aMm 7 iF=.seq (gJ 21 iF) (.seq (.seq (gJ 22 iF) (.block 8 (.loop (.seq (gJ 23 iF) (.seq (.cond (.tmp 125) .skip (.exit 8)) (.seq (.block 9 (.seq (gJ 24 iF) (.seq (gJ 25 iF) (gJ 26 iF)))) (gJ 27 iF))))))) (.seq (.seq (gJ 28 iF) (.block 10 (.loop (.seq (gJ 29 iF) (.seq (.cond (.tmp 173) .skip (.exit 10)) (.seq (.block 11 (.seq (gJ 30 iF) (gJ 31 iF))) (gJ 32 iF))))))) (.seq (gJ 33 iF) .ret))):=by kernel_rfl
def aPT (xss:List (LL)) (e:List AV):List (LL) :=
 let x1:=xss.set (nI e 0).toNat (xss.getD (nI e 0).toNat []++[[.int .i64 (nI e 1)]])
 x1.set (nI e 1).toNat (x1.getD (nI e 1).toNat []++[[.int .i64 (nI e 0)]])
def iI (N:Nat) (es:LL):List (LL):=es.foldl aPT (List.replicate N [])
structure EdgP (N:Nat) (es:LL):Prop where
 sh:∀ i,i < es.length->∃ p q:Nat,es.getD i []=[.int .i64 p,.int .i64 q]∧p < N∧q < N
 le:es.length≤4000
 n1:1≤N
 n2:N≤200
structure NbP (N k:Nat) (xss:List (LL)):Prop where
 len:xss.length=N
 ok:∀ ys ∈ xss,(∀ r ∈ ys,okR 1 r=true)∧ys.length≤2*k
theorem aLt {z:Int} (h:-1000000≤z∧z≤1000000):okR 1 [.int .i64 z]=true:=by
 unfold okR
 simp only [List.length_cons,List.length_nil,List.all_cons,List.all_nil,okA,Bool.and_true,decide_eq_true h]
 rfl
theorem NbP.zero (N:Nat):NbP N 0 (List.replicate N []):=⟨by simp,λ ys h=>by rw [List.mem_replicate] at h; rw [h.2]; exact ⟨λ r hr=>by simp at hr,by simp⟩⟩
theorem aGg {α:Type} {l:List α} {i:Nat} {x y:α} (h:y ∈ l.set i x):y=x∨y ∈ l:=by
 obtain ⟨j,hj⟩:=List.getElem?_of_mem h
 rw [List.getElem?_set] at hj
 split at hj
 ·split at hj
  ·injection hj with hj; exact .inl hj.symm
  ·cases hj
 ·exact .inr (aL hj)
theorem dZ {α:Type} {l:List α} {i:Nat} {d:α} (h:i < l.length):l.getD i d ∈ l:=by
 rw [aB,aD h]
 exact List.getElem_mem h
theorem NbP.put {N k p:Nat} {xss:List (LL)} (h:NbP N k xss) (hp:p < N) {q:Int} (hq:-1000000≤q∧q≤1000000) {k':Nat} (hk:2*k+1≤k'):(xss.set p (xss.getD p []++[[.int .i64 q]])).length=N∧∀ ys ∈ xss.set p (xss.getD p []++[[.int .i64 q]]),(∀ r ∈ ys,okR 1 r=true)∧ys.length≤k':=by
 refine ⟨by rw [List.length_set]; exact h.len,λ ys hy=>?_⟩
 have hm:xss.getD p [] ∈ xss:=dZ (by rw [h.len]; exact hp)
 rcases aGg hy with rfl | hy
 ·refine ⟨λ r hr=>?_,?_⟩
  ·rcases List.mem_append.1 hr with hr | hr
   ·exact (h.ok _ hm).1 r hr
   ·simp only [List.mem_cons,List.not_mem_nil,or_false] at hr
    subst hr; exact aLt hq
  ·have:=(h.ok _ hm).2
   rw [aG,List.length_cons,List.length_nil]; omega
 ·exact ⟨(h.ok ys hy).1,by have:=(h.ok ys hy).2; omega⟩
theorem NbP.put2 {N k p:Nat} {xss:List (LL)} (h:NbP N k xss) (hp:p < N) {q:Int} (hq:-1000000≤q∧q≤1000000):(xss.set p (xss.getD p []++[[.int .i64 q]])).length=N∧∀ ys ∈ xss.set p (xss.getD p []++[[.int .i64 q]]),(∀ r ∈ ys,okR 1 r=true)∧ys.length≤2*k+1:=h.put hp hq (Nat.le_refl _)
theorem pO {N:Nat} {es:LL} (h:EdgP N es):∀ i,i≤es.length->NbP N i (iI N (es.take i))
 | 0,_=>by rw [List.take_zero]; exact NbP.zero N
 | i+1,hi=>by
  have ih:=pO h i (by omega)
  obtain ⟨p,q,e,hp,hq⟩:=h.sh i (by omega)
  have hn:=h.n2
  have e2:iI N (es.take (i+1))=aPT (iI N (es.take i)) [.int .i64 p,.int .i64 q]:=by
   rw [aEK (by omega),e,iI,List.foldl_append]; rfl
  rw [e2]
  obtain ⟨r1,r2⟩:=ih.put2 hp (q:=(q:Int)) (by omega)
  have ih2:∀ ys ∈ (iI N (es.take i)).set p ((iI N (es.take i)).getD p []++[[.int .i64 (q:Int)]]),(∀ r ∈ ys,okR 1 r=true)∧ys.length≤2*i+1:=r2
  refine ⟨by show (List.set _ _ _).length=N; rw [List.length_set]; exact r1,λ ys hy=>?_⟩
  have hy:ys ∈ ((iI N (es.take i)).set p ((iI N (es.take i)).getD p []++[[.int .i64 (q:Int)]])).set q (((iI N (es.take i)).set p ((iI N (es.take i)).getD p []++[[.int .i64 (q:Int)]])).getD q []++[[.int .i64 (p:Int)]]):=hy
  rcases aGg hy with rfl | hy
  ·have hm:((iI N (es.take i)).set p ((iI N (es.take i)).getD p []++[[.int .i64 (q:Int)]])).getD q [] ∈ ((iI N (es.take i)).set p ((iI N (es.take i)).getD p []++[[.int .i64 (q:Int)]])):=by
    exact dZ (by rw [r1]; exact hq)
   refine ⟨λ r hr=>?_,?_⟩
   ·rcases List.mem_append.1 hr with hr | hr
    ·exact (ih2 _ hm).1 r hr
    ·simp only [List.mem_cons,List.not_mem_nil,or_false] at hr
     subst hr; exact aLt (by omega)
   ·have:=(ih2 _ hm).2
    rw [aG,List.length_cons,List.length_nil]; omega
  ·exact ⟨(ih2 ys hy).1,by have:=(ih2 ys hy).2; omega⟩
theorem pC (sh:List Nat) (sz:List (Nat × List Nat)):cF Tryz.prog (EJ sh sz) :=
 ⟨λ f sp e=>by simp [EJ,lk] at e,λ f sp e=>by simp [EJ,lk] at e,trivial,(λ f sp e=>by cases e),rfl⟩
theorem aDO:Tryz.prog.follows .mixedOrders=true:=by kernel_rfl
theorem aLf {A k:Nat} {els:LL} {n:Nat} (h:els[A]?=some [.rw 1002 1 n]):(wrJ A k els).length=els.length∧(wrJ A k els)[A]?=some [.rw 1002 1 k]∧∀ j,j≠A->(wrJ A k els)[j]?=els[j]?:=by
 have hlt:A < els.length:=(aF.1 h).1
 have e:wrJ A k els=els.set A [.rw 1002 1 k]:=by
  show els.set A (spl (els.getD A []) 0 [AV.rw 1002 1 k])=_
  rw [aB,h]; rfl
 rw [e]
 refine ⟨List.length_set ..,?_,λ j hj=>?_⟩
 ·rw [List.getElem?_set,if_pos rfl,if_pos hlt]
 ·rw [List.getElem?_set,if_neg (λ q=>hj q.symm)]
theorem evT {sl:List (Nat × AV)} {H:List (Nat × Blk)} {t:Nat} {b:Bool} (h:∀ t,CV S (St.get ⟨sl,H⟩ t) m (a.tmps.getD t undef)) (e:lk sl t=some (.bool b)):a.eval (.tmp t)=.bool b:=by
 have:=h t
 unfold St.get at this
 simp only [e,CV] at this
 exact this
theorem aVA (sh:List Nat) (sz:List (Nat × List Nat)):cF Tryz.prog (EI sh sz):=by
 refine ⟨λ f sp e=>by simp [EI,lk] at e,λ f sp e=>?_,trivial,(λ f sp e=>by cases e),rfl⟩
 have e2:lk [(93,aCf)] f=some sp:=e
 clear e
 simp only [lk] at e2
 cases hj:Nat.beq 93 f with
 | true =>
  rw [hj] at e2
  simp only [cond_true,aJ] at e2
  have:=aA hj
  subst this; subst e2
  exact aMr glb
 | false=>rw [hj] at e2; cases e2
theorem tyJ:TyOK Tryz.prog []:=⟨λ t h=>by simp at h,λ t h=>by simp at h⟩
section
variable {G:Gh} (hG:GOK { glob:=glb } G.S0)
include hG
theorem gok (E:Env) (h:E.glob=glb):GOK E G.S0:=λ g cs e=>hG g cs (by rw [h] at e; exact e)
theorem aWe {n h:Int} {nd cs es:LL} {l:List (Int × AV)} {N:Nat} (hE:EdgP N es) (hJ:JS G (sJ es 0) (xJ n h nd cs es l N) (List.replicate N []) a w S m) (hn:a.tmps.size=180)
  {Q:Exit->Act->World->Prop} (hQ:∀ a w S m,JS G ((125,.bool false)::sJ es es.length) (xJ n h nd cs es l N) (iI N es) a w S m->a.tmps.size=180->Q .normal a w) :
  (Code.block 8 (.loop (.seq (gJ 23 iF) (.seq (.cond (.tmp 125) .skip (.exit 8)) (.seq (.block 9 (.seq (gJ 24 iF) (.seq (gJ 25 iF) (gJ 26 iF)))) (gJ 27 iF)))))).wp Tryz.prog Q a w:=by
 have hN1:=hE.n1
 have hN2:=hE.n2
 have hle:=hE.le
 refine wp_block (wp_loop_ghost (λ k a w=>∃ i:Nat,i≤es.length∧k=es.length - i∧∃ S m,JS G (sJ es i) (xJ n h nd cs es l N) (iI N (es.take i)) a w S m∧a.tmps.size=180) es.length ⟨0,by omega,by omega,S,m,hJ,hn⟩ ?_)
 rintro k a w ⟨i,hi,rfl,S,m,hJ,hn⟩
 have hb:=pO hE i hi
 have hX:=hJ.gh
 refine wp_seq (mV (sl':=(125,.bool (decide ((i:Int) < es.length)))::sJ es i) (X':=xJ n h nd cs es l N) tyJ (pC [] []) aDO (gok hG _ rfl) (C:=CJ) rfl hJ hn (by rw [hb.len]; exact hN2) (by rw [hb.len]; exact hN1) (λ els ys _=>j23 n h i nd cs es els ys l N ⟨by omega,by omega⟩) rfl hX λ a w S m hJ hn=>?_)
 refine wp_seq (wp_cond_split (evT (t:=125) hJ.rel.tmps rfl) (λ ht=>wp_skip ?_) (λ hf=>wp_exit ?_))
 ·have hi':i < es.length:=by have:=of_decide_eq_true ht; omega
  rw [ht] at hJ
  obtain ⟨p,q,e,hp,hq⟩:=hE.sh i hi'
  have hed:EdX es i p q:=⟨by omega,by omega,by omega,by rw [Int.toNat_natCast]; exact e⟩
  have h24:=λ (els ys:LL)=>j24 n h (i:Int) (p:Int) (q:Int) nd cs es els ys l N hed
  refine wp_seq (wp_block (wp_seq (mV (sl':=sK es i) (X':=xK n h nd cs es l N p q) tyJ (pC [127] []) aDO (gok hG _ rfl) (C:=CJ) rfl hJ hn (by rw [hb.len]; exact hN2) (by rw [hb.len]; exact hN1) (λ els ys _=>h24 els ys) rfl rfl λ a w S m hJ hn=>?_)))
  have hr:=hb.len
  have hgp:(iI N (es.take i))[p]?=some ((iI N (es.take i)).getD p []):=by
   rw [aB,aD (by rw [hr]; exact hp)]; rfl
  have hyp:=(hb.ok _ (aL hgp)).2
  refine wp_seq (vO (A:=p) (eo:=wrJ p (((iI N (es.take i)).getD p []).length+1)) (sl':=sK es i) (X':=xK n h nd cs es l N p q) (ys':=(iI N (es.take i)).getD p []++[[.int .i64 (q:Int)]]) tyJ (pC [141] [(141,[1002001])]) aDO (gok hG _ rfl) (C:=CJ) rfl hJ hn (by rw [hb.len]; exact hN2) hgp (λ els e1 e2=>j25 n h i p q nd cs es els _ l N p ⟨rfl,hp,by rw [e1,hr],hN2,e2,by omega⟩) rfl rfl (λ q=>absurd q (by simp)) (λ els e1 e2=>by rw [aG]; exact aLf e2) λ a w S m hJ hn=>?_)
  obtain ⟨r1,r2⟩:=hb.put2 hp (q:=(q:Int)) (by omega)
  obtain ⟨x1,hx1⟩:∃ x1,x1=(iI N (es.take i)).set p ((iI N (es.take i)).getD p []++[[.int .i64 (q:Int)]]):=⟨_,rfl⟩
  rw [← hx1] at hJ r1 r2
  have hgq:x1[q]?=some (x1.getD q []):=by
   rw [aB,aD (by rw [r1]; exact hq)]; rfl
  have hyq:=(r2 _ (aL hgq)).2
  refine vO (A:=q) (eo:=wrJ q ((x1.getD q []).length+1)) (sl':=sK es i) (X':=xK n h nd cs es l N p q) (ys':=x1.getD q []++[[.int .i64 (p:Int)]]) tyJ (pC [160] [(160,[1002001])]) aDO (gok hG _ rfl) (C:=CJ) rfl hJ hn (by rw [r1]; exact hN2) hgq (λ els e1 e2=>j26 n h i p q nd cs es els _ l N q ⟨rfl,hq,by rw [e1,r1],hN2,e2,by omega⟩) rfl rfl (λ q=>absurd q (by simp)) (λ els e1 e2=>by rw [aG]; exact aLf e2) λ a w S m hJ hn=>?_
  have e2:iI N (es.take (i+1))=x1.set q (x1.getD q []++[[.int .i64 (p:Int)]]):=by
   rw [hx1,aEK hi',e,iI,List.foldl_append]; rfl
  rw [← e2] at hJ
  have hb2:=pO hE (i+1) hi'
  refine mV (sl':=sJ es ((i+1:Nat):Int)) (X':=xJ n h nd cs es l N) tyJ (pC [] []) aDO (gok hG _ rfl) (C:=CJ) rfl hJ hn (by rw [hb2.len]; exact hN2) (by rw [hb2.len]; exact hN1) (λ els ys _=>j27 n h i p q nd cs es els ys l N ⟨by omega,by omega⟩) rfl rfl λ a w S m hJ hn=>?_
  exact ⟨es.length - (i+1),by omega,i+1,hi',rfl,S,m,hJ,hn⟩
 ·have hi':i=es.length:=by have:=of_decide_eq_false hf; omega
  rw [hf] at hJ
  subst hi'
  rw [List.take_length] at hJ
  exact hQ a w S m hJ hn
def aEl (i:Nat) (L:List (LL)):List (LL):=(L.take i).map fT++L.drop i
omit hG in
theorem aJk (i:Nat) (L:List (LL)):(aEl i L).length=L.length:=by
 simp only [aEl,aG,List.length_map,List.length_take,List.length_drop]; omega
omit hG in
theorem aJl {i:Nat} {L:List (LL)} (h:i < L.length):(aEl i L)[i]?=some (L.getD i []):=by
 rw [aEl,List.getElem?_append_right (by simp; omega)]
 simp only [List.length_map,List.length_take,List.getElem?_drop]
 rw [show i+(i - min i L.length)=i by omega,aD h,aB,aD h]; rfl
omit hG in
theorem aJj {i:Nat} {L:List (LL)} (h:i < L.length):(aEl i L).set i (fT (L.getD i []))=aEl (i+1) L:=by
 have e1:L.drop i=L.getD i []::L.drop (i+1):=by
  rw [List.drop_eq_getElem_cons h,aB,aD h]; rfl
 have e2:L.take (i+1)=L.take i++[L.getD i []]:=by
  rw [List.take_add_one,aB,aD h]; rfl
 rw [aEl,aEl,e1,e2,List.map_append,List.set_append_right _ _ (by simp; omega)]
 simp only [List.length_map,List.length_take,List.map_cons,List.map_nil,List.append_assoc,List.singleton_append]
 rw [show i - min i L.length=0 by omega]
 rfl
theorem aWd {n h:Int} {nd cs es:LL} {l:List (Int × AV)} {N:Nat} (hN1:1≤N) (hN2:N≤200) {L:List (LL)} (hL:L.length=N) (hO:∀ ys ∈ L,(∀ r ∈ ys,okR 1 r=true)∧ys.length≤10000) (hJ:JS G (sL N 0) (xJ n h nd cs es l N) L a w S m) (hn:a.tmps.size=180)
  {Q:Exit->Act->World->Prop} (hQ:∀ a w S m,JS G ((173,.bool false)::sL N N) (xJ n h nd cs es l N) (L.map fT) a w S m->a.tmps.size=180->Q .normal a w) :
  (Code.block 10 (.loop (.seq (gJ 29 iF) (.seq (.cond (.tmp 173) .skip (.exit 10)) (.seq (.block 11 (.seq (gJ 30 iF) (gJ 31 iF))) (gJ 32 iF)))))).wp Tryz.prog Q a w:=by
 refine wp_block (wp_loop_ghost (λ k a w=>∃ i:Nat,i≤N∧k=N - i∧∃ S m,JS G (sL N i) (xJ n h nd cs es l N) (aEl i L) a w S m∧a.tmps.size=180) N ⟨0,by omega,by omega,S,m,hJ,hn⟩ ?_)
 rintro k a w ⟨i,hi,rfl,S,m,hJ,hn⟩
 have hlen:∀ i,(aEl i L).length=N:=λ i=>(aJk i L).trans hL
 have hX:=hJ.gh
 refine wp_seq (mV (sl':=(173,.bool (decide ((i:Int) < N)))::sL N i) (X':=xJ n h nd cs es l N) tyJ (pC [] []) aDO (gok hG _ rfl) (C:=CJ) rfl hJ hn (by rw [hlen]; exact hN2) (by rw [hlen]; exact hN1) (λ els ys _=>j29 n h i nd cs es els ys l N ⟨by omega,by omega⟩) rfl hX λ a w S m hJ hn=>?_)
 refine wp_seq (wp_cond_split (evT (t:=173) hJ.rel.tmps rfl) (λ ht=>wp_skip ?_) (λ hf=>wp_exit ?_))
 ·have hi':i < N:=by have:=of_decide_eq_true ht; omega
  rw [ht] at hJ
  have hg:=aJl (L:=L) (i:=i) (by omega)
  have hm:L.getD i [] ∈ L:=dZ (by omega)
  obtain ⟨o1,o2⟩:=hO _ hm
  refine wp_seq (wp_block (vO (A:=i) (eo:=id) (sl':=sL N i) (X':=xJ n h nd cs es l N) (ys':=fT (L.getD i [])) tyJ (aVA [175] [(175,[1002001])]) aDO (gok hG _ rfl) (C:=CJ) rfl hJ hn (by rw [hlen]; exact hN2) hg (λ els e1 e2=>j30 n h i nd cs es els _ l N i ⟨rfl,hi',by rw [e1,hlen],hN2,e2,o2⟩ ⟨o1,by omega,rfl⟩) rfl rfl (λ q=>List.eq_nil_of_length_eq_zero (by rw [← iO,q]; rfl)) (λ els e1 e2=>⟨rfl,by rw [iO]; exact e2,λ _ _=>rfl⟩) λ a w S m hJ hn=>?_))
  rw [aJj (by omega)] at hJ
  refine mV (sl':=sL N ((i+1:Nat):Int)) (X':=xJ n h nd cs es l N) tyJ (pC [] []) aDO (gok hG _ rfl) (C:=CJ) rfl hJ hn (by rw [hlen]; exact hN2) (by rw [hlen]; exact hN1) (λ els ys _=>j32 n h i nd cs es els ys l N ⟨by omega,by omega⟩) rfl rfl λ a w S m hJ hn=>?_
  exact ⟨N - (i+1),by omega,i+1,hi',rfl,S,m,hJ,hn⟩
 ·have hi':i=N:=by have:=of_decide_eq_false hf; omega
  rw [hf] at hJ
  subst hi'
  have e:aEl i L=L.map fT:=by
   rw [aEl,List.take_of_length_le (by omega),List.drop_eq_nil_of_le (by omega),List.append_nil]
  rw [e] at hJ
  exact hQ a w S m hJ hn
end
theorem aKw {f:FuncId} {fn:Func} (hf:P.funcs[f]?=some fn) {c:Code} (hc:fn.body=some c) {xs:List AV} {bs:List Blk} {r:AV} {bs':List Blk} (hnt:C.nt=fn.ntmps) (hle:xs.length≤fn.ntmps) (hkp:C.kp=eJ 0 bs.length)
    (h:∀ (G:Gh) (a:Act) (w:World) (S:Pin) (m:Nm),GOK E G.S0->Rel G C.kp ⟨lB xs 0,eB bs 0⟩ a w S m->a.tmps.size=C.nt->c.wp P (aPG G C (λ st=>aIS C.kp (C.emp 900001) st λ st=>aAx P E C st fn.results.toList (aKR C.kp r bs')) (λ _ _=>False) (λ st=>aIS C.kp (C.emp 900001) st λ st=>aAx P E C st fn.results.toList (aKR C.kp r bs'))) a w):HC P E.glob f xs bs r bs':=by
  intro w S m vs hG hA hnm hheld hinj hv
  have hlen:=hv.len
  simp only [Array.length_toList] at hlen
  let G:Gh:=⟨w,S,m,Mof bs.length m⟩
  have hbl:∀ k b,lk (eB bs 0) k=some b->bs[k]?=some b:=by
    intro k b e
    rw [kQ] at e
    simpa using e
  have hbl2:∀ (k:Nat) (b:Blk),bs[k]?=some b->k < bs.length:=λ k b e=>(aF.1 e).1
  have hR0:Rel G C.kp ⟨lB xs 0,eB bs 0⟩ { tmps:=vs++Array.replicate (fn.ntmps - vs.size) undef,defers:=[] } w S m :=
    { defers:=rfl
      pin0:=Ext.refl S
      pinNew:=λ _ _ _ _=>rfl
      agree:=hA
      tmps:=λ t=>by
        unfold St.get
        rw [jM]
        simp only [Nat.zero_le,if_true,Nat.sub_zero]
        cases e:xs[t]? with
        | none=>simp only [CV]
        | some x =>
          obtain ⟨v,hv1,hv2⟩:=hv.get e
          have hlt:t < vs.size:=by have:=(aF.1 hv1).1; simpa using this
          have:vs[t]?=some v:=by simpa using hv1
          simp only [Array.getD_eq_getD_getElem?,Array.getElem?_append_left hlt,this,Option.getD_some]
          exact hv2
      held:=λ k b hk=>hheld k b (hbl k b hk)
      inj:=λ k k' b b' u u' g hk hk' hne hu hu' hg=>hinj k k' u u' g (hbl2 k b (hbl k b hk)) (hbl2 k' b' (hbl k' b' hk')) hne hu hu' hg
      own:=λ k b u g hk hu hg=>.inr ⟨k,u,hbl2 k b (hbl k b hk),hu,hg⟩
      os:=rfl
      tape:=rfl
      output:=rfl
      size:=Nat.le_refl _
      frame:=λ _ _ _=>rfl
      m0:=MLe.refl _
      keep:=λ k u e=>by
        have hlt:=hnm k u e
        rw [hkp]
        exact aL (by rw [gM _ 0 k hlt,Nat.zero_add]) }
  refine calls_of_wp hf hc (Go.wp_mono (h G _ w S m hG hR0 ?_) ?_)
  · simp; omega
  · have fin:∀ st a w' S' m',aIS C.kp (C.emp 900001) st (λ st=>aAx P E C st fn.results.toList (aKR C.kp r bs'))->Rel G C.kp st a w' S' m'->a.defers=[]∧∃ v,(results fn a.tmps).run P w'=.ok v w' ∧
        ∃ u S' m',Ending.returned v=.returned u∧w'.os=w.os∧w'.tape=w.tape∧w'.output=w.output∧w.heap.size≤w'.heap.size∧Ext S S' ∧
    (∀ b,b < w.heap.size->¬ Mof bs.length m b->w'.heap[b]?=w.heap[b]?∧∀ o,S' b o=S b o)∧dX S' w' ∧
    (∀ (q:Nat) (b:Blk),bs'[q]?=some b->fJ S' m' w' q b)∧aU5 bs'.length m'∧(∀ q u g,q < bs'.length->m' q=some u->bk u=some g->w.heap.size≤g∨Mof bs.length m g)∧MLe m m'∧CV S' r m' u:=by
      intro st0 a w' S0 m0 hk0 hR0
      obtain ⟨st1,S1,m1,hk1,hR1⟩:=jY _ _ S0 m0 _ hk0 hR0
      obtain ⟨st,S',m',hk,hR⟩:=cD _ _ S1 m1 _ hk1 hR1
      obtain ⟨x,v,h1,h2,h3⟩:=gI hR hk
      unfold aKR at h1
      generalize hks:aIR (lk st.heap) 3 (jG (aLz x) C.kp)=ks at h1
      have hknd:ks.Nodup:=by rw [← hks]; exact jW _ _ _ (dU _ _ (by rw [hkp]; exact iW _ _))
      have hpre:∀ q,q < bs.length->ks[q]?=some q:=by
        intro q hq
        obtain ⟨t,ht⟩:=jF (aLz x) C.kp
        obtain ⟨t',ht'⟩:=wC (lk st.heap) 3 (jG (aLz x) C.kp)
        rw [← hks,ht',ht,hkp,List.append_assoc,List.getElem?_append_left (by rw [mQ]; exact hq),gM _ _ _ hq,Nat.zero_add]
      obtain ⟨y,h4,hy⟩:=lF _ _ h1
      obtain ⟨cs,h5,hcl,hcs⟩:=fR _ _ h4
      obtain ⟨ds,h6,hdl,hds⟩:=gG _ _ h5
      obtain ⟨h7,h8⟩:=h6
      let m2:Nm:=λ q=>(ks[q]?).bind m'
      have hRn:Rn (λ k=>idx k ks 0) m' m2:=by
        intro i j hij
        have:=(mY hij).2
        simp only [Nat.sub_zero] at this
        simp only [m2,this,Option.bind_some]
      have hm2:∀ q k,ks[q]?=some k->m2 q=m' k:=λ q k e=>by simp only [m2,e,Option.bind_some]
      have hlen':bs'.length=ks.length:=by rw [← oQ h8,hdl,hcl]
      have hkb:∀ (q k:Nat),ks[q]?=some k->∃ b,lk st.heap k=some b:=λ q k e=>by obtain ⟨b,_,hb⟩:=hcs q k e; exact ⟨b,hb⟩
      refine ⟨hR.defers,v,h3,v,S',m2,rfl,hR.os,hR.tape,hR.output,hR.size,hR.pin0,λ b hb hn=>⟨hR.frame b hb hn,λ o=>hR.pinNew b o hb hn⟩,hR.agree,?_,?_,?_,?_,fP _ _ _ _ h7 (hy S' m' m2 v hRn h2)⟩
      · intro q b hb
        have hql:q < ks.length:=by rw [← hlen']; exact (aF.1 hb).1
        obtain ⟨d,hd,hle⟩:=oR h8 hb
        obtain ⟨c0,hc0,hh⟩:=hcs q ks[q] (by simp [hql])
        have hidx:idx ks[q] ks 0=some q:=by
          have key:∀ (l:List Nat) (q i:Nat) (h:q < l.length),l.Nodup->idx l[q] l i=some (i+q):=by
            intro l
            induction l with
            | nil=>intro q i h; simp at h
            | cons j l ih =>
              intro q i h hn
              rw [List.nodup_cons] at hn
              cases q with
              | zero=>simp [idx,aY]
              | succ q =>
                simp at h
                simp only [idx,List.getElem_cons_succ]
                rw [nbeq_ne (λ e=>hn.1 (by rw [e]; exact List.getElem_mem h))]
                simp only [cond_false]
                rw [ih q (i+1) h hn.2]
                congr 1; omega
          simpa using key ks q 0 hql hknd
        exact oS hle (hds q c0 d hc0 hd S' m' m2 w' ks[q] q hRn hidx (hR.held _ _ hh))
      · intro q q' u u' g hq hq' hne hu hu' hg
        rw [hlen'] at hq hq'
        rw [hm2 q ks[q] (by simp [hq])] at hu
        rw [hm2 q' ks[q'] (by simp [hq'])] at hu'
        obtain ⟨b,hb⟩:=hkb q ks[q] (by simp [hq])
        obtain ⟨b',hb'⟩:=hkb q' ks[q'] (by simp [hq'])
        exact hR.inj _ _ b b' u u' g hb hb' (λ e=>hne (iV (k:=ks[q]) hknd (p:=q) (q:=q') (by simp [hq]) (by rw [e]; simp [hq']))) hu hu' hg
      · intro q u g hq hu hg
        rw [hlen'] at hq
        rw [hm2 q ks[q] (by simp [hq])] at hu
        obtain ⟨b,hb⟩:=hkb q ks[q] (by simp [hq])
        exact hR.own _ b u g hb hu hg
      · intro k u hu
        obtain ⟨u',h9,h10⟩:=hR.m0 k u hu
        exact ⟨u',by rw [hm2 k k (hpre k (hnm k u hu))]; exact h9,h10⟩
    intro e a w' he
    cases e with
    | normal=>obtain ⟨st,S',m,hk,hR,_⟩:=he; exact fin st a w' S' m hk hR
    | ret=>obtain ⟨st,S',m,hk,hR,_⟩:=he; exact fin st a w' S' m hk hR
    | exit _=>obtain ⟨st,S',m,hk,hR,_⟩:=he; exact hk.elim
    | _=>exact he.elim
open Go.RowKit (Below)
variable {P:Program} {S:Pin} {m:Nm} {w:World} {a:Act} {G:Gh} {kp:List Nat} {st:St} {E:Env} {C:Cx}
theorem aEs {α:Type} {g:Int->List α->List α} {c:Nat} (hg:∀ b s,0≤b->(g b s).length≤s.length+c):∀ (k:Nat) (b:Int) (s:List α),0≤b->(itr g k b s).length≤s.length+k*c
 | 0,b,s,_=>by simp [itr]
 | k+1,b,s,h0=>by
  have h1:=aEs hg k (b+1) (g b s) (by omega)
  have h2:=hg b s h0
  have e:itr g (k+1) b s=itr g k (b+1) (g b s):=rfl
  rw [e,Nat.succ_mul]; omega
theorem tT {α:Type} {g:Int->List α->List α} {c:Nat} (hg:∀ b s,0≤b->(g b s).length≤s.length+c) (e:Int) (s:List α) {k:Nat} (hk:(e - 0).toNat≤k):(rY g 0 e s).length≤s.length+k*c:=by
 have:=aEs hg (e - 0).toNat 0 s (Int.le_refl 0)
 have h2:=Nat.mul_le_mul_right c hk
 unfold rY; omega
theorem aTE (nrm:NrT) (n:Int) (n1:1≤n) (n4:n≤4):(clG nrm n).length≤1280:=by
 have hc:∀ h f a b c,(kV nrm (ptG nrm n).2 h f a b c).length≤2:=λ h f a b c=>by unfold kV; split <;> simp
 unfold clG clF
 refine Nat.le_trans (tT (c:=32) (λ f cs _=>?_) 20 [] (k:=20) (by omega)) (by simp)
 unfold clA
 refine Nat.le_trans (tT (c:=8) (λ a cs ha=>?_) n cs (k:=4) (by omega)) (by omega)
 unfold clB
 refine Nat.le_trans (tT (c:=2) (λ b cs _=>?_) (n - a) cs (k:=4) (by omega)) (by omega)
 rw [aG]
 have:=hc (hN n) f (a*hN n) (b*hN n) ((n - 1 - a - b)*hN n)
 omega
structure InR (N k:Nat) (r:List AV):Prop where
 ok:okR k r=true
 at_:∀ i,i < k->0≤nI r i∧nI r i < N
theorem aPb {N:Nat} (hN:N≤200) {x y z:Int} (hx:0≤x∧x < N) (hy:0≤y∧y < N) (hz:0≤z∧z < N):InR N 3 (aPd x y z):=by
 refine ⟨aHX (by omega) (by omega) (by omega),λ i hi=>?_⟩
 have e:nI (aPd x y z) i=s3 x y z i:=by
  rcases (by omega:i=0∨i=1∨i=2) with rfl | rfl | rfl <;> rfl
 rw [e]
 rcases aE4 x y z hi with e | e | e <;> rw [e] <;> assumption
theorem rA {nrm:NrT} {n:Int} {N:Nat} (hN:N≤200) (hl:∀ q,0≤vK (ptG nrm n).2 q∧vK (ptG nrm n).2 q < N):∀ r ∈ clG nrm n,InR N 3 r:=by
 have hc:∀ f a b c f' a' b' c' f'' a'' b'' c'',InR N 3 (aBM nrm (ptG nrm n).2 f a b c f' a' b' c' f'' a'' b'' c''):=λ _ _ _ _ _ _ _ _ _ _ _ _=>aPb hN (hl _) (hl _) (hl _)
 have hcn:∀ h f a b c,∀ r ∈ kV nrm (ptG nrm n).2 h f a b c,InR N 3 r:=λ h f a b c r hr=>by
  unfold kV at hr
  split at hr
  ·simp only [List.mem_cons,List.not_mem_nil,or_false] at hr
   rcases hr with rfl | rfl <;> exact hc _ _ _ _ _ _ _ _ _ _ _ _
  ·simp only [List.mem_cons,List.not_mem_nil,or_false] at hr
   subst hr; exact hc _ _ _ _ _ _ _ _ _ _ _ _
 have p0:∀ r ∈ ([]:LL),InR N 3 r:=λ r hr=>by simp at hr
 exact tU (p:=λ cs=>∀ r ∈ cs,InR N 3 r) (λ f cs h1=>tU (p:=λ cs=>∀ r ∈ cs,InR N 3 r) (λ a cs h2=>tU (p:=λ cs=>∀ r ∈ cs,InR N 3 r) (λ b cs h3 r hr=>by
  rcases List.mem_append.1 hr with hr | hr
  ·exact h3 r hr
  ·exact hcn _ _ _ _ _ r hr) _ _ h2) _ _ h1) _ _ p0
theorem qU {N:Nat} (hN:N≤200) {r:List AV} (h:InR N 3 r):∀ q ∈ edR r,InR N 2 q:=by
 have h0:=h.at_ 0 (by decide)
 have h1:=h.at_ 1 (by decide)
 have h2:=h.at_ 2 (by decide)
 have key:∀ a b:Int,0≤a∧a < N->0≤b∧b < N->InR N 2 [.int .i64 a,.int .i64 b]:=λ a b ha hb=>⟨mk2 (by omega) (by omega),λ i hi=>by
  rcases (by omega:i=0∨i=1) with rfl | rfl
  ·exact ha
  ·exact hb⟩
 intro q hq
 simp only [edR,List.mem_cons,List.not_mem_nil,or_false] at hq
 rcases hq with rfl | rfl | rfl
 ·exact key _ _ h0 h1
 ·exact key _ _ h0 h2
 ·exact key _ _ h1 h2
theorem oW:∀ (l:LL) (p:List AV),(∀ r ∈ oA p l,r ∈ l)∧(oA p l).length≤l.length
 | [],p=>⟨λ r hr=>by simp [oA] at hr,by simp [oA]⟩
 | x::l,p=>by
  unfold oA
  split
  ·obtain ⟨h1,h2⟩:=oW l x
   exact ⟨λ r hr=>aN _ (h1 r hr),by simp only [List.length_cons]; omega⟩
  ·obtain ⟨h1,h2⟩:=oW l x
   refine ⟨λ r hr=>?_,by simp only [List.length_cons]; omega⟩
   rcases List.mem_cons.1 hr with rfl | hr
   ·exact aO
   ·exact aN _ (h1 r hr)
theorem qY:∀ (l:LL),(∀ r ∈ cS l,r ∈ l)∧(cS l).length≤l.length
 | []=>⟨λ r hr=>by simp [cS] at hr,by simp [cS]⟩
 | x::l=>by
  obtain ⟨h1,h2⟩:=oW l x
  refine ⟨λ r hr=>?_,by simp only [cS,List.length_cons]; omega⟩
  rcases List.mem_cons.1 hr with rfl | hr
  ·exact aO
  ·exact aN _ (h1 r hr)
structure BldQ (nrm:NrT) (n:Int):Prop where
 lo:1≤n
 hi:n≤4
 l1:1≤(ptG nrm n).1.length
 l2:(ptG nrm n).1.length≤200
 rg:∀ q,0≤vK (ptG nrm n).2 q∧vK (ptG nrm n).2 q < (ptG nrm n).1.length
 dup:aLe (aPS nrm n)
theorem cB {nrm:NrT} {n:Int} (h:BldQ nrm n):(∀ r ∈ aS nrm n,InR (ptG nrm n).1.length 2 r)∧(aS nrm n).length≤3840:=by
 have h3:=rA h.l2 h.rg
 have p3:=bY (cf:=cf3) aLj (λ r hr=>(h3 r hr).ok)
 have h3':∀ r ∈ dB nrm n,InR (ptG nrm n).1.length 3 r:=λ r hr=>h3 r (p3.mem_iff.1 hr)
 have h2:∀ q ∈ edL (dB nrm n),InR (ptG nrm n).1.length 2 q:=λ q hq=>by
  simp only [edL,List.mem_flatMap] at hq
  obtain ⟨r,hr,hq⟩:=hq
  exact qU h.l2 (h3' r hr) q hq
 have p2:=bY (cf:=cf2) aIN (λ r hr=>(h2 r hr).ok)
 obtain ⟨s1,s2⟩:=qY (aPS nrm n)
 refine ⟨λ r hr=>h2 r (p2.mem_iff.1 (s1 r hr)),?_⟩
 have e1:(aPS nrm n).length=(edL (dB nrm n)).length:=p2.length_eq
 have e2:=aBC (dB nrm n)
 have e3:(dB nrm n).length=(clG nrm n).length:=p3.length_eq
 have e4:=aTE nrm n h.lo h.hi
 show (cS (aPS nrm n)).length≤3840
 omega
theorem aON {nrm:NrT} {n:Int} (h:BldQ nrm n):EdgP (ptG nrm n).1.length (aS nrm n):=by
 obtain ⟨h1,h2⟩:=cB h
 refine ⟨λ i hi=>?_,by omega,h.l1,h.l2⟩
 have hr:=h1 _ (dZ (d:=[]) hi)
 have e:=(ok2 hr.ok).1
 have a0:=hr.at_ 0 (by decide)
 have a1:=hr.at_ 1 (by decide)
 refine ⟨(nI ((aS nrm n).getD i []) 0).toNat,(nI ((aS nrm n).getD i []) 1).toNat,?_,by omega,by omega⟩
 rw [Int.toNat_of_nonneg a0.1,Int.toNat_of_nonneg a1.1]
 exact e
def aUP (nrm:NrT) (n:Int):List (LL):=(iI (ptG nrm n).1.length (aS nrm n)).map fT
def pM (nrm:NrT) (n:Int):LL:=(aUP nrm n).map λ ys=>[AV.sl 1 false ys]
def aGn (nrm:NrT):SpH
 | [.int .i64 n],[]=>some (BldQ nrm n,.ptr 0 0,[.cells [.int .i64 n,.int .i64 (hN n),.sl 4 false (ptG nrm n).1,.mpv 1,.sl 3 false (dB nrm n),.sl 2 false (aS nrm n),.sl 1 false (pM nrm n)],.mp 27 3 (ptG nrm n).2])
 | _,_=>none
theorem aPD {fuel:Nat} {x y:Code} {kn:St->Prop} {ke:Nat->St->Prop} {kr:St->Prop} (h:acX P E C (λ _ _=>none) fuel (.seq x y) st kn ke kr):acX P E C (λ _ _=>none) fuel x st (λ st'=>acX P E C (λ _ _=>none) fuel y st' kn ke kr) ke kr:=by
 unfold acX at h ⊢
 simpa only [cC] using h
theorem aCn {inv:Nat->St->Option LInv} {fuel:Nat} (hT:TyOK P C.tys) (hS:cF P E) (hM:P.follows .mixedOrders=true) (hG:GOK E G.S0) {c:Code} {kn:St->Prop} (h:acX P E C inv fuel c st kn (λ _ _=>False) (λ _=>False)) (hR:Rel G C.kp st a w S m) (hn:a.tmps.size=C.nt) {Q:Exit->Act->World->Prop}
  (hQ:∀ st' a' w' S' m',kn st'->Rel G C.kp st' a' w' S' m'->a'.tmps.size=C.nt->Q .normal a' w'):c.wp P Q a w:=by
 unfold acX at h
 exact aAy hT hS hM hG h hR hn hQ
theorem aIC {inv:Nat->St->Option LInv} {fuel:Nat} (hT:TyOK P C.tys) (hS:cF P E) (hM:P.follows .mixedOrders=true) (hG:GOK E G.S0) {c:Code} {kn:St->Prop} {ke:Nat->St->Prop} {kr:St->Prop} (h:acX P E C inv fuel c st kn ke kr) (hR:Rel G C.kp st a w S m) (hn:a.tmps.size=C.nt):c.wp P (aPG G C kn ke kr) a w:=by
 unfold acX at h
 exact bM hT hS hM hG c st kn ke kr h a w S m hR hn
theorem aTR {n:Int} (hP:BldQ nrm n):HC Tryz.prog glb 43 [.int .i64 n] [] (.ptr 0 0) [.cells [.int .i64 n,.int .i64 (hN n),.sl 4 false (ptG nrm n).1,.mpv 1,.sl 3 false (dB nrm n),.sl 2 false (aS nrm n),.sl 1 false (pM nrm n)],.mp 27 3 (ptG nrm n).2]:=by
 have hE:=aON hP
 have hb:=aXX nrm vld n ⟨hP.lo,hP.hi,λ q=>⟨(hP.rg q).1,by have:=(hP.rg q).2; have:=hP.l2; omega⟩,hP.dup⟩
 refine aKw (E:=EJ [] []) (C:=CB) Tryz.func43 (c:=iF) (by kernel_rfl) (by kernel_rfl) (aK (by kernel_rfl)) rfl λ G a w S m hG hR hn=>?_
 have hG0:GOK { glob:=glb } G.S0:=hG
 refine zT bD (by exact aV rfl rfl trivial ⟨aNv,aGm,aMt glb,aMs glb,aGl glb,trivial⟩) aDO (gok hG0 _ rfl) 7 iF _ _ hb a w S m hR hn λ st a w S m hst hR hn=>?_
 have hR:=hR.le hst
 rw [aK4]
 have q21:=j21 n (hN n) (ptG nrm n).1 (dB nrm n) (aS nrm n) (ptG nrm n).2 hP.l2
 have q21:=aPD q21
 refine wp_seq (aCn (E:=EJ [] []) (C:=CB) bD (pC [] []) aDO (gok hG0 _ rfl) q21 hR hn λ st a w S m q22 hR hn=>?_)
 refine wp_seq (wp_seq (aCn (E:=EJ [] []) (C:=CB) bD (pC [] []) aDO (gok hG0 _ rfl) q22 hR hn λ st a w S m hst hR hn=>?_))
 obtain ⟨m,hJ⟩:=aGJ (ptG nrm n).1.length (hR.le hst) rfl rfl
 refine aWe hG0 hE hJ hn λ a w S m hJ hn=>?_
 have hNb:=pO hE _ (Nat.le_refl _)
 rw [List.take_length] at hNb
 refine wp_seq (wp_seq (mV (sl':=sL (ptG nrm n).1.length 0) (X':=xJ n (hN n) (ptG nrm n).1 (dB nrm n) (aS nrm n) (ptG nrm n).2 (ptG nrm n).1.length) tyJ (pC [] []) aDO (gok hG0 _ rfl) (C:=CJ) rfl hJ hn (by rw [hNb.len]; exact hP.l2) (by rw [hNb.len]; exact hP.l1) (λ els ys _=>j28 n (hN n) _ (ptG nrm n).1 (dB nrm n) (aS nrm n) els ys (ptG nrm n).2 _ hP.l2) rfl rfl λ a w S m hJ hn=>?_))
 refine aWd hG0 hP.l1 hP.l2 hNb.len (λ ys hy=>⟨(hNb.ok ys hy).1,by have:=(hNb.ok ys hy).2; have:=hE.le; omega⟩) hJ hn λ a w S m hJ hn=>?_
 obtain ⟨S,hR⟩:=aGI hJ
 have q33:=j33 n (hN n) (ptG nrm n).1 (dB nrm n) (aS nrm n) (pM nrm n) (ptG nrm n).2 (ptG nrm n).1.length (by simp only [pM,aUP,List.length_map]; exact hNb.len.symm)
 refine Go.wp_mono (aIC (E:=EJ [] []) (C:=CF) bD (pC [] []) aDO (gok hG0 _ rfl) q33 hR hn) ?_
 intro e a w he
 cases e with
 | normal=>obtain ⟨_,_,_,hk,_⟩:=he; exact hk.elim
 | exit _=>obtain ⟨_,_,_,hk,_⟩:=he; exact hk.elim
 | ret=>obtain ⟨st,S,m,hk,hR,hn⟩:=he; exact ⟨st,S,m,hk,hR,hn⟩
 | _=>exact he.elim
theorem aNO:HOK Tryz.prog glb 43 (aGn nrm):=by
 refine ⟨fok Tryz.func43 (by kernel_rfl) (by kernel_rfl),?_⟩
 intro xs bs pre r bs2 h hp
 unfold aGn at h
 split at h
 ·cases h
  exact aTR hp
 ·cases h
def fnN:List Int:=[12,42,92,162]
structure FnN (n:Int):Prop where
 mem:n ∈ fnN
theorem aNE {n:Int} (h:FnN n):n=12∨n=42∨n=92∨n=162:=by
 have:=h.mem
 simpa [fnN] using this
def mR:Sp
 | [.int .u64 a,.int .u64 n]=>some (a=1∧FnN n,.tup [.int .u64 0,.int .u64 n])
 | _=>none
def vC:Prop :=
 ∀ (gl:aX),((0:Int)≤(1:Int)∧(1:Int)≤(18446744073709551615:Int)->(0:Int)≤(12:Int)∧(12:Int)≤(18446744073709551615:Int)->(0:Int)=(0:Int)∧(12:Int)=(12:Int)∧True)∧((0:Int)≤(1:Int)∧(1:Int)≤(18446744073709551615:Int)->(0:Int)≤(42:Int)∧(42:Int)≤(18446744073709551615:Int)->(0:Int)=(0:Int)∧(42:Int)=(42:Int)∧True)∧((0:Int)≤(1:Int)∧(1:Int)≤(18446744073709551615:Int)->(0:Int)≤(92:Int)∧(92:Int)≤(18446744073709551615:Int)->(0:Int)=(0:Int)∧(92:Int)=(92:Int)∧True)∧((0:Int)≤(1:Int)∧(1:Int)≤(18446744073709551615:Int)->(0:Int)≤(162:Int)∧(162:Int)≤(18446744073709551615:Int)->(0:Int)=(0:Int)∧(162:Int)=(162:Int)∧True)∧True
theorem aNp:vC:=by
 unfold vC
 intro gl
 repeat' (first | exact trivial | intro _ | rfl | apply And.intro)
def aAV:Prop:=∀ gl:aX,aDo fnN λ n=>fnK Tryz.prog { glob:=gl,nowf:=true,wrap:=true } { nt:=51 } (λ _ _=>none) 6 Tryz.f185 [.int .u64 1,.int .u64 n] (.tup [.int .u64 0,.int .u64 n])
theorem aNo:vC=aAV:=by kernel_rfl
theorem aV5:aAV:=@Eq.mp (vC) (aAV) (aNo) (aNp)
theorem aKb (gl:aX):SOK Tryz.prog gl 185 mR:=by
 refine ⟨fok Tryz.func185 (by kernel_rfl) (by kernel_rfl),?_⟩
 intro xs pre r h hp
 unfold mR at h
 split at h
 ·cases h
  obtain ⟨rfl,hn⟩:=hp
  exact aT bD (by exact aV (l:=[]) (l':=[]) rfl rfl trivial trivial) (by kernel_rfl) Tryz.func185 rfl (fS (aV5 gl) hn.mem)
 ·cases h
abbrev lO:=(18446744073709551615:Int)
def aCA:Prop :=
 ∀ (gl:aX),((0:Int)≤(1:Int)∧(1:Int)≤(lO)->(0:Int)≤(12:Int)∧(12:Int)≤(lO)->((1:Int)=(1:Int)∧FnN 12)∧(0:Int)=(0:Int)∧(12:Int)=(12:Int)∧True)∧((0:Int)≤(1:Int)∧(1:Int)≤(lO)->(0:Int)≤(42:Int)∧(42:Int)≤(lO)->((1:Int)=(1:Int)∧FnN 42)∧(0:Int)=(0:Int)∧(42:Int)=(42:Int)∧True)∧((0:Int)≤(1:Int)∧(1:Int)≤(lO)->(0:Int)≤(92:Int)∧(92:Int)≤(lO)->((1:Int)=(1:Int)∧FnN 92)∧(0:Int)=(0:Int)∧(92:Int)=(92:Int)∧True)∧((0:Int)≤(1:Int)∧(1:Int)≤(lO)->(0:Int)≤(162:Int)∧(162:Int)≤(lO)->((1:Int)=(1:Int)∧FnN 162)∧(0:Int)=(0:Int)∧(162:Int)=(162:Int)∧True)∧True
theorem aRL:aCA:=by
 unfold aCA
 delta lO
 intro gl
 repeat' (first | exact trivial | intro _ | rfl | exact ⟨by decide⟩ | apply And.intro)
def aF2:Prop:=∀ gl:aX,aDo fnN λ n=>fnK Tryz.prog { glob:=gl,spec:=lk [(185,mR)],nowf:=true,wrap:=true } { nt:=30 } (λ _ _=>none) 6 Tryz.f143 [.int .u64 1,.int .u64 n] (.tup [.int .u64 0,.int .u64 n])
theorem aRK:aCA=aF2:=by kernel_rfl
theorem aXN:aF2:=@Eq.mp (aCA) (aF2) (aRK) (aRL)
theorem aNn (gl:aX):SOK Tryz.prog gl 143 mR:=by
 refine ⟨fok Tryz.func143 (by kernel_rfl) (by kernel_rfl),?_⟩
 intro xs pre r h hp
 unfold mR at h
 split at h
 ·cases h
  obtain ⟨rfl,hn⟩:=hp
  exact aT bD (by exact aV (l':=[]) rfl rfl ⟨aKb gl,trivial⟩ trivial) (by kernel_rfl) Tryz.func143 rfl (fS (aXN gl) hn.mem)
 ·cases h
def aRJ:Sp:=mR
structure RepP (N k:Int):Prop where
 lo:1≤k
 hi:k≤N
def nb (nx:LL) (k:Nat):List Int:=match nx.getD k [] with
 | [.sl _ _ ys]=>aQ ys
 | _=>[]
structure DisP (N:Nat) (nd nx:LL) (a:Int):Prop where
 eN:nd.length=N
 nN:FnN N
 eX:nx.length=N
 row:∀ k,k < N->nx.getD k []=[.sl 1 false (aP (nb nx k))]∧(∀ z ∈ nb nx k,0≤z∧z < N)∧(nb nx k).length≤10000
 fr:0≤a∧a < N
 conn:∀ V:Nat->Prop,V a.toNat->(∀ k,k < N->V k->∀ z ∈ nb nx k,V z.toNat)->∀ k,k < N->V k
theorem aR (zs:List Int):(aP zs).length=zs.length:=by simp [aP]
theorem bB {zs:List Int} {i:Nat} {z:Int} (h:zs[i]?=some z):(aP zs).getD i []=[.int .i64 z]:=by
 rw [aB,aP,List.getElem?_map,h]; rfl
theorem cM {ds:List Int} {k:Nat} {x:Int} (h:k < ds.length):setEl (aP ds) k 0 [.int .i64 x]=aP (ds.set k x):=by
 have e:(aP ds)[k]?=some [.int .i64 ds[k]]:=by rw [aP,List.getElem?_map,aD h]; rfl
 show (aP ds).set k (spl ((aP ds).getD k []) 0 [.int .i64 x])=_
 rw [aB,e,aP,aP,List.map_set]; rfl
theorem cN (q:List Int) (k:Int):aP q++[[.int .i64 k]]=aP (q++[k]):=by simp [aP]
theorem aU (zs:List Int):aQ (aP zs)=zs:=by
 simp only [aQ,aP,List.map_map]
 exact (List.map_congr_left λ z _=>rfl).trans (List.map_id zs)
theorem aGS {l:List Int} {i:Nat} {z:Int} (h:l[i]?=some z):l.getD i 0=z:=by rw [aB,h]; rfl
theorem bH {l:List Int} {i:Nat} (h:i < l.length):l[i]?=some (l.getD i 0):=by rw [aB,aD h]; rfl
def aWN:List AV->LL->List AV
 | m,[]=>m
 | m,x::l=>if nI m 1 - nI x 1 < 0 then aWN x l else aWN m l
def bst:LL->List AV
 | []=>[]
 | x::l=>aWN x l
def hU:Sp
 | [.int .i64 n]=>some (1≤n∧n≤4,.int .i64 (10*n*n+2))
 | _=>none
def vU:Prop :=
 ∀ (gl:aX) (n:Int),1≤n∧n≤(4:Int)->IR9 n->True∧bif !decide (1≤n∧n≤(8:Int)) then (0:Int)=(10:Int)*n*n+(2:Int) else bif decide (rng IntKind.i64 ((10:Int)*n)) then bif decide (rng IntKind.i64 ((10:Int)*n*n)) then bif decide (rng IntKind.i64 ((10:Int)*n*n+(2:Int))) then (10:Int)*n*n+(2:Int)=(10:Int)*n*n+(2:Int) else False else False else False
theorem aKE:vU:=by
 unfold vU
 intro gl n ⟨h1,h4⟩ _
 have hb:0≤10*n*n∧10*n*n≤160:=by rcases n14 h1 h4 with rfl | rfl | rfl | rfl <;> decide
 refine ⟨trivial,dJ (λ h=>?_) (λ _=>cdI (by omega) (cdI (by omega) (cdI (by omega) rfl)))⟩
 rw [decide_eq_true (show 1≤n∧n≤8 by omega)] at h
 cases h
theorem aKD:vU=(∀ (gl:aX) (n:Int),1≤n∧n≤4->fnK Tryz.prog { glob:=gl,spec:=lk [(36,vF)],specH:=lk [],nowf:=true } { nt:=11,drop:=drp [(1,24),(3,1984)] } (λ _ _=>none) 6 Tryz.f59 [.int .i64 n] (.int .i64 (10*n*n+2))):=by kernel_rfl
def aKC:=Eq.mp (aKD ..) (aKE)
theorem jC (gl:aX):SOK Tryz.prog gl 59 hU:=by
 refine ⟨fok Tryz.func59 (by kernel_rfl) (by kernel_rfl),?_⟩
 intro xs pre r h hp
 unfold hU at h
 split at h
 ·cases h
  exact aT bD (by exact aV rfl rfl ⟨(aCC gl),trivial⟩ trivial) (by kernel_rfl) Tryz.func59 rfl (aKC gl _ hp)
 ·cases h
end Go.Proofs.YtgbbmadjdaphnaaGreatDoor
