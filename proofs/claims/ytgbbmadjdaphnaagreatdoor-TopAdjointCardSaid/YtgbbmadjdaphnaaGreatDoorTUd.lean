import Derived.Test.YtgbbmadjdaphnaaGreatDoorTUc
import Derived.Shelf.SlSortCmp.WholeK
import Derived.Test.YtgbbmadjdaphnaaGreatDoorProg
import Derived.Outline
import Derived.WalkKit
import Derived.Handy
import Derived.Deep.RegionHeld3
import Derived.Shelf.Sort.Plain
import Derived.Shelf.Slices.In.SortNone
set_option maxRecDepth 100000
set_option linter.defProp false
set_option linter.unusedVariables false
set_option linter.unusedSimpArgs false
namespace Go.Proofs.YtgbbmadjdaphnaaGreatDoor
open Go
theorem gg (g:Bool):cond g (g=true) True:=by cases g <;> trivial
structure PlS (f a b c:Int):Prop where
 f:0≤f∧f < 20
 a:-10000≤a∧a≤10000
 b:-10000≤b∧b≤10000
 c:-10000≤c∧c≤10000
def atV (nrm:NrT) (l:List (Int × AV)) (f a b c:Int):Int:=vL l (rB [(nrm f a b c).1,(nrm f a b c).2.1,(nrm f a b c).2.2.1,(nrm f a b c).2.2.2])
def lR:Sp
 | [.agg [.int .i64 f,.int .i64 a,.int .i64 b,.int .i64 c],.int .i64 x,.int .i64 y,.int .i64 z]=>some (PlS f a b c∧PlS f x y z,.agg [.int .i64 f,.int .i64 (a+x),.int .i64 (b+y),.int .i64 (c+z)])
 | _=>none
def vF:Prop :=
 ∀ (gl:aX) (f a b c x y z:Int),PlS f a b c∧PlS f x y z->(IR9 f)∧(IR9 a)∧(IR9 b)∧(IR9 c)∧True->IR9 x->IR9 y->IR9 z->bif decide (rng IntKind.i64 (a+x)) then bif decide (rng IntKind.i64 (b+y)) then bif decide (rng IntKind.i64 (c+z)) then f=f∧a+x=a+x∧b+y=b+y∧c+z=c+z∧True else False else False else False
theorem aKm:vF:=by
 unfold vF
 intro gl f a b c x y z ⟨h,k⟩
 intros
 have h1:=h.a; have h2:=h.b; have h3:=h.c; have k1:=k.a; have k2:=k.b; have k3:=k.c
 exact cdI (by omega) (cdI (by omega) (cdI (by omega) (by repeat' first|exact trivial|exact rfl|assumption|apply And.intro)))
theorem aKl:vF=(∀ (gl:aX) (f a b c x y z:Int),PlS f a b c∧PlS f x y z->fnK Tryz.prog { glob:=gl,spec:=lk [],specH:=lk [],nowf:=true } { nt:=24,drop:=drp [(1,16776704)] } (λ _ _=>none) 6 Tryz.f123 [.agg [.int .i64 f,.int .i64 a,.int .i64 b,.int .i64 c],.int .i64 x,.int .i64 y,.int .i64 z] (.agg [.int .i64 f,.int .i64 (a+x),.int .i64 (b+y),.int .i64 (c+z)])):=by kernel_rfl
def aKk:=Eq.mp (aKl ..) (aKm)
theorem pT (gl:aX):SOK Tryz.prog gl 123 lR:=by
 refine ⟨fok Tryz.func123 (by kernel_rfl) (by kernel_rfl),?_⟩
 intro xs pre r h hp
 unfold lR at h
 split at h
 ·cases h
  exact aU bD (by exact aV rfl rfl trivial trivial) (by kernel_rfl) Tryz.func123 rfl (aKk gl _ _ _ _ _ _ _ hp)
 ·cases h
def aGw (nrm:NrT) (vld:Int->Int->Int->Int->Bool):SpH
 | [.ptr 0 0,.agg [.int .i64 f,.int .i64 a,.int .i64 b,.int .i64 c]],[.cells [.int .i64 n,.int .i64 h,.sl 4 g nd,.mpv 1,.rw 2 3 m,.nils,.nils],.mp 27 3 l,.row 162 3 cs]=>some (True,.int .i64 (atV nrm l f a b c),[.cells [.int .i64 n,.int .i64 h,.sl 4 g nd,.mpv 1,.rw 2 3 m,.nils,.nils],.mp 27 3 l,.row 162 3 cs])
 | _,_=>none
def aGx (nrm:NrT) (vld:Int->Int->Int->Int->Bool):Prop :=
 ∀ (n h f a b c:Int) (g:Bool) (nd cs:LL) (l:List (Int × AV)) (m:Nat),True->(IR9 f)∧(IR9 a)∧(IR9 b)∧(IR9 c)∧True->IR9 n->IR9 h->True->True->True->True->True->True∧vL l (rB [(nrm f a b c).1,(nrm f a b c).2.1,(nrm f a b c).2.2.1,(nrm f a b c).2.2.2])=atV nrm l f a b c∧(n=n∧h=h∧((bif g then g=true else True)∧nd=nd)∧True∧m=m∧True∧True∧True)∧l=l∧cs=cs∧True
theorem aSn:aGx nrm vld:=by
 unfold aGx
 intros; (repeat' (first | exact trivial | exact rfl | exact gg _ | assumption | exact Int.add_zero _ | apply And.intro))
theorem aSm (nrm:NrT) (vld:Int->Int->Int->Int->Bool):aGx nrm vld=(∀ (n h f a b c:Int) (g:Bool) (nd cs:LL) (l:List (Int × AV)) (m:Nat),fnH Tryz.prog { glob:=glb,spec:=lk [(75,(oL vld nrm))],specH:=lk [],nowf:=true } { nt:=18,drop:=drp [(1,3968),(2,258048)],fr:=1000,kp:=[0,1,2] } (λ _ _=>none) 6 Tryz.f124 [.ptr 0 0,.agg [.int .i64 f,.int .i64 a,.int .i64 b,.int .i64 c]] [.cells [.int .i64 n,.int .i64 h,.sl 4 g nd,.mpv 1,.rw 2 3 m,.nils,.nils],.mp 27 3 l,.row 162 3 cs] (.int .i64 (atV nrm l f a b c)) [.cells [.int .i64 n,.int .i64 h,.sl 4 g nd,.mpv 1,.rw 2 3 m,.nils,.nils],.mp 27 3 l,.row 162 3 cs]):=by kernel_rfl
def aSl:=Eq.mp (aSm ..) (aSn)
theorem aNY:HOK Tryz.prog glb 124 (aGw nrm vld):=by
 refine ⟨fok Tryz.func124 (by kernel_rfl) (by kernel_rfl),?_⟩
 intro xs bs pre r bs2 h hp
 unfold aGw at h
 split at h
 ·cases h
  exact bB bD (by exact aV rfl rfl ⟨(xZ),trivial⟩ trivial) (by kernel_rfl) Tryz.func124 (aSl  _ _ _ _ _ _ _ _ _ _ _)
 ·cases h
def aF9:SpH
 | [.ptr 0 0,.agg [.int .i64 f,.int .i64 a,.int .i64 b,.int .i64 c]],[.cells [.int .i64 n,.int .i64 h,.sl 4 g nd,.mpv 1,.rw 2 3 m,.nils,.nils],.mp 27 3 l,.row 162 3 cs]=>some (PlS f a b c∧0≤h∧h≤840,.agg [.int .i64 f,.int .i64 (a+h),.int .i64 b,.int .i64 c,.int .i64 f,.int .i64 a,.int .i64 (b+h),.int .i64 c,.int .i64 f,.int .i64 a,.int .i64 b,.int .i64 (c+h)],[.cells [.int .i64 n,.int .i64 h,.sl 4 g nd,.mpv 1,.rw 2 3 m,.nils,.nils],.mp 27 3 l,.row 162 3 cs])
 | _,_=>none
def aGa:Prop :=
 ∀ (gl:aX) (n h f a b c:Int) (g:Bool) (nd cs:LL) (l:List (Int × AV)) (m:Nat),PlS f a b c∧0≤h∧h≤(840:Int)->True->(IR9 f)∧(IR9 a)∧(IR9 b)∧(IR9 c)∧True->IR9 n->IR9 h->True->True->True->True->True->(PlS f a b c∧PlS f h 0 0)∧(PlS f a b c∧PlS f 0 h 0)∧(PlS f a b c∧PlS f 0 0 h)∧(f=f∧a+h=a+h∧b+(0:Int)=b∧c+(0:Int)=c∧f=f∧a+(0:Int)=a∧b+h=b+h∧c+(0:Int)=c∧f=f∧a+(0:Int)=a∧b+(0:Int)=b∧c+h=c+h∧True)∧(n=n∧h=h∧((bif g then g=true else True)∧nd=nd)∧True∧m=m∧True∧True∧True)∧l=l∧cs=cs∧True
theorem aRQ:aGa:=by
 unfold aGa
 intro gl n h f a b c g nd cs l m ⟨hp,h0,h8⟩
 intros
 have q1:PlS f h 0 0:=⟨hp.f,by omega,by omega,by omega⟩
 have q2:PlS f 0 h 0:=⟨hp.f,by omega,by omega,by omega⟩
 have q3:PlS f 0 0 h:=⟨hp.f,by omega,by omega,by omega⟩
 (repeat' (first | exact trivial | exact rfl | exact gg _ | assumption | exact Int.add_zero _ | apply And.intro))
theorem aRP:aGa=(∀ (gl:aX) (n h f a b c:Int) (g:Bool) (nd cs:LL) (l:List (Int × AV)) (m:Nat),PlS f a b c∧0≤h∧h≤840->fnH Tryz.prog { glob:=gl,spec:=lk [(123,lR)],specH:=lk [],nowf:=true } { nt:=24,drop:=drp [(1,16777184)],fr:=1000,kp:=[0,1,2] } (λ _ _=>none) 6 Tryz.f125 [.ptr 0 0,.agg [.int .i64 f,.int .i64 a,.int .i64 b,.int .i64 c]] [.cells [.int .i64 n,.int .i64 h,.sl 4 g nd,.mpv 1,.rw 2 3 m,.nils,.nils],.mp 27 3 l,.row 162 3 cs] (.agg [.int .i64 f,.int .i64 (a+h),.int .i64 b,.int .i64 c,.int .i64 f,.int .i64 a,.int .i64 (b+h),.int .i64 c,.int .i64 f,.int .i64 a,.int .i64 b,.int .i64 (c+h)]) [.cells [.int .i64 n,.int .i64 h,.sl 4 g nd,.mpv 1,.rw 2 3 m,.nils,.nils],.mp 27 3 l,.row 162 3 cs]):=by kernel_rfl
def aRO:=Eq.mp (aRP ..) (aRQ)
theorem aNw (gl:aX):HOK Tryz.prog gl 125 aF9:=by
 refine ⟨fok Tryz.func125 (by kernel_rfl) (by kernel_rfl),?_⟩
 intro xs bs pre r bs2 h hp
 unfold aF9 at h
 split at h
 ·cases h
  exact bB bD (by exact aV rfl rfl ⟨(pT gl),trivial⟩ trivial) (by kernel_rfl) Tryz.func125 (aRO gl _ _ _ _ _ _ _ _ _ _ _ hp)
 ·cases h
def aGq:SpH
 | [.ptr 0 0,.agg [.int .i64 f,.int .i64 a,.int .i64 b,.int .i64 c]],[.cells [.int .i64 n,.int .i64 h,.sl 4 g nd,.mpv 1,.rw 2 3 m,.nils,.nils],.mp 27 3 l,.row 162 3 cs]=>some (PlS f a b c∧0≤h∧h≤840,.agg [.int .i64 f,.int .i64 a,.int .i64 (b+h),.int .i64 (c+h),.int .i64 f,.int .i64 (a+h),.int .i64 b,.int .i64 (c+h),.int .i64 f,.int .i64 (a+h),.int .i64 (b+h),.int .i64 c],[.cells [.int .i64 n,.int .i64 h,.sl 4 g nd,.mpv 1,.rw 2 3 m,.nils,.nils],.mp 27 3 l,.row 162 3 cs])
 | _,_=>none
def aGr:Prop :=
 ∀ (gl:aX) (n h f a b c:Int) (g:Bool) (nd cs:LL) (l:List (Int × AV)) (m:Nat),PlS f a b c∧0≤h∧h≤(840:Int)->True->(IR9 f)∧(IR9 a)∧(IR9 b)∧(IR9 c)∧True->IR9 n->IR9 h->True->True->True->True->True->(PlS f a b c∧PlS f 0 h h)∧(PlS f a b c∧PlS f h 0 h)∧(PlS f a b c∧PlS f h h 0)∧(f=f∧a+(0:Int)=a∧b+h=b+h∧c+h=c+h∧f=f∧a+h=a+h∧b+(0:Int)=b∧c+h=c+h∧f=f∧a+h=a+h∧b+h=b+h∧c+(0:Int)=c∧True)∧(n=n∧h=h∧((bif g then g=true else True)∧nd=nd)∧True∧m=m∧True∧True∧True)∧l=l∧cs=cs∧True
theorem aSk:aGr:=by
 unfold aGr
 intro gl n h f a b c g nd cs l m ⟨hp,h0,h8⟩
 intros
 have q1:PlS f 0 h h:=⟨hp.f,by omega,by omega,by omega⟩
 have q2:PlS f h 0 h:=⟨hp.f,by omega,by omega,by omega⟩
 have q3:PlS f h h 0:=⟨hp.f,by omega,by omega,by omega⟩
 (repeat' (first | exact trivial | exact rfl | exact gg _ | assumption | exact Int.add_zero _ | apply And.intro))
theorem aSj:aGr=(∀ (gl:aX) (n h f a b c:Int) (g:Bool) (nd cs:LL) (l:List (Int × AV)) (m:Nat),PlS f a b c∧0≤h∧h≤840->fnH Tryz.prog { glob:=gl,spec:=lk [(123,lR)],specH:=lk [],nowf:=true } { nt:=36,drop:=drp [(1,68719476704)],fr:=1000,kp:=[0,1,2] } (λ _ _=>none) 6 Tryz.f126 [.ptr 0 0,.agg [.int .i64 f,.int .i64 a,.int .i64 b,.int .i64 c]] [.cells [.int .i64 n,.int .i64 h,.sl 4 g nd,.mpv 1,.rw 2 3 m,.nils,.nils],.mp 27 3 l,.row 162 3 cs] (.agg [.int .i64 f,.int .i64 a,.int .i64 (b+h),.int .i64 (c+h),.int .i64 f,.int .i64 (a+h),.int .i64 b,.int .i64 (c+h),.int .i64 f,.int .i64 (a+h),.int .i64 (b+h),.int .i64 c]) [.cells [.int .i64 n,.int .i64 h,.sl 4 g nd,.mpv 1,.rw 2 3 m,.nils,.nils],.mp 27 3 l,.row 162 3 cs]):=by kernel_rfl
def aSi:=Eq.mp (aSj ..) (aSk)
theorem aNQ (gl:aX):HOK Tryz.prog gl 126 aGq:=by
 refine ⟨fok Tryz.func126 (by kernel_rfl) (by kernel_rfl),?_⟩
 intro xs bs pre r bs2 h hp
 unfold aGq at h
 split at h
 ·cases h
  exact bB bD (by exact aV rfl rfl ⟨(pT gl),trivial⟩ trivial) (by kernel_rfl) Tryz.func126 (aSi gl _ _ _ _ _ _ _ _ _ _ _ hp)
 ·cases h
end Go.Proofs.YtgbbmadjdaphnaaGreatDoor
namespace Go.Proofs.YtgbbmadjdaphnaaGreatDoor
open Go Go.Shelf
def aJB:Go.Shelf.Ren:=⟨λ | 6=>86 | 15=>139 | 14=>138 | 28=>165 | 29=>166 | 20=>157 | 21=>158 | 22=>159 | 23=>160 | 24=>161 | 25=>162 | 26=>163 | 27=>164 | 46=>199 | 47=>200 | 48=>201 | 49=>202 | 50=>203 | 57=>215 | n=>n,λ | 22=>147 | 24=>162 | 25=>164 | 3=>3 | 39=>73 | 0=>0 | 53=>244 | 55=>67 | 4=>4 | 46=>238 | 45=>237 | 50=>157 | 5=>5 | 9=>9 | 66=>268 | 70=>272 | 76=>281 | 77=>282 | n=>n,λ | n=>n⟩
theorem aXH:Go.Proofs.SlLaysF0.n6 Tryz.prog aJB:={
 mixed:=by kernel_rfl
 f6:=⟨Tryz.f86.name,by decide,Tryz.func86.trans (congrArg some (by kernel_rfl))⟩
 f14:=⟨Tryz.f138.name,by decide,Tryz.func138.trans (congrArg some (by kernel_rfl))⟩
 f15:=Tryz.func139.trans (congrArg some (by kernel_rfl))
 f20:=⟨Tryz.f157.name,by decide,Tryz.func157.trans (congrArg some (by kernel_rfl))⟩
 f21:=⟨Tryz.f158.name,by decide,Tryz.func158.trans (congrArg some (by kernel_rfl))⟩
 f22:=⟨Tryz.f159.name,by decide,Tryz.func159.trans (congrArg some (by kernel_rfl))⟩
 f23:=⟨Tryz.f160.name,by decide,Tryz.func160.trans (congrArg some (by kernel_rfl))⟩
 f24:=⟨Tryz.f161.name,by decide,Tryz.func161.trans (congrArg some (by kernel_rfl))⟩
 f25:=⟨Tryz.f162.name,by decide,Tryz.func162.trans (congrArg some (by kernel_rfl))⟩
 f26:=⟨Tryz.f163.name,by decide,Tryz.func163.trans (congrArg some (by kernel_rfl))⟩
 f27:=⟨Tryz.f164.name,by decide,Tryz.func164.trans (congrArg some (by kernel_rfl))⟩
 f28:=Tryz.func165.trans (congrArg some (by kernel_rfl))
 f29:=Tryz.func166.trans (congrArg some (by kernel_rfl))
 f46:=⟨Tryz.f199.name,by decide,Tryz.func199.trans (congrArg some (by kernel_rfl))⟩
 f47:=Tryz.func200.trans (congrArg some (by kernel_rfl))
 f48:=Tryz.func201.trans (congrArg some (by kernel_rfl))
 f49:=⟨Tryz.f202.name,by decide,Tryz.func202.trans (congrArg some (by kernel_rfl))⟩
 f50:=⟨Tryz.f203.name,by decide,Tryz.func203.trans (congrArg some (by kernel_rfl))⟩
 f57:=⟨Tryz.f215.name,by decide,Tryz.func215.trans (congrArg some (by kernel_rfl))⟩
 t0:=Tryz.underlying0
 a0:=Tryz.isAgg0
 z0:=Tryz.sizeOf0
 v0:=Tryz.zeroValue0
 t3:=Tryz.underlying3
 a3:=Tryz.isAgg3
 z3:=Tryz.sizeOf3
 v3:=Tryz.zeroValue3
 t4:=Tryz.underlying4
 a4:=Tryz.isAgg4
 z4:=Tryz.sizeOf4
 v4:=Tryz.zeroValue4
 t5:=Tryz.underlying5
 a5:=Tryz.isAgg5
 z5:=Tryz.sizeOf5
 v5:=Tryz.zeroValue5
 t9:=Tryz.underlying9
 a9:=Tryz.isAgg9
 z9:=Tryz.sizeOf9
 v9:=Tryz.zeroValue9
 t22:=Tryz.underlying147
 a22:=Tryz.isAgg147
 z22:=Tryz.sizeOf147
 v22:=Tryz.zeroValue147
 t25:=Tryz.underlying164
 a25:=Tryz.isAgg164
 z25:=Tryz.sizeOf164
 v25:=Tryz.zeroValue164
 t39:=Tryz.underlying73
 a39:=Tryz.isAgg73
 z39:=Tryz.sizeOf73
 v39:=Tryz.zeroValue73
 t45:=Tryz.underlying237
 a45:=Tryz.isAgg237
 z45:=Tryz.sizeOf237
 v45:=Tryz.zeroValue237
 t46:=Tryz.underlying238
 a46:=Tryz.isAgg238
 z46:=Tryz.sizeOf238
 v46:=Tryz.zeroValue238
 t50:=Tryz.underlying157
 a50:=Tryz.isAgg157
 z50:=Tryz.sizeOf157
 v50:=Tryz.zeroValue157
 t53:=Tryz.underlying244
 a53:=Tryz.isAgg244
 z53:=Tryz.sizeOf244
 v53:=Tryz.zeroValue244
 t55:=Tryz.underlying67
 a55:=Tryz.isAgg67
 z55:=Tryz.sizeOf67
 v55:=Tryz.zeroValue67
 t66:=Tryz.underlying268
 a66:=Tryz.isAgg268
 z66:=Tryz.sizeOf268
 v66:=Tryz.zeroValue268
 t70:=Tryz.underlying272
 a70:=Tryz.isAgg272
 z70:=Tryz.sizeOf272
 v70:=Tryz.zeroValue272
 t76:=Tryz.underlying281
 a76:=Tryz.isAgg281
 z76:=Tryz.sizeOf281
 v76:=Tryz.zeroValue281
 t77:=Tryz.underlying282
 a77:=Tryz.isAgg282
 z77:=Tryz.sizeOf282
 v77:=Tryz.zeroValue282 }
def aJA:Go.Shelf.Ren:=⟨λ | 6=>90 | 15=>139 | 14=>141 | 28=>165 | 29=>166 | 20=>167 | 21=>168 | 22=>169 | 23=>170 | 24=>171 | 25=>172 | 26=>173 | 27=>174 | 46=>204 | 47=>200 | 48=>201 | 49=>205 | 50=>206 | 57=>216 | n=>n,λ | 22=>109 | 24=>143 | 25=>166 | 3=>3 | 39=>73 | 0=>0 | 53=>244 | 55=>67 | 4=>4 | 46=>238 | 45=>237 | 50=>157 | 5=>5 | 9=>9 | 66=>268 | 70=>272 | 76=>281 | 77=>282 | n=>n,λ | n=>n⟩
theorem aXG:Go.Proofs.SlLaysF0.n6 Tryz.prog aJA:={
 mixed:=by kernel_rfl
 f6:=⟨Tryz.f90.name,by decide,Tryz.func90.trans (congrArg some (by kernel_rfl))⟩
 f14:=⟨Tryz.f141.name,by decide,Tryz.func141.trans (congrArg some (by kernel_rfl))⟩
 f15:=Tryz.func139.trans (congrArg some (by kernel_rfl))
 f20:=⟨Tryz.f167.name,by decide,Tryz.func167.trans (congrArg some (by kernel_rfl))⟩
 f21:=⟨Tryz.f168.name,by decide,Tryz.func168.trans (congrArg some (by kernel_rfl))⟩
 f22:=⟨Tryz.f169.name,by decide,Tryz.func169.trans (congrArg some (by kernel_rfl))⟩
 f23:=⟨Tryz.f170.name,by decide,Tryz.func170.trans (congrArg some (by kernel_rfl))⟩
 f24:=⟨Tryz.f171.name,by decide,Tryz.func171.trans (congrArg some (by kernel_rfl))⟩
 f25:=⟨Tryz.f172.name,by decide,Tryz.func172.trans (congrArg some (by kernel_rfl))⟩
 f26:=⟨Tryz.f173.name,by decide,Tryz.func173.trans (congrArg some (by kernel_rfl))⟩
 f27:=⟨Tryz.f174.name,by decide,Tryz.func174.trans (congrArg some (by kernel_rfl))⟩
 f28:=Tryz.func165.trans (congrArg some (by kernel_rfl))
 f29:=Tryz.func166.trans (congrArg some (by kernel_rfl))
 f46:=⟨Tryz.f204.name,by decide,Tryz.func204.trans (congrArg some (by kernel_rfl))⟩
 f47:=Tryz.func200.trans (congrArg some (by kernel_rfl))
 f48:=Tryz.func201.trans (congrArg some (by kernel_rfl))
 f49:=⟨Tryz.f205.name,by decide,Tryz.func205.trans (congrArg some (by kernel_rfl))⟩
 f50:=⟨Tryz.f206.name,by decide,Tryz.func206.trans (congrArg some (by kernel_rfl))⟩
 f57:=⟨Tryz.f216.name,by decide,Tryz.func216.trans (congrArg some (by kernel_rfl))⟩
 t0:=Tryz.underlying0
 a0:=Tryz.isAgg0
 z0:=Tryz.sizeOf0
 v0:=Tryz.zeroValue0
 t3:=Tryz.underlying3
 a3:=Tryz.isAgg3
 z3:=Tryz.sizeOf3
 v3:=Tryz.zeroValue3
 t4:=Tryz.underlying4
 a4:=Tryz.isAgg4
 z4:=Tryz.sizeOf4
 v4:=Tryz.zeroValue4
 t5:=Tryz.underlying5
 a5:=Tryz.isAgg5
 z5:=Tryz.sizeOf5
 v5:=Tryz.zeroValue5
 t9:=Tryz.underlying9
 a9:=Tryz.isAgg9
 z9:=Tryz.sizeOf9
 v9:=Tryz.zeroValue9
 t22:=Tryz.underlying109
 a22:=Tryz.isAgg109
 z22:=Tryz.sizeOf109
 v22:=Tryz.zeroValue109
 t25:=Tryz.underlying166
 a25:=Tryz.isAgg166
 z25:=Tryz.sizeOf166
 v25:=Tryz.zeroValue166
 t39:=Tryz.underlying73
 a39:=Tryz.isAgg73
 z39:=Tryz.sizeOf73
 v39:=Tryz.zeroValue73
 t45:=Tryz.underlying237
 a45:=Tryz.isAgg237
 z45:=Tryz.sizeOf237
 v45:=Tryz.zeroValue237
 t46:=Tryz.underlying238
 a46:=Tryz.isAgg238
 z46:=Tryz.sizeOf238
 v46:=Tryz.zeroValue238
 t50:=Tryz.underlying157
 a50:=Tryz.isAgg157
 z50:=Tryz.sizeOf157
 v50:=Tryz.zeroValue157
 t53:=Tryz.underlying244
 a53:=Tryz.isAgg244
 z53:=Tryz.sizeOf244
 v53:=Tryz.zeroValue244
 t55:=Tryz.underlying67
 a55:=Tryz.isAgg67
 z55:=Tryz.sizeOf67
 v55:=Tryz.zeroValue67
 t66:=Tryz.underlying268
 a66:=Tryz.isAgg268
 z66:=Tryz.sizeOf268
 v66:=Tryz.zeroValue268
 t70:=Tryz.underlying272
 a70:=Tryz.isAgg272
 z70:=Tryz.sizeOf272
 v70:=Tryz.zeroValue272
 t76:=Tryz.underlying281
 a76:=Tryz.isAgg281
 z76:=Tryz.sizeOf281
 v76:=Tryz.zeroValue281
 t77:=Tryz.underlying282
 a77:=Tryz.isAgg282
 z77:=Tryz.sizeOf282
 v77:=Tryz.zeroValue282 }
end Go.Proofs.YtgbbmadjdaphnaaGreatDoor
namespace Go.Proofs.YtgbbmadjdaphnaaGreatDoor
open Go Go.Sort
def okA:AV->Bool
 | .int .i64 n=>decide (-1000000≤n∧n≤1000000)
 | _=>false
def okR (k:Nat) (r:List AV):Bool:=Nat.beq r.length k&&r.all okA
abbrev RwT (k:Nat):={ r:List AV // okR k r=true }
def aI:AV->Int
 | .int _ n=>n
 | _=>0
def nI (r:List AV) (i:Nat):Int:=aI (r.getD i .undef)
def mI {k:Nat} (r:RwT k):List Value:=r.1.map λ y=>.int .i64 (aI y)
instance (k:Nat):Inhabited (RwT k):=⟨⟨List.replicate k (.int .i64 0),by simp only [okR,List.length_replicate,aY,Bool.true_and,List.all_replicate]; simp [okA]⟩⟩
def toT (k:Nat) (xs:LL):List (RwT k):=xs.filterMap λ r=>if h:okR k r=true then some ⟨r,h⟩ else none
def dE (k:Nat) (cf:RwT k->RwT k->Int) (xs:LL):LL:=(pdq (ltOf cf) (toT k xs).toArray 0 (toT k xs).length (Lib.bitLen (toT k xs).length) true true).toList.map Subtype.val
theorem aAj {k:Nat}:∀ {xs:LL},(∀ r ∈ xs,okR k r=true)->(toT k xs).map Subtype.val=xs
 | [],_=>rfl
 | x::xs,h=>by
  have hx:=h x (by simp)
  have ih:=aAj (xs:=xs) (λ r hr=>h r (by simp [hr]))
  simp only [toT,List.filterMap_cons,hx,dif_pos,List.map_cons] at ih ⊢
  rw [ih]
theorem lO {k:Nat} {r:List AV} (h:okR k r=true) {i:Nat} {y:AV} (e:r[i]?=some y):r.length=k∧y=.int .i64 (aI y)∧-1000000≤aI y∧aI y≤1000000:=by
 simp only [okR,aC,List.all_eq_true] at h
 refine ⟨aA h.1,?_⟩
 have:=h.2 y (aL e)
 cases y with
 | int q n=>cases q <;> simp only [okA,Bool.false_eq_true] at this; exact ⟨rfl,of_decide_eq_true this⟩
 | _=>cases this
theorem fU {k:Nat} (r:RwT k):(mI r).length=k:=by
 have:=r.2
 simp only [okR,aC] at this
 simp only [mI,List.length_map]
 exact aA this.1
theorem aKZ {k:Nat} (r:RwT k):∀ v ∈ mI r,v.oneCell'=true:=by
 intro v hv
 simp only [mI,List.mem_map] at hv
 obtain ⟨y,_,rfl⟩:=hv
 rfl
theorem bZ {k:Nat} {cf:RwT k->RwT k->Int} (hO:SWO (ltOf cf)) {xs:LL} (h:∀ r ∈ xs,okR k r=true):(dE k cf xs).Perm xs:=by
 have hp:=(pdq_sorts (ltOf cf) hO (toT k xs).toArray 0 (toT k xs).length (Lib.bitLen (toT k xs).length) true true (Nat.zero_le _) (by simp) (Or.inl rfl)).1
 obtain ⟨h1,_,h3⟩:=hp
 have e1:∀ a:Array (RwT k),a.size=(toT k xs).length->(a.extract 0 (toT k xs).length).toList=a.toList:=by
  intro a ha
  rw [← ha]; simp
 rw [e1 _ (by rw [h1]; simp),e1 _ (by simp)] at h3
 have:=h3.map Subtype.val
 rw [show (toT k xs).toArray.toList=toT k xs from rfl,aAj h] at this
 exact this
theorem nQ {k:Nat} {cf:RwT k->RwT k->Int} (hO:SWO (ltOf cf)) (xs:LL):∃ d':List (RwT k),dE k cf xs=d'.map Subtype.val∧d'.Pairwise λ a b=>ltOf cf b a=false:=by
 have hp:=pdq_sorts (ltOf cf) hO (toT k xs).toArray 0 (toT k xs).length (Lib.bitLen (toT k xs).length) true true (Nat.zero_le _) (by simp) (Or.inl rfl)
 refine ⟨_,rfl,List.pairwise_iff_getElem.2 λ i j hi hj hij=>?_⟩
 have hs:=hp.1.1
 simp only [List.size_toArray] at hs
 have:=hp.2 i j (Nat.zero_le _) hij (by simpa [hs] using hj)
 rw [getElem!_pos _ j (by simpa using hj),getElem!_pos _ i (by simpa using hi)] at this
 exact this
theorem aEZ {k T f g:Nat} {ρ:Go.Shelf.Ren} {cf:RwT k->RwT k->Int} (hgb:Nat.blt g fnB=true) (hk0:0 < k) (hT:T < 1000000) (L:Go.Proofs.SlLaysF0.n6 Tryz.prog ρ) (hf:ρ.f 6=f) (aE:∀ w,(isAgg (ρ.t 24)).run Tryz.prog w=.ok true w) (zE:∀ w,(Go.sizeOf (ρ.t 24)).run Tryz.prog w=.ok k w)
  (hO:SWO (ltOf cf)) (eg:∀ args w,(callFunc g args).run Tryz.prog w=.ok (.enter g args) w) (hcmp:∀ (blk size:Nat) (w:World),CmpLays Tryz.prog g #[] mI k cf blk 0 size w) {gl:aX} {xs:LL} (hx:∀ r ∈ xs,okR k r=true) (hne:xs≠[]) (hlen:xs.length≤1000000) :
  HC Tryz.prog gl f [.rw 0 k xs.length,.fn g []] [.row T k xs] (.tup []) [.row T k (dE k cf xs)]:=by
 intro w S m vs hG hA hnm hheld hinj hv
 obtain ⟨L0,hL0⟩:∃ L0:List Value,L0=vs.toList:=⟨_,rfl⟩
 rw [← hL0] at hv
 simp only [CVl] at hv
 obtain ⟨v0,l1,e0,hv0,v1,l2,rfl,hv1,rfl⟩:=hv
 simp only [CV,CVl] at hv0 hv1
 rw [qP hgb] at hv1
 obtain ⟨us,rfl,hus⟩:=hv1
 have hus:us=#[]:=by simpa using hus
 subst hus
 have hvs:vs=#[v0,.func (.func g) #[] #[]]:=by rw [← Array.toArray_toList (xs:=vs),← hL0,e0]
 subst hvs
 obtain ⟨A,c,a1,a2,a3,a4⟩:=hheld 0 _ rfl
 have hl0:0 < xs.length:=by cases xs with | nil=>exact absurd rfl hne | cons _ _=>simp
 rcases a4 with ⟨_,rfl⟩ | ⟨b,cur,fr,rfl,b1,b2,b3,b4,b5⟩
 ·omega
 have hfr:=dZ.lt b2 hT
 subst hfr
 rw [cA hT] at b1
 obtain ⟨_,A2,q2,c2,h1,h2,h3⟩:=hv0
 rw [a1] at h1
 simp only [aJ,Value.iface.injEq,Value.slice.injEq,true_and] at h1
 obtain ⟨rfl,rfl,rfl⟩:=h1
 have hv0:=h3 rfl
 subst hv0
 obtain ⟨d,hd⟩:∃ d,d=(toT k xs).toArray:=⟨_,rfl⟩
 have hval:=aAj hx
 have hdl:(toT k xs).length=xs.length:=by rw [← hval,List.length_map,hval]
 have hds:d.size=xs.length:=by rw [hd,List.size_toArray,hdl]
 have hdj:∀ (j:Nat) (hj:j < d.size),(d[j]).1=xs[j]'(by omega):=by
  intro j hj
  subst hd
  have:((toT k xs).map Subtype.val)[j]?=xs[j]?:=by rw [hval]
  rw [List.getElem?_map,aD (by rw [hdl]; omega),aD (by omega)] at this
  simpa using this
 have hH:HoldsK mI k w b 0 d:=by
  intro t ht
  have hsz:(flatK mI k d).size=d.size*k:=by simp [flatK]
  rw [hsz] at ht
  rw [get_flatK mI k d t ht]
  have hj:t / k < d.size:=(Nat.div_lt_iff_lt_mul hk0).2 ht
  have hi:t % k < k:=Nat.mod_lt _ hk0
  rw [getElem!_pos d _ hj]
  have hjx:t / k < xs.length:=by omega
  obtain ⟨r1,r2⟩:=b5 (t / k) _ (aD hjx)
  have hil:t % k < xs[t / k].length:=by rw [r1]; exact hi
  obtain ⟨v,hv1,hv2,hv3⟩:=r2 (t % k) _ (aD hil)
  have hok:=lO (hx _ (List.getElem_mem hjx)) (aD hil)
  have ht2:t / k*k+t % k=t:=by rw [Nat.mul_comm]; exact Nat.div_add_mod t k
  rw [ht2] at hv1
  rw [hok.2.1] at hv3
  simp only [CV] at hv3
  have hen:v=((mI d[t / k])[t % k]!):=by
   have e2:(mI d[t / k])[t % k]?=some (.int .i64 (aI xs[t / k][t % k])):=by
    unfold mI
    rw [List.getElem?_map,hdj _ hj,aD hil]; rfl
   rw [List.getElem!_eq_getElem?_getD,e2]
   exact hv3.1
  rw [← hen]
  refine ⟨?_,by simp [World.frozen?,b1]⟩
  simp only [World.cell?,b1,Nat.zero_add,id]
  exact hv1
 have hblk:b < w.heap.size:=(aM.1 b1).1
 have hcon:=Go.Proofs.AnyQ.slices_SortFunc_eq L k aE zE mI fU aKZ cf hO g #[] b 0 c d w eg (hcmp b d.size w) hH hblk (by omega)
 rw [hf,hds] at hcon
 refine hcon.mono ?_
 rintro e w' ⟨rfl,nn,os,rfl⟩
 obtain ⟨D,hD⟩:∃ D,D=pdq (ltOf cf) d 0 xs.length (Lib.bitLen xs.length) true true:=⟨_,rfl⟩
 have hsr:dE k cf xs=D.toList.map Subtype.val:=by rw [hD,hd,dE,hdl]
 have hDs:D.size=xs.length:=by
  have:=(pdq_sorts (ltOf cf) hO d 0 xs.length (Lib.bitLen xs.length) true true (Nat.zero_le _) (by omega) (Or.inl rfl)).1.1
  rw [hD,this,hds]
 rw [← hD]
 have heap:∀ i,i < w.heap.size->(sortWorldK mI k w b 0 nn D os).heap[i]?=if b=i then some (.cells (putCells id 0 (flatK mI k D) cur) T (0,0)) else w.heap[i]?:=by
  intro i hi
  unfold sortWorldK putRowK putRow mapBlock grow Sort.ahead
  simp only
  rw [Array.getElem?_append_left (by simpa using hi),Array.getElem?_modify]
  by_cases h:b=i
  ·subst h
   rw [if_pos rfl,if_pos rfl,b1]; rfl
  ·rw [if_neg h,if_neg h]
 have hMb:Mof 1 m b:=⟨0,_,by decide,a1,rfl⟩
 refine ⟨.tuple #[],S,m,rfl,rfl,rfl,rfl,?_,Ext.refl S,?_,?_,?_,hinj,?_,MLe.refl m,?_⟩
 ·unfold sortWorldK putRowK putRow mapBlock grow Sort.ahead
  simp
 ·intro i hi hn
  refine ⟨?_,λ _=>rfl⟩
  rw [heap i hi,if_neg (λ e:b=i=>hn (by subst e; exact hMb))]
 ·intro i o v e
  obtain ⟨h1,h2⟩:=hA i o v e
  refine ⟨?_,h2⟩
  have hi:i < w.heap.size:=hA.lt e
  have hne:b≠i:=λ q=>by subst q; rw [b4 o] at e; cases e
  simp only [World.cell?] at h1 ⊢
  rw [heap i hi,if_neg hne]; exact h1
 ·intro q bb hq
  cases q with
  | succ q=>simp at hq
  | zero =>
   simp only [List.getElem?_cons_zero,aJ] at hq
   subst hq
   have hyl:(dE k cf xs).length=xs.length:=by rw [hsr]; simp [hDs]
   refine ⟨some ⟨b,0,none⟩,c,by rw [hyl]; exact a1,by omega,a3,.inr ⟨b,putCells id 0 (flatK mI k D) cur,(0,0),rfl,?_,dZ.none,?_,b4,?_⟩⟩
   ·rw [heap b hblk,if_pos rfl,cA hT]
   ·unfold putCells
    simp [b3]
   ·intro j x hj
    rw [hsr,List.getElem?_map] at hj
    cases hjD:D.toList[j]? with
    | none=>rw [hjD] at hj; cases hj
    | some r =>
     rw [hjD] at hj
     simp only [Option.map_some,aJ] at hj
     subst hj
     have hjl:j < D.size:=by have:=(aF.1 hjD).1; simpa using this
     have hr:D[j]=r:=by
      have:=(aF.1 hjD).2
      simpa using this
     have hrl:r.1.length=k:=by have:=fU r; simpa [mI] using this
     refine ⟨hrl,λ i y hi=>?_⟩
     have hil:i < k:=by rw [← hrl]; exact (aF.1 hi).1
     have hok:=lO r.2 hi
     have hlt:j*k+i < D.size*k:=Nat.lt_of_lt_of_le (Nat.add_lt_add_left hil _) (by rw [← Nat.succ_mul]; exact Nat.mul_le_mul_right k hjl)
     refine ⟨.int .i64 (aI y),?_,rfl,?_⟩
     ·unfold putCells
      have hlc:j*k+i < cur.size:=by
       rw [b3]
       exact Nat.lt_of_lt_of_le hlt (Nat.mul_le_mul_right k (by omega))
      rw [Array.getElem?_mapIdx,Array.getElem?_eq_getElem hlc,Option.map_some]
      have hsz:(flatK mI k D).size=D.size*k:=by simp [flatK]
      rw [if_pos ⟨Nat.zero_le _,by rw [hsz]; omega⟩,Nat.sub_zero,get_flatK mI k D _ hlt]
      have e1:(j*k+i) / k=j:=by
       rw [Nat.mul_comm,Nat.mul_add_div hk0,Nat.div_eq_of_lt hil]; rfl
      have e2:(j*k+i) % k=i:=by rw [Nat.mul_comm,Nat.mul_add_mod]; exact Nat.mod_eq_of_lt hil
      rw [e1,e2,getElem!_pos D j hjl,hr]
      have e3:(mI r)[i]?=some (.int .i64 (aI y)):=by
       unfold mI
       rw [List.getElem?_map,hi]; rfl
      rw [List.getElem!_eq_getElem?_getD,e3]; rfl
     ·have hb:=hok.2.2
      have hy:=hok.2.1
      generalize aI y=z at hy hb ⊢
      subst hy
      simp only [CV]
      exact ⟨trivial,by show _∧_; omega⟩
 ·intro q u g' hq hu hg
  exact .inr ⟨q,u,hq,hu,hg⟩
 ·simp only [CV,CVl]; exact ⟨#[],rfl,rfl⟩
end Go.Proofs.YtgbbmadjdaphnaaGreatDoor
namespace Go.Proofs.YtgbbmadjdaphnaaGreatDoor
open Go Go.Sort Go.RowKit
@[irreducible] def wT (x y:Int):Int:=if x < y then -1 else if y < x then 1 else 0
set_option maxHeartbeats 400000 in
theorem pZ (x:Int) (w:World):Calls Tryz.prog 140 #[.int .i64 x] w λ e w'=>e=.returned (.bool false)∧w'=w:=by
 go_enter Tryz.func140,Tryz.ntmps140
 go_wp2
 go_ret
 exact ⟨by simp,rfl⟩
set_option maxHeartbeats 1000000 in
theorem aIa (x y:Int) (w:World):Calls Tryz.prog 89 #[.int .i64 x,.int .i64 y] w λ e w'=>e=.returned (.int .i64 (wT x y))∧w'=w:=by
 unfold wT
 by_cases c1:x < y
 ·rw [if_pos c1]
  go_enter Tryz.func89,Tryz.ntmps89
  go_wp2_with (go_at_call 140; refine (pZ _ _).mono ?_; rintro e w' ⟨rfl,rfl⟩)
  go_ret
  exact ⟨rfl,rfl⟩
 ·rw [if_neg c1]
  by_cases c2:y < x
  ·rw [if_pos c2]
   go_enter Tryz.func89,Tryz.ntmps89
   go_wp2_with (go_at_call 140; refine (pZ _ _).mono ?_; rintro e w' ⟨rfl,rfl⟩)
   go_ret
   exact ⟨rfl,rfl⟩
  ·rw [if_neg c2]
   go_enter Tryz.func89,Tryz.ntmps89
   go_wp2_with (go_at_call 140; refine (pZ _ _).mono ?_; rintro e w' ⟨rfl,rfl⟩)
   go_ret
   exact ⟨rfl,rfl⟩
theorem aXo (x:RwT 2):(mI x).toArray=#[.int .i64 (nI x.1 0),.int .i64 (nI x.1 1)]:=by
 obtain ⟨r,h⟩:=x
 have hl:r.length=2:=by have:=fU ⟨r,h⟩; simpa [mI] using this
 match r,hl with
 | [a,b],_=>rfl
theorem aXn (x:RwT 3):(mI x).toArray=#[.int .i64 (nI x.1 0),.int .i64 (nI x.1 1),.int .i64 (nI x.1 2)]:=by
 obtain ⟨r,h⟩:=x
 have hl:r.length=3:=by have:=fU ⟨r,h⟩; simpa [mI] using this
 match r,hl with
 | [a,b,c],_=>rfl
theorem aXi {k:Nat} (x:RwT k) {i:Nat} (hi:i < k):-1000000≤nI x.1 i∧nI x.1 i≤1000000:=by
 have hl:x.1.length=k:=by have:=fU x; simpa [mI] using this
 have e:x.1[i]?=some (x.1[i]'(by omega)):=aD _
 have h:=lO x.2 e
 unfold nI
 rw [aB,e]
 exact h.2.2
@[irreducible] def or3 (x y z:Int):Int:=if x≠0 then x else if y≠0 then y else z
@[irreducible] def or2 (x y:Int):Int:=if x≠0 then x else y
set_option maxHeartbeats 1000000 in
theorem aNo (b:Nat) (x y z:Int) (c:Nat) (W:World) (h0:W.cell? ⟨b,0,none⟩=some (.int .i64 x)) (h1:W.cell? ⟨b,1,none⟩=some (.int .i64 y)) (h2:W.cell? ⟨b,2,none⟩=some (.int .i64 z)) :
  Calls Tryz.prog 88 #[.slice (some ⟨b,0,none⟩) 3 c] W λ e w'=>e=.returned (.int .i64 (or3 x y z))∧w'=W:=by
 unfold or3
 by_cases hx:x=0
 ·by_cases hy:y=0
  ·subst hx hy
   by_cases hz:z=0
   ·subst hz
    go_enter Tryz.func88,Tryz.ntmps88
    go_wp2
    go_rounds 4
    go_ret
    exact ⟨rfl,rfl⟩
   ·go_enter Tryz.func88,Tryz.ntmps88
    go_wp2
    go_rounds 4
    go_ret
    exact ⟨rfl,rfl⟩
  ·subst hx
   go_enter Tryz.func88,Tryz.ntmps88
   go_wp2
   go_rounds 4
   go_ret
   exact ⟨rfl,rfl⟩
 ·go_enter Tryz.func88,Tryz.ntmps88
  go_wp2
  go_rounds 4
  go_ret
  exact ⟨rfl,rfl⟩
set_option maxHeartbeats 1000000 in
theorem aNp (b:Nat) (x y:Int) (c:Nat) (W:World) (h0:W.cell? ⟨b,0,none⟩=some (.int .i64 x)) (h1:W.cell? ⟨b,1,none⟩=some (.int .i64 y)) :
  Calls Tryz.prog 88 #[.slice (some ⟨b,0,none⟩) 2 c] W λ e w'=>e=.returned (.int .i64 (or2 x y))∧w'=W:=by
 unfold or2
 by_cases hx:x=0
 ·subst hx
  by_cases hy:y=0
  ·subst hy
   go_enter Tryz.func88,Tryz.ntmps88
   go_wp2
   go_rounds 3
   go_ret
   exact ⟨rfl,rfl⟩
  ·go_enter Tryz.func88,Tryz.ntmps88
   go_wp2
   go_rounds 3
   go_ret
   exact ⟨rfl,rfl⟩
 ·go_enter Tryz.func88,Tryz.ntmps88
  go_wp2
  go_rounds 3
  go_ret
  exact ⟨rfl,rfl⟩
theorem gr3 (W:World) (A B C:Obj):((W.alloc A).alloc B).drew.alloc C=grow (W.drewN 1) (#[A]++#[B]++#[C]):=by
 rw [alloc_eq_grow W,alloc_eq_grow (grow W #[A]),alloc_eq_grow,grow_grow]
 exact grow_grow W.drew _ _
set_option maxHeartbeats 2000000 in
theorem aLe (a b c d:Int) (w:World):Calls Tryz.prog 91 #[.agg #[.int .i64 a,.int .i64 b],.agg #[.int .i64 c,.int .i64 d]] w λ e w'=>e=.returned (.int .i64 (or2 (wT a c) (wT b d)))∧∃ q os',w'=grow (w.drewN q) os':=by
 go_enter Tryz.func91,Tryz.ntmps91
 go_wp2_with fail
 go_region_held3 (λ w'=>w'.cell? ⟨w.heap.size,0,none⟩=some (.int .i64 a)∧w'.cell? ⟨w.heap.size,1,none⟩=some (.int .i64 b)∧w'.cell? ⟨w.heap.size+1,0,none⟩=some (.int .i64 c)∧w'.cell? ⟨w.heap.size+1,1,none⟩=some (.int .i64 d))
  (go_keep)
  ((first
   | (go_at_call 89; refine (aIa _ _ _).mono ?_; rintro e w2 ⟨rfl,rfl⟩)
   | (go_at_call 88; refine (aNp _ (wT a c) (wT b d) _ _ ?h1 ?h2).mono ?_; (case h1=>go_simp); (case h2=>go_simp); rintro e w2 ⟨rfl,rfl⟩)))
 all_goals
  go_wp2
  go_ret
  exact ⟨rfl,1,_,gr3 _ _ _ _⟩
set_option maxHeartbeats 4000000 in
theorem aLf (a b p c d q:Int) (w:World):Calls Tryz.prog 87 #[.agg #[.int .i64 a,.int .i64 b,.int .i64 p],.agg #[.int .i64 c,.int .i64 d,.int .i64 q]] w λ e w'=>e=.returned (.int .i64 (or3 (wT a c) (wT b d) (wT p q)))∧∃ q os',w'=grow (w.drewN q) os':=by
 go_enter Tryz.func87,Tryz.ntmps87
 go_wp2_with fail
 go_region_held3 (λ w'=>w'.cell? ⟨w.heap.size,0,none⟩=some (.int .i64 a)∧w'.cell? ⟨w.heap.size,1,none⟩=some (.int .i64 b)∧w'.cell? ⟨w.heap.size,2,none⟩=some (.int .i64 p)∧w'.cell? ⟨w.heap.size+1,0,none⟩=some (.int .i64 c)∧w'.cell? ⟨w.heap.size+1,1,none⟩=some (.int .i64 d)∧w'.cell? ⟨w.heap.size+1,2,none⟩=some (.int .i64 q))
  (go_keep)
  ((first
   | (go_at_call 89; refine (aIa _ _ _).mono ?_; rintro e w2 ⟨rfl,rfl⟩)
   | (go_at_call 88; refine (aNo _ (wT a c) (wT b d) (wT p q) _ _ ?h1 ?h2 ?h3).mono ?_; (case h1=>go_simp); (case h2=>go_simp); (case h3=>go_simp); rintro e w2 ⟨rfl,rfl⟩)))
 all_goals
  go_wp2
  go_ret
  exact ⟨rfl,1,_,gr3 _ _ _ _⟩
def cf3 (x y:RwT 3):Int:=or3 (wT (nI x.1 0) (nI y.1 0)) (wT (nI x.1 1) (nI y.1 1)) (wT (nI x.1 2) (nI y.1 2))
def cf2 (x y:RwT 2):Int:=or2 (wT (nI x.1 0) (nI y.1 0)) (wT (nI x.1 1) (nI y.1 1))
theorem aBM (x y:RwT 3):ltOf cf3 x y=decide (nI x.1 0 < nI y.1 0∨(nI x.1 0=nI y.1 0∧(nI x.1 1 < nI y.1 1∨(nI x.1 1=nI y.1 1∧nI x.1 2 < nI y.1 2)))):=by
 unfold ltOf cf3 or3 wT
 apply decide_eq_decide.2
 generalize nI x.1 0=a; generalize nI x.1 1=b; generalize nI x.1 2=c
 generalize nI y.1 0=d; generalize nI y.1 1=e; generalize nI y.1 2=f
 by_cases h1:a < d
 ·simp [h1]
 ·by_cases h2:d < a
  ·simp [h1,h2]; omega
  ·have:a=d:=by omega
   subst this
   by_cases h3:b < e
   ·simp [h3]
   ·by_cases h4:e < b
    ·simp [h3,h4]; omega
    ·have:b=e:=by omega
     subst this
     by_cases h5:c < f
     ·simp [h5]
     ·by_cases h6:f < c <;> simp [h5,h6]
theorem rF (x y:RwT 2):ltOf cf2 x y=decide (nI x.1 0 < nI y.1 0∨(nI x.1 0=nI y.1 0∧nI x.1 1 < nI y.1 1)):=by
 unfold ltOf cf2 or2 wT
 apply decide_eq_decide.2
 generalize nI x.1 0=a; generalize nI x.1 1=b
 generalize nI y.1 0=d; generalize nI y.1 1=e
 by_cases h1:a < d
 ·simp [h1]
 ·by_cases h2:d < a
  ·simp [h1,h2]; omega
  ·have:a=d:=by omega
   subst this
   by_cases h3:b < e
   ·simp [h3]
   ·by_cases h4:e < b <;> simp [h3,h4]
theorem aLu:SWO (ltOf cf3) where
 irrefl x:=by rw [aBM]; simp
 trans x y z h1 h2:=by rw [aBM] at *; have h1:=of_decide_eq_true h1; have h2:=of_decide_eq_true h2; exact decide_eq_true (by omega)
 ntrans x y z h1 h2:=by rw [aBM] at *; have h1:=of_decide_eq_false h1; have h2:=of_decide_eq_false h2; exact decide_eq_false (by omega)
theorem aI0:SWO (ltOf cf2) where
 irrefl x:=by rw [rF]; simp
 trans x y z h1 h2:=by rw [rF] at *; have h1:=of_decide_eq_true h1; have h2:=of_decide_eq_true h2; exact decide_eq_true (by omega)
 ntrans x y z h1 h2:=by rw [rF] at *; have h1:=of_decide_eq_false h1; have h2:=of_decide_eq_false h2; exact decide_eq_false (by omega)
structure AllR (k:Nat) (xs:LL) (n:Nat):Prop where
 ok:∀ r ∈ xs,okR k r=true
 ne:xs≠[]
 le:xs.length≤1000000
 eq:n=xs.length
def aEX:SpH
 | [.rw 0 3 n,.fn 87 []],[.row 162 3 xs]=>some (AllR 3 xs n,.tup [],[.row 162 3 (dE 3 cf3 xs)])
 | _,_=>none
def aEW:SpH
 | [.rw 0 2 n,.fn 91 []],[.row 143 2 xs]=>some (AllR 2 xs n,.tup [],[.row 143 2 (dE 2 cf2 xs)])
 | _,_=>none
theorem aMG (gl:aX):HOK Tryz.prog gl 86 aEX:=by
 refine ⟨fok Tryz.func86 (by kernel_rfl) (by kernel_rfl),?_⟩
 intro xs bs pre r bs2 h hp
 unfold aEX at h
 split at h
 ·cases h
  obtain ⟨o1,o2,o3,rfl⟩:=hp
  refine aEZ rfl (by decide) (by decide) aXH rfl Tryz.isAgg162 Tryz.sizeOf162 aLu (enters_of Tryz.func87 (by kernel_rfl) rfl) (λ blk size w m os dk hs x y=>?_) o1 o2 o3
  rw [aXn x,aXn y]
  exact aLf _ _ _ _ _ _ _
 ·cases h
theorem aMF (gl:aX):HOK Tryz.prog gl 90 aEW:=by
 refine ⟨fok Tryz.func90 (by kernel_rfl) (by kernel_rfl),?_⟩
 intro xs bs pre r bs2 h hp
 unfold aEW at h
 split at h
 ·cases h
  obtain ⟨o1,o2,o3,rfl⟩:=hp
  refine aEZ rfl (by decide) (by decide) aXG rfl Tryz.isAgg143 Tryz.sizeOf143 aI0 (enters_of Tryz.func91 (by kernel_rfl) rfl) (λ blk size w m os dk hs x y=>?_) o1 o2 o3
  rw [aXo x,aXo y]
  exact aLe _ _ _ _ _
 ·cases h
end Go.Proofs.YtgbbmadjdaphnaaGreatDoor
namespace Go.Proofs.YtgbbmadjdaphnaaGreatDoor
open Go Go.Shelf
def aA8:Go.Shelf.Ren:=⟨λ | 189=>93 | 125=>139 | 257=>142 | 128=>165 | 129=>166 | 294=>175 | 295=>176 | 296=>177 | 297=>178 | 298=>179 | 299=>180 | 216=>181 | 300=>182 | 301=>183 | 328=>207 | 329=>200 | 330=>201 | 331=>208 | 332=>209 | 215=>140 | 343=>217 | n=>n,λ | 28=>22 | 3=>3 | 46=>73 | 0=>0 | 51=>244 | 53=>67 | 4=>4 | 183=>238 | 182=>237 | 131=>157 | 5=>5 | 9=>9 | 218=>268 | 222=>272 | 228=>281 | 229=>282 | n=>n,λ | n=>n⟩
theorem aGM:Go.Proofs.Lays.n189 Tryz.prog aA8:={
 mixed:=by kernel_rfl
 f125:=Tryz.func139.trans (congrArg some (by kernel_rfl))
 f128:=Tryz.func165.trans (congrArg some (by kernel_rfl))
 f129:=Tryz.func166.trans (congrArg some (by kernel_rfl))
 f189:=Tryz.func93.trans (congrArg some (by kernel_rfl))
 f215:=Tryz.func140.trans (congrArg some (by kernel_rfl))
 f216:=Tryz.func181.trans (congrArg some (by kernel_rfl))
 f257:=Tryz.func142.trans (congrArg some (by kernel_rfl))
 f294:=Tryz.func175.trans (congrArg some (by kernel_rfl))
 f295:=Tryz.func176.trans (congrArg some (by kernel_rfl))
 f296:=Tryz.func177.trans (congrArg some (by kernel_rfl))
 f297:=Tryz.func178.trans (congrArg some (by kernel_rfl))
 f298:=Tryz.func179.trans (congrArg some (by kernel_rfl))
 f299:=Tryz.func180.trans (congrArg some (by kernel_rfl))
 f300:=Tryz.func182.trans (congrArg some (by kernel_rfl))
 f301:=Tryz.func183.trans (congrArg some (by kernel_rfl))
 f328:=Tryz.func207.trans (congrArg some (by kernel_rfl))
 f329:=Tryz.func200.trans (congrArg some (by kernel_rfl))
 f330:=Tryz.func201.trans (congrArg some (by kernel_rfl))
 f331:=Tryz.func208.trans (congrArg some (by kernel_rfl))
 f332:=Tryz.func209.trans (congrArg some (by kernel_rfl))
 f343:=Tryz.func217.trans (congrArg some (by kernel_rfl))
 t0:=Tryz.underlying0
 a0:=Tryz.isAgg0
 z0:=Tryz.sizeOf0
 v0:=Tryz.zeroValue0
 t3:=Tryz.underlying3
 a3:=Tryz.isAgg3
 z3:=Tryz.sizeOf3
 v3:=Tryz.zeroValue3
 t4:=Tryz.underlying4
 a4:=Tryz.isAgg4
 z4:=Tryz.sizeOf4
 v4:=Tryz.zeroValue4
 t5:=Tryz.underlying5
 a5:=Tryz.isAgg5
 z5:=Tryz.sizeOf5
 v5:=Tryz.zeroValue5
 t9:=Tryz.underlying9
 a9:=Tryz.isAgg9
 z9:=Tryz.sizeOf9
 v9:=Tryz.zeroValue9
 t28:=Tryz.underlying22
 a28:=Tryz.isAgg22
 z28:=Tryz.sizeOf22
 v28:=Tryz.zeroValue22
 t46:=Tryz.underlying73
 a46:=Tryz.isAgg73
 z46:=Tryz.sizeOf73
 v46:=Tryz.zeroValue73
 t51:=Tryz.underlying244
 a51:=Tryz.isAgg244
 z51:=Tryz.sizeOf244
 v51:=Tryz.zeroValue244
 t53:=Tryz.underlying67
 a53:=Tryz.isAgg67
 z53:=Tryz.sizeOf67
 v53:=Tryz.zeroValue67
 t131:=Tryz.underlying157
 a131:=Tryz.isAgg157
 z131:=Tryz.sizeOf157
 v131:=Tryz.zeroValue157
 t182:=Tryz.underlying237
 a182:=Tryz.isAgg237
 z182:=Tryz.sizeOf237
 v182:=Tryz.zeroValue237
 t183:=Tryz.underlying238
 a183:=Tryz.isAgg238
 z183:=Tryz.sizeOf238
 v183:=Tryz.zeroValue238
 t218:=Tryz.underlying268
 a218:=Tryz.isAgg268
 z218:=Tryz.sizeOf268
 v218:=Tryz.zeroValue268
 t222:=Tryz.underlying272
 a222:=Tryz.isAgg272
 z222:=Tryz.sizeOf272
 v222:=Tryz.zeroValue272
 t228:=Tryz.underlying281
 a228:=Tryz.isAgg281
 z228:=Tryz.sizeOf281
 v228:=Tryz.zeroValue281
 t229:=Tryz.underlying282
 a229:=Tryz.isAgg282
 z229:=Tryz.sizeOf282
 v229:=Tryz.zeroValue282 }
open Go.Sort Go.RowKit in
theorem xO (blk off cap:Nat) (zs:List Int) (w:World) (hH:Holds (Value.int .i64) w blk off zs.toArray) (hblk:blk < w.heap.size) (hsz:zs.length < 4611686018427387904) :
  Calls Tryz.prog 93 #[.slice (some ⟨blk,off,none⟩) zs.length cap] w λ e w' =>
   e=.returned (.tuple #[])∧∃ n os,w'=grow (putRow (Value.int .i64) (Sort.ahead w n) blk off (zs.mergeSort λ x y=>decide (x≤y)).toArray) os:=Any.slices_Sort_int aGM blk off cap zs w hH hblk hsz
open Go.RowKit Go.Sort in
theorem aDE (p:Option Addr) (cap:Nat) (w:World) :
  Calls Tryz.prog 93 #[.slice p 0 cap] w λ e w'=>e=.returned (.tuple #[])∧w'=w:=Any.slices_Sort_int_none aGM p cap w
open Go.Sort
@[irreducible] def s3 (a b c:Int) (i:Nat):Int:=(([a,b,c].mergeSort λ x y=>decide (x≤y)).getD i 0)
theorem aFd (a b c:Int):([a,b,c].mergeSort λ x y=>decide (x≤y))=[s3 a b c 0,s3 a b c 1,s3 a b c 2]:=by
 have hl:([a,b,c].mergeSort λ x y=>decide (x≤y)).length=3:=by rw [List.length_mergeSort]; rfl
 unfold s3
 match h:([a,b,c].mergeSort λ x y=>decide (x≤y)),hl with
 | [x,y,z],_=>rfl
theorem aFc (a b c:Int) {i:Nat} (hi:i < 3):s3 a b c i=a∨s3 a b c i=b∨s3 a b c i=c:=by
 have hp:=List.mergeSort_perm [a,b,c] λ x y=>decide (x≤y)
 rw [aFd] at hp
 have:s3 a b c i ∈ [s3 a b c 0,s3 a b c 1,s3 a b c 2]:=by
  rcases (by omega:i=0∨i=1∨i=2) with rfl | rfl | rfl <;> simp
 have:=hp.mem_iff.1 this
 simpa using this
def aEY:SpH
 | [.ms 0 0 3 3 1],[.cells [.int .i64 a,.int .i64 b,.int .i64 c]]=>some (True,.tup [],[.cells [.int .i64 (s3 a b c 0),.int .i64 (s3 a b c 1),.int .i64 (s3 a b c 2)]])
 | _,_=>none
theorem aJE {gl:aX} {a b c:Int}:HC Tryz.prog gl 93 [.ms 0 0 3 3 1] [.cells [.int .i64 a,.int .i64 b,.int .i64 c]] (.tup []) [.cells [.int .i64 (s3 a b c 0),.int .i64 (s3 a b c 1),.int .i64 (s3 a b c 2)]]:=by
 intro w S m vs hG hA hnm hheld hinj hv
 obtain ⟨L0,hL0⟩:∃ L0:List Value,L0=vs.toList:=⟨_,rfl⟩
 rw [← hL0] at hv
 simp only [CVl,CV] at hv
 obtain ⟨v0,l1,e0,⟨g,o,h1,rfl,h2,_,_⟩,rfl⟩:=hv
 have h2:=h2 (by decide)
 subst h2
 have hvs:vs=#[.slice (some ⟨g,0,none⟩) 3 3]:=by rw [← Array.toArray_toList (xs:=vs),← hL0,e0]
 subst hvs
 obtain ⟨g',arr,t,a1,a2,a3,a4⟩:=hheld 0 _ rfl
 rw [h1] at a1
 simp only [aJ,Value.pointer.injEq,Addr.mk.injEq,and_self,and_true] at a1
 subst a1
 obtain ⟨La,hLa⟩:∃ La,La=arr.toList:=⟨_,rfl⟩
 rw [← hLa] at a3
 simp only [CVl,CV] at a3
 obtain ⟨u0,k0,e1,⟨rfl,ra⟩,u1,k1,rfl,⟨rfl,rb⟩,u2,k2,rfl,⟨rfl,rc⟩,rfl⟩:=a3
 have harr:arr=#[.int .i64 a,.int .i64 b,.int .i64 c]:=by rw [← Array.toArray_toList (xs:=arr),← hLa,e1]
 subst harr
 have hg:g < w.heap.size:=(aM.1 a2).1
 have hH:Holds (Value.int .i64) w g 0 ([a,b,c]:List Int).toArray:=by
  intro j hj
  refine ⟨?_,by simp [World.frozen?,a2]⟩
  simp only [World.cell?,a2,Nat.zero_add]
  have hj:j < 3:=by simpa using hj
  rcases (by omega:j=0∨j=1∨j=2) with rfl | rfl | rfl <;> rfl
 refine (xO g 0 3 [a,b,c] w hH hg (by simp)).mono ?_
 rintro e w' ⟨rfl,n,os,rfl⟩
 rw [aFd]
 obtain ⟨D,hD⟩:∃ D:Array Int,D=#[s3 a b c 0,s3 a b c 1,s3 a b c 2]:=⟨_,rfl⟩
 have hcell:putCells (Value.int .i64) 0 ([s3 a b c 0,s3 a b c 1,s3 a b c 2]:List Int).toArray #[.int .i64 a,.int .i64 b,.int .i64 c]=#[.int .i64 (s3 a b c 0),.int .i64 (s3 a b c 1),.int .i64 (s3 a b c 2)]:=by
  unfold putCells
  rfl
 have heap:∀ i,i < w.heap.size->(grow (putRow (Value.int .i64) (Sort.ahead w n) g 0 ([s3 a b c 0,s3 a b c 1,s3 a b c 2]:List Int).toArray) os).heap[i]?=if g=i then some (.cells #[.int .i64 (s3 a b c 0),.int .i64 (s3 a b c 1),.int .i64 (s3 a b c 2)] t (0,0)) else w.heap[i]?:=by
  intro i hi
  unfold putRow mapBlock grow Sort.ahead
  simp only
  rw [Array.getElem?_append_left (by simpa using hi),Array.getElem?_modify]
  by_cases h:g=i
  ·subst h
   rw [if_pos rfl,if_pos rfl,a2]
   simp only [Option.map_some,onCells,hcell]
  ·rw [if_neg h,if_neg h]
 have hMb:Mof 1 m g:=⟨0,_,by decide,h1,rfl⟩
 have hb:∀ i,i < 3->rng .i64 (s3 a b c i):=λ i hi=>by
  rcases aFc a b c hi with e | e | e <;> rw [e] <;> assumption
 refine ⟨.tuple #[],S,m,rfl,rfl,rfl,rfl,?_,Ext.refl S,?_,?_,?_,hinj,?_,MLe.refl m,?_⟩
 ·unfold putRow mapBlock grow Sort.ahead
  simp
 ·intro i hi hn
  refine ⟨?_,λ _=>rfl⟩
  rw [heap i hi,if_neg (λ e:g=i=>hn (by subst e; exact hMb))]
 ·intro i o v e
  obtain ⟨h1,h2⟩:=hA i o v e
  refine ⟨?_,h2⟩
  have hi:i < w.heap.size:=hA.lt e
  have hne:g≠i:=λ q=>by subst q; rw [a4 o] at e; cases e
  simp only [World.cell?] at h1 ⊢
  rw [heap i hi,if_neg hne]; exact h1
 ·intro q bb hq
  cases q with
  | succ q=>simp at hq
  | zero =>
   simp only [List.getElem?_cons_zero,aJ] at hq
   subst hq
   refine ⟨g,_,t,h1,by rw [heap g hg,if_pos rfl],?_,a4⟩
   simp only [CVl,CV]
   exact ⟨_,_,rfl,⟨rfl,hb 0 (by decide)⟩,_,_,rfl,⟨rfl,hb 1 (by decide)⟩,_,_,rfl,⟨rfl,hb 2 (by decide)⟩,rfl⟩
 ·intro q u g' hq hu hg
  exact .inr ⟨q,u,hq,hu,hg⟩
 ·simp only [CV,CVl]; exact ⟨#[],rfl,rfl⟩
theorem aMH (gl:aX):HOK Tryz.prog gl 93 aEY:=by
 refine ⟨fok Tryz.func93 (by kernel_rfl) (by kernel_rfl),?_⟩
 intro xs bs pre r bs2 h hp
 unfold aEY at h
 split at h
 ·cases h
  exact aJE
 ·cases h
end Go.Proofs.YtgbbmadjdaphnaaGreatDoor
namespace Go.Proofs.YtgbbmadjdaphnaaGreatDoor
open Go
def aPl (x y z:Int):List AV:=[.int .i64 (s3 x y z 0),.int .i64 (s3 x y z 1),.int .i64 (s3 x y z 2)]
def aBN (nrm:NrT) (l:List (Int × AV)) (f a b c f' a' b' c' f'' a'' b'' c'':Int):List AV:=aPl (atV nrm l f a b c) (atV nrm l f' a' b' c') (atV nrm l f'' a'' b'' c'')
def aAZ (nrm:NrT) (vld:Int->Int->Int->Int->Bool):SpH
 | [.ptr 0 0,.agg [.int .i64 f,.int .i64 a,.int .i64 b,.int .i64 c,.int .i64 f',.int .i64 a',.int .i64 b',.int .i64 c',.int .i64 f'',.int .i64 a'',.int .i64 b'',.int .i64 c'']],[.cells [.int .i64 n,.int .i64 h,.sl 4 g nd,.mpv 1,.rw 2 3 m,.nils,.nils],.mp 27 3 l,.row 162 3 cs]=>some (m=cs.length∧cs.length≤1000,.tup [],[.cells [.int .i64 n,.int .i64 h,.sl 4 g nd,.mpv 1,.rw 2 3 (m+1),.nils,.nils],.mp 27 3 l,.row 162 3 (cs++[aBN nrm l f a b c f' a' b' c' f'' a'' b'' c''])])
 | _,_=>none
def aA0 (nrm:NrT) (vld:Int->Int->Int->Int->Bool):Prop :=
 ∀ (n h f a b c f' a' b' c' f'' a'' b'' c'':Int) (g:Bool) (nd cs:LL) (l:List (Int × AV)) (m:Nat),m=cs.length∧cs.length≤(1000:Nat)->True->(IR9 f)∧(IR9 a)∧(IR9 b)∧(IR9 c)∧(IR9 f')∧(IR9 a')∧(IR9 b')∧(IR9 c')∧(IR9 f'')∧(IR9 a'')∧(IR9 b'')∧(IR9 c'')∧True->IR9 n->IR9 h->True->True->True->True->True->True∧True∧True∧True∧bif decide (m=cs.length∧cs.length+[[I6 (s3 (atV nrm l f a b c) (atV nrm l f' a' b' c') (atV nrm l f'' a'' b'' c'') 0),I6 (s3 (atV nrm l f a b c) (atV nrm l f' a' b' c') (atV nrm l f'' a'' b'' c'') 1),I6 (s3 (atV nrm l f a b c) (atV nrm l f' a' b' c') (atV nrm l f'' a'' b'' c'') 2)]].length≤(9223372036854775807:Nat)∧(cs.length+[[I6 (s3 (atV nrm l f a b c) (atV nrm l f' a' b' c') (atV nrm l f'' a'' b'' c'') 0),I6 (s3 (atV nrm l f a b c) (atV nrm l f' a' b' c') (atV nrm l f'' a'' b'' c'') 1),I6 (s3 (atV nrm l f a b c) (atV nrm l f' a' b' c') (atV nrm l f'' a'' b'' c'') 2)]].length)*(24:Nat)≤(140737488355328:Nat)) then True∧(n=n∧h=h∧((bif g then g=true else True)∧nd=nd)∧True∧(cs++[[I6 (s3 (atV nrm l f a b c) (atV nrm l f' a' b' c') (atV nrm l f'' a'' b'' c'') 0),I6 (s3 (atV nrm l f a b c) (atV nrm l f' a' b' c') (atV nrm l f'' a'' b'' c'') 1),I6 (s3 (atV nrm l f a b c) (atV nrm l f' a' b' c') (atV nrm l f'' a'' b'' c'') 2)]]).length=m+(1:Nat)∧True∧True∧True)∧l=l∧cs++[[I6 (s3 (atV nrm l f a b c) (atV nrm l f' a' b' c') (atV nrm l f'' a'' b'' c'') 0),I6 (s3 (atV nrm l f a b c) (atV nrm l f' a' b' c') (atV nrm l f'' a'' b'' c'') 1),I6 (s3 (atV nrm l f a b c) (atV nrm l f' a' b' c') (atV nrm l f'' a'' b'' c'') 2)]]=cs++[aBN nrm l f a b c f' a' b' c' f'' a'' b'' c'']∧True else False
theorem aNW:aA0 nrm vld:=by
 unfold aA0
 delta I6
 intro n h f a b c f' a' b' c' f'' a'' b'' c'' g nd cs l m ⟨hm,hl⟩
 intros
 have e:(cs++[aBN nrm l f a b c f' a' b' c' f'' a'' b'' c'']).length=m+1:=by rw [aG,hm]; rfl
 refine ⟨trivial,trivial,trivial,trivial,cd1 ⟨hm,by simp only [aH]; omega,by simp only [aH]; omega⟩ ?_⟩
 (repeat' (first | exact trivial | exact rfl | exact gg _ | assumption | apply And.intro))
theorem aNV (nrm:NrT) (vld:Int->Int->Int->Int->Bool):aA0 nrm vld=(∀ (n h f a b c f' a' b' c' f'' a'' b'' c'':Int) (g:Bool) (nd cs:LL) (l:List (Int × AV)) (m:Nat),m=cs.length∧cs.length≤1000->fnH Tryz.prog { glob:=glb,spec:=lk [],specH:=lk [(93,aEY),(124,(aGw nrm vld))],nowf:=true } { nt:=36,drop:=drp [(4,3072),(5,126976),(6,131072),(7,262144),(8,68718428160)],fr:=1000,kp:=[0,1,2] } (λ _ _=>none) 6 Tryz.f137 [.ptr 0 0,.agg [.int .i64 f,.int .i64 a,.int .i64 b,.int .i64 c,.int .i64 f',.int .i64 a',.int .i64 b',.int .i64 c',.int .i64 f'',.int .i64 a'',.int .i64 b'',.int .i64 c'']] [.cells [.int .i64 n,.int .i64 h,.sl 4 g nd,.mpv 1,.rw 2 3 m,.nils,.nils],.mp 27 3 l,.row 162 3 cs] (.tup []) [.cells [.int .i64 n,.int .i64 h,.sl 4 g nd,.mpv 1,.rw 2 3 (m+1),.nils,.nils],.mp 27 3 l,.row 162 3 (cs++[aBN nrm l f a b c f' a' b' c' f'' a'' b'' c''])]):=by kernel_rfl
def aNU:=Eq.mp (aNV ..) (aNW)
theorem aKq:HOK Tryz.prog glb 137 (aAZ nrm vld):=by
 refine ⟨fok Tryz.func137 (by kernel_rfl) (by kernel_rfl),?_⟩
 intro xs bs pre r bs2 h hp
 unfold aAZ at h
 split at h
 ·cases h
  exact bB bD (by exact aV rfl rfl trivial ⟨(aMH glb),(aNY),trivial⟩) (by kernel_rfl) Tryz.func137 (aNU  _ _ _ _ _ _ _ _ _ _ _ _ _ _ _ _ _ _ _ hp)
 ·cases h
def aK8 (nrm:NrT) (l:List (Int × AV)) (h f a b c:Int):List AV:=aBN nrm l f (a+h) b c f a (b+h) c f a b (c+h)
def aU7 (nrm:NrT) (l:List (Int × AV)) (h f a b c:Int):List AV:=aBN nrm l f (a+0) (b+0+h) (c+(0 - h)+h) f (a+0+h) (b+0) (c+(0 - h)+h) f (a+0+h) (b+0+h) (c+(0 - h))
def lB (nrm:NrT) (l:List (Int × AV)) (h f a b c:Int):LL:=if h≤c then [aK8 nrm l h f a b c,aU7 nrm l h f a b c] else [aK8 nrm l h f a b c]
theorem aL2 {nrm:NrT} {l:List (Int × AV)} {h f a b c:Int} (q:h≤c) (cs:LL):cs++[aK8 nrm l h f a b c]++[aU7 nrm l h f a b c]=cs++lB nrm l h f a b c:=by unfold lB; rw [if_pos q,List.append_assoc]; rfl
theorem aL3 {nrm:NrT} {l:List (Int × AV)} {h f a b c:Int} (q:¬ h≤c) (cs:LL):cs++[aK8 nrm l h f a b c]=cs++lB nrm l h f a b c:=by unfold lB; rw [if_neg q]
def vJ (nrm:NrT) (vld:Int->Int->Int->Int->Bool):SpH
 | [.ptr 0 0,.agg [.int .i64 f,.int .i64 a,.int .i64 b,.int .i64 c]],[.cells [.int .i64 n,.int .i64 h,.sl 4 g nd,.mpv 1,.rw 2 3 m,.nils,.nils],.mp 27 3 l,.row 162 3 cs]=>some ((m=cs.length∧cs.length≤999)∧(0≤h∧h≤840)∧(0≤f∧f < 20)∧(0≤a∧a≤840)∧(0≤b∧b≤840)∧0≤c∧c≤840,.tup [],[.cells [.int .i64 n,.int .i64 h,.sl 4 g nd,.mpv 1,.rw 2 3 (cs++lB nrm l h f a b c).length,.nils,.nils],.mp 27 3 l,.row 162 3 (cs++lB nrm l h f a b c)])
 | _,_=>none
def vK (nrm:NrT) (vld:Int->Int->Int->Int->Bool):Prop :=
 ∀ (n h f a b c:Int) (g:Bool) (nd cs:LL) (l:List (Int × AV)) (m:Nat),(m=cs.length∧cs.length≤(999:Nat))∧(0≤h∧h≤(840:Int))∧(0≤f∧f < (20:Int))∧(0≤a∧a≤(840:Int))∧(0≤b∧b≤(840:Int))∧0≤c∧c≤(840:Int)->True->(IR9 f)∧(IR9 a)∧(IR9 b)∧(IR9 c)∧True->IR9 n->IR9 h->True->True->True->True->True->(PlS f a b c∧0≤h∧h≤(840:Int))∧(m=cs.length∧cs.length≤(1000:Nat))∧bif decide (h≤c) then bif decide (rng IntKind.i64 ((0:Int) - h)) then (PlS f a b c∧PlS f 0 0 ((0:Int) - h))∧(PlS f (a+(0:Int)) (b+(0:Int)) (c+((0:Int) - h))∧0≤h∧h≤(840:Int))∧(m+(1:Nat)=(cs++[aBN nrm l f (a+h) b c f a (b+h) c f a b (c+h)]).length∧(cs++[aBN nrm l f (a+h) b c f a (b+h) c f a b (c+h)]).length≤(1000:Nat))∧True∧(n=n∧h=h∧((bif g then g=true else True)∧nd=nd)∧True∧m+(1:Nat)+(1:Nat)=(cs++lB nrm l h f a b c).length∧True∧True∧True)∧l=l∧cs++[aBN nrm l f (a+h) b c f a (b+h) c f a b (c+h)]++[aBN nrm l f (a+(0:Int)) (b+(0:Int)+h) (c+((0:Int) - h)+h) f (a+(0:Int)+h) (b+(0:Int)) (c+((0:Int) - h)+h) f (a+(0:Int)+h) (b+(0:Int)+h) (c+((0:Int) - h))]=cs++lB nrm l h f a b c∧True else False else True∧(n=n∧h=h∧((bif g then g=true else True)∧nd=nd)∧True∧m+(1:Nat)=(cs++lB nrm l h f a b c).length∧True∧True∧True)∧l=l∧cs++[aBN nrm l f (a+h) b c f a (b+h) c f a b (c+h)]=cs++lB nrm l h f a b c∧True
theorem aKp:vK nrm vld:=by
 unfold vK
 intro n h f a b c g nd cs l m ⟨⟨hm,hl⟩,⟨h0,h8⟩,hf,ha,hb,hc0,hc8⟩
 intros
 have q1:PlS f a b c:=⟨hf,by omega,by omega,by omega⟩
 have q2:PlS f 0 0 (0 - h):=⟨hf,by omega,by omega,by omega⟩
 have q3:PlS f (a+0) (b+0) (c+(0 - h)):=⟨hf,by omega,by omega,by omega⟩
 have e1:(cs++[aK8 nrm l h f a b c]).length=cs.length+1:=by rw [aG]; rfl
 refine ⟨⟨q1,h0,h8⟩,⟨hm,by omega⟩,csp (λ q=>cdI (by omega) ⟨⟨q1,q2⟩,⟨q3,h0,h8⟩,⟨by rw [hm]; exact e1.symm,by have:=e1; simp only [aK8] at this; omega⟩,?_⟩) (λ q=>?_)⟩
 ·have e2:m+1+1=(cs++lB nrm l h f a b c).length:=by rw [← aL2 q,aG,e1,hm]; rfl
  have e3:=aL2 (nrm:=nrm) (l:=l) (f:=f) (a:=a) (b:=b) q cs
  simp only [aK8,aU7] at e3
  (repeat' (first | exact trivial | exact rfl | exact gg _ | assumption | apply And.intro))
 ·have e2:m+1=(cs++lB nrm l h f a b c).length:=by rw [← aL3 q,e1,hm]
  have e3:=aL3 (nrm:=nrm) (l:=l) (f:=f) (a:=a) (b:=b) q cs
  simp only [aK8] at e3
  (repeat' (first | exact trivial | exact rfl | exact gg _ | assumption | apply And.intro))
theorem aKo (nrm:NrT) (vld:Int->Int->Int->Int->Bool):vK nrm vld=(∀ (n h f a b c:Int) (g:Bool) (nd cs:LL) (l:List (Int × AV)) (m:Nat),(m=cs.length∧cs.length≤999)∧(0≤h∧h≤840)∧(0≤f∧f < 20)∧(0≤a∧a≤840)∧(0≤b∧b≤840)∧0≤c∧c≤840->fnH Tryz.prog { glob:=glb,spec:=lk [(123,lR)],specH:=lk [(137,(aAZ nrm vld)),(125,aF9),(126,aGq)],nowf:=true } { nt:=27,drop:=drp [(1,240),(2,32256),(3,67043328)],fr:=1000,kp:=[0,1,2] } (λ _ _=>none) 6 Tryz.f85 [.ptr 0 0,.agg [.int .i64 f,.int .i64 a,.int .i64 b,.int .i64 c]] [.cells [.int .i64 n,.int .i64 h,.sl 4 g nd,.mpv 1,.rw 2 3 m,.nils,.nils],.mp 27 3 l,.row 162 3 cs] (.tup []) [.cells [.int .i64 n,.int .i64 h,.sl 4 g nd,.mpv 1,.rw 2 3 (cs++lB nrm l h f a b c).length,.nils,.nils],.mp 27 3 l,.row 162 3 (cs++lB nrm l h f a b c)]):=by kernel_rfl
def aKn:=Eq.mp (aKo ..) (aKp)
theorem aGu:HOK Tryz.prog glb 85 (vJ nrm vld):=by
 refine ⟨fok Tryz.func85 (by kernel_rfl) (by kernel_rfl),?_⟩
 intro xs bs pre r bs2 h hp
 unfold vJ at h
 split at h
 ·cases h
  exact bB bD (by exact aV rfl rfl ⟨(pT glb),trivial⟩ ⟨(aKq),(aNw glb),(aNQ glb),trivial⟩) (by kernel_rfl) Tryz.func85 (aKn  _ _ _ _ _ _ _ _ _ _ _ hp)
 ·cases h
def eqE (r q:List AV):Bool:=decide (nI r 0=nI q 0)&&(decide (nI r 1=nI q 1)&&true)
def oB:List AV->LL->LL
 | _,[]=>[]
 | p,x::l=>if eqE x p=true then oB x l else x::oB x l
def cS:LL->LL
 | []=>[]
 | x::l=>x::oB x l
structure EdR (xs:LL):Prop where
 fr:∀ i,i < xs.length->∃ a b,xs.getD i []=[.int .i64 a,.int .i64 b]
 le:xs.length≤1000000
def aLo (xs:LL):Prop:=(cS xs).length < xs.length
structure CoP (xs:LL) (k:Int):Prop where
 lo:1≤k
 hi:k≤xs.length
 eq:cS xs=xs.take k.toNat++oB (xs.getD (k.toNat - 1) []) (xs.drop k.toNat)
theorem gD {l:LL} {i:Nat} (h:i < l.length):l.getD i []=l[i]:=by rw [aB,aD h]; rfl
theorem aTB {l:LL} {i:Nat} (h:i < l.length):l.drop i=l.getD i []::l.drop (i+1):=by rw [gD h]; exact List.drop_eq_getElem_cons h
theorem aES {l:LL} {i:Nat} (h:i < l.length):l.take (i+1)=l.take i++[l.getD i []]:=by rw [gD h,List.take_append_getElem]
theorem aXZ {xs:LL} (h:1≤xs.length):cS xs=xs.take 1++oB (xs.getD 0 []) (xs.drop 1):=by
 cases xs with
 | nil=>simp at h
 | cons x l=>rfl
theorem aXW {xs:LL} (h:aLo xs):2≤xs.length:=by
 unfold aLo at h
 match xs,h with
 | [],h=>simp [cS] at h
 | [_],h=>simp [cS,oB] at h
 | _::_::_,_=>simp
theorem aL0 {p x:List AV} {l:LL} (h:eqE x p=true):oB p (x::l)=oB x l:=if_pos h
theorem aL1 {p x:List AV} {l:LL} (h:eqE x p=false):oB p (x::l)=x::oB x l:=if_neg (by rw [h]; decide)
theorem aDa {r q:List AV} {a b c d:Int} (h:r=[.int .i64 a,.int .i64 b]) (k:q=[.int .i64 c,.int .i64 d]):eqE r q=(decide (a=c)&&(decide (b=d)&&true)):=by subst h; subst k; rfl
structure CoQ (xs:LL) (x:Int × Int × Nat × LL):Prop where
 l1:x.2.2.2.length=xs.length
 lo:1≤x.2.1
 kl:1≤x.1
 k0:x.1+1≤x.2.2.1+x.2.1
 hi:x.2.2.1+x.2.1≤xs.length
 eq:cS xs=x.2.2.2.take x.1.toNat++oB (xs.getD (x.2.2.1+x.2.1.toNat - 1) []) (xs.drop (x.2.2.1+x.2.1.toNat))
 fr:EdR x.2.2.2
 sm:∀ i,x.2.2.1+x.2.1.toNat≤i+1->x.2.2.2.getD i []=xs.getD i []
def co4 (xs:LL) (n:Nat):LInv:=⟨Int,λ k=>⟨[(0,.rw 0 2 n),(3,.int .i64 k)],[(0,.row 143 2 xs)]⟩,CoP xs,λ k=>(n - k).toNat,none⟩
def co9 (xs:LL) (n:Nat):LInv:=⟨Int × Int × Nat × LL,λ x=>⟨[(0,.rw 0 2 n),(3,.int .i64 x.1),(4,.mw 0 2 n x.2.2.1 (n - x.2.2.1) false),(5,.int .i64 x.2.1)],[(0,.row 143 2 x.2.2.2)]⟩,CoQ xs,λ x=>(n - (x.2.2.1+x.2.1)).toNat,none⟩
def aGs:SpH
 | [.rw 0 2 n],[.row 143 2 xs]=>some (n=xs.length∧EdR xs∧aLo xs,.mw 0 2 n 0 (cS xs).length false,[.row 143 2 (cS xs++List.replicate (n - (cS xs).length) [.int .i64 0,.int .i64 0])])
 | _,_=>none
def aAY:Prop :=
 ∀ (gl:aX) (n:Nat) (xs:LL),n=xs.length∧EdR xs∧(cS xs).length.succ.le xs.length->True->bif decide ((↑n:Int) < (2:Int)) then False else (∃ x,CoP xs x∧(n=n∧(1:Int)=x∧True)∧xs=xs∧True)∧∀ (x1:Int),CoP xs x1->bif decide (x1 < (↑n:Int)) then bif decide (0≤x1∧x1 < (↑n:Int)) then bif decide (n=xs.length∧x1.toNat < xs.length) then ∃ n_1 n_2,List.take [I6 n_1,I6 n_2].length (List.drop 0 (xs.getD x1.toNat []))=[I6 n_1,I6 n_2]∧bif decide (rng IntKind.i64 (x1 - (1:Int))) then bif decide (0≤x1 - (1:Int)∧x1 - (1:Int) < (↑n:Int)) then bif decide (n=xs.length∧(x1 - (1:Int)).toNat < xs.length) then ∃ n_3 n_4,List.take [I6 n_3,I6 n_4].length (List.drop 0 (xs.getD (x1 - (1:Int)).toNat []))=[I6 n_3,I6 n_4]∧bif decide (n_1=n_3)&&(decide (n_2=n_4)&&true) then bif decide ((0:Int)≤(↑n:Int)∧(↑n:Int)≤(↑n:Int)) then bif decide (0≤x1∧x1≤(↑n:Int)) then (∃ x_1,CoQ xs x_1∧(n=n∧x1=x_1.1∧(n=n∧(0:Nat)+x1.toNat=x_1.2.2.1∧(↑n:Int).toNat - x1.toNat=n - x_1.2.2.1∧True)∧(1:Int)=x_1.2.1∧True)∧xs=x_1.2.2.2∧True)∧∀ (x2:Int × Int × Nat × LL),CoQ xs x2->bif decide (x2.2.1 < (↑(n - x2.2.2.1):Int)) then bif decide (0≤x2.2.1∧x2.2.1 < (↑(n - x2.2.2.1):Int)) then bif decide (n=x2.2.2.2.length∧x2.2.2.1+x2.2.1.toNat < x2.2.2.2.length) then ∃ n_5 n_6,List.take [I6 n_5,I6 n_6].length (List.drop 0 (x2.2.2.2.getD (x2.2.2.1+x2.2.1.toNat) []))=[I6 n_5,I6 n_6]∧bif decide (rng IntKind.i64 (x2.2.1 - (1:Int))) then bif decide (0≤x2.2.1 - (1:Int)∧x2.2.1 - (1:Int) < (↑(n - x2.2.2.1):Int)) then bif decide (n=x2.2.2.2.length∧x2.2.2.1+(x2.2.1 - (1:Int)).toNat < x2.2.2.2.length) then ∃ n_7 n_8,List.take [I6 n_7,I6 n_8].length (List.drop 0 (x2.2.2.2.getD (x2.2.2.1+(x2.2.1 - (1:Int)).toNat) []))=[I6 n_7,I6 n_8]∧bif !(decide (n_5=n_7)&&(decide (n_6=n_8)&&true)) then bif decide (0≤x2.2.1∧x2.2.1 < (↑(n - x2.2.2.1):Int)) then bif decide (n=x2.2.2.2.length∧x2.2.2.1+x2.2.1.toNat < x2.2.2.2.length) then ∃ n_9 n_10,List.take [I6 n_9,I6 n_10].length (List.drop 0 (x2.2.2.2.getD (x2.2.2.1+x2.2.1.toNat) []))=[I6 n_9,I6 n_10]∧bif decide (0≤x2.1∧x2.1 < (↑n:Int)) then bif decide (n=x2.2.2.2.length∧x2.1.toNat < x2.2.2.2.length) then bif decide (rng IntKind.i64 (x2.1+(1:Int))) then bif decide (rng IntKind.i64 (x2.2.1+(1:Int))) then ∃ y,CoQ xs y∧(co9 xs n).m y < (co9 xs n).m x2∧(n=n∧x2.1+(1:Int)=y.1∧(n=n∧x2.2.2.1=y.2.2.1∧n - x2.2.2.1=n - y.2.2.1∧True)∧x2.2.1+(1:Int)=y.2.1∧True)∧setEl x2.2.2.2 x2.1.toNat 0 [I6 n_9,I6 n_10]=y.2.2.2∧True else False else False else False else False else False else False else bif decide (rng IntKind.i64 (x2.2.1+(1:Int))) then ∃ y,CoQ xs y∧(co9 xs n).m y < (co9 xs n).m x2∧(n=n∧x2.1=y.1∧(n=n∧x2.2.2.1=y.2.2.1∧n - x2.2.2.1=n - y.2.2.1∧True)∧x2.2.1+(1:Int)=y.2.1∧True)∧x2.2.2.2=y.2.2.2∧True else False else False else False else False else False else False else bif decide ((0:Int)≤(↑n:Int)∧(↑n:Int)≤(↑n:Int)) then bif decide (0≤x2.1∧x2.1≤(↑n:Int)) then bif decide (n=x2.2.2.2.length∧(0:Nat)+x2.1.toNat+((↑n:Int).toNat - x2.1.toNat)=x2.2.2.2.length) then bif decide (0≤x2.1∧x2.1≤(↑n:Int)) then bif decide ((0:Int)≤(0:Int)∧0≤x2.1) then (n=n∧(0:Nat)=(0:Nat)∧x2.1.toNat - (0:Nat)=(cS xs).length∧True)∧List.take ((0:Nat)+x2.1.toNat) x2.2.2.2++List.replicate ((↑n:Int).toNat - x2.1.toNat) (List.replicate 2 (I6 0))=cS xs++List.replicate (n - (cS xs).length) [I6 0,I6 0]∧True else False else False else False else False else False else False else False else bif decide (rng IntKind.i64 (x1+(1:Int))) then ∃ y,CoP xs y∧(co4 xs n).m y < (co4 xs n).m x1∧(n=n∧x1+(1:Int)=y∧True)∧xs=xs∧True else False else False else False else False else False else False else False
theorem aNT:aAY:=by
 unfold aAY
 delta I6
 intro gl n xs ⟨hn,hE,hD⟩ _
 subst hn
 have h2:=aXW hD
 have hle:=hE.le
 have ld:∀ {ys:LL} {i:Nat} {a b:Int},ys.getD i []=[.int .i64 a,.int .i64 b]->List.take [AV.int .i64 a,AV.int .i64 b].length (List.drop 0 (ys.getD i []))=[.int .i64 a,.int .i64 b]:=λ e=>by rw [e]; rfl
 refine csp (λ h=>by omega) (λ h=>⟨⟨1,⟨by decide,by omega,aXZ (by omega)⟩,by repeat' first|exact trivial|exact rfl|assumption|apply And.intro⟩,?_⟩)
 intro k ⟨k1,kh,ke⟩
 refine csp (λ h=>?_) (λ h=>?_)
 ·obtain ⟨a,b,hab⟩:=hE.fr k.toNat (by omega)
  obtain ⟨c,d,hcd⟩:=hE.fr (k - 1).toNat (by omega)
  have e1:(k - 1).toNat=k.toNat - 1:=by omega
  have hkl:k.toNat < xs.length:=by omega
  rw [aTB hkl] at ke
  refine cd1 (by omega) (cd1 ⟨rfl,hkl⟩ ⟨a,b,ld hab,cdI (by omega) (cd1 (by omega) (cd1 ⟨rfl,by omega⟩ ⟨c,d,ld hcd,dK (λ q=>?_) (λ q=>?_)⟩))⟩)
  ·rw [← aDa hab hcd,e1] at q
   rw [aL0 q] at ke
   refine cd1 (by omega) (cd1 (by omega) ⟨⟨(k,1,k.toNat,xs),⟨rfl,Int.le_refl 1,k1,by simp only; omega,by simp only; omega,by simpa using ke,hE,λ _ _=>rfl⟩,⟨⟨rfl,rfl,⟨rfl,by simp,by simp,trivial⟩,rfl,trivial⟩,rfl,trivial⟩⟩,?_⟩)
   clear ke q hab hcd e1 hkl h kh k1
   rintro ⟨k,k2,k0,ys⟩ ⟨l1,lo,kl,hk0,hi,he,hF,sm⟩
   simp only at l1 lo kl hk0 hi he sm hF
   refine csp (λ h=>?_) (λ h=>?_)
   ·simp only at h
    have hkl:k0+k2.toNat < xs.length:=by omega
    have g1:ys.getD (k0+k2.toNat) []=xs.getD (k0+k2.toNat) []:=sm _ (by omega)
    have e1:k0+(k2 - 1).toNat=k0+k2.toNat - 1:=by omega
    have g2:ys.getD (k0+(k2 - 1).toNat) []=xs.getD (k0+k2.toNat - 1) []:=by rw [e1]; exact sm _ (by omega)
    obtain ⟨a,b,hab⟩:=hE.fr (k0+k2.toNat) hkl
    obtain ⟨c,d,hcd⟩:=hE.fr (k0+k2.toNat - 1) (by omega)
    rw [aTB hkl] at he
    refine cd1 (by simp only; omega) (cd1 ⟨l1.symm,by simp only; omega⟩ ⟨a,b,ld (g1.trans hab),cdI (by simp only; omega) (cd1 (by simp only; omega) (cd1 ⟨l1.symm,by simp only; omega⟩ ⟨c,d,ld (g2.trans hcd),dK (λ q=>?_) (λ q=>?_)⟩))⟩)
    ·rw [← aDa hab hcd] at q
     have q:eqE (xs.getD (k0+k2.toNat) []) (xs.getD (k0+k2.toNat - 1) [])=false:=by simpa using q
     rw [aL1 q] at he
     have hky:k.toNat < ys.length:=by omega
     have hset:setEl ys k.toNat 0 [.int .i64 a,.int .i64 b]=ys.set k.toNat (xs.getD (k0+k2.toNat) []):=by
      obtain ⟨u,v,huv⟩:=hF.fr k.toNat hky
      unfold setEl
      rw [huv,hab]; rfl
     refine cd1 (by simp only; omega) (cd1 ⟨l1.symm,by simp only; omega⟩ ⟨a,b,ld (g1.trans hab),cd1 (by simp only; omega) (cd1 ⟨l1.symm,hky⟩ (cdI (by simp only; omega) (cdI (by simp only; omega) ⟨(k+1,k2+1,k0,setEl ys k.toNat 0 [.int .i64 a,.int .i64 b]),⟨?_,by simp only; omega,by simp only; omega,by simp only; omega,by simp only; omega,?_,?_,?_⟩,by simp only [co9]; omega,by repeat' first|exact trivial|exact rfl|assumption|apply And.intro⟩)))⟩)
     ·simp only [hset,List.length_set]; exact l1
     ·simp only [hset]
      rw [show (k+1).toNat=k.toNat+1 by omega,show (k2+1).toNat=k2.toNat+1 by omega,aES (by rw [List.length_set]; exact hky),List.take_set_of_le (Nat.le_refl _),aB,List.getElem?_set_self hky,Option.getD_some,List.append_assoc]
      exact he
     ·simp only [hset]
      refine ⟨λ i hi=>?_,by rw [List.length_set]; omega⟩
      rw [List.length_set] at hi
      by_cases hik:k.toNat=i
      ·subst hik
       exact ⟨a,b,by rw [aB,List.getElem?_set_self hky,Option.getD_some]; exact hab⟩
      ·rw [aB,List.getElem?_set_ne hik,← aB]
       exact hF.fr i hi
     ·intro i hi
      simp only [hset] at hi ⊢
      rw [aB,List.getElem?_set_ne (by omega),← aB]
      exact sm i (by omega)
    ·rw [← aDa hab hcd] at q
     have q:eqE (xs.getD (k0+k2.toNat) []) (xs.getD (k0+k2.toNat - 1) [])=true:=by simpa using q
     rw [aL0 q] at he
     refine cdI (by simp only; omega) ⟨(k,k2+1,k0,ys),⟨l1,by simp only; omega,kl,by simp only; omega,by simp only; omega,?_,hF,λ i hi=>sm i (by simp only at hi; omega)⟩,by simp only [co9]; omega,by repeat' first|exact trivial|exact rfl|assumption|apply And.intro⟩
     simp only
     rw [show (k2+1).toNat=k2.toNat+1 by omega]
     exact he
   ·simp only at h
    have hz:k0+k2.toNat=xs.length:=by omega
    rw [hz,List.drop_length] at he
    simp only [oB,List.append_nil] at he
    have hcl:(cS xs).length=k.toNat:=by rw [he,List.length_take]; omega
    refine cd1 (by omega) (cd1 (by simp only; omega) (cd1 ⟨l1.symm,by simp only; omega⟩ (cd1 (by simp only; omega) (cd1 (by simp only; omega) ⟨⟨rfl,rfl,by rw [hcl]; rfl,trivial⟩,?_,trivial⟩))))
    simp only
    rw [hcl,he,Nat.zero_add,Int.toNat_natCast]; rfl
  ·rw [← aDa hab hcd,e1] at q
   rw [aL1 q] at ke
   refine cdI (by omega) ⟨k+1,⟨by omega,by omega,?_⟩,by simp only [co4]; omega,by repeat' first|exact trivial|exact rfl|assumption|apply And.intro⟩
   rw [show (k+1).toNat=k.toNat+1 by omega,aES hkl,List.append_assoc]
   exact ke
 ·have hk:k.toNat=xs.length:=by omega
  rw [hk,List.drop_length,List.take_length] at ke
  simp only [oB,List.append_nil] at ke
  have hD:(cS xs).length < xs.length:=hD
  rw [ke] at hD
  exact absurd hD (Nat.lt_irrefl _)
theorem aNS:aAY=(∀ (gl:aX) (n:Nat) (xs:LL),n=xs.length∧EdR xs∧aLo xs->fnH Tryz.prog { glob:=gl,spec:=lk [],specH:=lk [],shape:=[19,24,38,43,50],nowf:=true } { nt:=61,drop:=drp [(1,192),(2,512),(4,7168),(5,49152),(6,33488896),(7,469762048),(9,3758096384),(10,25769803776),(11,17557826306048),(12,4468415255281664),(13,13510798882111488),(14,126100789566373888),(15,1008806316530991104),(16,1152921504606846976)],fr:=1000,kp:=[0],tys:=[143] } (vS [(4,co4 xs n),(9,co9 xs n)]) 6 Tryz.f92 [.rw 0 2 n] [.row 143 2 xs] (.mw 0 2 n 0 (cS xs).length false) [.row 143 2 (cS xs++List.replicate (n - (cS xs).length) [.int .i64 0,.int .i64 0])]):=by kernel_rfl
def aNR:=Eq.mp (aNS ..) (aNT)
theorem aCI (gl:aX):HOK Tryz.prog gl 92 aGs:=by
 refine ⟨fok Tryz.func92 (by kernel_rfl) (by kernel_rfl),?_⟩
 intro xs bs pre r bs2 h hp
 unfold aGs at h
 split at h
 ·cases h
  exact bB (aPP (by kernel_rfl)) (by exact aV rfl rfl trivial trivial) (by kernel_rfl) Tryz.func92 (aNR gl _ _ hp)
 ·cases h
theorem aSL {P:Program} {gl:aX} {f:FuncId} {xs:List AV} {bs:List Blk} {q m e s:Nat} {ys:LL} (he:e < 2000000) (hq:q=ys.length) (hm:m≤ys.length) (h:HC P gl f xs bs (.mw 0 s q 0 m false) [.row e s ys]):HC P gl f xs bs (.sl s false (ys.take m)) [.gone]:=by
 intro w S mm vs hG hA hnm hheld hinj hv
 refine (h w S mm vs hG hA hnm hheld hinj hv).mono ?_
 rintro ed w' ⟨u,S1,m1,e1,a1,a2,a3,a4,hE,hF,hAg,hH,hI,hO,hM,hcv⟩
 obtain ⟨A,c,h1,h2,h3,hlen,h4,vals,h5,h6,h7,h9,h8⟩:=(hH 0 _ rfl).vals
 rw [bG he] at h6
 let S':Pin:=λ b o=>if A=some ⟨b,0,none⟩∧o < vals.length then vals[o]? else S1 b o
 have hun:∀ b,A=some ⟨b,0,none⟩->∀ o,S1 b o=none:=by
  intro b hb o
  rcases h4 with ⟨e1,_⟩ | ⟨g,cur,fr,e1,_,_,_,e2⟩
  ·rw [hb] at e1; cases e1
  ·rw [hb] at e1
   injection e1 with e1
   injection e1 with e1
   subst e1
   exact e2 o
 have hS:Ext S1 S':=by
  intro b o v e1
  show (if A=some ⟨b,0,none⟩∧o < vals.length then vals[o]? else S1 b o)=some v
  rw [if_neg]
  ·exact e1
  ·rintro ⟨hb,_⟩
   rw [hun b hb] at e1; cases e1
 have hfar:∀ b,A≠some ⟨b,0,none⟩->∀ o,S' b o=S1 b o:=by
  intro b hb o
  show (if A=some ⟨b,0,none⟩∧o < vals.length then vals[o]? else S1 b o)=S1 b o
  rw [if_neg (λ q=>hb q.1)]
 refine ⟨u,S',m1,e1,a1,a2,a3,a4,hE.trans hS,λ b hb hn=>⟨(hF b hb hn).1,λ o=>?_⟩,?_,?_,hI,hO,hM,?_⟩
 ·by_cases hA:A=some ⟨b,0,none⟩
  ·rcases hO 0 _ b (by simp) h1 (by rw [hA]; rfl) with z | z
   ·omega
   ·exact absurd z hn
  ·rw [hfar b hA]; exact (hF b hb hn).2 o
 ·intro b o v e1
  by_cases hA:A=some ⟨b,0,none⟩∧o < vals.length
  ·have e2:vals[o]?=some v:=by
    have:S' b o=vals[o]?:=by show (if A=some ⟨b,0,none⟩∧o < vals.length then vals[o]? else S1 b o)=_; rw [if_pos hA]
    rw [← this]; exact e1
   exact ⟨h8 b hA.1 o v e2,h7 v (aL e2)⟩
  ·have:S' b o=S1 b o:=by show (if A=some ⟨b,0,none⟩∧o < vals.length then vals[o]? else S1 b o)=_; rw [if_neg hA]
   rw [this] at e1
   exact hAg b o v e1
 ·intro k b hk
  cases k with
  | succ k=>simp at hk
  | zero =>
   simp only [List.getElem?_cons_zero,aJ] at hk
   subst hk
   exact ⟨_,h1,λ g hg=>(hH 0 _ rfl).lt h1 hg⟩
 ·simp only [CV] at hcv ⊢
  obtain ⟨B,d,rfl,p1,p2,p3,p4,p5,A2,q2,c2,p6,p7,p8⟩:=hcv
  rw [h1] at p6
  simp only [aJ,Value.iface.injEq,Value.slice.injEq,true_and] at p6
  obtain ⟨rfl,rfl,rfl⟩:=p6
  have hml:(ys.take m).length=m:=by rw [List.length_take]; omega
  refine ⟨B,d,by rw [hml],by rw [hml]; exact p1,p2,(λ e=>by cases e),p3,λ a ha=>⟨λ hd=>p4 a ha,?_⟩⟩
  by_cases hd:d=0
  ·have hm0:m=0:=by omega
   subst hm0
   simp only [List.take_zero,CE]
  ·obtain ⟨g,rfl,hB⟩:=p8 hq hd
   rw [ha] at hB
   injection hB with hB
   subst hB
   simp only [Nat.zero_mul]
   refine CE.mk λ j x hj=>?_
   have hj2:ys[j]?=some x:=by
    rw [List.getElem?_take] at hj
    split at hj
    ·exact hj
    ·cases hj
   have hxl:=hlen x (aL hj2)
   refine ⟨hxl,CC.mk λ i y hi=>?_⟩
   obtain ⟨v,hv,hy⟩:=h6.get (jX hlen hj2 hi)
   have hlt:j*s+i < vals.length:=(aF.1 hv).1
   refine ⟨v,?_,hy.ext hS (MLe.refl _)⟩
   show (if some (⟨g,0,none⟩:Addr)=some ⟨g,0,none⟩∧0+j*s+i < vals.length then vals[0+j*s+i]? else S1 g (0+j*s+i))=some v
   rw [Nat.zero_add,if_pos ⟨rfl,hlt⟩]
   exact hv
def vI:SpH
 | [.rw 0 2 n],[.row 143 2 xs]=>some (n=xs.length∧EdR xs∧aLo xs,.sl 2 false (cS xs),[.gone])
 | _,_=>none
theorem aGt (gl:aX):HOK Tryz.prog gl 92 vI:=by
 refine ⟨(aCI gl).1,?_⟩
 intro xs bs pre r bs2 h hp
 unfold vI at h
 split at h
 ·rename_i n ys
  simp only [aJ,Prod.mk.injEq] at h
  obtain ⟨h1,h2,h3⟩:=h
  subst h1 h2 h3
  have hl:(cS ys).length≤n:=by have:(cS ys).length < ys.length:=hp.2.2; omega
  have hc:=(aCI gl).2 [.rw 0 2 n] [.row 143 2 ys] _ _ _ rfl hp
  have:=aSL (by decide) (by rw [aG,List.length_replicate]; omega) (by rw [aG]; omega) hc
  rwa [List.take_left] at this
 ·cases h
def aRp:Nat->Code->List Code
 | k+1,.seq a b=>a::aRp k b
 | _,_=>[]
def aMx:Nat->Code->Code
 | k+1,.seq _ b=>aMx k b
 | _,c=>c
def aT0 (fn:Func):Code:=match fn.body with
 | some c=>c
 | none=>.skip
def zS (P:Program) (E:Env) (C:Cx) (inv:Nat->St->Option LInv) (fuel:Nat):List Code->St->(St->Prop)->Prop
 | [],st,K=>K st
 | c::l,st,K=>cB P E C inv fuel c st (λ st'=>zS P E C inv fuel l st' K) (λ _ _=>False) (λ _=>False)
def clB (nrm:NrT) (l:List (Int × AV)) (n f a b:Int) (cs:LL):LL:=sA (λ b cs=>cs++lB nrm l (hN n) f (a*hN n) (b*hN n) ((n - 1 - a - b)*hN n)) b (n - a) cs
def clA (nrm:NrT) (l:List (Int × AV)) (n f a:Int) (cs:LL):LL:=sA (λ a cs=>clB nrm l n f a 0 cs) a n cs
def clF (nrm:NrT) (l:List (Int × AV)) (n f:Int) (cs:LL):LL:=sA (λ f cs=>clA nrm l n f 0 cs) f 20 cs
def clG (nrm:NrT) (n:Int):LL:=clF nrm (ptG nrm n).2 n 0 []
def edR (r:List AV):LL:=[[.int .i64 (nI r 0),.int .i64 (nI r 1)],[.int .i64 (nI r 0),.int .i64 (nI r 2)],[.int .i64 (nI r 1),.int .i64 (nI r 2)]]
def edL (cs:LL):LL:=cs.flatMap edR
def dD (nrm:NrT) (n:Int):LL:=dE 3 cf3 (clG nrm n)
def aPZ (nrm:NrT) (n:Int):LL:=dE 2 cf2 (edL (dD nrm n))
def aT (nrm:NrT) (n:Int):LL:=cS (aPZ nrm n)
structure BldP (nrm:NrT) (n:Int):Prop where
 lo:1≤n
 hi:n≤4
 rg:∀ q,0≤vL (ptG nrm n).2 q∧vL (ptG nrm n).2 q < 1000
 dup:aLo (aPZ nrm n)
structure RowB (cs:LL) (m:Int):Prop where
 ok:∀ r ∈ cs,okR 3 r=true
 le:(cs.length:Int)≤m
structure BlX (nrm:NrT) (n:Int) (x:Int × LL):Prop where
 lo:0≤x.1
 hi:x.1≤20
 go:clF nrm (ptG nrm n).2 n x.1 x.2=clG nrm n
 sm:RowB x.2 (32*x.1)
 ne:x.2=[]->x.1=0
structure BlY (nrm:NrT) (n f:Int) (x:Int × LL):Prop where
 fl:0≤f
 fh:f < 20
 lo:0≤x.1
 hi:x.1≤n
 go:clF nrm (ptG nrm n).2 n (f+1) (clA nrm (ptG nrm n).2 n f x.1 x.2)=clG nrm n
 sm:RowB x.2 (32*f+8*x.1)
 ne:x.2=[]->x.1=0
structure BlZ (nrm:NrT) (n f a:Int) (x:Int × LL):Prop where
 fl:0≤f
 fh:f < 20
 al:0≤a
 ah:a < n
 lo:0≤x.1
 hi:x.1≤n - a
 go:clF nrm (ptG nrm n).2 n (f+1) (clA nrm (ptG nrm n).2 n f (a+1) (clB nrm (ptG nrm n).2 n f a x.1 x.2))=clG nrm n
 sm:RowB x.2 (32*f+8*a+2*x.1)
 ne:x.2=[]->x.1=0
structure BlE (cs:LL) (x:Int × LL):Prop where
 lo:0≤x.1
 hi:x.1≤cs.length
 eq:x.2=edL (cs.take x.1.toNat)
def blH (nrm:NrT) (n:Int) (cs:LL):List (Nat × Blk):=[(1014,.cells [.int .i64 n,.int .i64 (hN n),.sl 4 false (ptG nrm n).1,.mpv 2014,.rw 1600 3 cs.length,.nils,.nils]),(2014,.mp 27 3 (ptG nrm n).2),(1600,.row 162 3 cs)]
def bl3 (nrm:NrT) (n:Int):LInv:=⟨Int × LL,λ x=>⟨[(0,.int .i64 n),(3,.ptr 1014 0),(15,.int .i64 x.1)],blH nrm n x.2⟩,BlX nrm n,λ x=>(20 - x.1).toNat,none⟩
def bl6 (nrm:NrT) (n f:Int):LInv:=⟨Int × LL,λ x=>⟨[(0,.int .i64 n),(3,.ptr 1014 0),(15,.int .i64 f),(4,.int .i64 f),(5,.int .i64 x.1)],blH nrm n x.2⟩,BlY nrm n f,λ x=>(n - x.1).toNat,none⟩
def bl9 (nrm:NrT) (n f a:Int):LInv:=⟨Int × LL,λ x=>⟨[(0,.int .i64 n),(3,.ptr 1014 0),(15,.int .i64 f),(4,.int .i64 f),(5,.int .i64 a),(6,.int .i64 x.1)],blH nrm n x.2⟩,BlZ nrm n f a,λ x=>(n - a - x.1).toNat,none⟩
def aU8 (nrm:NrT) (n:Int):LInv:=⟨Int × LL,λ x=>⟨[(0,.int .i64 n),(3,.ptr 1014 0),(66,.rw 1600 3 (dD nrm n).length),(67,.int .i64 (dD nrm n).length),(68,.int .i64 x.1)],
 [(1014,.cells [.int .i64 n,.int .i64 (hN n),.sl 4 false (ptG nrm n).1,.mpv 2014,.rw 1600 3 (dD nrm n).length,.rw 1700 2 x.2.length,.nils]),(2014,.mp 27 3 (ptG nrm n).2),(1600,.row 162 3 (dD nrm n)),(1700,.row 143 2 x.2)]⟩,BlE (dD nrm n),λ x=>((dD nrm n).length - x.1).toNat,none⟩
theorem aWU {nrm:NrT} {l:List (Int × AV)} (h:∀ q,0≤vL l q∧vL l q < 1000) (f a b c:Int):0≤atV nrm l f a b c∧atV nrm l f a b c < 1000:=h _
theorem aIb {x y z:Int} (hx:0≤x∧x < 1000) (hy:0≤y∧y < 1000) (hz:0≤z∧z < 1000):okR 3 (aPl x y z)=true:=by
 have hb:∀ i,i < 3->-1000000≤s3 x y z i∧s3 x y z i≤1000000:=λ i hi=>by rcases aFc x y z hi with e | e | e <;> rw [e] <;> omega
 unfold okR aPl
 simp only [List.length_cons,List.length_nil,List.all_cons,List.all_nil,okA,Bool.and_true,decide_eq_true (hb 0 (by decide)),decide_eq_true (hb 1 (by decide)),decide_eq_true (hb 2 (by decide))]
 rfl
theorem aPm {nrm:NrT} {l:List (Int × AV)} (hl:∀ q,0≤vL l q∧vL l q < 1000) (h f a b c:Int):(∀ r ∈ lB nrm l h f a b c,okR 3 r=true)∧1≤(lB nrm l h f a b c).length∧(lB nrm l h f a b c).length≤2:=by
 have hc:∀ f a b c f' a' b' c' f'' a'' b'' c'',okR 3 (aBN nrm l f a b c f' a' b' c' f'' a'' b'' c'')=true:=λ _ _ _ _ _ _ _ _ _ _ _ _=>aIb (aWU hl _ _ _ _) (aWU hl _ _ _ _) (aWU hl _ _ _ _)
 unfold lB
 split
 ·refine ⟨λ r hr=>?_,by simp,by simp⟩
  simp only [List.mem_cons,List.not_mem_nil,or_false] at hr
  rcases hr with rfl | rfl <;> exact hc _ _ _ _ _ _ _ _ _ _ _ _
 ·refine ⟨λ r hr=>?_,by simp,by simp⟩
  simp only [List.mem_cons,List.not_mem_nil,or_false] at hr
  subst hr; exact hc _ _ _ _ _ _ _ _ _ _ _ _
theorem ok3 {r:List AV} (h:okR 3 r=true):r=[.int .i64 (nI r 0),.int .i64 (nI r 1),.int .i64 (nI r 2)]∧∀ i,i < 3->-1000000≤nI r i∧nI r i≤1000000:=by
 have hb:=λ i hi=>aXi (⟨r,h⟩:RwT 3) (i:=i) hi
 have hl:r.length=3:=by have:=fU (⟨r,h⟩:RwT 3); simpa [mI] using this
 refine ⟨?_,hb⟩
 match r,hl with
 | [a,b,c],_ =>
  have ha:=(lO h (i:=0) rfl).2.1
  have hb:=(lO h (i:=1) rfl).2.1
  have hc:=(lO h (i:=2) rfl).2.1
  show [a,b,c]=[.int .i64 (aI a),.int .i64 (aI b),.int .i64 (aI c)]
  rw [← ha,← hb,← hc]
theorem ok2 {r:List AV} (h:okR 2 r=true):r=[.int .i64 (nI r 0),.int .i64 (nI r 1)]∧∀ i,i < 2->-1000000≤nI r i∧nI r i≤1000000:=by
 have hb:=λ i hi=>aXi (⟨r,h⟩:RwT 2) (i:=i) hi
 have hl:r.length=2:=by have:=fU (⟨r,h⟩:RwT 2); simpa [mI] using this
 refine ⟨?_,hb⟩
 match r,hl with
 | [a,b],_ =>
  have ha:=(lO h (i:=0) rfl).2.1
  have hb:=(lO h (i:=1) rfl).2.1
  show [a,b]=[.int .i64 (aI a),.int .i64 (aI b)]
  rw [← ha,← hb]
theorem mk2 {a b:Int} (ha:-1000000≤a∧a≤1000000) (hb:-1000000≤b∧b≤1000000):okR 2 [.int .i64 a,.int .i64 b]=true:=by
 unfold okR
 simp only [List.length_cons,List.length_nil,List.all_cons,List.all_nil,okA,Bool.and_true,decide_eq_true ha,decide_eq_true hb]
 rfl
theorem aTy {r:List AV} (h:okR 3 r=true):∀ q ∈ edR r,okR 2 q=true:=by
 have hb:=(ok3 h).2
 intro q hq
 simp only [edR,List.mem_cons,List.not_mem_nil,or_false] at hq
 rcases hq with rfl | rfl | rfl
 ·exact mk2 (hb 0 (by decide)) (hb 1 (by decide))
 ·exact mk2 (hb 0 (by decide)) (hb 2 (by decide))
 ·exact mk2 (hb 1 (by decide)) (hb 2 (by decide))
theorem aBC (cs:LL):(edL cs).length=3*cs.length:=by
 induction cs with
 | nil=>rfl
 | cons x l ih=>simp only [edL,List.flatMap_cons,aG,List.length_cons] at ih ⊢; rw [ih]; simp [edR]; omega
theorem aTz {cs:LL} (h:∀ r ∈ cs,okR 3 r=true):∀ q ∈ edL cs,okR 2 q=true:=by
 intro q hq
 simp only [edL,List.mem_flatMap] at hq
 obtain ⟨r,hr,hq⟩:=hq
 exact aTy (h r hr) q hq
def aX1 (nrm:NrT) (n:Int):St:=⟨[(0,.int .i64 n),(3,.ptr 1014 0)],[(1014,.cells [.int .i64 n,.int .i64 (hN n),.sl 4 false (ptG nrm n).1,.mpv 2014,.sl 3 false (dD nrm n),.sl 2 false (aT nrm n),.nils]),(2014,.mp 27 3 (ptG nrm n).2)]⟩
abbrev kM (nrm:NrT) (n:Int):=(True∧(ptG nrm n).1=(ptG nrm n).1)
def aDo:Prop :=
 ∀ (nrm:NrT) (vld:Int->Int->Int->Int->Bool) (n:Int),BldP nrm n->(1≤n∧n≤(4:Int))∧(∃ x,BlX nrm n x∧(n=n∧(0:Nat)=(0:Nat)∧(0:Int)=x.1∧True)∧(n=n∧hN n=hN n∧(kM nrm n)∧True∧(0:Nat)=x.2.length∧True∧True∧True)∧(ptG nrm n).2=(ptG nrm n).2∧[]=x.2∧True)∧∀ (x1:Int × LL),BlX nrm n x1->bif decide (x1.1 < (20:Int)) then (∃ x_1,BlY nrm n x1.1 x_1∧(n=n∧(0:Nat)=(0:Nat)∧x1.1=x1.1∧x1.1=x1.1∧(0:Int)=x_1.1∧True)∧(n=n∧hN n=hN n∧(kM nrm n)∧True∧x1.2.length=x_1.2.length∧True∧True∧True)∧(ptG nrm n).2=(ptG nrm n).2∧x1.2=x_1.2∧True)∧∀ (x2:Int × LL),BlY nrm n x1.1 x2->bif decide (x2.1 < n) then (∃ x_2,BlZ nrm n x1.1 x2.1 x_2∧(n=n∧(0:Nat)=(0:Nat)∧x1.1=x1.1∧x1.1=x1.1∧x2.1=x2.1∧(0:Int)=x_2.1∧True)∧(n=n∧hN n=hN n∧(kM nrm n)∧True∧x2.2.length=x_2.2.length∧True∧True∧True)∧(ptG nrm n).2=(ptG nrm n).2∧x2.2=x_2.2∧True)∧∀ (x3:Int × LL),BlZ nrm n x1.1 x2.1 x3->bif decide (rng IntKind.i64 (x2.1+x3.1)) then bif decide (x2.1+x3.1 < n) then bif decide (rng IntKind.i64 (x2.1*hN n)) then bif decide (rng IntKind.i64 (x3.1*hN n)) then bif decide (rng IntKind.i64 (n - (1:Int))) then bif decide (rng IntKind.i64 (n - (1:Int) - x2.1)) then bif decide (rng IntKind.i64 (n - (1:Int) - x2.1 - x3.1)) then bif decide (rng IntKind.i64 ((n - (1:Int) - x2.1 - x3.1)*hN n)) then ((x3.2.length=x3.2.length∧x3.2.length≤(999:Nat))∧(0≤hN n∧hN n≤(840:Int))∧(0≤x1.1∧x1.1 < (20:Int))∧(0≤x2.1*hN n∧x2.1*hN n≤(840:Int))∧(0≤x3.1*hN n∧x3.1*hN n≤(840:Int))∧(0:Int)≤(n - (1:Int) - x2.1 - x3.1)*hN n∧(n - (1:Int) - x2.1 - x3.1)*hN n≤(840:Int))∧bif decide (rng IntKind.i64 (x3.1+(1:Int))) then ∃ y,BlZ nrm n x1.1 x2.1 y∧(bl9 nrm n x1.1 x2.1).m y < (bl9 nrm n x1.1 x2.1).m x3∧(n=n∧(0:Nat)=(0:Nat)∧x1.1=x1.1∧x1.1=x1.1∧x2.1=x2.1∧x3.1+(1:Int)=y.1∧True)∧(n=n∧hN n=hN n∧(kM nrm n)∧True∧(x3.2++lB nrm (ptG nrm n).2 (hN n) x1.1 (x2.1*hN n) (x3.1*hN n) ((n - (1:Int) - x2.1 - x3.1)*hN n)).length=y.2.length∧True∧True∧True)∧(ptG nrm n).2=(ptG nrm n).2∧x3.2++lB nrm (ptG nrm n).2 (hN n) x1.1 (x2.1*hN n) (x3.1*hN n) ((n - (1:Int) - x2.1 - x3.1)*hN n)=y.2∧True else False else False else False else False else False else False else False else bif decide (rng IntKind.i64 (x2.1+(1:Int))) then ∃ y,BlY nrm n x1.1 y∧(bl6 nrm n x1.1).m y < (bl6 nrm n x1.1).m x2∧(n=n∧(0:Nat)=(0:Nat)∧x1.1=x1.1∧x1.1=x1.1∧x2.1+(1:Int)=y.1∧True)∧(n=n∧hN n=hN n∧(kM nrm n)∧True∧x3.2.length=y.2.length∧True∧True∧True)∧(ptG nrm n).2=(ptG nrm n).2∧x3.2=y.2∧True else False else False else bif decide (rng IntKind.i64 (x1.1+(1:Int))) then ∃ y,BlX nrm n y∧(bl3 nrm n).m y < (bl3 nrm n).m x1∧(n=n∧(0:Nat)=(0:Nat)∧x1.1+(1:Int)=y.1∧True)∧(n=n∧hN n=hN n∧(kM nrm n)∧True∧x2.2.length=y.2.length∧True∧True∧True)∧(ptG nrm n).2=(ptG nrm n).2∧x2.2=y.2∧True else False else AllR 3 x1.2 x1.2.length∧(∃ x_1,BlE (dD nrm n) x_1∧(n=n∧(0:Nat)=(0:Nat)∧x1.2.length=(dD nrm n).length∧(↑x1.2.length:Int)=(↑(dD nrm n).length:Int)∧(0:Int)=x_1.1∧True)∧(n=n∧hN n=hN n∧(kM nrm n)∧True∧x1.2.length=(dD nrm n).length∧(0:Nat)=x_1.2.length∧True∧True)∧(ptG nrm n).2=(ptG nrm n).2∧dE 3 cf3 x1.2=dD nrm n∧[]=x_1.2∧True)∧∀ (x4:Int × LL),BlE (dD nrm n) x4->bif decide (x4.1 < (↑(dD nrm n).length:Int)) then bif decide (0≤x4.1∧x4.1 < (↑(dD nrm n).length:Int)) then bif decide ((dD nrm n).length=(dD nrm n).length∧x4.1.toNat < (dD nrm n).length) then ∃ n_1 n_2 n_3,List.take [I6 n_1,I6 n_2,I6 n_3].length (List.drop 0 ((dD nrm n).getD x4.1.toNat []))=[I6 n_1,I6 n_2,I6 n_3]∧bif decide (x4.2.length=x4.2.length∧x4.2.length+[[I6 n_1,I6 n_2],[I6 n_1,I6 n_3],[I6 n_2,I6 n_3]].length≤(9223372036854775807:Nat)∧(x4.2.length+[[I6 n_1,I6 n_2],[I6 n_1,I6 n_3],[I6 n_2,I6 n_3]].length)*(16:Nat)≤(140737488355328:Nat)) then bif decide (rng IntKind.i64 (x4.1+(1:Int))) then ∃ y,BlE (dD nrm n) y∧((λ x4=>aU8 nrm n) 0).m y < ((λ x4=>aU8 nrm n) 0).m x4∧(n=n∧(0:Nat)=(0:Nat)∧(dD nrm n).length=(dD nrm n).length∧(↑(dD nrm n).length:Int)=(↑(dD nrm n).length:Int)∧x4.1+(1:Int)=y.1∧True)∧(n=n∧hN n=hN n∧(kM nrm n)∧True∧(dD nrm n).length=(dD nrm n).length∧(x4.2++[[I6 n_1,I6 n_2],[I6 n_1,I6 n_3],[I6 n_2,I6 n_3]]).length=y.2.length∧True∧True)∧(ptG nrm n).2=(ptG nrm n).2∧dD nrm n=dD nrm n∧x4.2++[[I6 n_1,I6 n_2],[I6 n_1,I6 n_3],[I6 n_2,I6 n_3]]=y.2∧True else False else False else False else False else AllR 2 x4.2 x4.2.length∧(x4.2.length=(dE 2 cf2 x4.2).length∧EdR (dE 2 cf2 x4.2)∧(cS (dE 2 cf2 x4.2)).length.succ.le (dE 2 cf2 x4.2).length)∧(n=n∧(0:Nat)=(0:Nat)∧True)∧(n=n∧hN n=hN n∧(kM nrm n)∧True∧((dD nrm n).length=(dD nrm n).length∧dD nrm n=dD nrm n)∧(True∧cS (dE 2 cf2 x4.2)=aT nrm n)∧True∧True)∧(ptG nrm n).2=(ptG nrm n).2∧True
theorem aT3:aDo:=by
 unfold aDo
 delta kM I6
 intro nrm vld n hP
 have n1:=hP.lo
 have n4:=hP.hi
 have hl:=hP.rg
 obtain ⟨h2,h8,hh⟩:=aXl n1 n4
 refine ⟨⟨n1,n4⟩,⟨(0,[]),⟨by decide,by decide,rfl,⟨by simp,by decide⟩,λ _=>rfl⟩,by repeat' first|exact trivial|exact rfl|assumption|apply And.intro⟩,?_⟩
 rintro ⟨f,cs⟩ ⟨fl,fh,fg,⟨fo,fs⟩,fn⟩
 simp only at fl fh fg fo fs fn
 refine csp (λ h=>⟨⟨(0,cs),⟨fl,h,Int.le_refl 0,by simp only; omega,(iM h).symm.trans fg,⟨fo,by simp only; omega⟩,λ _=>rfl⟩,by repeat' first|exact trivial|exact rfl|assumption|apply And.intro⟩,?_⟩) (λ h=>?_)
 ·clear fg fo fs fn
  rintro ⟨a,cs⟩ ⟨f0,f20,al,ah,ag,⟨ao,as_⟩,an⟩
  simp only at f0 f20 al ah ag ao as_ an
  refine csp (λ h=>⟨⟨(0,cs),⟨f0,f20,al,h,Int.le_refl 0,by simp only at h ⊢; omega,?_,⟨ao,by simp only; omega⟩,λ _=>rfl⟩,by repeat' first|exact trivial|exact rfl|assumption|apply And.intro⟩,?_⟩) (λ h=>?_)
  ·have e:clA nrm (ptG nrm n).2 n f a cs=clA nrm (ptG nrm n).2 n f (a+1) (clB nrm (ptG nrm n).2 n f a 0 cs):=iM (by simp only at h; omega)
   simp only
   rw [← e]; exact ag
  ·clear ag ao as_ an
   rintro ⟨b,cs⟩ ⟨_,_,a0,an,bl,bh,bg,⟨bo,bs⟩,bn⟩
   simp only at a0 an bl bh bg bo bs bn
   obtain ⟨m1,m2⟩:=aRU (x:=a) (h:=hN n) a0 (by omega) (by omega) h8
   obtain ⟨m3,m4⟩:=aRU (x:=b) (h:=hN n) bl (by omega) (by omega) h8
   refine cdI (by simp only; omega) (csp (λ h=>?_) (λ h=>?_))
   ·simp only at h
    have hd:∀ x:Int,0≤x->x≤n->0≤x*hN n∧x*hN n≤840:=λ x x0 xn=>⟨Int.mul_nonneg x0 (by omega),by rw [← hh]; exact Int.mul_le_mul_of_nonneg_right xn (by omega)⟩
    have d1:=hd a a0 (by omega)
    have d2:=hd b bl (by omega)
    have d3:=hd (n - 1 - a - b) (by omega) (by omega)
    have e:clB nrm (ptG nrm n).2 n f a b cs=clB nrm (ptG nrm n).2 n f a (b+1) (cs++lB nrm (ptG nrm n).2 (hN n) f (a*hN n) (b*hN n) ((n - 1 - a - b)*hN n)):=iM (by omega)
    rw [e] at bg
    obtain ⟨c1,c2,c3⟩:=aPm (nrm:=nrm) hl (hN n) f (a*hN n) (b*hN n) ((n - 1 - a - b)*hN n)
    refine cdI (by simp only; omega) (cdI (by simp only; omega) (cdI (by omega) (cdI (by simp only; omega) (cdI (by simp only; omega) (cdI (by simp only; omega) ⟨⟨⟨rfl,by simp only; omega⟩,⟨by omega,h8⟩,⟨f0,f20⟩,d1,d2,d3⟩,cdI (by simp only; omega) ⟨(b+1,cs++lB nrm (ptG nrm n).2 (hN n) f (a*hN n) (b*hN n) ((n - 1 - a - b)*hN n)),⟨f0,f20,a0,an,by simp only; omega,by simp only; omega,bg,⟨λ r hr=>?_,?_⟩,λ e=>?_⟩,by simp only [bl9]; omega,by repeat' first|exact trivial|exact rfl|assumption|apply And.intro⟩⟩)))))
    ·rcases List.mem_append.1 hr with hr | hr
     ·exact bo r hr
     ·exact c1 r hr
    ·simp only [aG]; omega
    ·have e:cs++lB nrm (ptG nrm n).2 (hN n) f (a*hN n) (b*hN n) ((n - 1 - a - b)*hN n)=[]:=e
     have:=congrArg List.length e
     simp only [List.length_nil] at this
     rw [aG] at this
     omega
   ·simp only at h
    have e:clB nrm (ptG nrm n).2 n f a b cs=cs:=iN (by omega)
    rw [e] at bg
    exact cdI (by simp only; omega) ⟨(a+1,cs),⟨f0,f20,by simp only; omega,by simp only; omega,bg,⟨bo,by simp only; omega⟩,λ e=>by have:=bn e; omega⟩,by simp only [bl6]; omega,by repeat' first|exact trivial|exact rfl|assumption|apply And.intro⟩
  ·simp only at h
   have e:clA nrm (ptG nrm n).2 n f a cs=cs:=iN (by omega)
   rw [e] at ag
   exact cdI (by simp only; omega) ⟨(f+1,cs),⟨by simp only; omega,by simp only; omega,ag,⟨ao,by simp only; omega⟩,λ e=>by have:=an e; omega⟩,by simp only [bl3]; omega,by repeat' first|exact trivial|exact rfl|assumption|apply And.intro⟩
 ·simp only at h
  have e:clF nrm (ptG nrm n).2 n f cs=cs:=iN (by omega)
  rw [e] at fg
  subst fg
  have hne:clG nrm n≠[]:=λ e=>by have:=fn e; omega
  have hpm:=bZ (cf:=cf3) aLu fo
  have hcl:(dD nrm n).length=(clG nrm n).length:=hpm.length_eq
  have hco:∀ r ∈ dD nrm n,okR 3 r=true:=λ r hr=>fo r (hpm.mem_iff.1 hr)
  refine ⟨⟨fo,hne,by simp only; omega,rfl⟩,⟨(0,[]),⟨Int.le_refl 0,by simp only; omega,rfl⟩,⟨⟨rfl,rfl,hcl.symm,by simp only; omega,rfl,trivial⟩,⟨rfl,rfl,⟨trivial,rfl⟩,trivial,hcl.symm,rfl,trivial,trivial⟩,rfl,rfl,rfl,trivial⟩⟩,?_⟩
  rintro ⟨i,es⟩ ⟨il,ih,ie⟩
  simp only at il ih ie
  refine csp (λ h=>?_) (λ h=>?_)
  ·simp only at h
   have hi:i.toNat < (dD nrm n).length:=by omega
   obtain ⟨p,q,t,hr⟩:∃ p q t,(dD nrm n).getD i.toNat []=[.int .i64 p,.int .i64 q,.int .i64 t]:=⟨_,_,_,(ok3 (hco _ (by rw [gD hi]; exact List.getElem_mem hi):okR 3 ((dD nrm n).getD i.toNat [])=true)).1⟩
   have el:es.length≤3000:=by rw [ie,aBC,List.length_take]; omega
   refine cd1 (by simp only; omega) (cd1 ⟨rfl,hi⟩ ⟨p,q,t,by rw [hr]; rfl,cd1 ⟨rfl,by simp only [List.length_cons,List.length_nil]; omega,by simp only [List.length_cons,List.length_nil]; omega⟩ (cdI (by simp only; omega) ⟨(i+1,es++[[.int .i64 p,.int .i64 q],[.int .i64 p,.int .i64 t],[.int .i64 q,.int .i64 t]]),⟨by simp only; omega,by simp only; omega,?_⟩,by simp only [aU8]; omega,by repeat' first|exact trivial|exact rfl|assumption|apply And.intro⟩)⟩)
   simp only
   rw [show (i+1).toNat=i.toNat+1 by omega,aES hi,ie,hr]
   simp only [edL,List.flatMap_append,List.flatMap_cons,List.flatMap_nil,List.append_nil]
   rfl
  ·simp only at h
   have hi:i.toNat=(dD nrm n).length:=by omega
   rw [hi,List.take_length] at ie
   subst ie
   have heo:=aTz hco
   have hel:=aBC (dD nrm n)
   have hpe:=bZ (cf:=cf2) aI0 heo
   have hsl:(dE 2 cf2 (edL (dD nrm n))).length=(edL (dD nrm n)).length:=hpe.length_eq
   have hen:edL (dD nrm n)≠[]:=λ e=>by
    rw [e] at hel
    have h0:(clG nrm n).length=0:=by simp only [List.length_nil] at hel; omega
    exact hne (List.eq_nil_of_length_eq_zero h0)
   refine ⟨⟨heo,hen,by simp only; omega,rfl⟩,⟨hsl.symm,⟨λ j hj=>?_,by simp only; omega⟩,hP.dup⟩,?_⟩
   ·have:=ok2 (heo _ (hpe.mem_iff.1 (by rw [gD hj]; exact List.getElem_mem hj)):okR 2 ((dE 2 cf2 (edL (dD nrm n))).getD j [])=true)
    exact ⟨_,_,this.1⟩
   ·(repeat' (first | exact trivial | exact rfl | assumption | apply And.intro))
def aIg:Prop:=∀ (nrm:NrT) (vld:Int->Int->Int->Int->Bool) (n:Int),BldP nrm n->zS Tryz.prog { glob:=glb,spec:=lk [],specH:=lk [(37,aGg nrm vld),(85,vJ nrm vld),(86,aEX),(90,aEW),(92,vI)],nowf:=true,shape:=[71] } { nt:=180,drop:=drp [(1,24576),(4,131072),(6,786432),(7,6291456),(9,125829120),(10,805306368),(11,72057592964186112),(12,144115188075855872),(13,4323455642275676160),(14,64563604257983430656),(16,3541774862152233910272),(17,79228157791897854723898736640),(18,79228162514264337593543950336),(19,2376844875427930127806318510080),(20,1293003612232793989526637269483520),(21,663315923677824229544770906057867264),(22,4652297985247205555163324710981206016),(24,255211775190703847597530955573826158592),(25,178405621305878064193822282806579460279631872),(26,93535926383216198520050697008095932071087634907136),(27,93536104789177786765035829293842113257979682750464),(28,1309505467048489014710501610113789585611715558506496),(30,71835728478088540235547516897670742982128396352356352),(31,95780971304118053647396689196894323976171195136475136),(32,383123885216472214589586756787577295904684780545900544),(33,766247770432944429179173513575154591809369561091801088)],fr:=1000,kp:=[],emp:=λ id=>cond (Nat.beq id 2) [(1101404,1600,162,3)] (cond (Nat.beq id 14) [(1101405,1700,143,2)] []),frz:=λ id=>cond (Nat.beq id 19) [1001600] [] } (λ id st=>cond (Nat.beq id 3) (some (bl3 nrm n)) (aPV 9 4 5 (bl9 nrm n) id st (yN [(6,4,bl6 nrm n),(15,68,λ _=>aU8 nrm n)] id st))) 6 (aRp 7 (aT0 Tryz.f43)) ⟨[(0,.int .i64 n)],[]⟩ (λ st=>leS st (aX1 nrm n))
theorem aT2:aDo=aIg:=by kernel_rfl
theorem aX2:aIg:=@Eq.mp (aDo) (aIg) (aT2) (aT3)
open Go.RowKit (Below)
def gK (k:Nat):Bool:=Nat.blt k 3000&&!(Nat.beq k 1002)
theorem aG2 {k:Nat} (h:gK k=true):k < 3000∧k≠1002:=by
 simp only [gK,aC,Bool.not_eq_true'] at h
 refine ⟨aK h.1,λ e=>?_⟩
 subst e; exact absurd h.2 (by decide)
mutual
def gA:AV->Bool
 | .agg cs=>gL cs
 | .tup cs=>gL cs
 | .fn _ cs=>gL cs
 | .ptr j _=>gK j
 | .acc j _ _=>gK j
 | .ms j _ _ _ _=>gK j
 | .rw j _ _=>gK j
 | .mw j _ _ _ _ _=>gK j
 | .prw j _ _ _ _=>gK j
 | .frz j _ _ _=>gK j
 | .mpv j=>gK j
 | _=>true
def gL:List AV->Bool
 | []=>true
 | x::xs=>gA x&&gL xs
end
theorem gN {j k:Nat} (h:gK j=true) (hk:(!(Nat.beq j k))=false):gK k=true:=by
 simp only [Bool.not_eq_false'] at hk
 rw [← aA hk]; exact h
mutual
theorem aOq {k:Nat}:∀ (x:AV),gA x=true->nn k x=false->gK k=true
 | .agg cs,h,e=>aG1 cs (by simpa only [gA] using h) (by simpa only [nn] using e)
 | .tup cs,h,e=>aG1 cs (by simpa only [gA] using h) (by simpa only [nn] using e)
 | .fn _ cs,h,e=>aG1 cs (by simpa only [gA] using h) (by simpa only [nn] using e)
 | .ptr j _,h,e=>gN (by simpa only [gA] using h) (by simpa only [nn] using e)
 | .acc j _ _,h,e=>gN (by simpa only [gA] using h) (by simpa only [nn] using e)
 | .ms j _ _ _ _,h,e=>gN (by simpa only [gA] using h) (by simpa only [nn] using e)
 | .rw j _ _,h,e=>gN (by simpa only [gA] using h) (by simpa only [nn] using e)
 | .mw j _ _ _ _ _,h,e=>gN (by simpa only [gA] using h) (by simpa only [nn] using e)
 | .prw j _ _ _ _,h,e=>gN (by simpa only [gA] using h) (by simpa only [nn] using e)
 | .frz j _ _ _,h,e=>gN (by simpa only [gA] using h) (by simpa only [nn] using e)
 | .mpv j,h,e=>gN (by simpa only [gA] using h) (by simpa only [nn] using e)
 | .int _ _,_,e=>by simp [nn] at e
 | .bool _,_,e=>by simp [nn] at e
 | .str _,_,e=>by simp [nn] at e
 | .sl _ _ _,_,e=>by simp [nn] at e
 | .nils,_,e=>by simp [nn] at e
 | .ro _,_,e=>by simp [nn] at e
 | .nilp,_,e=>by simp [nn] at e
 | .undef,_,e=>by simp [nn] at e
 | .dead,_,e=>by simp [nn] at e
theorem aG1 {k:Nat}:∀ (l:List AV),gL l=true->nnl k l=false->gK k=true
 | [],_,e=>by simp [nnl] at e
 | x::l,h,e=>by
  simp only [gL,aC] at h
  simp only [nnl,Bool.and_eq_false_iff] at e
  rcases e with e | e
  ·exact aOq x h.1 e
  ·exact aG1 l h.2 e
end
def gB:Blk->Bool
 | .cells cs=>gL cs
 | .row e _ _=>Nat.blt e 2000000
 | .nrow _ _ _ _=>false
 | _=>true
theorem aWG {b:Blk} {cs:List AV} (h:gB b=true) (hi:aIY b cs) {k:Nat} (e:nnl k cs=false):gK k=true:=by
 cases b with
 | cells ds=>have hi:ds=cs:=hi; subst hi; exact aG1 _ h e
 | row e0 s xs=>have:e0 < 2000000:=aK h; have:=hi.1; omega
 | nrow e0 s ks xs=>cases h
 | tok e s n=>exact hi.elim
 | mp kt et l=>exact hi.elim
 | gone=>exact hi.elim
def gT:List (Nat × AV)->Bool
 | []=>true
 | (_,x)::l=>gA x&&gT l
def gH:List (Nat × Blk)->Bool
 | []=>true
 | (k,b)::l=>gK k&&!(Nat.beq k 1116)&&gB b&&gH l
theorem aLW:∀ {l:List (Nat × AV)} {t:Nat} {x:AV},gT l=true->lk l t=some x->gA x=true
 | [],t,x,_,e=>by simp [lk] at e
 | (j,y)::l,t,x,h,e=>by
  simp only [gT,aC] at h
  simp only [lk] at e
  cases hj:Nat.beq j t with
  | true=>rw [hj] at e; simp only [cond_true,aJ] at e; subst e; exact h.1
  | false=>rw [hj] at e; exact aLW h.2 e
theorem eT:∀ {l:List (Nat × Blk)} {k:Nat} {b:Blk},gH l=true->lk l k=some b->k < 3000∧k≠1002∧k≠1116∧gB b=true
 | [],t,x,_,e=>by simp [lk] at e
 | (j,y)::l,t,x,h,e=>by
  simp only [gH,aC,Bool.not_eq_true'] at h
  simp only [lk] at e
  cases hj:Nat.beq j t with
  | true =>
   rw [hj] at e; simp only [cond_true,aJ] at e; subst e
   have:=aA hj
   subst this
   exact ⟨(aG2 h.1.1.1).1,(aG2 h.1.1.1).2,λ e=>by subst e; exact absurd h.1.1.2 (by decide),h.1.2⟩
  | false=>rw [hj] at e; exact eT h.2 e
theorem aWM {S:Pin} {x:AV} {m m':Nm} {v:Value} (hg:gA x=true) (hm:∀ k,k < 3000->k≠1002->m' k=m k) (h:CV S x m v):CV S x m' v :=
 CV.mono (Ext.refl S) x m m' v (λ k u hk e=>⟨u,by rw [hm k (aG2 (aOq x hg hk)).1 (aG2 (aOq x hg hk)).2]; exact e,.refl u⟩) h
theorem aCZ {S:Pin} {sl:List (Nat × AV)} {H H':List (Nat × Blk)} {m m':Nm} (hg:gT sl=true) (hm:∀ k,k < 3000->k≠1002->m' k=m k) {t:Nat} {v:Value} (h:CV S (St.get ⟨sl,H⟩ t) m v):CV S (St.get ⟨sl,H'⟩ t) m' v:=by
 unfold St.get at h ⊢
 simp only at h ⊢
 cases e:lk sl t with
 | none=>simp only [CV]
 | some x=>rw [e] at h; exact aWM (aLW hg e) hm h
theorem aBg {S:Pin} {b:Blk} {m m':Nm} {w:World} {k:Nat} (hg:gB b=true) (hk:k < 3000) (hk':k≠1002) (hm:∀ k,k < 3000->k≠1002->m' k=m k) (h:fN S m w k b):fN S m' w k b :=
 h.keep (Ext.refl S) (λ cs vs hi hv=>CVl.mono (Ext.refl S) cs m m' vs (λ j u hj e=>⟨u,by have:=aG2 (aWG hg hi hj); rw [hm j this.1 this.2]; exact e,.refl u⟩) hv) (hm k hk hk') (λ _ _ _ _=>⟨rfl,λ _=>rfl⟩)
theorem fH {α:Type} (b:List (Nat × α)) (k:Nat):∀ (a:List (Nat × α)),lk (a++b) k=match lk a k with | some x=>some x | none=>lk b k
 | []=>rfl
 | (j,x)::a=>by
  simp only [List.cons_append,lk]
  cases Nat.beq j k with
  | true=>rfl
  | false=>exact fH b k a
def aIi:Nat->List (LL)->LL
 | _,[]=>[]
 | j,ys::l=>[.rw j 1 ys.length]::aIi (j+1) l
def aT4 (e:Nat):Nat->List (LL)->List (Nat × Blk)
 | _,[]=>[]
 | j,ys::l=>(j,.row e 1 ys)::aT4 e (j+1) l
theorem mF:∀ (l:List (LL)) (i j:Nat),(aIi i l)[j]?=(l[j]?).map λ ys=>[AV.rw (i+j) 1 ys.length]
 | [],i,j=>by simp [aIi]
 | ys::l,i,0=>by simp [aIi]
 | ys::l,i,j+1=>by
  simp only [aIi,List.getElem?_cons_succ]
  rw [mF l (i+1) j,show i+1+j=i+(j+1) by omega]
theorem kB:∀ (l:List (LL)) (i:Nat),(aIi i l).length=l.length
 | [],i=>rfl
 | ys::l,i=>by simp only [aIi,List.length_cons,kB l (i+1)]
theorem aBO (e:Nat):∀ (l:List (LL)) (i k:Nat),lk (aT4 e i l) k=if i≤k then (l[k - i]?).map (Blk.row e 1) else none
 | [],i,k=>by simp [aT4,lk]
 | b::l,i,k=>by
  simp only [aT4,lk]
  rw [aBO e l _ k]
  by_cases h:i=k
  ·subst h; rw [aY]; simp
  ·rw [nbeq_ne h]
   simp only [cond_false]
   by_cases h1:i≤k
   ·rw [if_pos (by omega),if_pos h1,show k - i=(k - (i+1))+1 by omega]; simp
   ·rw [if_neg (by omega),if_neg h1]
abbrev sG:Nat:=22
abbrev aJo:Nat:=3
def aBP (X:List (Nat × Blk)) (xss:List (LL)):List (Nat × Blk):=X++(1116,.row (sG+2000000) 1 (aIi 3000 xss))::aT4 aJo 3000 xss
def kpJ:List Nat:=1002::eO 4000 200
def bV (X:List (Nat × Blk)) (els:LL) (ys:LL):List (Nat × Blk):=X++[(1116,.nrow sG 1 kpJ els),(1002,.row aJo 1 ys)]
theorem aIh {X:List (Nat × Blk)} {xss:List (LL)} {k:Nat} {b:Blk} (h:lk X k=some b):lk (aBP X xss) k=some b:=by
 simp only [aBP,fH,h]
theorem rI {X:List (Nat × Blk)} (hX:gH X=true) (xss:List (LL)):lk (aBP X xss) 1116=some (.row (sG+2000000) 1 (aIi 3000 xss)):=by
 simp only [aBP,fH]
 cases e:lk X 1116 with
 | some b=>exact absurd rfl (eT hX e).2.2.1
 | none=>simp only [lk,aY,cond_true]
theorem gE {X:List (Nat × Blk)} (hX:gH X=true) {xss:List (LL)} {j:Nat} {ys:LL} (h:xss[j]?=some ys):lk (aBP X xss) (3000+j)=some (.row aJo 1 ys):=by
 simp only [aBP,fH]
 cases e:lk X (3000+j) with
 | some b=>have:=(eT hX e).1; omega
 | none =>
  simp only [lk]
  rw [nbeq_ne (by omega:1116≠3000+j),aBO,if_pos (by omega),show 3000+j - 3000=j by omega,h]
  rfl
theorem mE {X:List (Nat × Blk)} {xss:List (LL)} {k:Nat} {b:Blk} (h:lk (aBP X xss) k=some b):lk X k=some b∨(k=1116∧b=.row (sG+2000000) 1 (aIi 3000 xss))∨∃ j ys,k=3000+j∧xss[j]?=some ys∧b=.row aJo 1 ys:=by
 simp only [aBP,fH] at h
 cases e:lk X k with
 | some c=>rw [e] at h; exact .inl h
 | none =>
  rw [e] at h
  simp only [lk] at h
  by_cases h1:1116=k
  ·subst h1
   rw [aY] at h
   simp only [cond_true,aJ] at h
   exact .inr (.inl ⟨rfl,h.symm⟩)
  ·rw [nbeq_ne h1,aBO] at h
   simp only [cond_false] at h
   by_cases h2:3000≤k
   ·rw [if_pos h2] at h
    cases e2:xss[k - 3000]? with
    | none=>rw [e2] at h; cases h
    | some ys=>rw [e2] at h; simp only [Option.map_some,aJ] at h; exact .inr (.inr ⟨k - 3000,ys,by omega,e2,h.symm⟩)
   ·rw [if_neg h2] at h; cases h
theorem aE2 {X:List (Nat × Blk)} {els ys:LL} {k:Nat} {b:Blk} (h:lk X k=some b):lk (bV X els ys) k=some b:=by
 simp only [bV,fH,h]
theorem xP {X:List (Nat × Blk)} (hX:gH X=true) (els ys:LL):lk (bV X els ys) 1116=some (.nrow sG 1 kpJ els):=by
 simp only [bV,fH]
 cases e:lk X 1116 with
 | some b=>exact absurd rfl (eT hX e).2.2.1
 | none=>simp only [lk,aY,cond_true]
theorem xQ {X:List (Nat × Blk)} (hX:gH X=true) (els ys:LL):lk (bV X els ys) 1002=some (.row aJo 1 ys):=by
 simp only [bV,fH]
 cases e:lk X 1002 with
 | some b=>exact absurd rfl (eT hX e).2.1
 | none=>simp only [lk,nbeq_ne (by omega:1116≠1002),aY,cond_true,cond_false]
theorem fB {X:List (Nat × Blk)} {els ys:LL} {k:Nat} {b:Blk} (h:lk (bV X els ys) k=some b):lk X k=some b∨(k=1116∧b=.nrow sG 1 kpJ els)∨(k=1002∧b=.row aJo 1 ys):=by
 simp only [bV,fH] at h
 cases e:lk X k with
 | some c=>rw [e] at h; exact .inl h
 | none =>
  rw [e] at h
  simp only [lk] at h
  by_cases h1:1116=k
  ·subst h1
   rw [aY] at h
   simp only [cond_true,aJ] at h
   exact .inr (.inl ⟨rfl,h.symm⟩)
  ·rw [nbeq_ne h1] at h
   simp only [cond_false] at h
   by_cases h2:1002=k
   ·subst h2
    rw [aY] at h
    simp only [cond_true,aJ] at h
    exact .inr (.inr ⟨rfl,h.symm⟩)
   ·rw [nbeq_ne h2] at h; cases h
structure JS (G:Gh) (sl:List (Nat × AV)) (X:List (Nat × Blk)) (xss:List (LL)) (a:Act) (w:World) (S:Pin) (m:Nm):Prop where
 rel:Rel G [] ⟨sl,aBP X xss⟩ a w S m
 nil:∀ j,xss[j]?=some []->m (3000+j)=some (.iface 0 (.slice none 0 0))
 gs:gT sl=true
 gh:gH X=true
theorem iO:¬ sG+2000000 < 2000000:=by omega
theorem uC:aJo < 2000000:=by decide
section
variable {G:Gh} {sl:List (Nat × AV)} {X:List (Nat × Blk)} {xss:List (LL)} {a:Act} {w:World} {S:Pin} {m:Nm}
theorem JS.row (h:JS G sl X xss a w S m) {j:Nat} {ys:LL} (hj:xss[j]?=some ys):kZ S m w (3000+j) aJo 1 ys:=h.rel.held _ _ (gE h.gh hj)
theorem aGR (N:Nat) (hR:Rel G [] ⟨sl,X++[(1116,.row sG 1 (List.replicate N [.nils]))]⟩ a w S m) (hs:gT sl=true) (hX:gH X=true):∃ m',JS G sl X (List.replicate N []) a w S m':=by
 let m2:Nm:=λ k=>if 3000≤k then some (.iface 0 (.slice none 0 0)) else m k
 have hm:∀ k,k < 3000->m2 k=m k:=λ k hk=>if_neg (by omega)
 have hmg:∀ k,3000≤k->m2 k=some (.iface 0 (.slice none 0 0)):=λ k hk=>if_pos hk
 have hx:∀ {k b},lk X k=some b->lk (X++[(1116,.row sG 1 (List.replicate N [AV.nils]))]) k=some b:=λ h=>by simp only [fH,h]
 have ho:lk (X++[(1116,.row sG 1 (List.replicate N [AV.nils]))]) 1116=some (.row sG 1 (List.replicate N [AV.nils])):=by
  simp only [fH]
  cases e:lk X 1116 with
  | some b=>exact absurd rfl (eT hX e).2.2.1
  | none=>simp only [lk,aY,cond_true]
 have hbk:∀ {k b},lk (aBP X (List.replicate N [])) k=some b->k < 3000->∃ b0,lk (X++[(1116,.row sG 1 (List.replicate N [AV.nils]))]) k=some b0:=λ h hk=>by
  rcases mE h with h | ⟨rfl,_⟩ | ⟨j,ys,rfl,_⟩
  ·exact ⟨_,hx h⟩
  ·exact ⟨_,ho⟩
  ·omega
 have nil2:∀ {k u g},3000≤k->m2 k=some u->bk u=some g->False:=λ hk hu hg=>by
  rw [hmg _ hk] at hu
  injection hu with hu
  subst hu; cases hg
 refine ⟨m2,⟨{ hR with defers:=hR.defers,tmps:=λ t=>aCZ hs (λ k hk _=>hm k hk) (hR.tmps t),held:=?_,inj:=?_,own:=?_,m0:=λ k u e=>absurd (hR.keep k u e) (by simp) },λ j hj=>hmg _ (by omega),hs,hX⟩⟩
 ·intro k b hk
  rcases mE hk with hk | ⟨rfl,rfl⟩ | ⟨j,ys,rfl,hj,rfl⟩
  ·have:=eT hX hk
   exact aBg this.2.2.2 this.1 this.2.1 (λ k hk _=>hm k hk) (hR.held _ _ (hx hk))
  ·obtain ⟨A,c,h1,h2,h3,h4⟩:=hR.held _ _ ho
   rw [List.length_replicate] at h1 h2
   refine ⟨A,c,by rw [hm _ (by omega),h1,kB,List.length_replicate],by rw [kB,List.length_replicate]; exact h2,h3,?_⟩
   rcases h4 with h4 | ⟨g,cur,fr,rfl,h7,hfr,h8,h9,h10⟩
   ·exact .inl h4
   ·refine .inr ⟨g,cur,fr,rfl,h7,.inl (hfr.lt (by decide)),h8,h9,λ j x hj=>?_⟩
    rw [mF,List.getElem?_replicate] at hj
    by_cases hjN:j < N
    ·rw [if_pos hjN] at hj
     simp only [Option.map_some,aJ,List.length_nil] at hj
     subst hj
     obtain ⟨q1,q2⟩:=h10 j [AV.nils] (by rw [List.getElem?_replicate,if_pos hjN])
     refine ⟨rfl,λ i y hi=>?_⟩
     cases i with
     | succ i=>simp at hi
     | zero =>
      simp at hi; subst hi
      obtain ⟨v,hv,ho,hy⟩:=q2 0 _ rfl
      refine ⟨v,hv,ho,?_⟩
      rw [bP iO]
      simp only [CV] at hy ⊢
      subst hy
      exact ⟨⟨none,0,rfl,Nat.le_refl _,by decide,λ _=>rfl,λ a ha=>by cases ha⟩,none,0,0,hmg _ (by omega),Nat.le_refl _,λ _=>rfl⟩
    ·rw [if_neg hjN] at hj; cases hj
  ·rw [List.getElem?_replicate] at hj
   split at hj
   ·injection hj with hj
    subst hj
    exact ⟨none,0,hmg _ (by omega),Nat.le_refl _,by decide,.inl ⟨rfl,rfl⟩⟩
   ·cases hj
 ·intro k k' b b' u u' g hk hk' hne hu hu' hg hg'
  by_cases h1:3000≤k
  ·exact nil2 h1 hu hg
  ·by_cases h2:3000≤k'
   ·exact nil2 h2 hu' hg'
   ·rw [hm _ (by omega)] at hu hu'
    obtain ⟨c,hc⟩:=hbk hk (by omega)
    obtain ⟨c',hc'⟩:=hbk hk' (by omega)
    exact hR.inj k k' c c' u u' g hc hc' hne hu hu' hg hg'
 ·intro k b u g hk hu hg
  by_cases h1:3000≤k
  ·exact (nil2 h1 hu hg).elim
  ·rw [hm _ (by omega)] at hu
   obtain ⟨c,hc⟩:=hbk hk (by omega)
   exact hR.own k c u g hc hu hg
def phA (m:Nm) (j:Nat):List AV:=match m (3000+j) with
 | some (.iface 0 (.slice (some _) n c))=>[.ms (4000+j) 0 n c 1]
 | _=>[.nils]
def phM (m:Nm) (j:Nat):Option Value:=match m (3000+j) with
 | some (.iface 0 (.slice (some a) _ _))=>some (.pointer (some ⟨a.block,0,none⟩))
 | _=>none
def elJ (m:Nm) (A n:Nat) (j:Nat):List AV:=if j=A then [.rw 1002 1 n] else phA m j
def m1J (m:Nm) (A N:Nat):Nm:=λ k=>if k=1002 then m (3000+A) else if 4000≤k then (if k - 4000 < N∧k - 4000≠A then phM m (k - 4000) else none) else if k < 3000 then m k else none
def m0J (m:Nm) (A N:Nat):Nm:=λ k=>if k=1002∨4000≤k then m1J m A N k else none
def phi (A k:Nat):Nat:=if k=1002 then 3000+A else k
theorem aRr {m:Nm} {j k:Nat} {y:AV} {i:Nat} (h:(phA m j)[i]?=some y) (hk:nn k y=false):k=4000+j:=by
 unfold phA at h
 split at h
 ·cases i with
  | zero=>simp at h; subst h; simp only [nn,Bool.not_eq_false'] at hk; exact (aA hk).symm
  | succ i=>simp at h
 ·cases i with
  | zero=>simp at h; subst h; simp [nn] at hk
  | succ i=>simp at h
theorem aFE (m:Nm) (j:Nat):(phA m j).length=1:=by unfold phA; split <;> rfl
theorem yD:∀ (n i k:Nat),i≤k->k < i+n->inL k (eO i n)=true
 | 0,i,k,h1,h2=>by omega
 | n+1,i,k,h1,h2=>by
  simp only [eO,inL]
  by_cases h:i=k
  ·subst h; rw [aY]; rfl
  ·rw [yD n (Nat.succ i) k (by simp only [Nat.succ_eq_add_one]; omega) (by simp only [Nat.succ_eq_add_one]; omega),Bool.or_true]
theorem aGO {k:Nat} (h:k=1002∨(4000≤k∧k < 4200)):inL k kpJ=true:=by
 rcases h with rfl | ⟨h1,h2⟩
 ·simp only [kpJ,inL,aY,Bool.true_or]
 ·simp only [kpJ,inL]
  rw [yD 200 4000 k h1 h2,Bool.or_true]
theorem aGN {k:Nat} (h:k=1002∨(4000≤k∧k < 4200)):k ∈ kpJ:=mW (aGO h)
theorem aSx (h:JS G sl X xss a w S m) (hN:xss.length≤200) {A:Nat} {ys:LL} (hA:xss[A]?=some ys) :
  ∃ (els:LL) (m1 m0:Nm) (M1:Nat->Prop),els.length=xss.length∧els[A]?=some [.rw 1002 1 ys.length] ∧
   Rel ⟨w,S,m0,M1⟩ kpJ ⟨sl,bV X els ys⟩ a w S m1 ∧
   ∀ (sl':List (Nat × AV)) (X':List (Nat × Blk)) (ys' els':LL) (a':Act) (w':World) (S':Pin) (m':Nm),gT sl'=true->gH X'=true->(ys'=[]->ys=[])->els'.length=els.length->els'[A]?=some [.rw 1002 1 ys'.length]->(∀ j,j≠A->els'[j]?=els[j]?) ->
    Rel ⟨w,S,m0,M1⟩ kpJ ⟨sl',bV X' els' ys'⟩ a' w' S' m'->∃ m2,JS G sl' X' (xss.set A ys') a' w' S' m2:=by
 have hR:=h.rel
 have hAN:A < xss.length:=(aF.1 hA).1
 let els:LL:=(List.range xss.length).map (elJ m A ys.length)
 have hel:∀ j,els[j]?=if j < xss.length then some (elJ m A ys.length j) else none:=λ j=>by
  show ((List.range xss.length).map (elJ m A ys.length))[j]?=_
  rw [List.getElem?_map]
  by_cases hj:j < xss.length
  ·rw [if_pos hj,List.getElem?_range hj]; rfl
  ·rw [if_neg hj,List.getElem?_eq_none (by simpa using hj)]; rfl
 have hln:els.length=xss.length:=by show ((List.range xss.length).map _).length=_; simp
 let m1:Nm:=m1J m A xss.length
 let m0:Nm:=m0J m A xss.length
 let M1:Nat->Prop:=λ g=>∃ k b u,lk (bV X els ys) k=some b∧m1 k=some u∧bk u=some g
 have hm:∀ k,k < 3000->k≠1002->m1 k=m k:=λ k h1 h2=>by
  show (if k=1002 then _ else if 4000≤k then _ else if k < 3000 then m k else none)=_
  rw [if_neg h2,if_neg (by omega),if_pos h1]
 have hm2:m1 1002=m (3000+A):=if_pos rfl
 have hm4:∀ j,j < xss.length->j≠A->m1 (4000+j)=phM m j:=λ j h1 h2=>by
  show (if 4000+j=1002 then _ else if 4000≤4000+j then (if 4000+j - 4000 < xss.length∧4000+j - 4000≠A then phM m (4000+j - 4000) else none) else _)=_
  rw [if_neg (by omega),if_pos (by omega),show 4000+j - 4000=j by omega,if_pos ⟨h1,h2⟩]
 have hphi:∀ {k b},lk (bV X els ys) k=some b->m1 k=m (phi A k)∧∃ b0,lk (aBP X xss) (phi A k)=some b0:=λ {k b} hk=>by
  rcases fB hk with hk | ⟨rfl,_⟩ | ⟨rfl,_⟩
  ·have:=eT h.gh hk
   unfold phi
   rw [if_neg this.2.1]
   exact ⟨hm k this.1 this.2.1,_,aIh hk⟩
  ·exact ⟨hm _ (by omega) (by omega),_,rI h.gh xss⟩
  ·exact ⟨hm2,_,gE h.gh hA⟩
 have hphx:∀ {k b},lk (bV X els ys) k=some b->∀ j,j≠A->phi A k≠3000+j:=λ {k b} hk j hj=>by
  rcases fB hk with hk | ⟨rfl,_⟩ | ⟨rfl,_⟩
  ·have:=eT h.gh hk
   unfold phi
   rw [if_neg this.2.1]; omega
  ·unfold phi; rw [if_neg (by omega)]; omega
  ·unfold phi; rw [if_pos rfl]; omega
 have hM1:∀ {g},M1 g->G.w0.heap.size≤g∨G.M g:=λ {g} ⟨k,b,u,h1,h2,h3⟩=>by
  obtain ⟨e,b0,hb0⟩:=hphi h1
  rw [e] at h2
  exact hR.own _ b0 u g hb0 h2 h3
 have hM1j:∀ {g},M1 g->∀ {j y u},j≠A->xss[j]?=some y->m (3000+j)=some u->bk u=some g->False:=λ {g} ⟨k,b,u,h1,h2,h3⟩ {j y u'} hj hy hu hg=>by
  obtain ⟨e,b0,hb0⟩:=hphi h1
  rw [e] at h2
  exact hR.inj _ _ _ _ u u' g hb0 (gE h.gh hy) (hphx h1 j hj) h2 hu h3 hg
 refine ⟨els,m1,m0,M1,hln,by rw [hel,if_pos hAN]; simp only [elJ,if_true],?_,?_⟩
 ·refine { defers:=hR.defers,pin0:=Ext.refl S,pinNew:=λ _ _ _ _=>rfl,agree:=hR.agree,tmps:=λ t=>aCZ h.gs hm (hR.tmps t),held:=?_,inj:=?_,own:=λ k b u g hk hu hg=>.inr ⟨k,b,u,hk,hu,hg⟩,os:=rfl,tape:=rfl,output:=rfl,size:=Nat.le_refl _,frame:=λ _ _ _=>rfl,m0:=?_,keep:=?_ }
  ·intro k b hk
   rcases fB hk with hk | ⟨rfl,rfl⟩ | ⟨rfl,rfl⟩
   ·have:=eT h.gh hk
    exact aBg this.2.2.2 this.1 this.2.1 hm (hR.held _ _ (aIh hk))
   ·obtain ⟨B,c,h1,h2,h3,h4⟩:=hR.held _ _ (rI h.gh xss)
    rw [kB] at h1 h2
    refine ⟨⟨B,c,by rw [hm _ (by omega) (by omega),h1,hln],by rw [hln]; exact h2,h3,?_⟩,?_⟩
    ·rcases h4 with h4 | ⟨g,cur,fr,rfl,h7,hfr,h8,h9,h10⟩
     ·exact .inl h4
     ·refine .inr ⟨g,cur,fr,rfl,h7,hfr,h8,h9,λ j x hj=>?_⟩
      rw [hel] at hj
      by_cases hjN:j < xss.length
      ·rw [if_pos hjN] at hj
       injection hj with hj
       subst hj
       have hy:xss[j]?=some xss[j]:=aD hjN
       obtain ⟨q1,q2⟩:=h10 j _ (by rw [mF,hy]; rfl)
       obtain ⟨v,hv,ho,hc⟩:=q2 0 _ rfl
       rw [bP iO] at hc
       by_cases hjA:j=A
       ·subst hjA
        rw [hA] at hy
        injection hy with hy
        refine ⟨by simp [elJ],λ i y hi=>?_⟩
        rw [elJ,if_pos rfl] at hi
        cases i with
        | succ i=>simp at hi
        | zero =>
         simp at hi; subst hi
         refine ⟨v,hv,ho,?_⟩
         rw [bP iO]
         simp only [CV] at hc ⊢
         rw [hm2,hy]; exact hc
       ·obtain ⟨C,d,r1,r2,r3,r4⟩:=h.row hy
        simp only [CV] at hc
        obtain ⟨_,A1,q,c1,e1,e2,e3⟩:=hc
        rw [r1] at e1
        injection e1 with e1
        injection e1 with _ e1
        injection e1 with e1 e4 e5
        subst e1; subst e4; subst e5
        have hv2:=e3 rfl
        refine ⟨by rw [elJ,if_neg hjA]; exact aFE m j,λ i y hi=>?_⟩
        rw [elJ,if_neg hjA] at hi
        refine ⟨v,?_,ho,?_⟩
        ·cases i with
         | zero=>exact hv
         | succ i=>have:=(aF.1 hi).1; rw [aFE] at this; omega
        ·rw [bP iO]
         rcases r4 with ⟨rfl,rfl⟩ | ⟨g',cur',fr',rfl,_⟩
         ·unfold phA at hi
          rw [r1] at hi
          simp only at hi
          cases i with
          | succ i=>simp at hi
          | zero =>
           simp at hi; subst hi
           simp only [CV]
           rw [hv2,Nat.le_zero.1 r2]
         ·unfold phA at hi
          rw [r1] at hi
          simp only at hi
          cases i with
          | succ i=>simp at hi
          | zero =>
           simp at hi; subst hi
           simp only [CV]
           refine ⟨g',0,?_,hv2,λ _=>rfl,r2,r3⟩
           rw [hm4 j hjN hjA,phM,r1]
           rfl
      ·rw [if_neg hjN] at hj; cases hj
    ·intro j i x y hj hi k hk
     rw [hel] at hj
     split at hj
     ·rename_i hjN
      injection hj with hj
      subst hj
      unfold elJ at hi
      split at hi
      ·cases i with
       | zero =>
        simp at hi; subst hi
        simp only [nn,Bool.not_eq_false'] at hk
        exact aGO (.inl (aA hk).symm)
       | succ i=>simp at hi
      ·exact aGO (.inr (by have:=aRr hi hk; omega))
     ·cases hj
   ·obtain ⟨B,c,h1,h2,h3,h4⟩:=h.row hA
    refine ⟨B,c,hm2.trans h1,h2,h3,?_⟩
    rcases h4 with h4 | ⟨g,cur,fr,rfl,h7,hfr,h8,h9,h10⟩
    ·exact .inl h4
    ·refine .inr ⟨g,cur,fr,rfl,h7,hfr,h8,h9,λ j x hj=>⟨(h10 j x hj).1,λ i y hi=>?_⟩⟩
     have:=(h10 j x hj).2 i y hi
     rw [bG uC] at this ⊢
     exact this
  ·intro k k' b b' u u' g hk hk' hne hu hu' hg
   obtain ⟨e,b0,hb0⟩:=hphi hk
   obtain ⟨e',b0',hb0'⟩:=hphi hk'
   rw [e] at hu
   rw [e'] at hu'
   refine hR.inj _ _ b0 b0' u u' g hb0 hb0' (λ q=>hne ?_) hu hu' hg
   by_cases hk2:k=1002
   ·by_cases hk2':k'=1002
    ·rw [hk2,hk2']
    ·exfalso
     subst hk2
     rcases fB hk' with hk' | ⟨rfl,_⟩ | ⟨rfl,_⟩
     ·have:=(eT h.gh hk').1
      simp only [phi,if_true,if_neg hk2'] at q; omega
     ·simp [phi] at q; omega
     ·exact hk2' rfl
   ·by_cases hk2':k'=1002
    ·exfalso
     subst hk2'
     rcases fB hk with hk | ⟨rfl,_⟩ | ⟨rfl,_⟩
     ·have:=(eT h.gh hk).1
      simp only [phi,if_true,if_neg hk2] at q; omega
     ·simp [phi] at q; omega
     ·exact hk2 rfl
    ·simpa only [phi,if_neg hk2,if_neg hk2'] using q
  ·intro k u e
   have e:(if k=1002∨4000≤k then m1 k else none)=some u:=e
   split at e
   ·exact ⟨u,e,.refl u⟩
   ·cases e
  ·intro k u e
   have e:(if k=1002∨4000≤k then m1 k else none)=some u:=e
   split at e
   ·rename_i hk
    rcases hk with rfl | hk
    ·exact aGN (.inl rfl)
    ·refine aGN (.inr ⟨hk,?_⟩)
     have e:(if k=1002 then m (3000+A) else if 4000≤k then (if k - 4000 < xss.length∧k - 4000≠A then phM m (k - 4000) else none) else if k < 3000 then m k else none)=some u:=e
     rw [if_neg (by omega),if_pos hk] at e
     split at e
     ·omega
     ·cases e
   ·cases e
 ·intro sl' X' ys' els' a' w' S' m' hs' hX' hnil hln' hA' hoth hR'
  have hW:w.heap.size≤w'.heap.size:=hR'.size
  let m2:Nm:=λ k=>if k=3000+A then m' 1002 else if 3000≤k then m k else m' k
  have g1:∀ k,k < 3000->m2 k=m' k:=λ k hk=>by
   show (if k=3000+A then _ else if 3000≤k then _ else _)=_
   rw [if_neg (by omega),if_neg (by omega)]
  have g2:m2 (3000+A)=m' 1002:=if_pos rfl
  have g3:∀ j,j≠A->m2 (3000+j)=m (3000+j):=λ j hj=>by
   show (if 3000+j=3000+A then _ else if 3000≤3000+j then _ else _)=_
   rw [if_neg (by omega),if_pos (by omega)]
  have far:∀ {j y},j≠A->xss[j]?=some y->∀ {u g},m (3000+j)=some u->bk u=some g->g < w.heap.size∧¬ M1 g∧w'.heap[g]?=w.heap[g]?∧∀ o,S' g o=S g o:=λ {j y} hj hy {u g} hu hg=>by
   have h1:g < w.heap.size:=(hR.held _ _ (gE h.gh hy)).lt hu hg
   have h2:¬ M1 g:=λ q=>hM1j q hj hy hu hg
   exact ⟨h1,h2,hR'.frame g h1 h2,λ o=>hR'.pinNew g o h1 h2⟩
  have hxs:∀ {j y},(xss.set A ys')[j]?=some y->(j=A∧y=ys')∨(j≠A∧xss[j]?=some y):=λ {j y} hj=>by
   rw [List.getElem?_set] at hj
   by_cases e:A=j
   ·subst e
    rw [if_pos rfl,if_pos hAN] at hj
    injection hj with hj
    exact .inl ⟨rfl,hj.symm⟩
   ·rw [if_neg e] at hj
    exact .inr ⟨λ q=>e q.symm,hj⟩
  have hrow:=hR'.held _ _ (xQ hX' els' ys')
  have cls:∀ {k b},lk (aBP X' (xss.set A ys')) k=some b->(∃ q c,lk (bV X' els' ys') q=some c∧m2 k=m' q∧k=phi A q∧q < 3000)∨∃ j y,k=3000+j∧j≠A∧xss[j]?=some y∧m2 k=m k:=λ {k b} hk=>by
   rcases mE hk with hk | ⟨rfl,_⟩ | ⟨j,y,rfl,hj,_⟩
   ·have:=eT hX' hk
    exact .inl ⟨k,b,aE2 hk,g1 k this.1,by unfold phi; rw [if_neg this.2.1],this.1⟩
   ·exact .inl ⟨1116,_,xP hX' _ _,g1 _ (by omega),by unfold phi; rw [if_neg (by omega)],by omega⟩
   ·rcases hxs hj with ⟨rfl,rfl⟩ | ⟨hj,hy⟩
    ·exact .inl ⟨1002,_,xQ hX' _ _,g2,by unfold phi; rw [if_pos rfl],by omega⟩
    ·exact .inr ⟨j,y,rfl,hj,hy,g3 j hj⟩
  refine ⟨m2,⟨{ defers:=hR'.defers,pin0:=hR.pin0.trans hR'.pin0,pinNew:=?_,agree:=hR'.agree,tmps:=λ t=>aCZ hs' (λ k hk _=>g1 k hk) (hR'.tmps t),held:=?_,inj:=?_,own:=?_,os:=hR'.os.trans hR.os,tape:=hR'.tape.trans hR.tape,output:=hR'.output.trans hR.output,size:=Nat.le_trans hR.size hW,frame:=?_,m0:=λ k u e=>absurd (hR.keep k u e) (by simp),keep:=hR.keep },?_,hs',hX'⟩⟩
  ·intro b o hb hn
   have h2:¬ M1 b:=λ q=>by
    rcases hM1 q with q | q
    ·omega
    ·exact hn q
   exact (hR'.pinNew b o (Nat.lt_of_lt_of_le hb hR.size) h2).trans (hR.pinNew b o hb hn)
  ·intro k b hk
   rcases mE hk with hk | ⟨rfl,rfl⟩ | ⟨j,y,rfl,hj,rfl⟩
   ·have:=eT hX' hk
    exact aBg this.2.2.2 this.1 this.2.1 (λ k hk _=>g1 k hk) (hR'.held _ _ (aE2 hk))
   ·obtain ⟨⟨B,c,h1,h2,h3,h4⟩,_⟩:=hR'.held _ _ (xP hX' els' ys')
    have hl:(aIi 3000 (xss.set A ys')).length=els'.length:=by rw [kB,List.length_set,hln',hln]
    refine ⟨B,c,by rw [g1 _ (by omega),h1,hl],by rw [hl]; exact h2,h3,?_⟩
    rcases h4 with h4 | ⟨g,cur,fr,rfl,h7,hfr,h8,h9,h10⟩
    ·exact .inl h4
    ·refine .inr ⟨g,cur,fr,rfl,h7,hfr,h8,h9,λ j x hj=>?_⟩
     rw [mF] at hj
     cases hy:(xss.set A ys')[j]? with
     | none=>rw [hy] at hj; cases hj
     | some y =>
      rw [hy] at hj
      simp only [Option.map_some,aJ] at hj
      subst hj
      refine ⟨rfl,λ i z hi=>?_⟩
      cases i with
      | succ i=>simp at hi
      | zero =>
       simp at hi; subst hi
       rcases hxs hy with ⟨rfl,rfl⟩ | ⟨hj,hy⟩
       ·obtain ⟨q1,q2⟩:=h10 j _ hA'
        obtain ⟨v,hv,ho,hc⟩:=q2 0 _ rfl
        refine ⟨v,hv,ho,?_⟩
        rw [bP iO] at hc ⊢
        simp only [CV] at hc ⊢
        rw [g2]; exact hc
       ·have hjN:j < xss.length:=(aF.1 hy).1
        have e1:els'[j]?=some (phA m j):=by
         rw [hoth j hj,hel,if_pos hjN,elJ,if_neg hj]
        obtain ⟨C,d,r1,r2,r3,r4⟩:=h.row hy
        rcases r4 with ⟨rfl,rfl⟩ | ⟨g',cur',fr',rfl,r5⟩
        ·have e2:phA m j=[.nils]:=by unfold phA; rw [r1]; rfl
         rw [e2] at e1
         obtain ⟨q1,q2⟩:=h10 j _ e1
         obtain ⟨v,hv,ho,hc⟩:=q2 0 _ rfl
         refine ⟨v,hv,ho,?_⟩
         rw [bP iO] at hc ⊢
         simp only [CV] at hc ⊢
         subst hc
         have hy0:y.length=0:=Nat.le_zero.1 r2
         rw [hy0,g3 j hj,r1,hy0]
         exact ⟨⟨none,0,rfl,Nat.le_refl _,r3,λ _=>rfl,λ a ha=>by cases ha⟩,none,0,0,rfl,Nat.le_refl _,λ _=>rfl⟩
        ·have e2:phA m j=[.ms (4000+j) 0 y.length d 1]:=by unfold phA; rw [r1]; rfl
         rw [e2] at e1
         obtain ⟨q1,q2⟩:=h10 j _ e1
         obtain ⟨v,hv,ho,hc⟩:=q2 0 _ rfl
         refine ⟨v,hv,ho,?_⟩
         rw [bP iO] at hc ⊢
         simp only [CV] at hc ⊢
         obtain ⟨g2',o,k1,k2,k3,k4,k5⟩:=hc
         have hm40:m0 (4000+j)=some (.pointer (some ⟨g',0,none⟩)):=by
          show (if 4000+j=1002∨4000≤4000+j then m1 (4000+j) else none)=_
          rw [if_pos (.inr (by omega)),hm4 j hjN hj,phM,r1]
          rfl
         obtain ⟨u',hu',hgo⟩:=hR'.m0 _ _ hm40
         rw [hgo.ptr] at hu'
         rw [k1] at hu'
         injection hu' with hu'
         injection hu' with hu'
         injection hu' with hu'
         injection hu' with hu'
         subst hu'
         have hd:d≠0:=λ e=>by
          have hy0:y=[]:=List.eq_nil_of_length_eq_zero (by omega)
          rw [hy0] at hy
          have:=h.nil j hy
          rw [r1] at this
          injection this with this
          injection this with _ this
          injection this with this
          cases this
         have ho:=k3 hd
         subst ho
         subst k2
         rw [g3 j hj,r1]
         exact ⟨⟨_,d,rfl,k4,k5,(λ q=>by cases q),λ a ha=>⟨g2',(Option.some.inj ha).symm⟩⟩,_,_,_,rfl,Nat.le_refl _,λ _=>rfl⟩
   ·rcases hxs hj with ⟨rfl,rfl⟩ | ⟨hj,hy⟩
    ·obtain ⟨B,c,h1,h2,h3,h4⟩:=hrow
     refine ⟨B,c,g2.trans h1,h2,h3,?_⟩
     rcases h4 with h4 | ⟨g,cur,fr,rfl,h7,hfr,h8,h9,h10⟩
     ·exact .inl h4
     ·refine .inr ⟨g,cur,fr,rfl,h7,hfr,h8,h9,λ j x hj=>⟨(h10 j x hj).1,λ i y hi=>?_⟩⟩
      have:=(h10 j x hj).2 i y hi
      rw [bG uC] at this ⊢
      exact this
    ·have hh:=hR.held _ _ (gE h.gh hy)
     refine hh.keep hR'.pin0 (λ cs vs hi _=>?_) (g3 j hj) (λ u g hu hg=>⟨(far hj hy hu hg).2.2.1,(far hj hy hu hg).2.2.2⟩)
     exact absurd hi.1 (by have:=uC; omega)
  ·intro k k' b b' u u' g hk hk' hne hu hu' hg hg'
   rcases cls hk with ⟨q,c,hq,e,ek,eq3⟩ | ⟨j,y,rfl,hj,hy,e⟩
   ·rcases cls hk' with ⟨q',c',hq',e',ek',eq3'⟩ | ⟨j',y',rfl,hj',hy',e'⟩
    ·rw [e] at hu
     rw [e'] at hu'
     exact hR'.inj q q' c c' u u' g hq hq' (λ z=>hne (by rw [ek,ek',z])) hu hu' hg hg'
    ·rw [e] at hu
     rw [e'] at hu'
     obtain ⟨f1,f2,_⟩:=far hj' hy' hu' hg'
     rcases hR'.own q c u g hq hu hg with z | z
     ·exact absurd z (Nat.not_le.2 f1)
     ·exact f2 z
   ·rcases cls hk' with ⟨q',c',hq',e',ek',eq3'⟩ | ⟨j',y',rfl,hj',hy',e'⟩
    ·rw [e] at hu
     rw [e'] at hu'
     obtain ⟨f1,f2,_⟩:=far hj hy hu hg
     rcases hR'.own q' c' u' g hq' hu' hg' with z | z
     ·exact absurd z (Nat.not_le.2 f1)
     ·exact f2 z
    ·rw [e] at hu
     rw [e'] at hu'
     exact hR.inj _ _ _ _ u u' g (gE h.gh hy) (gE h.gh hy') hne hu hu' hg hg'
  ·intro k b u g hk hu hg
   rcases cls hk with ⟨q,c,hq,e,ek,eq3⟩ | ⟨j,y,rfl,hj,hy,e⟩
   ·rw [e] at hu
    rcases hR'.own q c u g hq hu hg with z | z
    ·exact .inl (Nat.le_trans hR.size z)
    ·exact hM1 z
   ·rw [e] at hu
    exact hR.own _ _ u g (gE h.gh hy) hu hg
  ·intro b hb hn
   have h2:¬ M1 b:=λ q=>by
    rcases hM1 q with q | q
    ·omega
    ·exact hn q
   exact (hR'.frame b (Nat.lt_of_lt_of_le hb hR.size) h2).trans (hR.frame b hb hn)
  ·intro j hj
   rcases hxs hj with ⟨rfl,e⟩ | ⟨hj,hy⟩
   ·rw [g2]
    have hy0:=hnil e.symm
    subst hy0
    have hn:=h.nil j hA
    have h0:m0 1002=some (.iface 0 (.slice none 0 0)):=by
     show (if 1002=1002∨4000≤1002 then m1 1002 else none)=_
     rw [if_pos (.inl rfl),hm2,hn]
    obtain ⟨u',hu',hgo⟩:=hR'.m0 1002 _ h0
    obtain ⟨B,c,h1,_⟩:=hrow
    rw [← e] at h1
    rcases hgo.row with rfl | ⟨A',n',c',rfl,hlt⟩
    ·exact hu'
    ·rw [hu'] at h1
     injection h1 with h1
     injection h1 with _ h1
     injection h1 with _ h1
     simp only [List.length_nil] at h1
     omega
   ·rw [g3 j hj]; exact h.nil j hy
theorem aGQ (h:JS G sl X xss a w S m):∃ S',Rel G [] ⟨sl,X++[(1116,.row sG 1 (xss.map λ ys=>[AV.sl 1 false ys]))]⟩ a w S' m:=by
 classical
 have hR:=h.rel
 let P:Nat->Nat->Prop:=λ b o=>∃ j y c,xss[j]?=some y∧m (3000+j)=some (.iface 0 (.slice (some ⟨b,0,none⟩) y.length c))∧o < y.length
 let S':Pin:=λ b o=>if P b o then w.cell? ⟨b,o,none⟩ else S b o
 have hP:∀ {b o},P b o->S' b o=w.cell? ⟨b,o,none⟩:=λ q=>if_pos q
 have hnP:∀ {b o},¬ P b o->S' b o=S b o:=λ q=>if_neg q
 have hx:∀ {k b},lk X k=some b->lk (X++[(1116,Blk.row sG 1 (xss.map λ ys=>[AV.sl 1 false ys]))]) k=some b:=λ h=>by simp only [fH,h]
 have hcs:∀ {k b},lk (X++[(1116,Blk.row sG 1 (xss.map λ ys=>[AV.sl 1 false ys]))]) k=some b->lk X k=some b∨(k=1116∧b=.row sG 1 (xss.map λ ys=>[AV.sl 1 false ys])):=λ {k b} hk=>by
  simp only [fH] at hk
  cases e:lk X k with
  | some c=>rw [e] at hk; exact .inl hk
  | none =>
   rw [e] at hk
   simp only [lk] at hk
   by_cases h1:1116=k
   ·subst h1
    rw [aY] at hk
    simp only [cond_true,aJ] at hk
    exact .inr ⟨rfl,hk.symm⟩
   ·rw [nbeq_ne h1] at hk; cases hk
 have hbig:∀ {k b},lk (X++[(1116,Blk.row sG 1 (xss.map λ ys=>[AV.sl 1 false ys]))]) k=some b->k < 3000∧∃ c,lk (aBP X xss) k=some c:=λ hk=>by
  rcases hcs hk with hk | ⟨rfl,_⟩
  ·exact ⟨(eT h.gh hk).1,_,aIh hk⟩
  ·exact ⟨by omega,_,rI h.gh xss⟩
 have row:∀ {j y},xss[j]?=some y->∃ B c vals,m (3000+j)=some (.iface 0 (.slice B y.length c))∧y.length≤c∧c≤maxLen∧(∀ z ∈ y,z.length=1)∧(B=none∧c=0∨∃ g,B=some ⟨g,0,none⟩∧∀ o,S g o=none)∧vals.length=y.length∧CVl S y.flatten dG vals∧(∀ v ∈ vals,v.oneCell'=true)∧∀ g,B=some ⟨g,0,none⟩->∀ (o:Nat) (v:Value),vals[o]?=some v->w.cell? ⟨g,o,none⟩=some v:=λ {j y} hj=>by
  have hh:fN S m w (3000+j) (.row aJo 1 y):=h.row hj
  obtain ⟨B,c,h1,h2,h3,h4,h5,vals,h6,h7,h8,_,h9⟩:=hh.vals
  rw [bG uC] at h7
  refine ⟨B,c,vals,h1,h2,h3,h4,?_,by omega,h7,h8,h9⟩
  rcases h5 with h5 | ⟨g,_,_,e,_,_,_,e2⟩
  ·exact .inl h5
  ·exact .inr ⟨g,e,e2⟩
 have Pno:∀ {b o},P b o->∀ o',S b o'=none:=λ {b o} ⟨j,y,c,h1,h2,h3⟩ o'=>by
  obtain ⟨B,d,vals,r1,_,_,_,r5,_⟩:=row h1
  rw [h2] at r1
  injection r1 with r1
  injection r1 with _ r1
  injection r1 with r1
  subst r1
  rcases r5 with ⟨e,_⟩ | ⟨g,e,e2⟩
  ·cases e
  ·injection e with e
   injection e with e
   subst e
   exact e2 o'
 have Pcell:∀ {b o},P b o->∃ v,w.cell? ⟨b,o,none⟩=some v∧v.oneCell'=true:=λ {b o} ⟨j,y,c,h1,h2,h3⟩=>by
  obtain ⟨B,d,vals,r1,_,_,_,r5,r6,r7,r8,r9⟩:=row h1
  rw [h2] at r1
  injection r1 with r1
  injection r1 with _ r1
  injection r1 with r1
  subst r1
  have hl:o < vals.length:=by omega
  exact ⟨vals[o],r9 b rfl o _ (aD hl),r8 _ (List.getElem_mem hl)⟩
 have Pown:∀ {b o},P b o->∀ {k c u},k < 3000->lk (aBP X xss) k=some c->m k=some u->bk u=some b->False:=λ {b o} ⟨j,y,c,h1,h2,h3⟩ {k d u} hk hc hu hb =>
  hR.inj k (3000+j) d _ u _ b hc (gE h.gh h1) (by omega) hu h2 hb rfl
 have hS:Ext S S':=λ b o v e=>by
  by_cases q:P b o
  ·rw [Pno q] at e; cases e
  ·rw [hnP q]; exact e
 have hkeep:∀ {k c u g},k < 3000->lk (aBP X xss) k=some c->m k=some u->bk u=some g->∀ o,S' g o=S g o:=λ hk hc hu hg o=>hnP λ q=>Pown q hk hc hu hg
 refine ⟨S',{ hR with defers:=hR.defers,pin0:=hR.pin0.trans hS,pinNew:=?_,agree:=?_,tmps:=λ t=>((show CV S (St.get ⟨sl,X++[(1116,.row sG 1 (xss.map λ ys=>[AV.sl 1 false ys]))]⟩ t) m _ from aCZ h.gs (λ _ _ _=>rfl) (hR.tmps t)):CV S _ m _).ext hS (MLe.refl m),held:=?_,inj:=?_,own:=?_,keep:=hR.keep }⟩
 ·intro b o hb hn
  rw [hnP]
  ·exact hR.pinNew b o hb hn
  ·rintro ⟨j,y,c,h1,h2,h3⟩
   rcases hR.own _ _ _ b (gE h.gh h1) h2 rfl with q | q
   ·omega
   ·exact hn q
 ·intro b o v e
  by_cases q:P b o
  ·rw [hP q] at e
   obtain ⟨v',h1,h2⟩:=Pcell q
   rw [e] at h1
   injection h1 with h1
   subst h1
   exact ⟨e,h2⟩
  ·rw [hnP q] at e; exact hR.agree b o v e
 ·intro k b hk
  rcases hcs hk with hk | ⟨rfl,rfl⟩
  ·have hg:=eT h.gh hk
   exact (hR.held _ _ (aIh hk)).keep hS (λ cs vs _ hv=>hv.ext hS (MLe.refl m)) rfl (λ u g hu hgk=>⟨rfl,hkeep hg.1 (aIh hk) hu hgk⟩)
  ·obtain ⟨B,c,h1,h2,h3,h4⟩:=hR.held _ _ (rI h.gh xss)
   rw [kB] at h1 h2
   refine ⟨B,c,by rw [List.length_map]; exact h1,by rw [List.length_map]; exact h2,h3,?_⟩
   rcases h4 with h4 | ⟨g,cur,fr,rfl,h7,hfr,h8,h9,h10⟩
   ·exact .inl h4
   ·refine .inr ⟨g,cur,fr,rfl,h7,.inl (dZ.op hfr),h8,λ o=>(hkeep (by omega) (rI h.gh xss) h1 rfl o).trans (h9 o),λ j x hj=>?_⟩
    rw [List.getElem?_map] at hj
    cases hy:xss[j]? with
    | none=>rw [hy] at hj; cases hj
    | some y =>
     rw [hy] at hj
     simp only [Option.map_some,aJ] at hj
     subst hj
     refine ⟨rfl,λ i z hi=>?_⟩
     cases i with
     | succ i=>simp at hi
     | zero =>
      simp at hi; subst hi
      obtain ⟨q1,q2⟩:=h10 j _ (by rw [mF,hy]; rfl)
      obtain ⟨v,hv,ho,hc⟩:=q2 0 _ rfl
      refine ⟨v,hv,ho,?_⟩
      rw [bP iO] at hc
      rw [bG (by decide)]
      simp only [CV] at hc ⊢
      obtain ⟨⟨A0,c0,_,_,_,_,_⟩,A1,q,c1,e1,e2,e3⟩:=hc
      obtain ⟨C,d,vals,r1,r2,r3,r4,r5,r6,r7,r8,r9⟩:=row hy
      rw [r1] at e1
      injection e1 with e1
      injection e1 with _ e1
      injection e1 with e1 e4 e5
      subst e1; subst e4; subst e5
      refine ⟨C,d,e3 rfl,r2,r3,(λ q=>by cases q),?_,?_⟩
      ·rintro rfl
       rcases r5 with ⟨_,e⟩ | ⟨g',e,_⟩
       ·exact e
       ·cases e
      ·intro ad had
       subst had
       rcases r5 with ⟨e,_⟩ | ⟨g',e,e2⟩
       ·cases e
       ·injection e with e
        subst e
        refine ⟨λ _=>rfl,CE.mk λ i x hi=>⟨r4 x (aL hi),CC.mk λ l z hz=>?_⟩⟩
        obtain ⟨u,hu,hcv⟩:=r7.get (jX r4 hi hz)
        have hlt:i*1+l < vals.length:=(aF.1 hu).1
        refine ⟨u,?_,hcv.ext hS (MLe.refl _)⟩
        rw [show (0:Nat)+i*1+l=i*1+l by omega,hP ⟨j,y,d,hy,r1,by omega⟩]
        exact r9 g' rfl _ u hu
 ·intro k k' b b' u u' g hk hk' hne hu hu' hg hg'
  obtain ⟨_,c,hc⟩:=hbig hk
  obtain ⟨_,c',hc'⟩:=hbig hk'
  exact hR.inj k k' c c' u u' g hc hc' hne hu hu' hg hg'
 ·intro k b u g hk hu hg
  obtain ⟨_,c,hc⟩:=hbig hk
  exact hR.own k c u g hc hu hg
end
end Go.Proofs.YtgbbmadjdaphnaaGreatDoor
namespace Go.Proofs.YtgbbmadjdaphnaaGreatDoor
open Go Go.Sort
def aP (zs:List Int):LL:=zs.map λ z=>[.int .i64 z]
def aQ (ys:LL):List Int:=ys.map λ r=>nI r 0
@[irreducible] def fX (ys:LL):LL:=aP ((aQ ys).mergeSort λ x y=>decide (x≤y))
theorem oJ (ys:LL):fX ys=aP ((aQ ys).mergeSort λ x y=>decide (x≤y)):=by unfold fX; rfl
theorem iP (ys:LL):(fX ys).length=ys.length:=by
 rw [oJ]; simp [aP,aQ,List.length_mergeSort]
theorem aE0:fX []=[]:=List.eq_nil_of_length_eq_zero (iP [])
theorem ok1 {r:List AV} (h:okR 1 r=true):r=[.int .i64 (nI r 0)]∧-1000000≤nI r 0∧nI r 0≤1000000:=by
 have hl:r.length=1:=by have:=fU (⟨r,h⟩:RwT 1); simpa [mI] using this
 match r,hl with
 | [a],_ =>
  have:=lO h (i:=0) rfl
  exact ⟨congrArg (λ x=>[x]) this.2.1,this.2.2⟩
structure IntR (ys:LL) (n:Nat):Prop where
 ok:∀ r ∈ ys,okR 1 r=true
 le:ys.length≤1000000
 eq:n=ys.length
def aCi:SpH
 | [.rw 0 1 n],[.row 3 1 ys]=>some (IntR ys n,.tup [],[.row 3 1 (fX ys)])
 | _,_=>none
theorem aJD {gl:aX} {ys:LL} (hx:∀ r ∈ ys,okR 1 r=true) (hlen:ys.length≤1000000):HC Tryz.prog gl 93 [.rw 0 1 ys.length] [.row 3 1 ys] (.tup []) [.row 3 1 (fX ys)]:=by
 intro w S m vs hG hA hnm hheld hinj hv
 obtain ⟨L0,hL0⟩:∃ L0:List Value,L0=vs.toList:=⟨_,rfl⟩
 rw [← hL0] at hv
 simp only [CVl] at hv
 obtain ⟨v0,l1,e0,hv0,rfl⟩:=hv
 simp only [CV] at hv0
 have hvs:vs=#[v0]:=by rw [← Array.toArray_toList (xs:=vs),← hL0,e0]
 subst hvs
 obtain ⟨A,c,a1,a2,a3,a4⟩:=hheld 0 _ rfl
 obtain ⟨_,A2,q2,c2,h1,h2,h3⟩:=hv0
 rw [a1] at h1
 simp only [aJ,Value.iface.injEq,Value.slice.injEq,true_and] at h1
 obtain ⟨rfl,rfl,rfl⟩:=h1
 have hv0:=h3 rfl
 subst hv0
 by_cases hne:ys=[]
 ·subst hne
  refine (aDE A c w).mono ?_
  rintro e w' ⟨rfl,rfl⟩
  refine ⟨.tuple #[],S,m,rfl,rfl,rfl,rfl,Nat.le_refl _,Ext.refl S,λ _ _ _=>⟨rfl,λ _=>rfl⟩,hA,?_,hinj,λ q u g' hq hu hg=>.inr ⟨q,u,hq,hu,hg⟩,MLe.refl m,by simp only [CV,CVl]; exact ⟨#[],rfl,rfl⟩⟩
  intro q bb hq
  cases q with
  | succ q=>simp at hq
  | zero =>
   simp only [List.getElem?_cons_zero,aJ] at hq
   subst hq
   rw [aE0]
   exact hheld 0 _ rfl
 have hl0:0 < ys.length:=by cases ys with | nil=>exact absurd rfl hne | cons _ _=>simp
 rcases a4 with ⟨_,rfl⟩ | ⟨b,cur,fr,rfl,b1,b2,b3,b4,b5⟩
 ·omega
 have hfr:=dZ.lt b2 (by decide)
 subst hfr
 rw [cA (by decide)] at b1
 have hul:(aQ ys).length=ys.length:=by simp [aQ]
 have huj:∀ (j:Nat) (hj:j < ys.length),(aQ ys)[j]'(by omega)=nI ys[j] 0:=λ j hj=>by simp [aQ]
 have hH:Holds (Value.int .i64) w b 0 (aQ ys).toArray:=by
  intro j hj
  have hj:j < ys.length:=by simpa [hul] using hj
  obtain ⟨r1,r2⟩:=b5 j _ (aD hj)
  obtain ⟨e1,e2⟩:=ok1 (hx _ (List.getElem_mem hj))
  obtain ⟨v,hv1,hv2,hv3⟩:=r2 0 (.int .i64 (nI ys[j] 0)) (by rw [← List.head?_eq_getElem?,e1]; rfl)
  refine ⟨?_,by simp [World.frozen?,b1]⟩
  simp only [World.cell?,b1,Nat.zero_add]
  simp only [CV] at hv3
  rw [Nat.mul_one,Nat.add_zero] at hv1
  rw [hv1,hv3.1]
  congr 2
  simp [huj j hj]
  rw [aD (by omega),Option.getD_some,huj j hj]
 have hblk:b < w.heap.size:=(aM.1 b1).1
 have hcon:=xO b 0 c (aQ ys) w hH hblk (by omega)
 rw [hul] at hcon
 refine hcon.mono ?_
 rintro e w' ⟨rfl,nn,os,rfl⟩
 obtain ⟨D,hD⟩:∃ D,D=((aQ ys).mergeSort λ x y=>decide (x≤y)):=⟨_,rfl⟩
 have hsr:fX ys=aP D:=by rw [oJ,hD]
 have hDs:D.length=ys.length:=by rw [hD,List.length_mergeSort,hul]
 have hDm:∀ z ∈ D,-1000000≤z∧z≤1000000:=λ z hz=>by
  rw [hD,(List.mergeSort_perm _ _).mem_iff] at hz
  simp only [aQ,List.mem_map] at hz
  obtain ⟨r,hr,rfl⟩:=hz
  exact (ok1 (hx r hr)).2
 rw [← hD]
 have heap:∀ i,i < w.heap.size->(grow (putRow (Value.int .i64) (Sort.ahead w nn) b 0 D.toArray) os).heap[i]?=if b=i then some (.cells (putCells (Value.int .i64) 0 D.toArray cur) 3 (0,0)) else w.heap[i]?:=by
  intro i hi
  unfold putRow mapBlock grow Sort.ahead
  simp only
  rw [Array.getElem?_append_left (by simpa using hi),Array.getElem?_modify]
  by_cases h:b=i
  ·subst h
   rw [if_pos rfl,if_pos rfl,b1]; rfl
  ·rw [if_neg h,if_neg h]
 have hMb:Mof 1 m b:=⟨0,_,by decide,a1,rfl⟩
 refine ⟨.tuple #[],S,m,rfl,rfl,rfl,rfl,?_,Ext.refl S,?_,?_,?_,hinj,?_,MLe.refl m,?_⟩
 ·unfold putRow mapBlock grow Sort.ahead
  simp
 ·intro i hi hn
  refine ⟨?_,λ _=>rfl⟩
  rw [heap i hi,if_neg (λ e:b=i=>hn (by subst e; exact hMb))]
 ·intro i o v e
  obtain ⟨h1,h2⟩:=hA i o v e
  refine ⟨?_,h2⟩
  have hi:i < w.heap.size:=hA.lt e
  have hne:b≠i:=λ q=>by subst q; rw [b4 o] at e; cases e
  simp only [World.cell?] at h1 ⊢
  rw [heap i hi,if_neg hne]; exact h1
 ·intro q bb hq
  cases q with
  | succ q=>simp at hq
  | zero =>
   simp only [List.getElem?_cons_zero,aJ] at hq
   subst hq
   have hyl:=iP ys
   refine ⟨some ⟨b,0,none⟩,c,by rw [hyl]; exact a1,by omega,a3,.inr ⟨b,putCells (Value.int .i64) 0 D.toArray cur,(0,0),rfl,?_,dZ.none,?_,b4,?_⟩⟩
   ·rw [heap b hblk,if_pos rfl,cA (by decide)]
   ·unfold putCells
    simp [b3]
   ·intro j x hj
    rw [hsr] at hj
    simp only [aP,List.getElem?_map] at hj
    cases hjD:D[j]? with
    | none=>rw [hjD] at hj; cases hj
    | some z =>
     rw [hjD] at hj
     simp only [Option.map_some,aJ] at hj
     subst hj
     have hjl:j < D.length:=(aF.1 hjD).1
     refine ⟨rfl,λ i y hi=>?_⟩
     cases i with
     | succ i=>simp at hi
     | zero =>
      simp at hi; subst hi
      refine ⟨.int .i64 z,?_,rfl,?_⟩
      ·unfold putCells
       rw [Nat.mul_one,Nat.add_zero,Array.getElem?_mapIdx,Array.getElem?_eq_getElem (by omega),Option.map_some]
       rw [if_pos ⟨Nat.zero_le _,by simp; omega⟩,Nat.sub_zero]
       congr 2
       rw [getElem!_pos _ j (by simpa using hjl)]
       simpa using (aF.1 hjD).2
      ·have hb:=hDm z (aL hjD)
       simp only [CV]
       exact ⟨trivial,by show _∧_; omega⟩
 ·intro q u g' hq hu hg
  exact .inr ⟨q,u,hq,hu,hg⟩
 ·simp only [CV,CVl]; exact ⟨#[],rfl,rfl⟩
theorem aME (gl:aX):HOK Tryz.prog gl 93 aCi:=by
 refine ⟨fok Tryz.func93 (by kernel_rfl) (by kernel_rfl),?_⟩
 intro xs bs pre r bs2 h hp
 unfold aCi at h
 split at h
 ·cases h
  obtain ⟨o1,o2,rfl⟩:=hp
  exact aJD o1 o2
 ·cases h
end Go.Proofs.YtgbbmadjdaphnaaGreatDoor
namespace Go.Proofs.YtgbbmadjdaphnaaGreatDoor
open Go
def gO (i:Nat):Code->Code
 | .region id ops d=>cond (Nat.beq id i) (.region id ops d) .skip
 | .seq a b=>(match gO i a with | .skip=>gO i b | c=>c)
 | .cond _ x y=>(match gO i x with | .skip=>gO i y | c=>c)
 | .block _ b=>gO i b
 | .loop b=>gO i b
 | _=>.skip
def aXh (n h:Int) (nd cs es:LL) (N:Nat):List AV:=[.int .i64 n,.int .i64 h,.sl 4 false nd,.mpv 2014,.sl 3 false cs,.sl 2 false es,.rw 1116 1 N]
def xJ (n h:Int) (nd cs es:LL) (l:List (Int × AV)) (N:Nat):List (Nat × Blk):=[(1014,.cells (aXh n h nd cs es N)),(2014,.mp 27 3 l)]
def xK (n h:Int) (nd cs es:LL) (l:List (Int × AV)) (N:Nat) (p q:Int):List (Nat × Blk):=[(1014,.cells (aXh n h nd cs es N)),(2014,.mp 27 3 l),(1010,.cells [.int .i64 p,.int .i64 q])]
def sJ (es:LL) (i:Int):List (Nat × AV):=[(3,.ptr 1014 0),(122,.sl 2 false es),(123,.int .i64 es.length),(124,.int .i64 i)]
def sK (es:LL) (i:Int):List (Nat × AV):=[(3,.ptr 1014 0),(122,.sl 2 false es),(123,.int .i64 es.length),(124,.int .i64 i),(10,.ptr 1010 0)]
def sL (N:Nat) (i:Int):List (Nat × AV):=[(3,.ptr 1014 0),(170,.rw 1116 1 N),(171,.int .i64 N),(172,.int .i64 i)]
structure EdX (es:LL) (i p q:Int):Prop where
 lo:0≤i
 hi:i < es.length
 le:es.length≤10000
 at_:es.getD i.toNat []=[.int .i64 p,.int .i64 q]
structure JgP (N A:Nat) (p:Int) (els ys:LL):Prop where
 hp:p=A
 hA:A < N
 hN:N=els.length
 h2:N≤200
 ha:els[A]?=some [.rw 1002 1 ys.length]
 hy:ys.length≤10000
abbrev wrJ (A:Nat) (k:Nat) (els:LL):LL:=setEl els A 0 [.rw 1002 1 k]
noncomputable def iH:Code:=aT0 Tryz.f43
def CJ:Cx:={ nt:=180,drop:=drp [(1,24576),(4,131072),(6,786432),(7,6291456),(9,125829120),(10,805306368),(11,72057592964186112),(12,144115188075855872),(13,4323455642275676160),(14,64563604257983430656),(16,3541774862152233910272),(17,79228157791897854723898736640),(18,79228162514264337593543950336),(19,2376844875427930127806318510080),(20,1293003612232793989526637269483520),(21,663315923677824229544770906057867264),(22,4652297985247205555163324710981206016),(24,255211775190703847597530955573826158592),(25,178405621305878064193822282806579460279631872),(26,93535926383216198520050697008095932071087634907136),(27,93536104789177786765035829293842113257979682750464),(28,1309505467048489014710501610113789585611715558506496),(30,71835728478088540235547516897670742982128396352356352),(31,95780971304118053647396689196894323976171195136475136),(32,383123885216472214589586756787577295904684780545900544),(33,766247770432944429179173513575154591809369561091801088)],fr:=1000,kp:=kpJ }
def EJ (sh:List Nat) (sz:List (Nat × List Nat)):Env:={ glob:=glb,spec:=lk [],specH:=lk [],nowf:=true,shape:=sh,slz:=sz }
def EI (sh:List Nat) (sz:List (Nat × List Nat)):Env:={ glob:=glb,spec:=lk [],specH:=lk [(93,aCi)],nowf:=true,shape:=sh,slz:=sz }
@[irreducible] def acX (P:Program) (E:Env) (C:Cx) (inv:Nat->St->Option LInv) (fuel:Nat) (c:Code) (st:St) (kn:St->Prop) (ke:Nat->St->Prop) (kr:St->Prop):Prop:=cB P E C inv fuel c st kn ke kr
def aKA:Prop :=
 ∀ (n h i:Int) (nd cs es els ys:LL) (l:List (Int × AV)) (N:Nat),0≤i∧i≤(20000:Int)->(decide (i < (↑es.length:Int))=decide (i < (↑es.length:Int))∧(0:Nat)=(0:Nat)∧(True∧es=es)∧(↑es.length:Int)=(↑es.length:Int)∧i=i∧True)∧(n=n∧h=h∧(True∧nd=nd)∧True∧(True∧cs=cs)∧(True∧es=es)∧N=N∧True)∧l=l∧els=els∧ys=ys∧True
theorem aWA:aKA:=by
 unfold aKA
 intros; (repeat' (first | exact trivial | exact rfl | assumption | apply And.intro))
def aOi:Prop:=∀ (n h i:Int) (nd cs es els ys:LL) (l:List (Int × AV)) (N:Nat),0≤i∧i≤20000->acX Tryz.prog (EJ [] []) CJ (λ _ _=>none) 6 (gO 23 iH) ⟨sJ es i,bV (xJ n h nd cs es l N) els ys⟩ (λ st=>leS st ⟨(125,.bool (decide (i < es.length)))::sJ es i,bV (xJ n h nd cs es l N) els ys⟩) (λ _ _=>False) (λ _=>False)
theorem aWz:aKA=aOi:=by kernel_rfl
theorem j23:aOi:=@Eq.mp (aKA) (aOi) (aWz) (aWA)
def aKz:Prop :=
 ∀ (n h i p q:Int) (nd cs es els ys:LL) (l:List (Int × AV)) (N:Nat),EdX es i p q->bif decide (0≤i∧i < (↑es.length:Int)) then ∃ n_1 n_2,List.take [AV.int IntKind.i64 n_1,AV.int IntKind.i64 n_2].length (es.getD i.toNat [])=[AV.int IntKind.i64 n_1,AV.int IntKind.i64 n_2]∧((0:Nat)=(0:Nat)∧(True∧es=es)∧(↑es.length:Int)=(↑es.length:Int)∧i=i∧(0:Nat)=(0:Nat)∧True)∧(n=n∧h=h∧(True∧nd=nd)∧True∧(True∧cs=cs)∧(True∧es=es)∧N=N∧True)∧l=l∧(n_1=p∧n_2=q∧True)∧els=els∧ys=ys∧True else False
theorem aWy:aKz:=by
 unfold aKz
 intro n h i p q nd cs es els ys l N hp
 refine cd1 ⟨hp.lo,hp.hi⟩ ⟨p,q,by rw [hp.at_]; rfl,by repeat' first|exact trivial|exact rfl|assumption|apply And.intro⟩
def aOh:Prop:=∀ (n h i p q:Int) (nd cs es els ys:LL) (l:List (Int × AV)) (N:Nat),EdX es i p q->acX Tryz.prog (EJ [127] []) CJ (λ _ _=>none) 6 (gO 24 iH) ⟨(125,.bool true)::sJ es i,bV (xJ n h nd cs es l N) els ys⟩ (λ st=>leS st ⟨sK es i,bV (xK n h nd cs es l N p q) els ys⟩) (λ _ _=>False) (λ _=>False)
theorem aWx:aKz=aOh:=by kernel_rfl
theorem j24:aOh:=@Eq.mp (aKz) (aOh) (aWx) (aWy)
def aKy:Prop :=
 ∀ (n h i p q:Int) (nd cs es els ys:LL) (l:List (Int × AV)) (N A:Nat),JgP N A p els ys->bif decide (0≤p∧p < (↑N:Int)) then bif decide (N=els.length∧p.toNat < els.length) then ∃ n_1,List.take [AV.rw 1002 1 n_1].length (List.drop 0 (els.getD p.toNat []))=[AV.rw 1002 1 n_1]∧bif decide (n_1=ys.length∧ys.length+[[I6 q]].length≤(9223372036854775807:Nat)∧(ys.length+[[I6 q]].length)*(8:Nat)≤(140737488355328:Nat)) then bif decide (0≤p∧p < (↑N:Int)) then bif decide (N=els.length∧p.toNat < els.length) then ((0:Nat)=(0:Nat)∧(True∧es=es)∧(↑es.length:Int)=(↑es.length:Int)∧i=i∧(0:Nat)=(0:Nat)∧True)∧(n=n∧h=h∧(True∧nd=nd)∧True∧(True∧cs=cs)∧(True∧es=es)∧N=N∧True)∧l=l∧(p=p∧q=q∧True)∧setEl els p.toNat 0 [AV.rw 1002 1 (ys++[[I6 q]]).length]=wrJ A (ys.length+(1:Nat)) els∧ys++[[I6 q]]=ys++[[I6 q]]∧True else False else False else False else False else False
theorem aWw:aKy:=by
 unfold aKy
 delta I6
 intro n h i p q nd cs es els ys l N A hp
 have e:=hp.hp
 have hA:=hp.hA
 have hN:=hp.hN
 have hy:=hp.hy
 have ea:p.toNat=A:=by omega
 have eg:els.getD A []=[.rw 1002 1 ys.length]:=by rw [aB,hp.ha]; rfl
 rw [ea]
 refine cd1 ⟨by omega,by omega⟩ (cd1 ⟨hN,by omega⟩ ⟨ys.length,by rw [eg]; rfl,cd1 ⟨rfl,by simp only [List.length_cons,List.length_nil]; omega,by simp only [List.length_cons,List.length_nil]; omega⟩ (cd1 ⟨by omega,by omega⟩ (cd1 ⟨hN,by omega⟩ ?_))⟩)
 rw [aG]
 (repeat' (first | exact trivial | exact rfl | assumption | apply And.intro))
def aOg:Prop:=∀ (n h i p q:Int) (nd cs es els ys:LL) (l:List (Int × AV)) (N A:Nat),JgP N A p els ys->acX Tryz.prog (EJ [141] [(141,[1002001])]) CJ (λ _ _=>none) 6 (gO 25 iH) ⟨sK es i,bV (xK n h nd cs es l N p q) els ys⟩ (λ st=>leS st ⟨sK es i,bV (xK n h nd cs es l N p q) (wrJ A (ys.length+1) els) (ys++[[.int .i64 q]])⟩) (λ _ _=>False) (λ _=>False)
theorem aWv:aKy=aOg:=by kernel_rfl
theorem j25:aOg:=@Eq.mp (aKy) (aOg) (aWv) (aWw)
def aKx:Prop :=
 ∀ (n h i p q:Int) (nd cs es els ys:LL) (l:List (Int × AV)) (N A:Nat),JgP N A q els ys->bif decide (0≤q∧q < (↑N:Int)) then bif decide (N=els.length∧q.toNat < els.length) then ∃ n_1,List.take [AV.rw 1002 1 n_1].length (List.drop 0 (els.getD q.toNat []))=[AV.rw 1002 1 n_1]∧bif decide (n_1=ys.length∧ys.length+[[I6 p]].length≤(9223372036854775807:Nat)∧(ys.length+[[I6 p]].length)*(8:Nat)≤(140737488355328:Nat)) then bif decide (0≤q∧q < (↑N:Int)) then bif decide (N=els.length∧q.toNat < els.length) then ((0:Nat)=(0:Nat)∧(True∧es=es)∧(↑es.length:Int)=(↑es.length:Int)∧i=i∧(0:Nat)=(0:Nat)∧True)∧(n=n∧h=h∧(True∧nd=nd)∧True∧(True∧cs=cs)∧(True∧es=es)∧N=N∧True)∧l=l∧(p=p∧q=q∧True)∧setEl els q.toNat 0 [AV.rw 1002 1 (ys++[[I6 p]]).length]=wrJ A (ys.length+(1:Nat)) els∧ys++[[I6 p]]=ys++[[I6 p]]∧True else False else False else False else False else False
theorem aWu:aKx:=by
 unfold aKx
 delta I6
 intro n h i p q nd cs es els ys l N A hp
 have e:=hp.hp
 have hA:=hp.hA
 have hN:=hp.hN
 have hy:=hp.hy
 have ea:q.toNat=A:=by omega
 have eg:els.getD A []=[.rw 1002 1 ys.length]:=by rw [aB,hp.ha]; rfl
 rw [ea]
 refine cd1 ⟨by omega,by omega⟩ (cd1 ⟨hN,by omega⟩ ⟨ys.length,by rw [eg]; rfl,cd1 ⟨rfl,by simp only [List.length_cons,List.length_nil]; omega,by simp only [List.length_cons,List.length_nil]; omega⟩ (cd1 ⟨by omega,by omega⟩ (cd1 ⟨hN,by omega⟩ ?_))⟩)
 rw [aG]
 (repeat' (first | exact trivial | exact rfl | assumption | apply And.intro))
def aOf:Prop:=∀ (n h i p q:Int) (nd cs es els ys:LL) (l:List (Int × AV)) (N A:Nat),JgP N A q els ys->acX Tryz.prog (EJ [160] [(160,[1002001])]) CJ (λ _ _=>none) 6 (gO 26 iH) ⟨sK es i,bV (xK n h nd cs es l N p q) els ys⟩ (λ st=>leS st ⟨sK es i,bV (xK n h nd cs es l N p q) (wrJ A (ys.length+1) els) (ys++[[.int .i64 p]])⟩) (λ _ _=>False) (λ _=>False)
theorem aWt:aKx=aOf:=by kernel_rfl
theorem j26:aOf:=@Eq.mp (aKx) (aOf) (aWt) (aWu)
def aKw:Prop :=
 ∀ (n h i p q:Int) (nd cs es els ys:LL) (l:List (Int × AV)) (N:Nat),0≤i∧i≤(20000:Int)->bif decide (rng IntKind.i64 (i+(1:Int))) then ((0:Nat)=(0:Nat)∧(True∧es=es)∧(↑es.length:Int)=(↑es.length:Int)∧i+(1:Int)=i+(1:Int)∧True)∧(n=n∧h=h∧(True∧nd=nd)∧True∧(True∧cs=cs)∧(True∧es=es)∧N=N∧True)∧l=l∧els=els∧ys=ys∧True else False
theorem aWs:aKw:=by
 unfold aKw
 intro n h i p q nd cs es els ys l N hi
 exact cdI (by omega) (by repeat' first|exact trivial|exact rfl|assumption|apply And.intro)
def aOe:Prop:=∀ (n h i p q:Int) (nd cs es els ys:LL) (l:List (Int × AV)) (N:Nat),0≤i∧i≤20000->acX Tryz.prog (EJ [] []) CJ (λ _ _=>none) 6 (gO 27 iH) ⟨sK es i,bV (xK n h nd cs es l N p q) els ys⟩ (λ st=>leS st ⟨sJ es (i+1),bV (xJ n h nd cs es l N) els ys⟩) (λ _ _=>False) (λ _=>False)
theorem aWr:aKw=aOe:=by kernel_rfl
theorem j27:aOe:=@Eq.mp (aKw) (aOe) (aWr) (aWs)
def aKv:Prop :=
 ∀ (n h i:Int) (nd cs es els ys:LL) (l:List (Int × AV)) (N:Nat),N≤(200:Nat)->((0:Nat)=(0:Nat)∧N=N∧(↑N:Int)=(↑N:Int)∧(0:Int)=(0:Int)∧True)∧(n=n∧h=h∧(True∧nd=nd)∧True∧(True∧cs=cs)∧(True∧es=es)∧N=N∧True)∧l=l∧els=els∧ys=ys∧True
theorem aWq:aKv:=by
 unfold aKv
 intros; (repeat' (first | exact trivial | exact rfl | assumption | apply And.intro))
def aOd:Prop:=∀ (n h i:Int) (nd cs es els ys:LL) (l:List (Int × AV)) (N:Nat),N≤200->acX Tryz.prog (EJ [] []) CJ (λ _ _=>none) 6 (gO 28 iH) ⟨(125,.bool false)::sJ es i,bV (xJ n h nd cs es l N) els ys⟩ (λ st=>leS st ⟨sL N 0,bV (xJ n h nd cs es l N) els ys⟩) (λ _ _=>False) (λ _=>False)
theorem aWp:aKv=aOd:=by kernel_rfl
theorem j28:aOd:=@Eq.mp (aKv) (aOd) (aWp) (aWq)
def aKu:Prop :=
 ∀ (n h i:Int) (nd cs es els ys:LL) (l:List (Int × AV)) (N:Nat),0≤i∧i≤(20000:Int)->(decide (i < (↑N:Int))=decide (i < (↑N:Int))∧(0:Nat)=(0:Nat)∧N=N∧(↑N:Int)=(↑N:Int)∧i=i∧True)∧(n=n∧h=h∧(True∧nd=nd)∧True∧(True∧cs=cs)∧(True∧es=es)∧N=N∧True)∧l=l∧els=els∧ys=ys∧True
theorem aWo:aKu:=by
 unfold aKu
 intros; (repeat' (first | exact trivial | exact rfl | assumption | apply And.intro))
def aOc:Prop:=∀ (n h i:Int) (nd cs es els ys:LL) (l:List (Int × AV)) (N:Nat),0≤i∧i≤20000->acX Tryz.prog (EJ [] []) CJ (λ _ _=>none) 6 (gO 29 iH) ⟨sL N i,bV (xJ n h nd cs es l N) els ys⟩ (λ st=>leS st ⟨(173,.bool (decide (i < N)))::sL N i,bV (xJ n h nd cs es l N) els ys⟩) (λ _ _=>False) (λ _=>False)
theorem aWn:aKu=aOc:=by kernel_rfl
theorem j29:aOc:=@Eq.mp (aKu) (aOc) (aWn) (aWo)
def aKt:Prop :=
 ∀ (n h i:Int) (nd cs es els ys:LL) (l:List (Int × AV)) (N A:Nat),JgP N A i els ys->IntR ys ys.length->bif decide (0≤i∧i < (↑N:Int)) then bif decide (N=els.length∧i.toNat < els.length) then ∃ n_1,List.take [AV.rw 1002 1 n_1].length (List.drop 0 (els.getD i.toNat []))=[AV.rw 1002 1 n_1]∧IntR ys n_1∧((0:Nat)=(0:Nat)∧N=N∧(↑N:Int)=(↑N:Int)∧i=i∧True)∧(n=n∧h=h∧(True∧nd=nd)∧True∧(True∧cs=cs)∧(True∧es=es)∧N=N∧True)∧l=l∧els=els∧fX ys=fX ys∧True else False else False
theorem aWm:aKt:=by
 unfold aKt
 intro n h i nd cs es els ys l N A hp hI
 have e:=hp.hp
 have hA:=hp.hA
 have hN:=hp.hN
 have ea:i.toNat=A:=by omega
 have eg:els.getD A []=[.rw 1002 1 ys.length]:=by rw [aB,hp.ha]; rfl
 rw [ea]
 refine cd1 ⟨by omega,by omega⟩ (cd1 ⟨hN,by omega⟩ ⟨ys.length,by rw [eg]; rfl,hI,by repeat' first|exact trivial|exact rfl|assumption|apply And.intro⟩)
def aOb:Prop:=∀ (n h i:Int) (nd cs es els ys:LL) (l:List (Int × AV)) (N A:Nat),JgP N A i els ys->IntR ys ys.length->acX Tryz.prog (EI [175] [(175,[1002001])]) CJ (λ _ _=>none) 6 (.seq (gO 30 iH) (gO 31 iH)) ⟨(173,.bool true)::sL N i,bV (xJ n h nd cs es l N) els ys⟩ (λ st=>leS st ⟨sL N i,bV (xJ n h nd cs es l N) els (fX ys)⟩) (λ _ _=>False) (λ _=>False)
theorem aWl:aKt=aOb:=by kernel_rfl
theorem j30:aOb:=@Eq.mp (aKt) (aOb) (aWl) (aWm)
def aKs:Prop :=
 ∀ (n h i:Int) (nd cs es els ys:LL) (l:List (Int × AV)) (N:Nat),0≤i∧i≤(20000:Int)->bif decide (rng IntKind.i64 (i+(1:Int))) then ((0:Nat)=(0:Nat)∧N=N∧(↑N:Int)=(↑N:Int)∧i+(1:Int)=i+(1:Int)∧True)∧(n=n∧h=h∧(True∧nd=nd)∧True∧(True∧cs=cs)∧(True∧es=es)∧N=N∧True)∧l=l∧els=els∧ys=ys∧True else False
theorem aWk:aKs:=by
 unfold aKs
 intro n h i nd cs es els ys l N hi
 exact cdI (by omega) (by repeat' first|exact trivial|exact rfl|assumption|apply And.intro)
def aOa:Prop:=∀ (n h i:Int) (nd cs es els ys:LL) (l:List (Int × AV)) (N:Nat),0≤i∧i≤20000->acX Tryz.prog (EJ [] []) CJ (λ _ _=>none) 6 (gO 32 iH) ⟨sL N i,bV (xJ n h nd cs es l N) els ys⟩ (λ st=>leS st ⟨sL N (i+1),bV (xJ n h nd cs es l N) els ys⟩) (λ _ _=>False) (λ _=>False)
theorem aWj:aKs=aOa:=by kernel_rfl
theorem j32:aOa:=@Eq.mp (aKs) (aOa) (aWj) (aWk)
open Go.RowKit (Below)
variable {P:Program} {S:Pin} {m:Nm} {w:World} {a:Act} {G:Gh} {kp:List Nat} {st:St} {E:Env} {C:Cx}
def aXf (N:Nat):LL:=List.replicate N [.nils]
def CB:Cx:={ nt:=180,drop:=drp [(1,24576),(4,131072),(6,786432),(7,6291456),(9,125829120),(10,805306368),(11,72057592964186112),(12,144115188075855872),(13,4323455642275676160),(14,64563604257983430656),(16,3541774862152233910272),(17,79228157791897854723898736640),(18,79228162514264337593543950336),(19,2376844875427930127806318510080),(20,1293003612232793989526637269483520),(21,663315923677824229544770906057867264),(22,4652297985247205555163324710981206016),(24,255211775190703847597530955573826158592),(25,178405621305878064193822282806579460279631872),(26,93535926383216198520050697008095932071087634907136),(27,93536104789177786765035829293842113257979682750464),(28,1309505467048489014710501610113789585611715558506496),(30,71835728478088540235547516897670742982128396352356352),(31,95780971304118053647396689196894323976171195136475136),(32,383123885216472214589586756787577295904684780545900544),(33,766247770432944429179173513575154591809369561091801088)],fr:=1000,kp:=[] }
def CF:Cx:={ nt:=180,drop:=drp [(1,24576),(4,131072),(6,786432),(7,6291456),(9,125829120),(10,805306368),(11,72057592964186112),(12,144115188075855872),(13,4323455642275676160),(14,64563604257983430656),(16,3541774862152233910272),(17,79228157791897854723898736640),(18,79228162514264337593543950336),(19,2376844875427930127806318510080),(20,1293003612232793989526637269483520),(21,663315923677824229544770906057867264),(22,4652297985247205555163324710981206016),(24,255211775190703847597530955573826158592),(25,178405621305878064193822282806579460279631872),(26,93535926383216198520050697008095932071087634907136),(27,93536104789177786765035829293842113257979682750464),(28,1309505467048489014710501610113789585611715558506496),(30,71835728478088540235547516897670742982128396352356352),(31,95780971304118053647396689196894323976171195136475136),(32,383123885216472214589586756787577295904684780545900544),(33,766247770432944429179173513575154591809369561091801088)],fr:=1000,kp:=[],frz:=λ id=>cond (Nat.beq id 33) [1001116] [] }
def aKB:Prop :=
 ∀ (n h:Int) (nd cs es:LL) (l:List (Int × AV)),nd.length≤(200:Nat)->bif decide ((0:Int)≤(↑nd.length:Int)∧(↑nd.length:Int)≤(↑nd.length:Int)∧(24:Int)*(↑nd.length:Int)≤(281474976710656:Int)∧(↑nd.length:Int)≤(9223372036854775807:Int)) then ((0:Nat)=(0:Nat)∧(True∧es=es)∧(↑es.length:Int)=(↑es.length:Int)∧(0:Int)=(0:Int)∧True)∧(n=n∧h=h∧(True∧nd=nd)∧True∧(True∧cs=cs)∧(True∧es=es)∧(↑nd.length:Int).toNat=nd.length∧True)∧l=l∧List.replicate (↑nd.length:Int).toNat [AV.nils]=aXf nd.length∧True else False
theorem aWC:aKB:=by
 unfold aKB
 intro n h nd cs es l hn
 exact cd1 ⟨by omega,by omega,by omega,by omega⟩ (by repeat' first|exact trivial|exact rfl|assumption|apply And.intro)
def aOj:Prop:=∀ (n h:Int) (nd cs es:LL) (l:List (Int × AV)),nd.length≤200->acX Tryz.prog (EJ [] []) CB (λ _ _=>none) 6 (.seq (gO 21 iH) (gO 22 iH)) ⟨[(0,.int .i64 n),(3,.ptr 1014 0)],[(1014,.cells [.int .i64 n,.int .i64 h,.sl 4 false nd,.mpv 2014,.sl 3 false cs,.sl 2 false es,.nils]),(2014,.mp 27 3 l)]⟩ (λ st=>leS st ⟨sJ es 0,xJ n h nd cs es l nd.length++[(1116,.row sG 1 (aXf nd.length))]⟩) (λ _ _=>False) (λ _=>False)
theorem aWB:aKB=aOj:=by kernel_rfl
theorem j21:aOj:=@Eq.mp (aKB) (aOj) (aWB) (aWC)
def aKr:Prop :=
 ∀ (n h:Int) (nd cs es nx:LL) (l:List (Int × AV)) (N:Nat),N=nx.length->bif decide (N=nx.length) then (0:Nat)=(0:Nat)∧(n=n∧h=h∧(True∧nd=nd)∧True∧(True∧cs=cs)∧(True∧es=es)∧(True∧nx=nx)∧True)∧l=l∧True else False
theorem aWi:aKr:=by
 unfold aKr
 intro n h nd cs es nx l N hN
 exact cd1 hN (by repeat' first|exact trivial|exact rfl|assumption|apply And.intro)
def aN9:Prop:=∀ (n h:Int) (nd cs es nx:LL) (l:List (Int × AV)) (N:Nat),N=nx.length->acX Tryz.prog (EJ [] []) CF (λ _ _=>none) 6 (.seq (gO 33 iH) .ret) ⟨(173,.bool false)::sL N N,xJ n h nd cs es l N++[(1116,.row sG 1 nx)]⟩ (λ _=>False) (λ _ _=>False) (λ st=>aAv Tryz.prog (EJ [] []) CB st (Tryz.f43).results.toList (aKY [] (.ptr 0 0) [.cells [.int .i64 n,.int .i64 h,.sl 4 false nd,.mpv 1,.sl 3 false cs,.sl 2 false es,.sl 1 false nx],.mp 27 3 l]))
theorem aWh:aKr=aN9:=by kernel_rfl
theorem j33:aN9:=@Eq.mp (aKr) (aN9) (aWh) (aWi)
theorem aAw {inv:Nat->St->Option LInv} {fuel:Nat} (hT:TyOK P C.tys) (hS:cE P E) (hM:P.follows .mixedOrders=true) (hG:GOK E G.S0) {c:Code} {kn:St->Prop} (h:cB P E C inv fuel c st kn (λ _ _=>False) (λ _=>False)) (hR:Rel G C.kp st a w S m) (hn:a.tmps.size=C.nt) {Q:Exit->Act->World->Prop}
  (hQ:∀ st' a' w' S' m',kn st'->Rel G C.kp st' a' w' S' m'->a'.tmps.size=C.nt->Q .normal a' w'):c.wp P Q a w:=by
 refine Go.wp_mono (bO hT hS hM hG c st kn _ _ h a w S m hR hn) ?_
 intro e a' w' he
 cases e with
 | normal=>obtain ⟨st',S',m',hk,hR',hn'⟩:=he; exact hQ st' a' w' S' m' hk hR' hn'
 | exit _=>obtain ⟨_,_,_,hk,_⟩:=he; exact hk.elim
 | ret=>obtain ⟨_,_,_,hk,_⟩:=he; exact hk.elim
 | _=>exact he.elim
theorem zR {inv:Nat->St->Option LInv} {fuel:Nat} (hT:TyOK P C.tys) (hS:cE P E) (hM:P.follows .mixedOrders=true) (hG:GOK E G.S0) {Q:Exit->Act->World->Prop}:∀ (k:Nat) (c:Code) (st:St) (K:St->Prop),zS P E C inv fuel (aRp k c) st K->∀ (a:Act) (w:World) (S:Pin) (m:Nm),Rel G C.kp st a w S m->a.tmps.size=C.nt ->
  (∀ st' a' w' S' m',K st'->Rel G C.kp st' a' w' S' m'->a'.tmps.size=C.nt->(aMx k c).wp P Q a' w')->c.wp P Q a w
 | 0,c,st,K,h,a,w,S,m,hR,hn,hQ=>hQ st a w S m (by simpa only [aRp,zS] using h) hR hn
 | k+1,.seq x y,st,K,h,a,w,S,m,hR,hn,hQ=>by
  simp only [aRp,zS] at h
  refine wp_seq (aAw hT hS hM hG h hR hn λ st' a' w' S' m' hk hR' hn'=>?_)
  exact zR hT hS hM hG k y st' K hk a' w' S' m' hR' hn' hQ
 | k+1,.skip,st,K,h,a,w,S,m,hR,hn,hQ=>hQ st a w S m h hR hn
 | k+1,.label _,st,K,h,a,w,S,m,hR,hn,hQ=>hQ st a w S m h hR hn
 | k+1,.region _ _ _,st,K,h,a,w,S,m,hR,hn,hQ=>hQ st a w S m h hR hn
 | k+1,.cond _ _ _,st,K,h,a,w,S,m,hR,hn,hQ=>hQ st a w S m h hR hn
 | k+1,.block _ _,st,K,h,a,w,S,m,hR,hn,hQ=>hQ st a w S m h hR hn
 | k+1,.loop _,st,K,h,a,w,S,m,hR,hn,hQ=>hQ st a w S m h hR hn
 | k+1,.exit _,st,K,h,a,w,S,m,hR,hn,hQ=>hQ st a w S m h hR hn
 | k+1,.ret,st,K,h,a,w,S,m,hR,hn,hQ=>hQ st a w S m h hR hn
 | k+1,.goto _,st,K,h,a,w,S,m,hR,hn,hQ=>hQ st a w S m h hR hn
 | k+1,.refuse _,st,K,h,a,w,S,m,hR,hn,hQ=>hQ st a w S m h hR hn
 | k+1,.scope _,st,K,h,a,w,S,m,hR,hn,hQ=>hQ st a w S m h hR hn
 | k+1,.rangeFunc _ _ _ _,st,K,h,a,w,S,m,hR,hn,hQ=>hQ st a w S m h hR hn
theorem set_same {α:Type} {l:List α} {i:Nat} {x:α} (h:l[i]?=some x):l.set i x=l:=by
 apply List.ext_getElem?
 intro j
 rw [List.getElem?_set]
 split
 ·rename_i e; subst e; split
  ·exact h.symm
  ·rename_i q; rw [List.getElem?_eq_none (by omega)]
 ·rfl
theorem vQ {inv:Nat->St->Option LInv} {fuel:Nat} (hT:TyOK P C.tys) (hS:cE P E) (hM:P.follows .mixedOrders=true) (hG:GOK E G.S0) (hkp:C.kp=kpJ) {sl:List (Nat × AV)} {X:List (Nat × Blk)} {xss:List (LL)} (h:JS G sl X xss a w S m) (hn:a.tmps.size=C.nt) (hN:xss.length≤200) {A:Nat} {ys:LL} (hA:xss[A]?=some ys)
  {c:Code} {sl':List (Nat × AV)} {X':List (Nat × Blk)} {ys':LL} {eo:LL->LL}
  (VC:∀ els:LL,els.length=xss.length->els[A]?=some [.rw 1002 1 ys.length]->acX P E C inv fuel c ⟨sl,bV X els ys⟩ (λ st=>leS st ⟨sl',bV X' (eo els) ys'⟩) (λ _ _=>False) (λ _=>False))
  (hs':gT sl'=true) (hX':gH X'=true) (hnil:ys'=[]->ys=[]) (heo:∀ els:LL,els.length=xss.length->els[A]?=some [.rw 1002 1 ys.length]->(eo els).length=els.length∧(eo els)[A]?=some [.rw 1002 1 ys'.length]∧∀ j,j≠A->(eo els)[j]?=els[j]?)
  {Q:Exit->Act->World->Prop} (hQ:∀ a w S m,JS G sl' X' (xss.set A ys') a w S m->a.tmps.size=C.nt->Q .normal a w):c.wp P Q a w:=by
 obtain ⟨els,m1,m0,M1,h1,h2,hR,back⟩:=aSx h hN hA
 have hG':GOK E (Gh.mk w S m0 M1).S0:=λ g cs e=>CC.mono h.rel.pin0 cs g 0 (hG g cs e)
 refine aAw hT hS hM hG' (by have q:=VC els h1 h2; unfold acX at q; exact q) (by rw [hkp]; exact hR) hn λ st' a' w' S' m' hk hR' hn'=>?_
 rw [hkp] at hR'
 obtain ⟨e1,e2,e3⟩:=heo els h1 h2
 obtain ⟨m2,hJ⟩:=back sl' X' ys' (eo els) a' w' S' m' hs' hX' hnil e1 e2 e3 (hR'.le hk)
 exact hQ a' w' S' m2 hJ hn'
theorem mV {inv:Nat->St->Option LInv} {fuel:Nat} (hT:TyOK P C.tys) (hS:cE P E) (hM:P.follows .mixedOrders=true) (hG:GOK E G.S0) (hkp:C.kp=kpJ) {sl:List (Nat × AV)} {X:List (Nat × Blk)} {xss:List (LL)} (h:JS G sl X xss a w S m) (hn:a.tmps.size=C.nt) (hN:xss.length≤200) (hN1:1≤xss.length)
  {c:Code} {sl':List (Nat × AV)} {X':List (Nat × Blk)}
  (VC:∀ els ys:LL,els.length=xss.length->acX P E C inv fuel c ⟨sl,bV X els ys⟩ (λ st=>leS st ⟨sl',bV X' els ys⟩) (λ _ _=>False) (λ _=>False))
  (hs':gT sl'=true) (hX':gH X'=true) {Q:Exit->Act->World->Prop} (hQ:∀ a w S m,JS G sl' X' xss a w S m->a.tmps.size=C.nt->Q .normal a w):c.wp P Q a w:=by
 have h0:xss[0]?=some xss[0]:=aD hN1
 refine vQ (eo:=id) hT hS hM hG hkp h hn hN h0 (λ els e _=>VC els _ e) hs' hX' id (λ els _ e2=>⟨rfl,e2,λ _ _=>rfl⟩) λ a w S m hJ hn'=>?_
 rw [set_same h0] at hJ
 exact hQ a w S m hJ hn'
theorem aLd:aMx 7 iH=.seq (gO 21 iH) (.seq (.seq (gO 22 iH) (.block 8 (.loop (.seq (gO 23 iH) (.seq (.cond (.tmp 125) .skip (.exit 8)) (.seq (.block 9 (.seq (gO 24 iH) (.seq (gO 25 iH) (gO 26 iH)))) (gO 27 iH))))))) (.seq (.seq (gO 28 iH) (.block 10 (.loop (.seq (gO 29 iH) (.seq (.cond (.tmp 173) .skip (.exit 10)) (.seq (.block 11 (.seq (gO 30 iH) (gO 31 iH))) (gO 32 iH))))))) (.seq (gO 33 iH) .ret))):=by kernel_rfl
def aP1 (xss:List (LL)) (e:List AV):List (LL) :=
 let x1:=xss.set (nI e 0).toNat (xss.getD (nI e 0).toNat []++[[.int .i64 (nI e 1)]])
 x1.set (nI e 1).toNat (x1.getD (nI e 1).toNat []++[[.int .i64 (nI e 0)]])
def iK (N:Nat) (es:LL):List (LL):=es.foldl aP1 (List.replicate N [])
structure EdgP (N:Nat) (es:LL):Prop where
 sh:∀ i,i < es.length->∃ p q:Nat,es.getD i []=[.int .i64 p,.int .i64 q]∧p < N∧q < N
 le:es.length≤4000
 n1:1≤N
 n2:N≤200
structure NbP (N k:Nat) (xss:List (LL)):Prop where
 len:xss.length=N
 ok:∀ ys ∈ xss,(∀ r ∈ ys,okR 1 r=true)∧ys.length≤2*k
theorem aLG {z:Int} (h:-1000000≤z∧z≤1000000):okR 1 [.int .i64 z]=true:=by
 unfold okR
 simp only [List.length_cons,List.length_nil,List.all_cons,List.all_nil,okA,Bool.and_true,decide_eq_true h]
 rfl
theorem NbP.zero (N:Nat):NbP N 0 (List.replicate N []):=⟨by simp,λ ys h=>by rw [List.mem_replicate] at h; rw [h.2]; exact ⟨λ r hr=>by simp at hr,by simp⟩⟩
theorem aGo {α:Type} {l:List α} {i:Nat} {x y:α} (h:y ∈ l.set i x):y=x∨y ∈ l:=by
 obtain ⟨j,hj⟩:=List.getElem?_of_mem h
 rw [List.getElem?_set] at hj
 split at hj
 ·split at hj
  ·injection hj with hj; exact .inl hj.symm
  ·cases hj
 ·exact .inr (aL hj)
theorem eG {α:Type} {l:List α} {i:Nat} {d:α} (h:i < l.length):l.getD i d ∈ l:=by
 rw [aB,aD h]
 exact List.getElem_mem h
theorem NbP.put {N k p:Nat} {xss:List (LL)} (h:NbP N k xss) (hp:p < N) {q:Int} (hq:-1000000≤q∧q≤1000000) {k':Nat} (hk:2*k+1≤k'):(xss.set p (xss.getD p []++[[.int .i64 q]])).length=N∧∀ ys ∈ xss.set p (xss.getD p []++[[.int .i64 q]]),(∀ r ∈ ys,okR 1 r=true)∧ys.length≤k':=by
 refine ⟨by rw [List.length_set]; exact h.len,λ ys hy=>?_⟩
 have hm:xss.getD p [] ∈ xss:=eG (by rw [h.len]; exact hp)
 rcases aGo hy with rfl | hy
 ·refine ⟨λ r hr=>?_,?_⟩
  ·rcases List.mem_append.1 hr with hr | hr
   ·exact (h.ok _ hm).1 r hr
   ·simp only [List.mem_cons,List.not_mem_nil,or_false] at hr
    subst hr; exact aLG hq
  ·have:=(h.ok _ hm).2
   rw [aG,List.length_cons,List.length_nil]; omega
 ·exact ⟨(h.ok ys hy).1,by have:=(h.ok ys hy).2; omega⟩
theorem NbP.put2 {N k p:Nat} {xss:List (LL)} (h:NbP N k xss) (hp:p < N) {q:Int} (hq:-1000000≤q∧q≤1000000):(xss.set p (xss.getD p []++[[.int .i64 q]])).length=N∧∀ ys ∈ xss.set p (xss.getD p []++[[.int .i64 q]]),(∀ r ∈ ys,okR 1 r=true)∧ys.length≤2*k+1:=h.put hp hq (Nat.le_refl _)
theorem pS {N:Nat} {es:LL} (h:EdgP N es):∀ i,i≤es.length->NbP N i (iK N (es.take i))
 | 0,_=>by rw [List.take_zero]; exact NbP.zero N
 | i+1,hi=>by
  have ih:=pS h i (by omega)
  obtain ⟨p,q,e,hp,hq⟩:=h.sh i (by omega)
  have hn:=h.n2
  have e2:iK N (es.take (i+1))=aP1 (iK N (es.take i)) [.int .i64 p,.int .i64 q]:=by
   rw [aES (by omega),e,iK,List.foldl_append]; rfl
  rw [e2]
  obtain ⟨r1,r2⟩:=ih.put2 hp (q:=(q:Int)) (by omega)
  have ih2:∀ ys ∈ (iK N (es.take i)).set p ((iK N (es.take i)).getD p []++[[.int .i64 (q:Int)]]),(∀ r ∈ ys,okR 1 r=true)∧ys.length≤2*i+1:=r2
  refine ⟨by show (List.set _ _ _).length=N; rw [List.length_set]; exact r1,λ ys hy=>?_⟩
  have hy:ys ∈ ((iK N (es.take i)).set p ((iK N (es.take i)).getD p []++[[.int .i64 (q:Int)]])).set q (((iK N (es.take i)).set p ((iK N (es.take i)).getD p []++[[.int .i64 (q:Int)]])).getD q []++[[.int .i64 (p:Int)]]):=hy
  rcases aGo hy with rfl | hy
  ·have hm:((iK N (es.take i)).set p ((iK N (es.take i)).getD p []++[[.int .i64 (q:Int)]])).getD q [] ∈ ((iK N (es.take i)).set p ((iK N (es.take i)).getD p []++[[.int .i64 (q:Int)]])):=by
    exact eG (by rw [r1]; exact hq)
   refine ⟨λ r hr=>?_,?_⟩
   ·rcases List.mem_append.1 hr with hr | hr
    ·exact (ih2 _ hm).1 r hr
    ·simp only [List.mem_cons,List.not_mem_nil,or_false] at hr
     subst hr; exact aLG (by omega)
   ·have:=(ih2 _ hm).2
    rw [aG,List.length_cons,List.length_nil]; omega
  ·exact ⟨(ih2 ys hy).1,by have:=(ih2 ys hy).2; omega⟩
theorem pE (sh:List Nat) (sz:List (Nat × List Nat)):cE Tryz.prog (EJ sh sz) :=
 ⟨λ f sp e=>by simp [EJ,lk] at e,λ f sp e=>by simp [EJ,lk] at e,trivial,(λ f sp e=>by cases e),rfl⟩
theorem aDT:Tryz.prog.follows .mixedOrders=true:=by kernel_rfl
theorem aLp {A k:Nat} {els:LL} {n:Nat} (h:els[A]?=some [.rw 1002 1 n]):(wrJ A k els).length=els.length∧(wrJ A k els)[A]?=some [.rw 1002 1 k]∧∀ j,j≠A->(wrJ A k els)[j]?=els[j]?:=by
 have hlt:A < els.length:=(aF.1 h).1
 have e:wrJ A k els=els.set A [.rw 1002 1 k]:=by
  show els.set A (spl (els.getD A []) 0 [AV.rw 1002 1 k])=_
  rw [aB,h]; rfl
 rw [e]
 refine ⟨List.length_set ..,?_,λ j hj=>?_⟩
 ·rw [List.getElem?_set,if_pos rfl,if_pos hlt]
 ·rw [List.getElem?_set,if_neg (λ q=>hj q.symm)]
theorem evT {sl:List (Nat × AV)} {H:List (Nat × Blk)} {t:Nat} {b:Bool} (h:∀ t,CV S (St.get ⟨sl,H⟩ t) m (a.tmps.getD t undef)) (e:lk sl t=some (.bool b)):a.eval (.tmp t)=.bool b:=by
 have:=h t
 unfold St.get at this
 simp only [e,CV] at this
 exact this
theorem aVJ (sh:List Nat) (sz:List (Nat × List Nat)):cE Tryz.prog (EI sh sz):=by
 refine ⟨λ f sp e=>by simp [EI,lk] at e,λ f sp e=>?_,trivial,(λ f sp e=>by cases e),rfl⟩
 have e2:lk [(93,aCi)] f=some sp:=e
 clear e
 simp only [lk] at e2
 cases hj:Nat.beq 93 f with
 | true =>
  rw [hj] at e2
  simp only [cond_true,aJ] at e2
  have:=aA hj
  subst this; subst e2
  exact aME glb
 | false=>rw [hj] at e2; cases e2
theorem tyJ:TyOK Tryz.prog []:=⟨λ t h=>by simp at h,λ t h=>by simp at h⟩
section
variable {G:Gh} (hG:GOK { glob:=glb } G.S0)
include hG
theorem gok (E:Env) (h:E.glob=glb):GOK E G.S0:=λ g cs e=>hG g cs (by rw [h] at e; exact e)
theorem aWf {n h:Int} {nd cs es:LL} {l:List (Int × AV)} {N:Nat} (hE:EdgP N es) (hJ:JS G (sJ es 0) (xJ n h nd cs es l N) (List.replicate N []) a w S m) (hn:a.tmps.size=180)
  {Q:Exit->Act->World->Prop} (hQ:∀ a w S m,JS G ((125,.bool false)::sJ es es.length) (xJ n h nd cs es l N) (iK N es) a w S m->a.tmps.size=180->Q .normal a w) :
  (Code.block 8 (.loop (.seq (gO 23 iH) (.seq (.cond (.tmp 125) .skip (.exit 8)) (.seq (.block 9 (.seq (gO 24 iH) (.seq (gO 25 iH) (gO 26 iH)))) (gO 27 iH)))))).wp Tryz.prog Q a w:=by
 have hN1:=hE.n1
 have hN2:=hE.n2
 have hle:=hE.le
 refine wp_block (wp_loop_ghost (λ k a w=>∃ i:Nat,i≤es.length∧k=es.length - i∧∃ S m,JS G (sJ es i) (xJ n h nd cs es l N) (iK N (es.take i)) a w S m∧a.tmps.size=180) es.length ⟨0,by omega,by omega,S,m,hJ,hn⟩ ?_)
 rintro k a w ⟨i,hi,rfl,S,m,hJ,hn⟩
 have hb:=pS hE i hi
 have hX:=hJ.gh
 refine wp_seq (mV (sl':=(125,.bool (decide ((i:Int) < es.length)))::sJ es i) (X':=xJ n h nd cs es l N) tyJ (pE [] []) aDT (gok hG _ rfl) (C:=CJ) rfl hJ hn (by rw [hb.len]; exact hN2) (by rw [hb.len]; exact hN1) (λ els ys _=>j23 n h i nd cs es els ys l N ⟨by omega,by omega⟩) rfl hX λ a w S m hJ hn=>?_)
 refine wp_seq (wp_cond_split (evT (t:=125) hJ.rel.tmps rfl) (λ ht=>wp_skip ?_) (λ hf=>wp_exit ?_))
 ·have hi':i < es.length:=by have:=of_decide_eq_true ht; omega
  rw [ht] at hJ
  obtain ⟨p,q,e,hp,hq⟩:=hE.sh i hi'
  have hed:EdX es i p q:=⟨by omega,by omega,by omega,by rw [Int.toNat_natCast]; exact e⟩
  have h24:=λ (els ys:LL)=>j24 n h (i:Int) (p:Int) (q:Int) nd cs es els ys l N hed
  refine wp_seq (wp_block (wp_seq (mV (sl':=sK es i) (X':=xK n h nd cs es l N p q) tyJ (pE [127] []) aDT (gok hG _ rfl) (C:=CJ) rfl hJ hn (by rw [hb.len]; exact hN2) (by rw [hb.len]; exact hN1) (λ els ys _=>h24 els ys) rfl rfl λ a w S m hJ hn=>?_)))
  have hr:=hb.len
  have hgp:(iK N (es.take i))[p]?=some ((iK N (es.take i)).getD p []):=by
   rw [aB,aD (by rw [hr]; exact hp)]; rfl
  have hyp:=(hb.ok _ (aL hgp)).2
  refine wp_seq (vQ (A:=p) (eo:=wrJ p (((iK N (es.take i)).getD p []).length+1)) (sl':=sK es i) (X':=xK n h nd cs es l N p q) (ys':=(iK N (es.take i)).getD p []++[[.int .i64 (q:Int)]]) tyJ (pE [141] [(141,[1002001])]) aDT (gok hG _ rfl) (C:=CJ) rfl hJ hn (by rw [hb.len]; exact hN2) hgp (λ els e1 e2=>j25 n h i p q nd cs es els _ l N p ⟨rfl,hp,by rw [e1,hr],hN2,e2,by omega⟩) rfl rfl (λ q=>absurd q (by simp)) (λ els e1 e2=>by rw [aG]; exact aLp e2) λ a w S m hJ hn=>?_)
  obtain ⟨r1,r2⟩:=hb.put2 hp (q:=(q:Int)) (by omega)
  obtain ⟨x1,hx1⟩:∃ x1,x1=(iK N (es.take i)).set p ((iK N (es.take i)).getD p []++[[.int .i64 (q:Int)]]):=⟨_,rfl⟩
  rw [← hx1] at hJ r1 r2
  have hgq:x1[q]?=some (x1.getD q []):=by
   rw [aB,aD (by rw [r1]; exact hq)]; rfl
  have hyq:=(r2 _ (aL hgq)).2
  refine vQ (A:=q) (eo:=wrJ q ((x1.getD q []).length+1)) (sl':=sK es i) (X':=xK n h nd cs es l N p q) (ys':=x1.getD q []++[[.int .i64 (p:Int)]]) tyJ (pE [160] [(160,[1002001])]) aDT (gok hG _ rfl) (C:=CJ) rfl hJ hn (by rw [r1]; exact hN2) hgq (λ els e1 e2=>j26 n h i p q nd cs es els _ l N q ⟨rfl,hq,by rw [e1,r1],hN2,e2,by omega⟩) rfl rfl (λ q=>absurd q (by simp)) (λ els e1 e2=>by rw [aG]; exact aLp e2) λ a w S m hJ hn=>?_
  have e2:iK N (es.take (i+1))=x1.set q (x1.getD q []++[[.int .i64 (p:Int)]]):=by
   rw [hx1,aES hi',e,iK,List.foldl_append]; rfl
  rw [← e2] at hJ
  have hb2:=pS hE (i+1) hi'
  refine mV (sl':=sJ es ((i+1:Nat):Int)) (X':=xJ n h nd cs es l N) tyJ (pE [] []) aDT (gok hG _ rfl) (C:=CJ) rfl hJ hn (by rw [hb2.len]; exact hN2) (by rw [hb2.len]; exact hN1) (λ els ys _=>j27 n h i p q nd cs es els ys l N ⟨by omega,by omega⟩) rfl rfl λ a w S m hJ hn=>?_
  exact ⟨es.length - (i+1),by omega,i+1,hi',rfl,S,m,hJ,hn⟩
 ·have hi':i=es.length:=by have:=of_decide_eq_false hf; omega
  rw [hf] at hJ
  subst hi'
  rw [List.take_length] at hJ
  exact hQ a w S m hJ hn
def aEq (i:Nat) (L:List (LL)):List (LL):=(L.take i).map fX++L.drop i
omit hG in
theorem aJy (i:Nat) (L:List (LL)):(aEq i L).length=L.length:=by
 simp only [aEq,aG,List.length_map,List.length_take,List.length_drop]; omega
omit hG in
theorem aJz {i:Nat} {L:List (LL)} (h:i < L.length):(aEq i L)[i]?=some (L.getD i []):=by
 rw [aEq,List.getElem?_append_right (by simp; omega)]
 simp only [List.length_map,List.length_take,List.getElem?_drop]
 rw [show i+(i - min i L.length)=i by omega,aD h,aB,aD h]; rfl
omit hG in
theorem aJx {i:Nat} {L:List (LL)} (h:i < L.length):(aEq i L).set i (fX (L.getD i []))=aEq (i+1) L:=by
 have e1:L.drop i=L.getD i []::L.drop (i+1):=by
  rw [List.drop_eq_getElem_cons h,aB,aD h]; rfl
 have e2:L.take (i+1)=L.take i++[L.getD i []]:=by
  rw [List.take_add_one,aB,aD h]; rfl
 rw [aEq,aEq,e1,e2,List.map_append,List.set_append_right _ _ (by simp; omega)]
 simp only [List.length_map,List.length_take,List.map_cons,List.map_nil,List.append_assoc,List.singleton_append]
 rw [show i - min i L.length=0 by omega]
 rfl
theorem aWe {n h:Int} {nd cs es:LL} {l:List (Int × AV)} {N:Nat} (hN1:1≤N) (hN2:N≤200) {L:List (LL)} (hL:L.length=N) (hO:∀ ys ∈ L,(∀ r ∈ ys,okR 1 r=true)∧ys.length≤10000) (hJ:JS G (sL N 0) (xJ n h nd cs es l N) L a w S m) (hn:a.tmps.size=180)
  {Q:Exit->Act->World->Prop} (hQ:∀ a w S m,JS G ((173,.bool false)::sL N N) (xJ n h nd cs es l N) (L.map fX) a w S m->a.tmps.size=180->Q .normal a w) :
  (Code.block 10 (.loop (.seq (gO 29 iH) (.seq (.cond (.tmp 173) .skip (.exit 10)) (.seq (.block 11 (.seq (gO 30 iH) (gO 31 iH))) (gO 32 iH)))))).wp Tryz.prog Q a w:=by
 refine wp_block (wp_loop_ghost (λ k a w=>∃ i:Nat,i≤N∧k=N - i∧∃ S m,JS G (sL N i) (xJ n h nd cs es l N) (aEq i L) a w S m∧a.tmps.size=180) N ⟨0,by omega,by omega,S,m,hJ,hn⟩ ?_)
 rintro k a w ⟨i,hi,rfl,S,m,hJ,hn⟩
 have hlen:∀ i,(aEq i L).length=N:=λ i=>(aJy i L).trans hL
 have hX:=hJ.gh
 refine wp_seq (mV (sl':=(173,.bool (decide ((i:Int) < N)))::sL N i) (X':=xJ n h nd cs es l N) tyJ (pE [] []) aDT (gok hG _ rfl) (C:=CJ) rfl hJ hn (by rw [hlen]; exact hN2) (by rw [hlen]; exact hN1) (λ els ys _=>j29 n h i nd cs es els ys l N ⟨by omega,by omega⟩) rfl hX λ a w S m hJ hn=>?_)
 refine wp_seq (wp_cond_split (evT (t:=173) hJ.rel.tmps rfl) (λ ht=>wp_skip ?_) (λ hf=>wp_exit ?_))
 ·have hi':i < N:=by have:=of_decide_eq_true ht; omega
  rw [ht] at hJ
  have hg:=aJz (L:=L) (i:=i) (by omega)
  have hm:L.getD i [] ∈ L:=eG (by omega)
  obtain ⟨o1,o2⟩:=hO _ hm
  refine wp_seq (wp_block (vQ (A:=i) (eo:=id) (sl':=sL N i) (X':=xJ n h nd cs es l N) (ys':=fX (L.getD i [])) tyJ (aVJ [175] [(175,[1002001])]) aDT (gok hG _ rfl) (C:=CJ) rfl hJ hn (by rw [hlen]; exact hN2) hg (λ els e1 e2=>j30 n h i nd cs es els _ l N i ⟨rfl,hi',by rw [e1,hlen],hN2,e2,o2⟩ ⟨o1,by omega,rfl⟩) rfl rfl (λ q=>List.eq_nil_of_length_eq_zero (by rw [← iP,q]; rfl)) (λ els e1 e2=>⟨rfl,by rw [iP]; exact e2,λ _ _=>rfl⟩) λ a w S m hJ hn=>?_))
  rw [aJx (by omega)] at hJ
  refine mV (sl':=sL N ((i+1:Nat):Int)) (X':=xJ n h nd cs es l N) tyJ (pE [] []) aDT (gok hG _ rfl) (C:=CJ) rfl hJ hn (by rw [hlen]; exact hN2) (by rw [hlen]; exact hN1) (λ els ys _=>j32 n h i nd cs es els ys l N ⟨by omega,by omega⟩) rfl rfl λ a w S m hJ hn=>?_
  exact ⟨N - (i+1),by omega,i+1,hi',rfl,S,m,hJ,hn⟩
 ·have hi':i=N:=by have:=of_decide_eq_false hf; omega
  rw [hf] at hJ
  subst hi'
  have e:aEq i L=L.map fX:=by
   rw [aEq,List.take_of_length_le (by omega),List.drop_eq_nil_of_le (by omega),List.append_nil]
  rw [e] at hJ
  exact hQ a w S m hJ hn
end
theorem aKE {f:FuncId} {fn:Func} (hf:P.funcs[f]?=some fn) {c:Code} (hc:fn.body=some c) {xs:List AV} {bs:List Blk} {r:AV} {bs':List Blk} (hnt:C.nt=fn.ntmps) (hle:xs.length≤fn.ntmps) (hkp:C.kp=eO 0 bs.length)
    (h:∀ (G:Gh) (a:Act) (w:World) (S:Pin) (m:Nm),GOK E G.S0->Rel G C.kp ⟨lG xs 0,eH bs 0⟩ a w S m->a.tmps.size=C.nt->c.wp P (aPN G C (λ st=>aI5 C.kp (C.emp 900001) st λ st=>aAv P E C st fn.results.toList (aKY C.kp r bs')) (λ _ _=>False) (λ st=>aI5 C.kp (C.emp 900001) st λ st=>aAv P E C st fn.results.toList (aKY C.kp r bs'))) a w):HC P E.glob f xs bs r bs':=by
  intro w S m vs hG hA hnm hheld hinj hv
  have hlen:=hv.len
  simp only [Array.length_toList] at hlen
  let G:Gh:=⟨w,S,m,Mof bs.length m⟩
  have hbl:∀ k b,lk (eH bs 0) k=some b->bs[k]?=some b:=by
    intro k b e
    rw [kV] at e
    simpa using e
  have hbl2:∀ (k:Nat) (b:Blk),bs[k]?=some b->k < bs.length:=λ k b e=>(aF.1 e).1
  have hR0:Rel G C.kp ⟨lG xs 0,eH bs 0⟩ { tmps:=vs++Array.replicate (fn.ntmps - vs.size) undef,defers:=[] } w S m :=
    { defers:=rfl
      pin0:=Ext.refl S
      pinNew:=λ _ _ _ _=>rfl
      agree:=hA
      tmps:=λ t=>by
        unfold St.get
        rw [jJ]
        simp only [Nat.zero_le,if_true,Nat.sub_zero]
        cases e:xs[t]? with
        | none=>simp only [CV]
        | some x =>
          obtain ⟨v,hv1,hv2⟩:=hv.get e
          have hlt:t < vs.size:=by have:=(aF.1 hv1).1; simpa using this
          have:vs[t]?=some v:=by simpa using hv1
          simp only [Array.getD_eq_getD_getElem?,Array.getElem?_append_left hlt,this,Option.getD_some]
          exact hv2
      held:=λ k b hk=>hheld k b (hbl k b hk)
      inj:=λ k k' b b' u u' g hk hk' hne hu hu' hg=>hinj k k' u u' g (hbl2 k b (hbl k b hk)) (hbl2 k' b' (hbl k' b' hk')) hne hu hu' hg
      own:=λ k b u g hk hu hg=>.inr ⟨k,u,hbl2 k b (hbl k b hk),hu,hg⟩
      os:=rfl
      tape:=rfl
      output:=rfl
      size:=Nat.le_refl _
      frame:=λ _ _ _=>rfl
      m0:=MLe.refl _
      keep:=λ k u e=>by
        have hlt:=hnm k u e
        rw [hkp]
        exact aL (by rw [gP _ 0 k hlt,Nat.zero_add]) }
  refine calls_of_wp hf hc (Go.wp_mono (h G _ w S m hG hR0 ?_) ?_)
  · simp; omega
  · have fin:∀ st a w' S' m',aI5 C.kp (C.emp 900001) st (λ st=>aAv P E C st fn.results.toList (aKY C.kp r bs'))->Rel G C.kp st a w' S' m'->a.defers=[]∧∃ v,(results fn a.tmps).run P w'=.ok v w' ∧
        ∃ u S' m',Ending.returned v=.returned u∧w'.os=w.os∧w'.tape=w.tape∧w'.output=w.output∧w.heap.size≤w'.heap.size∧Ext S S' ∧
    (∀ b,b < w.heap.size->¬ Mof bs.length m b->w'.heap[b]?=w.heap[b]?∧∀ o,S' b o=S b o)∧eB S' w' ∧
    (∀ (q:Nat) (b:Blk),bs'[q]?=some b->fN S' m' w' q b)∧aVh bs'.length m'∧(∀ q u g,q < bs'.length->m' q=some u->bk u=some g->w.heap.size≤g∨Mof bs.length m g)∧MLe m m'∧CV S' r m' u:=by
      intro st0 a w' S0 m0 hk0 hR0
      obtain ⟨st1,S1,m1,hk1,hR1⟩:=jY _ _ S0 m0 _ hk0 hR0
      obtain ⟨st,S',m',hk,hR⟩:=cC _ _ S1 m1 _ hk1 hR1
      obtain ⟨x,v,h1,h2,h3⟩:=gM hR hk
      unfold aKY at h1
      generalize hks:aI4 (lk st.heap) 3 (jD (aLM x) C.kp)=ks at h1
      have hknd:ks.Nodup:=by rw [← hks]; exact jW _ _ _ (dX _ _ (by rw [hkp]; exact iY _ _))
      have hpre:∀ q,q < bs.length->ks[q]?=some q:=by
        intro q hq
        obtain ⟨t,ht⟩:=jC (aLM x) C.kp
        obtain ⟨t',ht'⟩:=wE (lk st.heap) 3 (jD (aLM x) C.kp)
        rw [← hks,ht',ht,hkp,List.append_assoc,List.getElem?_append_left (by rw [mQ]; exact hq),gP _ _ _ hq,Nat.zero_add]
      obtain ⟨y,h4,hy⟩:=lJ _ _ h1
      obtain ⟨cs,h5,hcl,hcs⟩:=fV _ _ h4
      obtain ⟨ds,h6,hdl,hds⟩:=gJ _ _ h5
      obtain ⟨h7,h8⟩:=h6
      let m2:Nm:=λ q=>(ks[q]?).bind m'
      have hRn:Rn (λ k=>idx k ks 0) m' m2:=by
        intro i j hij
        have:=(mX hij).2
        simp only [Nat.sub_zero] at this
        simp only [m2,this,Option.bind_some]
      have hm2:∀ q k,ks[q]?=some k->m2 q=m' k:=λ q k e=>by simp only [m2,e,Option.bind_some]
      have hlen':bs'.length=ks.length:=by rw [← oR h8,hdl,hcl]
      have hkb:∀ (q k:Nat),ks[q]?=some k->∃ b,lk st.heap k=some b:=λ q k e=>by obtain ⟨b,_,hb⟩:=hcs q k e; exact ⟨b,hb⟩
      refine ⟨hR.defers,v,h3,v,S',m2,rfl,hR.os,hR.tape,hR.output,hR.size,hR.pin0,λ b hb hn=>⟨hR.frame b hb hn,λ o=>hR.pinNew b o hb hn⟩,hR.agree,?_,?_,?_,?_,fS _ _ _ _ h7 (hy S' m' m2 v hRn h2)⟩
      · intro q b hb
        have hql:q < ks.length:=by rw [← hlen']; exact (aF.1 hb).1
        obtain ⟨d,hd,hle⟩:=oS h8 hb
        obtain ⟨c0,hc0,hh⟩:=hcs q ks[q] (by simp [hql])
        have hidx:idx ks[q] ks 0=some q:=by
          have key:∀ (l:List Nat) (q i:Nat) (h:q < l.length),l.Nodup->idx l[q] l i=some (i+q):=by
            intro l
            induction l with
            | nil=>intro q i h; simp at h
            | cons j l ih =>
              intro q i h hn
              rw [List.nodup_cons] at hn
              cases q with
              | zero=>simp [idx,aY]
              | succ q =>
                simp at h
                simp only [idx,List.getElem_cons_succ]
                rw [nbeq_ne (λ e=>hn.1 (by rw [e]; exact List.getElem_mem h))]
                simp only [cond_false]
                rw [ih q (i+1) h hn.2]
                congr 1; omega
          simpa using key ks q 0 hql hknd
        exact oT hle (hds q c0 d hc0 hd S' m' m2 w' ks[q] q hRn hidx (hR.held _ _ hh))
      · intro q q' u u' g hq hq' hne hu hu' hg
        rw [hlen'] at hq hq'
        rw [hm2 q ks[q] (by simp [hq])] at hu
        rw [hm2 q' ks[q'] (by simp [hq'])] at hu'
        obtain ⟨b,hb⟩:=hkb q ks[q] (by simp [hq])
        obtain ⟨b',hb'⟩:=hkb q' ks[q'] (by simp [hq'])
        exact hR.inj _ _ b b' u u' g hb hb' (λ e=>hne (iX (k:=ks[q]) hknd (p:=q) (q:=q') (by simp [hq]) (by rw [e]; simp [hq']))) hu hu' hg
      · intro q u g hq hu hg
        rw [hlen'] at hq
        rw [hm2 q ks[q] (by simp [hq])] at hu
        obtain ⟨b,hb⟩:=hkb q ks[q] (by simp [hq])
        exact hR.own _ b u g hb hu hg
      · intro k u hu
        obtain ⟨u',h9,h10⟩:=hR.m0 k u hu
        exact ⟨u',by rw [hm2 k k (hpre k (hnm k u hu))]; exact h9,h10⟩
    intro e a w' he
    cases e with
    | normal=>obtain ⟨st,S',m,hk,hR,_⟩:=he; exact fin st a w' S' m hk hR
    | ret=>obtain ⟨st,S',m,hk,hR,_⟩:=he; exact fin st a w' S' m hk hR
    | exit _=>obtain ⟨st,S',m,hk,hR,_⟩:=he; exact hk.elim
    | _=>exact he.elim
open Go.RowKit (Below)
variable {P:Program} {S:Pin} {m:Nm} {w:World} {a:Act} {G:Gh} {kp:List Nat} {st:St} {E:Env} {C:Cx}
theorem aEy {α:Type} {g:Int->List α->List α} {c:Nat} (hg:∀ b s,0≤b->(g b s).length≤s.length+c):∀ (k:Nat) (b:Int) (s:List α),0≤b->(itr g k b s).length≤s.length+k*c
 | 0,b,s,_=>by simp [itr]
 | k+1,b,s,h0=>by
  have h1:=aEy hg k (b+1) (g b s) (by omega)
  have h2:=hg b s h0
  have e:itr g (k+1) b s=itr g k (b+1) (g b s):=rfl
  rw [e,Nat.succ_mul]; omega
theorem tU {α:Type} {g:Int->List α->List α} {c:Nat} (hg:∀ b s,0≤b->(g b s).length≤s.length+c) (e:Int) (s:List α) {k:Nat} (hk:(e - 0).toNat≤k):(sA g 0 e s).length≤s.length+k*c:=by
 have:=aEy hg (e - 0).toNat 0 s (Int.le_refl 0)
 have h2:=Nat.mul_le_mul_right c hk
 unfold sA; omega
theorem aTO (nrm:NrT) (n:Int) (n1:1≤n) (n4:n≤4):(clG nrm n).length≤1280:=by
 have hc:∀ h f a b c,(lB nrm (ptG nrm n).2 h f a b c).length≤2:=λ h f a b c=>by unfold lB; split <;> simp
 unfold clG clF
 refine Nat.le_trans (tU (c:=32) (λ f cs _=>?_) 20 [] (k:=20) (by omega)) (by simp)
 unfold clA
 refine Nat.le_trans (tU (c:=8) (λ a cs ha=>?_) n cs (k:=4) (by omega)) (by omega)
 unfold clB
 refine Nat.le_trans (tU (c:=2) (λ b cs _=>?_) (n - a) cs (k:=4) (by omega)) (by omega)
 rw [aG]
 have:=hc (hN n) f (a*hN n) (b*hN n) ((n - 1 - a - b)*hN n)
 omega
structure InR (N k:Nat) (r:List AV):Prop where
 ok:okR k r=true
 at_:∀ i,i < k->0≤nI r i∧nI r i < N
theorem aPj {N:Nat} (hN:N≤200) {x y z:Int} (hx:0≤x∧x < N) (hy:0≤y∧y < N) (hz:0≤z∧z < N):InR N 3 (aPl x y z):=by
 refine ⟨aIb (by omega) (by omega) (by omega),λ i hi=>?_⟩
 have e:nI (aPl x y z) i=s3 x y z i:=by
  rcases (by omega:i=0∨i=1∨i=2) with rfl | rfl | rfl <;> rfl
 rw [e]
 rcases aFc x y z hi with e | e | e <;> rw [e] <;> assumption
theorem rE {nrm:NrT} {n:Int} {N:Nat} (hN:N≤200) (hl:∀ q,0≤vL (ptG nrm n).2 q∧vL (ptG nrm n).2 q < N):∀ r ∈ clG nrm n,InR N 3 r:=by
 have hc:∀ f a b c f' a' b' c' f'' a'' b'' c'',InR N 3 (aBN nrm (ptG nrm n).2 f a b c f' a' b' c' f'' a'' b'' c''):=λ _ _ _ _ _ _ _ _ _ _ _ _=>aPj hN (hl _) (hl _) (hl _)
 have hcn:∀ h f a b c,∀ r ∈ lB nrm (ptG nrm n).2 h f a b c,InR N 3 r:=λ h f a b c r hr=>by
  unfold lB at hr
  split at hr
  ·simp only [List.mem_cons,List.not_mem_nil,or_false] at hr
   rcases hr with rfl | rfl <;> exact hc _ _ _ _ _ _ _ _ _ _ _ _
  ·simp only [List.mem_cons,List.not_mem_nil,or_false] at hr
   subst hr; exact hc _ _ _ _ _ _ _ _ _ _ _ _
 have p0:∀ r ∈ ([]:LL),InR N 3 r:=λ r hr=>by simp at hr
 exact tV (p:=λ cs=>∀ r ∈ cs,InR N 3 r) (λ f cs h1=>tV (p:=λ cs=>∀ r ∈ cs,InR N 3 r) (λ a cs h2=>tV (p:=λ cs=>∀ r ∈ cs,InR N 3 r) (λ b cs h3 r hr=>by
  rcases List.mem_append.1 hr with hr | hr
  ·exact h3 r hr
  ·exact hcn _ _ _ _ _ r hr) _ _ h2) _ _ h1) _ _ p0
theorem qY {N:Nat} (hN:N≤200) {r:List AV} (h:InR N 3 r):∀ q ∈ edR r,InR N 2 q:=by
 have h0:=h.at_ 0 (by decide)
 have h1:=h.at_ 1 (by decide)
 have h2:=h.at_ 2 (by decide)
 have key:∀ a b:Int,0≤a∧a < N->0≤b∧b < N->InR N 2 [.int .i64 a,.int .i64 b]:=λ a b ha hb=>⟨mk2 (by omega) (by omega),λ i hi=>by
  rcases (by omega:i=0∨i=1) with rfl | rfl
  ·exact ha
  ·exact hb⟩
 intro q hq
 simp only [edR,List.mem_cons,List.not_mem_nil,or_false] at hq
 rcases hq with rfl | rfl | rfl
 ·exact key _ _ h0 h1
 ·exact key _ _ h0 h2
 ·exact key _ _ h1 h2
theorem oX:∀ (l:LL) (p:List AV),(∀ r ∈ oB p l,r ∈ l)∧(oB p l).length≤l.length
 | [],p=>⟨λ r hr=>by simp [oB] at hr,by simp [oB]⟩
 | x::l,p=>by
  unfold oB
  split
  ·obtain ⟨h1,h2⟩:=oX l x
   exact ⟨λ r hr=>aN _ (h1 r hr),by simp only [List.length_cons]; omega⟩
  ·obtain ⟨h1,h2⟩:=oX l x
   refine ⟨λ r hr=>?_,by simp only [List.length_cons]; omega⟩
   rcases List.mem_cons.1 hr with rfl | hr
   ·exact aO
   ·exact aN _ (h1 r hr)
theorem rC:∀ (l:LL),(∀ r ∈ cS l,r ∈ l)∧(cS l).length≤l.length
 | []=>⟨λ r hr=>by simp [cS] at hr,by simp [cS]⟩
 | x::l=>by
  obtain ⟨h1,h2⟩:=oX l x
  refine ⟨λ r hr=>?_,by simp only [cS,List.length_cons]; omega⟩
  rcases List.mem_cons.1 hr with rfl | hr
  ·exact aO
  ·exact aN _ (h1 r hr)
structure BldQ (nrm:NrT) (n:Int):Prop where
 lo:1≤n
 hi:n≤4
 l1:1≤(ptG nrm n).1.length
 l2:(ptG nrm n).1.length≤200
 rg:∀ q,0≤vL (ptG nrm n).2 q∧vL (ptG nrm n).2 q < (ptG nrm n).1.length
 dup:aLo (aPZ nrm n)
theorem bY {nrm:NrT} {n:Int} (h:BldQ nrm n):(∀ r ∈ aT nrm n,InR (ptG nrm n).1.length 2 r)∧(aT nrm n).length≤3840:=by
 have h3:=rE h.l2 h.rg
 have p3:=bZ (cf:=cf3) aLu (λ r hr=>(h3 r hr).ok)
 have h3':∀ r ∈ dD nrm n,InR (ptG nrm n).1.length 3 r:=λ r hr=>h3 r (p3.mem_iff.1 hr)
 have h2:∀ q ∈ edL (dD nrm n),InR (ptG nrm n).1.length 2 q:=λ q hq=>by
  simp only [edL,List.mem_flatMap] at hq
  obtain ⟨r,hr,hq⟩:=hq
  exact qY h.l2 (h3' r hr) q hq
 have p2:=bZ (cf:=cf2) aI0 (λ r hr=>(h2 r hr).ok)
 obtain ⟨s1,s2⟩:=rC (aPZ nrm n)
 refine ⟨λ r hr=>h2 r (p2.mem_iff.1 (s1 r hr)),?_⟩
 have e1:(aPZ nrm n).length=(edL (dD nrm n)).length:=p2.length_eq
 have e2:=aBC (dD nrm n)
 have e3:(dD nrm n).length=(clG nrm n).length:=p3.length_eq
 have e4:=aTO nrm n h.lo h.hi
 show (cS (aPZ nrm n)).length≤3840
 omega
theorem aOT {nrm:NrT} {n:Int} (h:BldQ nrm n):EdgP (ptG nrm n).1.length (aT nrm n):=by
 obtain ⟨h1,h2⟩:=bY h
 refine ⟨λ i hi=>?_,by omega,h.l1,h.l2⟩
 have hr:=h1 _ (eG (d:=[]) hi)
 have e:=(ok2 hr.ok).1
 have a0:=hr.at_ 0 (by decide)
 have a1:=hr.at_ 1 (by decide)
 refine ⟨(nI ((aT nrm n).getD i []) 0).toNat,(nI ((aT nrm n).getD i []) 1).toNat,?_,by omega,by omega⟩
 rw [Int.toNat_of_nonneg a0.1,Int.toNat_of_nonneg a1.1]
 exact e
def aUW (nrm:NrT) (n:Int):List (LL):=(iK (ptG nrm n).1.length (aT nrm n)).map fX
def pP (nrm:NrT) (n:Int):LL:=(aUW nrm n).map λ ys=>[AV.sl 1 false ys]
def aGv (nrm:NrT):SpH
 | [.int .i64 n],[]=>some (BldQ nrm n,.ptr 0 0,[.cells [.int .i64 n,.int .i64 (hN n),.sl 4 false (ptG nrm n).1,.mpv 1,.sl 3 false (dD nrm n),.sl 2 false (aT nrm n),.sl 1 false (pP nrm n)],.mp 27 3 (ptG nrm n).2])
 | _,_=>none
theorem aPK {fuel:Nat} {x y:Code} {kn:St->Prop} {ke:Nat->St->Prop} {kr:St->Prop} (h:acX P E C (λ _ _=>none) fuel (.seq x y) st kn ke kr):acX P E C (λ _ _=>none) fuel x st (λ st'=>acX P E C (λ _ _=>none) fuel y st' kn ke kr) ke kr:=by
 unfold acX at h ⊢
 simpa only [cB] using h
theorem aCq {inv:Nat->St->Option LInv} {fuel:Nat} (hT:TyOK P C.tys) (hS:cE P E) (hM:P.follows .mixedOrders=true) (hG:GOK E G.S0) {c:Code} {kn:St->Prop} (h:acX P E C inv fuel c st kn (λ _ _=>False) (λ _=>False)) (hR:Rel G C.kp st a w S m) (hn:a.tmps.size=C.nt) {Q:Exit->Act->World->Prop}
  (hQ:∀ st' a' w' S' m',kn st'->Rel G C.kp st' a' w' S' m'->a'.tmps.size=C.nt->Q .normal a' w'):c.wp P Q a w:=by
 unfold acX at h
 exact aAw hT hS hM hG h hR hn hQ
theorem aIO {inv:Nat->St->Option LInv} {fuel:Nat} (hT:TyOK P C.tys) (hS:cE P E) (hM:P.follows .mixedOrders=true) (hG:GOK E G.S0) {c:Code} {kn:St->Prop} {ke:Nat->St->Prop} {kr:St->Prop} (h:acX P E C inv fuel c st kn ke kr) (hR:Rel G C.kp st a w S m) (hn:a.tmps.size=C.nt):c.wp P (aPN G C kn ke kr) a w:=by
 unfold acX at h
 exact bO hT hS hM hG c st kn ke kr h a w S m hR hn
theorem aT1 {n:Int} (hP:BldQ nrm n):HC Tryz.prog glb 43 [.int .i64 n] [] (.ptr 0 0) [.cells [.int .i64 n,.int .i64 (hN n),.sl 4 false (ptG nrm n).1,.mpv 1,.sl 3 false (dD nrm n),.sl 2 false (aT nrm n),.sl 1 false (pP nrm n)],.mp 27 3 (ptG nrm n).2]:=by
 have hE:=aOT hP
 have hb:=aX2 nrm vld n ⟨hP.lo,hP.hi,λ q=>⟨(hP.rg q).1,by have:=(hP.rg q).2; have:=hP.l2; omega⟩,hP.dup⟩
 refine aKE (E:=EJ [] []) (C:=CB) Tryz.func43 (c:=iH) (by kernel_rfl) (by kernel_rfl) (aK (by kernel_rfl)) rfl λ G a w S m hG hR hn=>?_
 have hG0:GOK { glob:=glb } G.S0:=hG
 refine zR bD (by exact aV rfl rfl trivial ⟨aNG,aGu,aMG glb,aMF glb,aGt glb,trivial⟩) aDT (gok hG0 _ rfl) 7 iH _ _ hb a w S m hR hn λ st a w S m hst hR hn=>?_
 have hR:=hR.le hst
 rw [aLd]
 have q21:=j21 n (hN n) (ptG nrm n).1 (dD nrm n) (aT nrm n) (ptG nrm n).2 hP.l2
 have q21:=aPK q21
 refine wp_seq (aCq (E:=EJ [] []) (C:=CB) bD (pE [] []) aDT (gok hG0 _ rfl) q21 hR hn λ st a w S m q22 hR hn=>?_)
 refine wp_seq (wp_seq (aCq (E:=EJ [] []) (C:=CB) bD (pE [] []) aDT (gok hG0 _ rfl) q22 hR hn λ st a w S m hst hR hn=>?_))
 obtain ⟨m,hJ⟩:=aGR (ptG nrm n).1.length (hR.le hst) rfl rfl
 refine aWf hG0 hE hJ hn λ a w S m hJ hn=>?_
 have hNb:=pS hE _ (Nat.le_refl _)
 rw [List.take_length] at hNb
 refine wp_seq (wp_seq (mV (sl':=sL (ptG nrm n).1.length 0) (X':=xJ n (hN n) (ptG nrm n).1 (dD nrm n) (aT nrm n) (ptG nrm n).2 (ptG nrm n).1.length) tyJ (pE [] []) aDT (gok hG0 _ rfl) (C:=CJ) rfl hJ hn (by rw [hNb.len]; exact hP.l2) (by rw [hNb.len]; exact hP.l1) (λ els ys _=>j28 n (hN n) _ (ptG nrm n).1 (dD nrm n) (aT nrm n) els ys (ptG nrm n).2 _ hP.l2) rfl rfl λ a w S m hJ hn=>?_))
 refine aWe hG0 hP.l1 hP.l2 hNb.len (λ ys hy=>⟨(hNb.ok ys hy).1,by have:=(hNb.ok ys hy).2; have:=hE.le; omega⟩) hJ hn λ a w S m hJ hn=>?_
 obtain ⟨S,hR⟩:=aGQ hJ
 have q33:=j33 n (hN n) (ptG nrm n).1 (dD nrm n) (aT nrm n) (pP nrm n) (ptG nrm n).2 (ptG nrm n).1.length (by simp only [pP,aUW,List.length_map]; exact hNb.len.symm)
 refine Go.wp_mono (aIO (E:=EJ [] []) (C:=CF) bD (pE [] []) aDT (gok hG0 _ rfl) q33 hR hn) ?_
 intro e a w he
 cases e with
 | normal=>obtain ⟨_,_,_,hk,_⟩:=he; exact hk.elim
 | exit _=>obtain ⟨_,_,_,hk,_⟩:=he; exact hk.elim
 | ret=>obtain ⟨st,S,m,hk,hR,hn⟩:=he; exact ⟨st,S,m,hk,hR,hn⟩
 | _=>exact he.elim
theorem aNX:HOK Tryz.prog glb 43 (aGv nrm):=by
 refine ⟨fok Tryz.func43 (by kernel_rfl) (by kernel_rfl),?_⟩
 intro xs bs pre r bs2 h hp
 unfold aGv at h
 split at h
 ·cases h
  exact aT1 hp
 ·cases h
def fnN:List Int:=[12,42,92,162]
structure FnN (n:Int):Prop where
 mem:n ∈ fnN
theorem aNN {n:Int} (h:FnN n):n=12∨n=42∨n=92∨n=162:=by
 have:=h.mem
 simpa [fnN] using this
def mS:Sp
 | [.int .u64 a,.int .u64 n]=>some (a=1∧FnN n,.tup [.int .u64 0,.int .u64 n])
 | _=>none
def vD:Prop :=
 ∀ (gl:aX),((0:Int)≤(1:Int)∧(1:Int)≤(18446744073709551615:Int)->(0:Int)≤(12:Int)∧(12:Int)≤(18446744073709551615:Int)->(0:Int)=(0:Int)∧(12:Int)=(12:Int)∧True)∧((0:Int)≤(1:Int)∧(1:Int)≤(18446744073709551615:Int)->(0:Int)≤(42:Int)∧(42:Int)≤(18446744073709551615:Int)->(0:Int)=(0:Int)∧(42:Int)=(42:Int)∧True)∧((0:Int)≤(1:Int)∧(1:Int)≤(18446744073709551615:Int)->(0:Int)≤(92:Int)∧(92:Int)≤(18446744073709551615:Int)->(0:Int)=(0:Int)∧(92:Int)=(92:Int)∧True)∧((0:Int)≤(1:Int)∧(1:Int)≤(18446744073709551615:Int)->(0:Int)≤(162:Int)∧(162:Int)≤(18446744073709551615:Int)->(0:Int)=(0:Int)∧(162:Int)=(162:Int)∧True)∧True
theorem aNA:vD:=by
 unfold vD
 intro gl
 repeat' (first | exact trivial | intro _ | rfl | apply And.intro)
def aAT:Prop:=∀ gl:aX,aDu fnN λ n=>fnK Tryz.prog { glob:=gl,nowf:=true,wrap:=true } { nt:=51 } (λ _ _=>none) 6 Tryz.f185 [.int .u64 1,.int .u64 n] (.tup [.int .u64 0,.int .u64 n])
theorem aNz:vD=aAT:=by kernel_rfl
theorem aWa:aAT:=@Eq.mp (vD) (aAT) (aNz) (aNA)
theorem aKj (gl:aX):SOK Tryz.prog gl 185 mS:=by
 refine ⟨fok Tryz.func185 (by kernel_rfl) (by kernel_rfl),?_⟩
 intro xs pre r h hp
 unfold mS at h
 split at h
 ·cases h
  obtain ⟨rfl,hn⟩:=hp
  exact aU bD (by exact aV (l:=[]) (l':=[]) rfl rfl trivial trivial) (by kernel_rfl) Tryz.func185 rfl (fW (aWa gl) hn.mem)
 ·cases h
abbrev lQ:=(18446744073709551615:Int)
def aCE:Prop :=
 ∀ (gl:aX),((0:Int)≤(1:Int)∧(1:Int)≤(lQ)->(0:Int)≤(12:Int)∧(12:Int)≤(lQ)->((1:Int)=(1:Int)∧FnN 12)∧(0:Int)=(0:Int)∧(12:Int)=(12:Int)∧True)∧((0:Int)≤(1:Int)∧(1:Int)≤(lQ)->(0:Int)≤(42:Int)∧(42:Int)≤(lQ)->((1:Int)=(1:Int)∧FnN 42)∧(0:Int)=(0:Int)∧(42:Int)=(42:Int)∧True)∧((0:Int)≤(1:Int)∧(1:Int)≤(lQ)->(0:Int)≤(92:Int)∧(92:Int)≤(lQ)->((1:Int)=(1:Int)∧FnN 92)∧(0:Int)=(0:Int)∧(92:Int)=(92:Int)∧True)∧((0:Int)≤(1:Int)∧(1:Int)≤(lQ)->(0:Int)≤(162:Int)∧(162:Int)≤(lQ)->((1:Int)=(1:Int)∧FnN 162)∧(0:Int)=(0:Int)∧(162:Int)=(162:Int)∧True)∧True
theorem aRT:aCE:=by
 unfold aCE
 delta lQ
 intro gl
 repeat' (first | exact trivial | intro _ | rfl | exact ⟨by decide⟩ | apply And.intro)
def aGb:Prop:=∀ gl:aX,aDu fnN λ n=>fnK Tryz.prog { glob:=gl,spec:=lk [(185,mS)],nowf:=true,wrap:=true } { nt:=30 } (λ _ _=>none) 6 Tryz.f143 [.int .u64 1,.int .u64 n] (.tup [.int .u64 0,.int .u64 n])
theorem aRS:aCE=aGb:=by kernel_rfl
theorem aXP:aGb:=@Eq.mp (aCE) (aGb) (aRS) (aRT)
theorem aNy (gl:aX):SOK Tryz.prog gl 143 mS:=by
 refine ⟨fok Tryz.func143 (by kernel_rfl) (by kernel_rfl),?_⟩
 intro xs pre r h hp
 unfold mS at h
 split at h
 ·cases h
  obtain ⟨rfl,hn⟩:=hp
  exact aU bD (by exact aV (l':=[]) rfl rfl ⟨aKj gl,trivial⟩ trivial) (by kernel_rfl) Tryz.func143 rfl (fW (aXP gl) hn.mem)
 ·cases h
def aRR:Sp:=mS
structure RepP (N k:Int):Prop where
 lo:1≤k
 hi:k≤N
def nb (nx:LL) (k:Nat):List Int:=match nx.getD k [] with
 | [.sl _ _ ys]=>aQ ys
 | _=>[]
structure DisP (N:Nat) (nd nx:LL) (a:Int):Prop where
 eN:nd.length=N
 nN:FnN N
 eX:nx.length=N
 row:∀ k,k < N->nx.getD k []=[.sl 1 false (aP (nb nx k))]∧(∀ z ∈ nb nx k,0≤z∧z < N)∧(nb nx k).length≤10000
 fr:0≤a∧a < N
 conn:∀ V:Nat->Prop,V a.toNat->(∀ k,k < N->V k->∀ z ∈ nb nx k,V z.toNat)->∀ k,k < N->V k
theorem aR (zs:List Int):(aP zs).length=zs.length:=by simp [aP]
theorem bC {zs:List Int} {i:Nat} {z:Int} (h:zs[i]?=some z):(aP zs).getD i []=[.int .i64 z]:=by
 rw [aB,aP,List.getElem?_map,h]; rfl
theorem cZ {ds:List Int} {k:Nat} {x:Int} (h:k < ds.length):setEl (aP ds) k 0 [.int .i64 x]=aP (ds.set k x):=by
 have e:(aP ds)[k]?=some [.int .i64 ds[k]]:=by rw [aP,List.getElem?_map,aD h]; rfl
 show (aP ds).set k (spl ((aP ds).getD k []) 0 [.int .i64 x])=_
 rw [aB,e,aP,aP,List.map_set]; rfl
theorem cN (q:List Int) (k:Int):aP q++[[.int .i64 k]]=aP (q++[k]):=by simp [aP]
theorem aS (zs:List Int):aQ (aP zs)=zs:=by
 simp only [aQ,aP,List.map_map]
 exact (List.map_congr_left λ z _=>rfl).trans (List.map_id zs)
theorem aG0 {l:List Int} {i:Nat} {z:Int} (h:l[i]?=some z):l.getD i 0=z:=by rw [aB,h]; rfl
theorem bH {l:List Int} {i:Nat} (h:i < l.length):l[i]?=some (l.getD i 0):=by rw [aB,aD h]; rfl
def aWP:List AV->LL->List AV
 | m,[]=>m
 | m,x::l=>if nI m 1 - nI x 1 < 0 then aWP x l else aWP m l
def bst:LL->List AV
 | []=>[]
 | x::l=>aWP x l
def jU:Sp
 | [.int .i64 n]=>some (1≤n∧n≤4,.int .i64 (10*n*n+2))
 | _=>none
def vW:Prop :=
 ∀ (gl:aX) (n:Int),1≤n∧n≤(4:Int)->IR9 n->True∧bif !decide (1≤n∧n≤(8:Int)) then (0:Int)=(10:Int)*n*n+(2:Int) else bif decide (rng IntKind.i64 ((10:Int)*n)) then bif decide (rng IntKind.i64 ((10:Int)*n*n)) then bif decide (rng IntKind.i64 ((10:Int)*n*n+(2:Int))) then (10:Int)*n*n+(2:Int)=(10:Int)*n*n+(2:Int) else False else False else False
theorem aKL:vW:=by
 unfold vW
 intro gl n ⟨h1,h4⟩ _
 have hb:0≤10*n*n∧10*n*n≤160:=by rcases n14 h1 h4 with rfl | rfl | rfl | rfl <;> decide
 refine ⟨trivial,dK (λ h=>?_) (λ _=>cdI (by omega) (cdI (by omega) (cdI (by omega) rfl)))⟩
 rw [decide_eq_true (show 1≤n∧n≤8 by omega)] at h
 cases h
theorem aKK:vW=(∀ (gl:aX) (n:Int),1≤n∧n≤4->fnK Tryz.prog { glob:=gl,spec:=lk [(36,vG)],specH:=lk [],nowf:=true } { nt:=11,drop:=drp [(1,24),(3,1984)] } (λ _ _=>none) 6 Tryz.f59 [.int .i64 n] (.int .i64 (10*n*n+2))):=by kernel_rfl
def aKJ:=Eq.mp (aKK ..) (aKL)
theorem lX (gl:aX):SOK Tryz.prog gl 59 jU:=by
 refine ⟨fok Tryz.func59 (by kernel_rfl) (by kernel_rfl),?_⟩
 intro xs pre r h hp
 unfold jU at h
 split at h
 ·cases h
  exact aU bD (by exact aV rfl rfl ⟨(aCG gl),trivial⟩ trivial) (by kernel_rfl) Tryz.func59 rfl (aKJ gl _ hp)
 ·cases h
end Go.Proofs.YtgbbmadjdaphnaaGreatDoor
