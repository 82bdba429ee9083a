import Derived.Test.YtgbbmadjdaphnaaGreatDoorTTg
import Derived.Test.YtgbbmadjdaphnaaGreatDoorTTf
import Derived.Test.YtgbbmadjdaphnaaGreatDoorTTc
import Derived.ProofKit
import Derived.OpenShut
import Derived.ShutString
import Derived.ChangeOld
import Derived.Carry
import Derived.Deep.Slices
import Derived.WideShapes
import Derived.LaidMore
set_option maxRecDepth 100000
set_option linter.defProp false
set_option linter.unusedVariables false
set_option linter.unusedSimpArgs false
namespace Go.Proofs.YtgbbmadjdaphnaaGreatDoor
open Go Go.RowKit
def aHg:SpH
 | [.ptr 0 0,.agg [.int .i64 s,.int .i64 n,.sl 1 g ds,.sl 1 h fs]],[.cells [.int .i64 a,.int .i64 b,.int .i64 c,.int .i64 p,.int .i64 q,.int .i64 e]]=>some (True,.fn 190 [.ptr 1 0,.ptr 2 0],[.cells [.int .i64 a,.int .i64 b,.int .i64 c,.int .i64 p,.int .i64 q,.int .i64 e],.cells [.int .i64 s,.int .i64 n,.sl 1 g ds,.sl 1 h fs],.cells [.ptr 0 0]])
 | _,_=>none
def aHh:Prop :=
 ∀ (gl:aX) (s n a b c p q e:Int) (g h:Bool) (ds fs:LL),True->(IR9 s)∧(IR9 n)∧True∧True∧True->IR9 a->IR9 b->IR9 c->IR9 p->IR9 q->IR9 e->((0:Nat)=(0:Nat)∧(0:Nat)=(0:Nat)∧True)∧(a=a∧b=b∧c=c∧p=p∧q=q∧e=e∧True)∧(s=s∧n=n∧((bif g then g=true else True)∧ds=ds)∧((bif h then h=true else True)∧fs=fs)∧True)∧((0:Nat)=(0:Nat)∧True)∧True
theorem aSQ:aHh:=by
 unfold aHh
 intro gl s n a b c p q e g h ds fs
 intros
 cases g <;> cases h <;> (repeat' (first | exact trivial | exact rfl | assumption | apply And.intro))
theorem aSP:aHh=(∀ (gl:aX) (s n a b c p q e:Int) (g h:Bool) (ds fs:LL),fnH Tryz.prog { glob:=gl,spec:=lk [],specH:=lk [],nowf:=true } { nt:=6,drop:=drp [(1,32)],fr:=1000,kp:=[0] } (λ _ _=>none) 6 Tryz.f147 [.ptr 0 0,.agg [.int .i64 s,.int .i64 n,.sl 1 g ds,.sl 1 h fs]] [.cells [.int .i64 a,.int .i64 b,.int .i64 c,.int .i64 p,.int .i64 q,.int .i64 e]] (.fn 190 [.ptr 1 0,.ptr 2 0]) [.cells [.int .i64 a,.int .i64 b,.int .i64 c,.int .i64 p,.int .i64 q,.int .i64 e],.cells [.int .i64 s,.int .i64 n,.sl 1 g ds,.sl 1 h fs],.cells [.ptr 0 0]]):=by kernel_rfl
def aSO:=Eq.mp (aSP ..) (aSQ)
theorem aOx (gl:aX):HOK Tryz.prog gl 147 aHg:=by
 refine ⟨fok Tryz.func147 (by kernel_rfl) (by kernel_rfl),?_⟩
 intro xs bs pre r bs2 h hp
 unfold aHg at h
 split at h
 ·cases h
  exact bC bD (by exact aV rfl rfl trivial trivial) (by kernel_rfl) Tryz.func147 (aSO gl _ _ _ _ _ _ _ _ _ _ _ _)
 ·cases h
structure RestP (n a b c:Int) (ds fs:LL):Prop where
 am:AmoP n a b c ds fs
 e:sE n a b c (aQ ds) (aQ fs)=0
 n_:sN n a b c (aQ ds) (aQ fs)=n
 d:sD n a b c (aQ ds) (aQ fs)=ds
 f:sF n a b c (aQ ds) (aQ fs)=fs
 ld:ds.length≤1000000
 lf:fs.length≤1000000
def svR (n:Int) (ds fs:LL) (s:Int):List AV:=[.int .i64 s,.int .i64 n,.sl 1 false ds,.sl 1 false fs]
def svS (k:Nat):Int:=if k=0 then 2 else if k=1 then 4 else 5
def svX (n:Int) (ds fs:LL) (k:Nat):AV:=.agg (svR n ds fs (svS k))
def svA (n:Int) (ds fs:LL):LL:=[svR n ds fs 0,svR n ds fs 2,svR n ds fs 4,svR n ds fs 5]
def aUF (a b c:Int):List AV:=[.int .i64 a,.int .i64 b,.int .i64 c,.int .i64 5,.int .i64 2,.int .i64 0]
def unB:Code->Code
 | .block _ b=>b
 | .loop b=>b
 | _=>.skip
def sqA:Code->Code
 | .seq a _=>a
 | _=>.skip
def sqB:Code->Code
 | .seq _ b=>b
 | _=>.skip
def aXJ:Code->Array Oper
 | .region _ o _=>o
 | _=>#[]
noncomputable def aMp:Func:=Tryz.f190
noncomputable def svL:Code:=unB (unB (aMp.body.getD .skip))
noncomputable def aQE:Code:=sqA svL
noncomputable def svM:Code:=unB (sqB svL)
noncomputable def aQD:Code:=sqA svM
noncomputable def aQB:Code:=sqA (sqB svM)
noncomputable def aJe:Code:=sqA (sqB (sqB svM))
noncomputable def aLl:Code:=sqB (sqB (sqB svM))
noncomputable def aAb:Array Oper:=aXJ aJe
def CW:Cx:={ nt:=59,drop:=drp [(0,1008),(1,65009664),(2,1006632960),(3,32212254720),(4,288230341791973376)],fr:=2000,kp:=[39,1039,31] }
def EW:Env:={ glob:=glb,spec:=lk [(20,vD),(146,aC3)],specH:=lk [],nowf:=true }
@[irreducible] def adX (P:Program) (E:Env) (C:Cx) (ops:Array Oper) (st:St) (k:St->Prop):Prop:=aLa P E C ops st k
def svT (l:Nat):List (Nat × AV):=[(0,.fn (fnB+l) []),(1,.ptr 39 0),(2,.ptr 1039 0)]
def svH (n a b c j:Int) (ds fs:LL):List (Nat × Blk):=[(39,.cells (svR n ds fs j)),(1039,.cells [.ptr 31 0]),(31,.cells (aUF a b c))]
def aI1:Prop :=
 ∀ (l:Nat) (n a b c j:Int) (ds fs:LL),0≤j∧j < (5:Int)->bif decide (j < (5:Int)) then ((bif (fnB+l).beq (fnB+l) then True else False)∧(0:Nat)=(0:Nat)∧(0:Nat)=(0:Nat)∧True)∧(j=j∧n=n∧(True∧ds=ds)∧(True∧fs=fs)∧True)∧((0:Nat)=(0:Nat)∧True)∧(a=a∧b=b∧c=c∧(5:Int)=(5:Int)∧(2:Int)=(2:Int)∧(0:Int)=(0:Int)∧True)∧True else False
theorem aVi:aI1:=by
 unfold aI1
 intro l n a b c j ds fs ⟨h1,h2⟩
 have hb:cond (Nat.beq (fnB+l) (fnB+l)) True False:=by rw [show Nat.beq (fnB+l) (fnB+l)=true from Nat.beq_refl _]; trivial
 exact cd1 h2 ⟨⟨hb,rfl,rfl,trivial⟩,by repeat' first|exact trivial|exact rfl|assumption|apply And.intro⟩
def aL0:Prop:=∀ (l:Nat) (n a b c j:Int) (ds fs:LL),0≤j∧j < 5->acX Tryz.prog EW CW (λ _ _=>none) 6 aQE ⟨svT l,svH n a b c j ds fs⟩ (λ st=>leS st ⟨svT l,svH n a b c j ds fs⟩) (λ _ _=>False) (λ _=>False)
theorem aVh:aI1=aL0:=by kernel_rfl
theorem wv1:aL0:=@Eq.mp (aI1) (aL0) (aVh) (aVi)
def aIX:Prop :=
 ∀ (l:Nat) (n a b c:Int) (ds fs:LL),(0:Nat)=(0:Nat)∧((bif (fnB+l).beq (fnB+l) then True else False)∧(0:Nat)=(0:Nat)∧(0:Nat)=(0:Nat)∧True)∧((5:Int)=(5:Int)∧n=n∧(True∧ds=ds)∧(True∧fs=fs)∧True)∧((0:Nat)=(0:Nat)∧True)∧(a=a∧b=b∧c=c∧(5:Int)=(5:Int)∧(2:Int)=(2:Int)∧(0:Int)=(0:Int)∧True)∧True
theorem aVc:aIX:=by
 unfold aIX
 intro l n a b c ds fs
 have hb:cond (Nat.beq (fnB+l) (fnB+l)) True False:=by rw [show Nat.beq (fnB+l) (fnB+l)=true from Nat.beq_refl _]; trivial
 exact ⟨rfl,⟨hb,rfl,rfl,trivial⟩,by repeat' first|exact trivial|exact rfl|assumption|apply And.intro⟩
def aLX:Prop:=∀ (l:Nat) (n a b c:Int) (ds fs:LL),acX Tryz.prog EW CW (λ _ _=>none) 6 aQE ⟨svT l,svH n a b c 5 ds fs⟩ (λ _=>False) (λ i st=>i=0∧leS st ⟨svT l,svH n a b c 5 ds fs⟩) (λ _=>False)
theorem aVb:aIX=aLX:=by kernel_rfl
theorem wv5:aLX:=@Eq.mp (aIX) (aLX) (aVb) (aVc)
def aI0:Prop :=
 ∀ (l:Nat) (n a b c j:Int) (ds fs:LL),RestP n a b c ds fs∧0≤j∧j < (5:Int)->AmoP n a b c ds fs∧bif decide ¬sE n a b c (aQ ds) (aQ fs)=(0:Int) then False else bif decide (rng IntKind.i64 (j+(1:Int))) then ((bif (fnB+l).beq (fnB+l) then True else False)∧(0:Nat)=(0:Nat)∧(0:Nat)=(0:Nat)∧True)∧(j+(1:Int)=j+(1:Int)∧sN n a b c (aQ ds) (aQ fs)=n∧(True∧sD n a b c (aQ ds) (aQ fs)=ds)∧(True∧sF n a b c (aQ ds) (aQ fs)=fs)∧True)∧((0:Nat)=(0:Nat)∧True)∧(a=a∧b=b∧c=c∧(5:Int)=(5:Int)∧(2:Int)=(2:Int)∧sE n a b c (aQ ds) (aQ fs)=(0:Int)∧True)∧True else False
theorem aVg:aI0:=by
 unfold aI0
 intro l n a b c j ds fs ⟨hP,h1,h2⟩
 have hb:cond (Nat.beq (fnB+l) (fnB+l)) True False:=by rw [show Nat.beq (fnB+l) (fnB+l)=true from Nat.beq_refl _]; trivial
 have he:=hP.e
 have hn:=hP.n_
 have hd:=hP.d
 have hf:=hP.f
 exact ⟨hP.am,cd0 (λ q=>q he) (cd1 (by simp only [rng]; omega) ⟨⟨hb,rfl,rfl,trivial⟩,by repeat' first|exact trivial|exact rfl|assumption|apply And.intro⟩)⟩
def aLZ:Prop:=∀ (l:Nat) (n a b c j:Int) (ds fs:LL),RestP n a b c ds fs∧0≤j∧j < 5->acX Tryz.prog EW CW (λ _ _=>none) 6 aQD ⟨svT l,svH n a b c j ds fs⟩ (λ st1=>acX Tryz.prog EW CW (λ _ _=>none) 6 aQB st1 (λ st=>leS st ⟨svT l,svH n a b c (j+1) ds fs⟩) (λ _ _=>False) (λ _=>False)) (λ _ _=>False) (λ _=>False)
theorem aVf:aI0=aLZ:=by kernel_rfl
theorem wv2:aLZ:=@Eq.mp (aI0) (aLZ) (aVf) (aVg)
def aB4:Prop :=
 ∀ (l:Nat) (n a b c:Int) (ds fs:LL),((bif (fnB+l).beq (fnB+l) then True else False)∧(0:Nat)=(0:Nat)∧(0:Nat)=(0:Nat)∧True)∧((1:Int)=(1:Int)∧n=n∧(True∧ds=ds)∧(True∧fs=fs)∧True)∧((0:Nat)=(0:Nat)∧True)∧(a=a∧b=b∧c=c∧(5:Int)=(5:Int)∧(2:Int)=(2:Int)∧(0:Int)=(0:Int)∧True)∧True
theorem aPX:aB4:=by
 unfold aB4
 intro l n a b c ds fs
 have hb:cond (Nat.beq (fnB+l) (fnB+l)) True False:=by rw [show Nat.beq (fnB+l) (fnB+l)=true from Nat.beq_refl _]; trivial
 exact ⟨⟨hb,rfl,rfl,trivial⟩,by repeat' first|exact trivial|exact rfl|assumption|apply And.intro⟩
def aEq:Prop:=∀ (l:Nat) (n a b c:Int) (ds fs:LL),acX Tryz.prog EW CW (λ _ _=>none) 6 (.seq aJe aLl) ⟨svT l,svH n a b c 1 ds fs⟩ (λ st=>leS st ⟨svT l,svH n a b c 1 ds fs⟩) (λ _ _=>False) (λ _=>False)
theorem aPW:aB4=aEq:=by kernel_rfl
theorem aXB:aEq:=@Eq.mp (aB4) (aEq) (aPW) (aPX)
def aB3:Prop :=
 ∀ (l:Nat) (n a b c:Int) (ds fs:LL),((bif (fnB+l).beq (fnB+l) then True else False)∧(0:Nat)=(0:Nat)∧(0:Nat)=(0:Nat)∧True)∧((3:Int)=(3:Int)∧n=n∧(True∧ds=ds)∧(True∧fs=fs)∧True)∧((0:Nat)=(0:Nat)∧True)∧(a=a∧b=b∧c=c∧(5:Int)=(5:Int)∧(2:Int)=(2:Int)∧(0:Int)=(0:Int)∧True)∧True
theorem aPV:aB3:=by
 unfold aB3
 intro l n a b c ds fs
 have hb:cond (Nat.beq (fnB+l) (fnB+l)) True False:=by rw [show Nat.beq (fnB+l) (fnB+l)=true from Nat.beq_refl _]; trivial
 exact ⟨⟨hb,rfl,rfl,trivial⟩,by repeat' first|exact trivial|exact rfl|assumption|apply And.intro⟩
def aEp:Prop:=∀ (l:Nat) (n a b c:Int) (ds fs:LL),acX Tryz.prog EW CW (λ _ _=>none) 6 (.seq aJe aLl) ⟨svT l,svH n a b c 3 ds fs⟩ (λ st=>leS st ⟨svT l,svH n a b c 3 ds fs⟩) (λ _ _=>False) (λ _=>False)
theorem aPU:aB3=aEp:=by kernel_rfl
theorem aXA:aEp:=@Eq.mp (aB3) (aEp) (aPU) (aPV)
abbrev aDv (l:Nat):=(bif (fnB+l).beq (fnB+l) then True else False)
abbrev aIZ (a:Int) (b:Int) (c:Int):=(a=a∧b=b∧c=c∧(5:Int)=(5:Int)∧(2:Int)=(2:Int)∧(0:Int)=(0:Int)∧True)
abbrev aDu (j:Int) (n:Int) (ds:LL) (fs:LL):=(j=j∧n=n∧(True∧ds=ds)∧(True∧fs=fs)∧True)
def aIY:Prop :=
 ∀ (l:Nat) (n a b c j:Int) (ds fs:LL),RestP n a b c ds fs∧(j=(2:Int)∨j=(4:Int)∨j=(5:Int))->bif decide (j.tmod 2=(0:Int)) then (ds.length≤(1000000:Nat)∧fs.length≤(1000000:Nat))∧(true=true∧(aDv l)∧(aDu j n ds fs)∧(aDv l)∧(0:Nat)=(0:Nat)∧(0:Nat)=(0:Nat)∧True)∧(aDu j n ds fs)∧((0:Nat)=(0:Nat)∧True)∧(aIZ a b c)∧True else bif decide (j=(5:Int)) then (ds.length≤(1000000:Nat)∧fs.length≤(1000000:Nat))∧(true=true∧(aDv l)∧(aDu j n ds fs)∧(aDv l)∧(0:Nat)=(0:Nat)∧(0:Nat)=(0:Nat)∧True)∧(aDu j n ds fs)∧((0:Nat)=(0:Nat)∧True)∧(aIZ a b c)∧True else (false=true∧False∧False∧(aDv l)∧(0:Nat)=(0:Nat)∧(0:Nat)=(0:Nat)∧True)∧(aDu j n ds fs)∧((0:Nat)=(0:Nat)∧True)∧(aIZ a b c)∧True
theorem aVe:aIY:=by
 unfold aIY
 delta aDv aIZ aDu
 intro l n a b c j ds fs ⟨hP,hj⟩
 have hb:cond (Nat.beq (fnB+l) (fnB+l)) True False:=by rw [show Nat.beq (fnB+l) (fnB+l)=true from Nat.beq_refl _]; trivial
 have h1:=hP.ld
 have h2:=hP.lf
 rcases hj with rfl | rfl | rfl
 ·exact cd1 (by decide) ⟨⟨h1,h2⟩,⟨rfl,hb,by repeat' first|exact trivial|exact rfl|assumption|apply And.intro,hb,by repeat' first|exact trivial|exact rfl|assumption|apply And.intro⟩,by repeat' first|exact trivial|exact rfl|assumption|apply And.intro⟩
 ·exact cd1 (by decide) ⟨⟨h1,h2⟩,⟨rfl,hb,by repeat' first|exact trivial|exact rfl|assumption|apply And.intro,hb,by repeat' first|exact trivial|exact rfl|assumption|apply And.intro⟩,by repeat' first|exact trivial|exact rfl|assumption|apply And.intro⟩
 ·exact cd0 (by decide) (cd1 (by decide) ⟨⟨h1,h2⟩,⟨rfl,hb,by repeat' first|exact trivial|exact rfl|assumption|apply And.intro,hb,by repeat' first|exact trivial|exact rfl|assumption|apply And.intro⟩,by repeat' first|exact trivial|exact rfl|assumption|apply And.intro⟩)
def aLY:Prop:=∀ (l:Nat) (n a b c j:Int) (ds fs:LL),RestP n a b c ds fs∧(j=2∨j=4∨j=5)->adX Tryz.prog EW CW (aJ1 aAb 21) ⟨svT l,svH n a b c j ds fs⟩ (λ st=>leS st ⟨(52,.bool true)::(53,.fn (fnB+l) [])::(55,.agg (svR n ds fs j))::svT l,svH n a b c j ds fs⟩)
theorem aVd:aIY=aLY:=by kernel_rfl
theorem wv4:aLY:=@Eq.mp (aIY) (aLY) (aVd) (aVe)
@[irreducible] def aXv (P:Program) (E:Env) (C:Cx) (ops:Array Oper) (l:List Oper) (st:St) (k:St->Prop):Prop:=aBP P E C ops l st k
def aIW:Prop :=
 ∀ (l:Nat) (n a b c j:Int) (ds fs:LL),((!true)=false∧(bif (fnB+l).beq (fnB+l) then True else False)∧(0:Nat)=(0:Nat)∧(0:Nat)=(0:Nat)∧True)∧(j=j∧n=n∧(True∧ds=ds)∧(True∧fs=fs)∧True)∧((0:Nat)=(0:Nat)∧True)∧(a=a∧b=b∧c=c∧(5:Int)=(5:Int)∧(2:Int)=(2:Int)∧(0:Int)=(0:Int)∧True)∧True
theorem aVa:aIW:=by
 unfold aIW
 intro l n a b c j ds fs
 have hb:cond (Nat.beq (fnB+l) (fnB+l)) True False:=by rw [show Nat.beq (fnB+l) (fnB+l)=true from Nat.beq_refl _]; trivial
 exact ⟨⟨rfl,hb,rfl,rfl,trivial⟩,by repeat' first|exact trivial|exact rfl|assumption|apply And.intro⟩
def aLW:Prop:=∀ (l:Nat) (n a b c j:Int) (ds fs:LL),aXv Tryz.prog EW CW aAb (aAb.toList.drop 22) (St.put ⟨(52,.bool true)::(53,.fn (fnB+l) [])::(55,.agg (svR n ds fs j))::svT l,svH n a b c j ds fs⟩ 56 (.bool true)) (λ st=>leS st ⟨(58,.bool false)::svT l,svH n a b c j ds fs⟩)
theorem aU9:aIW=aLW:=by kernel_rfl
theorem wv6:aLW:=@Eq.mp (aIW) (aLW) (aU9) (aVa)
variable {P:Program} {S:Pin} {m:Nm} {w:World} {a:Act} {G:Gh} {kp:List Nat} {st:St} {E:Env} {C:Cx}
theorem svE:aMp.body=some (.block 0 (.loop (.seq aQE (.block 1 (.seq aQD (.seq aQB (.seq aJe aLl))))))):=by kernel_rfl
theorem aQA:aJe=.region 4 aAb true:=by kernel_rfl
theorem aQC:aLl=.cond (.tmp 58) .ret .skip:=by kernel_rfl
theorem aQz:aUL aAb 21=true:=by kernel_rfl
theorem aQw:bT aQE=true∧(bT aQD=true∧bT aQB=true)∧bT (.seq aJe aLl)=true:=⟨by kernel_rfl,⟨by kernel_rfl,by kernel_rfl⟩,by kernel_rfl⟩
theorem aVq:(aAb.toList.drop 22).all pN=true:=by kernel_rfl
def svO:Oper:={ dst:=some 56,op:=.call { callee:=.value (.tmp 53),args:=#[.tmp 55],argTypes:=#[127] },type:=4,pos:= "forecast.go:29",after:=#[],guard:=some (17,true) }
theorem aXC:∃ o,aAb.toList.drop 21=o::aAb.toList.drop 22∧o.op=.call { callee:=.value (.tmp 53),args:=#[.tmp 55],argTypes:=#[127] }∧o.dst=some 56∧o.guard=some (17,true):=⟨aAb.toList.getD 21 svO,by kernel_rfl,by kernel_rfl,by kernel_rfl,by kernel_rfl⟩
theorem aVr:(aAb[17]?).bind (·.dst)=some 52:=by kernel_rfl
theorem aPH:cF Tryz.prog EW:=aV rfl rfl ⟨aCB,aHu glb,trivial⟩ trivial
def kpS:List Nat:=[39,1039,31]
theorem aXi:Tryz.prog.follows .mixedOrders=true:=by kernel_rfl
theorem aUA {cd:Code} (hs:bT cd=true) {kn:St->Prop} {ke:Nat->St->Prop} {kr:St->Prop} (h:acX Tryz.prog EW CW (λ _ _=>none) 6 cd st kn ke kr) (hg:GOKg glb G.S0) (hR:Rel G kpS st a w S m) (hz:a.tmps.size=CW.nt) {k:Nat}:cd.wpIn Fence.wide k Tryz.prog (aPG G CW kn ke kr) a w:=by
 unfold acX at h
 have:=dL (P:=Tryz.prog) (E:=EW) (C:=CW) (inv:=λ _ _=>none) (fuel:=6) bD aPH aXi (G:=G) hg (r:=none) (n:=k) (ds:=[]) cd hs st kn ke kr h a w S m hR hz
 rw [bQ] at this
 exact Go.wpIn_mono this λ e a' w' ⟨a0,e1,he⟩=>by rw [e1,bQ]; exact he
noncomputable def aJf:Code:=.seq aQE (.block 1 (.seq aQD (.seq aQB (.seq aJe aLl))))
theorem aVp:aMp.ntmps=59:=by kernel_rfl
theorem aQx:aMp.results=#[]:=by kernel_rfl
section
variable {n a b c:Int} {ds fs:LL}
theorem IN3 {gx gr gn:Nat} {j:Int} (h1:m 39=some (.pointer (some ⟨gx,0,none⟩))) (h2:m 1039=some (.pointer (some ⟨gr,0,none⟩))) (h3:m 31=some (.pointer (some ⟨gn,0,none⟩))) (g:Nat):IN m (svH n a b c j ds fs) g↔g=gx∨g=gr∨g=gn:=by
 constructor
 ·rintro ⟨k,bl,u,e1,e2,e3⟩
  simp only [svH,bX] at e1
  split at e1
  ·rename_i q; subst q; rw [h1] at e2; injection e2 with e2; subst e2; simp only [bk,aJ] at e3; exact .inl e3.symm
  ·split at e1
   ·rename_i q; subst q; rw [h2] at e2; injection e2 with e2; subst e2; simp only [bk,aJ] at e3; exact .inr (.inl e3.symm)
   ·split at e1
    ·rename_i q; subst q; rw [h3] at e2; injection e2 with e2; subst e2; simp only [bk,aJ] at e3; exact .inr (.inr e3.symm)
    ·simp [lk] at e1
 ·rintro (rfl | rfl | rfl)
  ·exact ⟨39,_,_,rfl,h1,rfl⟩
  ·exact ⟨1039,_,_,rfl,h2,rfl⟩
  ·exact ⟨31,_,_,rfl,h3,rfl⟩
theorem aKy {g:Nat} {u:Value} (h:rM (.pointer (some ⟨g,0,none⟩)) u):u=.pointer (some ⟨g,0,none⟩):=by
 rcases h with rfl | ⟨A,n',c,A',n'',c',_,⟨e,_⟩ | ⟨e,_⟩⟩
 ·rfl
 ·cases e
 ·cases e
def SvI (n a b c:Int) (ds fs:LL) (gx gr gn:Nat) (J:Nat->Pin->World->Prop) (S0:Pin) (kk:Nat) (j:Int) (T:List (Nat × AV)) (ac:Act) (w:World):Prop :=
 ∃ S m,m 39=some (.pointer (some ⟨gx,0,none⟩))∧m 1039=some (.pointer (some ⟨gr,0,none⟩))∧m 31=some (.pointer (some ⟨gn,0,none⟩))∧Rel (mkG w S m (svH n a b c j ds fs) kpS) kpS ⟨T,svH n a b c j ds fs⟩ ac w S m∧ac.tmps.size=CW.nt∧J kk S w∧Ext S0 S∧GOKg glb S
variable {gx gr gn:Nat} {J:Nat->Pin->World->Prop} {S0:Pin}
theorem xM {I:Nat->Prop} (hI:∀ g,I g↔g=gx∨g=gr∨g=gn) (hJ:JOKI I J) {kk:Nat} {j j':Int} {T T':List (Nat × AV)} {ac a2:Act} {w w2:World} {S S2:Pin} {m m2:Nm} {st2:St}
  (e1:m 39=some (.pointer (some ⟨gx,0,none⟩))) (e2:m 1039=some (.pointer (some ⟨gr,0,none⟩))) (e3:m 31=some (.pointer (some ⟨gn,0,none⟩))) (hR:Rel (mkG w S m (svH n a b c j ds fs) kpS) kpS ⟨T,svH n a b c j ds fs⟩ ac w S m) (hj:J kk S w) (hx:Ext S0 S) (hg:GOKg glb S)
  (hR2:Rel (mkG w S m (svH n a b c j ds fs) kpS) kpS st2 a2 w2 S2 m2) (hn:a2.tmps.size=CW.nt) (hle:leS st2 ⟨T',svH n a b c j' ds fs⟩):SvI n a b c ds fs gx gr gn J S0 kk j' T' a2 w2:=by
 have R2:=hR2.le hle
 have nm:∀ k g,inL k kpS=true->m k=some (.pointer (some ⟨g,0,none⟩))->m2 k=some (.pointer (some ⟨g,0,none⟩)):=λ k g hk e=>by
  obtain ⟨u,q1,q2⟩:=R2.m0 k _ (by simp only [mkG]; rw [if_pos hk]; exact e)
  rw [q1,aKy q2]
 have f1:=nm 39 gx rfl e1
 have f2:=nm 1039 gr rfl e2
 have f3:=nm 31 gn rfl e3
 have none_:∀ (S:Pin) (m:Nm) (w:World) (j:Int) (T:List (Nat × AV)) (G:Gh) (ac:Act),Rel G kpS ⟨T,svH n a b c j ds fs⟩ ac w S m->m 39=some (.pointer (some ⟨gx,0,none⟩))->m 1039=some (.pointer (some ⟨gr,0,none⟩))->m 31=some (.pointer (some ⟨gn,0,none⟩))->∀ g o,I g->S g o=none:=λ S m w j T G ac h k1 k2 k3 g o hi=>by
  rcases (hI g).1 hi with rfl | rfl | rfl
  ·obtain ⟨g',arr,t,q1,_,_,q4⟩:=h.held 39 _ rfl
   rw [k1] at q1; injection q1 with q1; injection q1 with q1; injection q1 with q1; injection q1 with q1 _ _; subst q1; exact q4 o
  ·obtain ⟨g',arr,t,q1,_,_,q4⟩:=h.held 1039 _ rfl
   rw [k2] at q1; injection q1 with q1; injection q1 with q1; injection q1 with q1; injection q1 with q1 _ _; subst q1; exact q4 o
  ·obtain ⟨g',arr,t,q1,_,_,q4⟩:=h.held 31 _ rfl
   rw [k3] at q1; injection q1 with q1; injection q1 with q1; injection q1 with q1; injection q1 with q1 _ _; subst q1; exact q4 o
 have hc:Chg I S w S2 w2:=hR.chg R2 (λ k blk u b q1 q2 q3=>(hI b).2 ((IN3 e1 e2 e3 b).1 ⟨k,blk,u,q1,q2,q3⟩)) (λ b o hi=>⟨none_ S m w j T _ ac hR e1 e2 e3 b o hi,none_ S2 m2 w2 j' T' _ a2 R2 f1 f2 f3 b o hi⟩)
 exact ⟨S2,m2,f1,f2,f3,R2.begin_,hn,hJ.ch _ _ _ _ _ hj hc,hx.trans R2.pin0,λ g cs e=>CC.mono R2.pin0 cs g 0 (hg g cs e)⟩
variable {I:Nat->Prop} (hI:∀ g,I g↔g=gx∨g=gr∨g=gn) (hJ:JOKI I J) {k:Nat}
include hI hJ
theorem aMo {kk:Nat} {j j':Int} {T T':List (Nat × AV)} {ac:Act} {cd:Code} (hs:bT cd=true)
  (h:acX Tryz.prog EW CW (λ _ _=>none) 6 cd ⟨T,svH n a b c j ds fs⟩ (λ st=>leS st ⟨T',svH n a b c j' ds fs⟩) (λ _ _=>False) (λ _=>False)) (hv:SvI n a b c ds fs gx gr gn J S0 kk j T ac w) {Q:Exit->Act->World->Prop}
  (hn:∀ a2 w2,SvI n a b c ds fs gx gr gn J S0 kk j' T' a2 w2->Q .normal a2 w2):cd.wpIn Fence.wide k Tryz.prog Q ac w:=by
 obtain ⟨S,m,e1,e2,e3,hR,hz,hj,hx,hg⟩:=hv
 refine Go.wpIn_mono (aUA hs h (G:=mkG w S m (svH n a b c j ds fs) kpS) hg hR hz) ?_
 intro e a' w' he
 cases e with
 | normal=>obtain ⟨st',S',m',hk,hR',hn'⟩:=he; exact hn _ _ (xM hI hJ e1 e2 e3 hR hj hx hg hR' hn' hk)
 | exit _=>obtain ⟨_,_,_,hk,_⟩:=he; exact hk.elim
 | ret=>obtain ⟨_,_,_,hk,_⟩:=he; exact hk.elim
 | _=>exact he.elim
theorem aLk {kk:Nat} {j:Int} {l:Nat} {ac:Act} (hP:RestP n a b c ds fs) (hjj:0≤j∧j < 5) (hv:SvI n a b c ds fs gx gr gn J S0 kk j (svT l) ac w) {Z:Code} {Q:Exit->Act->World->Prop}
  (hn:∀ a2 w2,SvI n a b c ds fs gx gr gn J S0 kk (j+1) (svT l) a2 w2->Z.wpIn Fence.wide k Tryz.prog Q a2 w2):(Code.seq aQD (.seq aQB Z)).wpIn Fence.wide k Tryz.prog Q ac w:=by
 obtain ⟨S,m,e1,e2,e3,hR,hz,hj,hx,hg⟩:=hv
 have h:=wv2 l n a b c j ds fs ⟨hP,hjj⟩
 have hs:=aQw.2.1
 refine wpIn_seq (Go.wpIn_mono (aUA hs.1 h (G:=mkG w S m (svH n a b c j ds fs) kpS) hg hR hz) ?_)
 intro e a' w' he
 cases e with
 | normal =>
  obtain ⟨st',S',m',hk,hR',hn'⟩:=he
  refine wpIn_seq (Go.wpIn_mono (aUA hs.2 hk (G:=mkG w S m (svH n a b c j ds fs) kpS) hg hR' hn') ?_)
  intro e a' w' he
  cases e with
  | normal=>obtain ⟨st',S',m',hk,hR',hn'⟩:=he; exact hn _ _ (xM hI hJ e1 e2 e3 hR hj hx hg hR' hn' hk)
  | exit _=>obtain ⟨_,_,_,hk,_⟩:=he; exact hk.elim
  | ret=>obtain ⟨_,_,_,hk,_⟩:=he; exact hk.elim
  | _=>exact he.elim
 | exit _=>obtain ⟨_,_,_,hk,_⟩:=he; exact hk.elim
 | ret=>obtain ⟨_,_,_,hk,_⟩:=he; exact hk.elim
 | _=>exact he.elim
set_option maxHeartbeats 1000000 in
theorem aJc {kk l:Nat} {j:Int} {ac:Act} (hP:RestP n a b c ds fs) (hjj:j=2∨j=4∨j=5)
  (hY:∀ S W v,J kk S W->CV S (.agg (svR n ds fs j)) dE v->YieldAt Fence.wide (k - 1) Tryz.prog l #[v] W λ e W'=>e=.returned (.bool true)∧(∀ g,I g->W'.heap[g]?=W.heap[g]?)∧∃ S',Ext S S'∧J (kk+1) S' W')
  (hv:SvI n a b c ds fs gx gr gn J S0 kk j (svT l) ac w) {Q:Exit->Act->World->Prop}
  (hn:∀ a2 w2,SvI n a b c ds fs gx gr gn J S0 (kk+1) j ((58,.bool false)::svT l) a2 w2->Q .normal a2 w2):aJe.wpIn Fence.wide k Tryz.prog Q ac w:=by
 obtain ⟨S,m,e1,e2,e3,hR,hz,hj,hx,hg⟩:=hv
 have h:=wv4 l n a b c j ds fs ⟨hP,hjj⟩
 unfold adX at h
 rw [aQA]
 let T5:List (Nat × AV):=(52,.bool true)::(53,.fn (fnB+l) [])::(55,.agg (svR n ds fs j))::svT l
 let Qp:Exit->Act->World->Prop:=λ e a2 w2=>e=.normal∧SvI n a b c ds fs gx gr gn J S0 kk j T5 a2 w2
 let Qe:Exit->Act->World->Prop:=λ e a2 w2=>e=.normal∧SvI n a b c ds fs gx gr gn J S0 (kk+1) j ((58,.bool false)::svT l) a2 w2
 have hQp:oE Qp:=⟨λ a w h=>(by cases h.1),λ ch a w h=>(by cases h.1)⟩
 have hQe:oE Qe:=⟨λ a w h=>(by cases h.1),λ ch a w h=>(by cases h.1)⟩
 have key:=aJo (r:=none) (n:=k) (P:=Tryz.prog) (ops:=aAb) (K:=21) (id:=4) (Q:=QX [] Qe) aXi aQz (Qp:=Qp) hQp (a:=ac) (w:=w)
  (kS (P:=Tryz.prog) (E:=EW) (C:=CW) bD aPH (show GOK EW (mkG w S m (svH n a b c j ds fs) kpS).S0 from hg) h hR hz λ st' a' w' S' m' hk hR' hn'=>⟨rfl,xM hI hJ e1 e2 e3 hR hj hx hg hR' hn' hk⟩) ?_
 ·refine Go.wpIn_mono key ?_
  rintro e a' w' ⟨a0,rfl,he,hv⟩
  subst he
  rw [bQ]
  exact hn _ _ hv
 ·rintro a2 w2 ⟨_,S,m,e1,e2,e3,hR,hz,hj,hx,hg⟩
  obtain ⟨o,ho,hop,hdst,hgd⟩:=aXC
  rw [ho]
  have t52:=hR.tmps 52
  have t53:=hR.tmps 53
  have t55:=hR.tmps 55
  simp only [T5,St.get,bX] at t52 t53 t55
  simp only [if_true,if_pos,reduceIte,Nat.reduceEqDiff,CV,CVl] at t52 t53
  obtain ⟨us,t53,hus⟩:=t53
  have hus:us=#[]:=by simpa using hus
  subst hus
  rw [aSN] at t53
  have hwant:Region.wanted o (yielded aAb a2.tmps)=true:=by
   unfold Region.wanted
   rw [hgd]
   show (yielded aAb a2.tmps 17 == some true)=true
   unfold yielded
   rw [aVr]
   have hsz:52 < a2.tmps.size:=by rw [hz]; decide
   have:a2.tmps[52]?=some (.bool true):=by
    rw [Array.getElem?_eq_getElem hsz]
    simp only [Array.getD_eq_getD_getElem?,Array.getElem?_eq_getElem hsz,Option.getD_some] at t52
    rw [t52]
   simp [this]
  unfold wpListIn
  rw [if_pos hwant]
  obtain ⟨v5,f55⟩:∃ v5,a2.eval (.tmp 55)=v5:=⟨_,rfl⟩
  have f5:a2.tmps.getD 55 undef=v5:=f55
  have hcv:CV S (.agg (svR n ds fs j)) dE v5:=by
   rw [← f5]
   refine CV.mono (Ext.refl S) _ m dE _ (λ q u hk _=>?_) (by simpa using t55)
   exfalso
   simp [nn,nnl,svR] at hk
  obtain ⟨fn,tmps,assign,body,hrun,hRd⟩:=hY S w2 _ hj hcv
  have hsem:(o.semAt (Fr none).round a2.eval).run Tryz.prog w2=.ok (.round l fn tmps assign body) w2:=by
   show (execOp a2.eval o).run Tryz.prog w2=_
   have f53:a2.eval (.tmp 53)=.func (.yield l) #[] #[]:=t53
   simp [execOp,hop,resolve,f53,f55,Deferred.ofValue,invoke,hrun]
  unfold Oper.wpIn
  refine ⟨λ _ _=>trivial,?_⟩
  rw [hsem]
  refine ⟨λ q=>(by cases q),hRd.mono ?_⟩
  rintro e w3 ⟨rfl,hsame,S3,hS3,hJ3⟩
  show wpListIn (Fr none) k Tryz.prog aAb (QX [] Qe) (aAb.toList.drop 22) (a2.put o.dst (.bool true)) w3
  rw [hdst]
  have R3:=hR.after (kp1:=kpS) hS3 (hJ.ag _ _ _ hJ3) (λ q blk u g q1 q2 q3=>by
   have hi:=(hI g).2 ((IN3 e1 e2 e3 g).1 ⟨q,blk,u,q1,q2,q3⟩)
   exact ⟨hsame g hi,λ o=>by rw [hJ.pin _ _ _ hJ3 g o hi,hJ.pin _ _ _ hj g o hi]⟩)
  have R4:=R3.put (r:=.bool true) (v:=.bool true) (by simp only [CV]) (d:=56) (by rw [hz]; decide)
  have h6:=wv6 l n a b c j ds fs
  unfold aXv at h6
  have hg3:GOKg glb S3:=λ g cs e=>CC.mono hS3 cs g 0 (hg g cs e)
  have hl:=eU (P:=Tryz.prog) (E:=EW) (C:=CW) bD aPH (Q:=Qe) (ops:=aAb) (show GOK EW (mkG w3 S3 m (svH n a b c j ds fs) kpS).S0 from hg3) _ _ _ h6 _ w3 S3 m R4 (by rw [dY,hz]) (λ st' a' w' S' m' hk hR' hn'=>⟨rfl,xM hI hJ e1 e2 e3 R3 hJ3 (hx.trans hS3) hg3 hR' hn' hk⟩)
  have:=aCH (r:=none) (n:=k) (ds:=[]) hQe _ aVq _ _ hl
  rwa [bQ] at this
omit hI hJ in
theorem aU1 (v0 v1 v2:Value) (N:Nat):(#[v0]++#[v1,v2]++Array.replicate (N - (#[v0]++#[v1,v2]).size) undef).size=3+(N - 3)∧(#[v0]++#[v1,v2]++Array.replicate (N - (#[v0]++#[v1,v2]).size) undef).getD 0 undef=v0∧(#[v0]++#[v1,v2]++Array.replicate (N - (#[v0]++#[v1,v2]).size) undef).getD 1 undef=v1∧(#[v0]++#[v1,v2]++Array.replicate (N - (#[v0]++#[v1,v2]).size) undef).getD 2 undef=v2:=by
 refine ⟨by simp,?_,?_,?_⟩ <;> simp [Array.getD_eq_getD_getElem?,Array.getElem?_append]
omit hI hJ in
theorem aJd {l:Nat} {W:World} (hm1:m 39=some (.pointer (some ⟨gx,0,none⟩))) (hm2:m 1039=some (.pointer (some ⟨gr,0,none⟩))) (hm3:m 31=some (.pointer (some ⟨gn,0,none⟩))) (hinj:aXb m (svH n a b c 0 ds fs)) (hX:aAa m (svH n a b c 0 ds fs) S0 W) (hg:GOKg glb S0) (h0:J 0 S0 W) (hA:dX S0 W)
    {tm:Array Value} (hz:tm.size=CW.nt) (t0:tm.getD 0 undef=.func (.yield l) #[] #[]) (t1:tm.getD 1 undef=.pointer (some ⟨gx,0,none⟩)) (t2:tm.getD 2 undef=.pointer (some ⟨gr,0,none⟩)):SvI n a b c ds fs gx gr gn J S0 0 0 (svT l) { tmps:=tm,defers:=[] } W:=by
  have hN:fnV (fnB+l)=.yield l:=aSN l
  have e0:St.get ⟨svT l,svH n a b c 0 ds fs⟩ 0=.fn (fnB+l) []:=rfl
  have e1:St.get ⟨svT l,svH n a b c 0 ds fs⟩ 1=.ptr 39 0:=rfl
  have e2:St.get ⟨svT l,svH n a b c 0 ds fs⟩ 2=.ptr 1039 0:=rfl
  have e3:∀ t,t≠0->t≠1->t≠2->lk (svT l) t=none:=λ t h0 h1 h2=>by
    unfold svT
    rw [bX,if_neg h0,bX,if_neg h1,bX,if_neg h2]; rfl
  have ht:∀ t,CV S0 (St.get ⟨svT l,svH n a b c 0 ds fs⟩ t) m (tm.getD t undef):=λ t=>by
    by_cases q0:t=0
    · subst q0
      rw [e0,t0]
      simp only [CV,CVl]
      rw [hN]
      exact ⟨#[],rfl,rfl⟩
    · by_cases q1:t=1
      · subst q1
        rw [e1,t1]
        simp only [CV]
        exact ⟨gx,hm1,rfl⟩
      · by_cases q2:t=2
        · subst q2
          rw [e2,t2]
          simp only [CV]
          exact ⟨gr,hm2,rfl⟩
        · unfold St.get
          simp only [e3 t q0 q1 q2]
          simp only [CV]
  refine ⟨S0,m,hm1,hm2,hm3,?_,hz,h0,Ext.refl _,hg⟩
  exact
    { defers:=rfl
      pin0:=Ext.refl _
      pinNew:=λ _ _ _ _=>rfl
      agree:=hA
      tmps:=ht
      held:=λ k b hk=>hX k b hk
      inj:=λ k k' b b' u u' g q1 q2 q3 q4 q5 q6=>hinj k k' b b' u u' g q1 q2 q3 q4 q5 q6
      own:=λ k b u g hk hu hg=>.inr ⟨k,b,u,hk,hu,hg⟩
      os:=rfl
      tape:=rfl
      output:=rfl
      size:=Nat.le_refl _
      frame:=λ _ _ _=>rfl
      m0:=λ k u e=>by
        simp only [mkG] at e
        split at e
        · exact ⟨u,e,.refl u⟩
        · cases e
      keep:=λ k u e=>by
        simp only [mkG] at e
        split at e
        · rename_i q; exact aCQ q
        · cases e }
omit hI hJ in
theorem aTs {kk l:Nat} {jj:Int} {ac:Act} (hv:SvI n a b c ds fs gx gr gn J S0 kk jj ((58,.bool false)::svT l) ac w):ac.eval (.tmp 58)=.bool false∧SvI n a b c ds fs gx gr gn J S0 kk jj (svT l) ac w:=by
 obtain ⟨S,m',e1,e2,e3,hR,hz,hj,hx,hg⟩:=hv
 have t58:=hR.tmps 58
 simp only [St.get,bX,if_true] at t58
 simp only [CV] at t58
 refine ⟨t58,S,m',e1,e2,e3,{ hR with defers:=hR.defers,held:=hR.held,inj:=hR.inj,own:=hR.own,tmps:=λ t=>?_ },hz,hj,hx,hg⟩
 have:=hR.tmps t
 simp only [St.get,bX] at this ⊢
 by_cases q:t=58
 ·subst q
  simp only [svT,bX]
  simp [lk,CV]
 ·rw [if_neg q] at this; exact this
theorem aMn {Q0:Exit->Act->World->Prop} {kk l d:Nat} {j j1:Int} {ac:Act} (hP:RestP n a b c ds fs) (hj1:j1=j+1) (hb:0≤j∧j < 5) (h4:j1=2∨j1=4∨j1=5)
  (hY:∀ S W v,J kk S W->CV S (.agg (svR n ds fs j1)) dE v->YieldAt Fence.wide (k - 1) Tryz.prog l #[v] W λ e W'=>e=.returned (.bool true)∧(∀ g,I g->W'.heap[g]?=W.heap[g]?)∧∃ S',Ext S S'∧J (kk+1) S' W')
  (hv:SvI n a b c ds fs gx gr gn J S0 kk j (svT l) ac w) (hn:∀ ac w,SvI n a b c ds fs gx gr gn J S0 (kk+1) j1 (svT l) ac w->Code.roundsIn Fence.wide k Tryz.prog aJf Q0 d ac w):Code.roundsIn Fence.wide k Tryz.prog aJf Q0 (d+1) ac w:=by
 subst hj1
 rw [roundsIn_succ]
 unfold aJf at hn ⊢
 refine wpIn_seq (aMo hI hJ aQw.1 (wv1 l n a b c j ds fs hb) hv λ a2 w2 hv=>?_)
 refine wpIn_block (aLk hI hJ hP hb hv λ a3 w3 hv=>?_)
 refine wpIn_seq (aJc hI hJ hP h4 hY hv λ a4 w4 hv=>?_)
 obtain ⟨t58,hv⟩:=aTs hv
 show aLl.wpIn _ _ _ _ _ _
 rw [aQC]
 exact wpIn_cond_false t58 (wpIn_skip (hn a4 w4 hv))
theorem aQy {Q0:Exit->Act->World->Prop} {kk l d:Nat} {j j1:Int} {ac:Act} (hP:RestP n a b c ds fs) (hj1:j1=j+1) (hb:0≤j∧j < 5)
  (h4:acX Tryz.prog EW CW (λ _ _=>none) 6 (.seq aJe aLl) ⟨svT l,svH n a b c j1 ds fs⟩ (λ st=>leS st ⟨svT l,svH n a b c j1 ds fs⟩) (λ _ _=>False) (λ _=>False))
  (hv:SvI n a b c ds fs gx gr gn J S0 kk j (svT l) ac w) (hn:∀ ac w,SvI n a b c ds fs gx gr gn J S0 kk j1 (svT l) ac w->Code.roundsIn Fence.wide k Tryz.prog aJf Q0 d ac w):Code.roundsIn Fence.wide k Tryz.prog aJf Q0 (d+1) ac w:=by
 subst hj1
 rw [roundsIn_succ]
 unfold aJf at hn ⊢
 refine wpIn_seq (aMo hI hJ aQw.1 (wv1 l n a b c j ds fs hb) hv λ a2 w2 hv=>?_)
 refine wpIn_block (aLk hI hJ hP hb hv λ a3 w3 hv=>?_)
 exact aMo hI hJ aQw.2.2 h4 hv λ a4 w4 hv=>hn a4 w4 hv
theorem aVo {R:Ending->World->Prop} {kk l d:Nat} {ac:Act} (hv:SvI n a b c ds fs gx gr gn J S0 kk 5 (svT l) ac w)
  (hn:∀ ac w,SvI n a b c ds fs gx gr gn J S0 kk 5 (svT l) ac w->R (.returned (.tuple #[])) w):Code.roundsIn Fence.wide k Tryz.prog aJf (Exit.inBlock 0 (bodyPost Tryz.prog aMp R)) (d+1) ac w:=by
 rw [roundsIn_succ]
 obtain ⟨S,m',e1,e2,e3,hR,hz,hj,hx,hg⟩:=hv
 have h:=wv5 l n a b c ds fs
 unfold aJf
 refine wpIn_seq (Go.wpIn_mono (aUA aQw.1 h (G:=mkG w S m' (svH n a b c 5 ds fs) kpS) hg hR hz) ?_)
 intro e a' w' he
 cases e with
 | normal=>obtain ⟨_,_,_,hk,_⟩:=he; exact hk.elim
 | exit i =>
  obtain ⟨st',S',m2,⟨rfl,hk⟩,hR',hn'⟩:=he
  have hv:=xM hI hJ e1 e2 e3 hR hj hx hg hR' hn' hk
  have hd:a'.defers=[]:=hR'.defers
  have hr:(results aMp a'.tmps).run Tryz.prog w'=.ok (.tuple #[]) w':=by
   unfold results
   rw [aQx]
   simp [go_sem]
  simp only [Exit.then,Exit.inBlock,reduceIte]
  exact ⟨hd,_,hr,hn a' w' hv⟩
 | ret=>obtain ⟨_,_,_,hk,_⟩:=he; exact hk.elim
 | _=>exact he.elim
end
set_option maxHeartbeats 1000000 in
theorem itw {n a b c:Int} {ds fs:LL} (hP:RestP n a b c ds fs):ItW 190 39 1039 (svH n a b c 0 ds fs) 31 (aUF a b c) 3 (svX n ds fs):=by
 refine ⟨rfl,enters_of Tryz.func190 (by kernel_rfl) rfl,λ m g1 g2 hm1 hm2 hinj=>?_⟩
 intro k l J hJ hY S0 W hg hX h0
 have hX31:=hX 31 _ rfl
 obtain ⟨gn,arr,t,hm3,_,_,_⟩:=hX31
 have hI:=IN3 (n:=n) (a:=a) (b:=b) (c:=c) (ds:=ds) (fs:=fs) (j:=0) hm1 hm2 hm3
 refine callsIn_of_wp Tryz.func190 svE trivial ?_ rfl
 refine wpIn_block (wpIn_loop_rounds 6 ?_)
 show Code.roundsIn Fence.wide k Tryz.prog aJf _ (5+1) _ W
 obtain ⟨tm,htm⟩:∃ tm,tm=#[Value.func (.yield l) #[] #[]]++#[Value.pointer (some ⟨g1,0,none⟩),Value.pointer (some ⟨g2,0,none⟩)]++Array.replicate (aMp.ntmps - (#[Value.func (.yield l) #[] #[]]++#[Value.pointer (some ⟨g1,0,none⟩),Value.pointer (some ⟨g2,0,none⟩)]).size) undef:=⟨_,rfl⟩
 have start:SvI n a b c ds fs g1 g2 gn J S0 0 0 (svT l) { tmps:=tm,defers:=[] } W:=by
  refine aJd hm1 hm2 hm3 hinj hX hg h0 (hJ.ag _ _ _ h0) ?_ ?_ ?_ ?_
  ·rw [htm,aVp]; exact (aU1 _ _ _ _).1
  ·rw [htm]; exact (aU1 _ _ _ _).2.1
  ·rw [htm]; exact (aU1 _ _ _ _).2.2.1
  ·rw [htm]; exact (aU1 _ _ _ _).2.2.2
 subst htm
 refine aQy hI hJ hP (j:=0) (j1:=1) (kk:=0) (l:=l) (S0:=S0) rfl (by decide) (aXB l n a b c ds fs) start λ ac w hv=>?_
 refine aMn hI hJ hP (j:=1) (j1:=2) (kk:=0) (d:=4) rfl (by decide) (.inl rfl) (λ S W v q1 q2=>hY 0 S W v q1 (by decide) q2) hv λ ac w hv=>?_
 refine aQy hI hJ hP (j:=2) (j1:=3) (kk:=1) (d:=3) rfl (by decide) (aXA l n a b c ds fs) hv λ ac w hv=>?_
 refine aMn hI hJ hP (j:=3) (j1:=4) (kk:=1) (d:=2) rfl (by decide) (.inr (.inl rfl)) (λ S W v q1 q2=>hY 1 S W v q1 (by decide) q2) hv λ ac w hv=>?_
 refine aMn hI hJ hP (j:=4) (j1:=5) (kk:=2) (d:=1) rfl (by decide) (.inr (.inr rfl)) (λ S W v q1 q2=>hY 2 S W v q1 (by decide) q2) hv λ ac w hv=>?_
 ·refine aVo hI hJ (d:=0) hv λ ac w ⟨S2,m3,f1,f2,f3,R2,z2,j2,x2,g2'⟩=>⟨⟨_,rfl⟩,S2,x2,j2,λ q bl hq=>?_⟩
  rw [bX] at hq
  split at hq
  ·rename_i e
   subst e
   simp only [aJ] at hq
   subst hq
   obtain ⟨g',arr,t,q1,q2,q3,q4⟩:=R2.held 31 _ rfl
   rw [f3] at q1
   injection q1 with q1; injection q1 with q1; injection q1 with q1; injection q1 with q1 _ _
   subst q1
   exact ⟨gn,arr,t,hm3,q2,uX rfl q3,q4⟩
  ·simp [lk] at hq
def aAr (n a b c:Int) (ds fs:LL):RLW:=⟨190,39,1039,3,svX n ds fs,[(10,.ptr 10 0),(13,.ptr 31 0)],[(39,.cells (svR n ds fs 0)),(1039,.cells [.ptr 31 0]),(31,.cells (aUF a b c))],31,aUF a b c,λ k=>[(10,.cells [.rw 25 4 (k+1)]),(25,.row 127 4 ((svA n ds fs).take (k+1)))],[39,1039,31,10]⟩
def aG3:Sp
 | [.agg [.int .i64 a,.int .i64 b,.int .i64 c],.sl 4 f [[.int .i64 0,.int .i64 n,.sl 1 g ds,.sl 1 h fs]],.int .i64 5,.int .i64 2]=>some (RestP n a b c ds fs,.tup [.sl 4 false (svA n ds fs),.int .i64 0])
 | _=>none
def aG4:Prop :=
 ∀ (n a b c:Int) (f g h:Bool) (ds fs:LL),RestP n a b c ds fs->(ds.length≤(1000000:Nat)∧fs.length≤(1000000:Nat))∧True∧ItW (aAr n a b c ds fs).gf (aAr n a b c ds fs).c1 (aAr n a b c ds fs).c2 (aAr n a b c ds fs).Hx (aAr n a b c ds fs).kn (aAr n a b c ds fs).cn (aAr n a b c ds fs).N (aAr n a b c ds fs).x0∧((((0:Nat)=(0:Nat)∧(0:Nat)=(0:Nat)∧True)∧(0:Nat)=(0:Nat)∧(0:Nat)=(0:Nat)∧True)∧((0:Int)=(0:Int)∧n=n∧(True∧ds=ds)∧(True∧fs=fs)∧True)∧((0:Nat)=(0:Nat)∧True)∧(a=a∧b=b∧c=c∧(5:Int)=(5:Int)∧(2:Int)=(2:Int)∧(0:Int)=(0:Int)∧True)∧([[I6 0,I6 n,AV.sl 1 false ds,AV.sl 1 false fs]].length=(1:Nat)∧True)∧[[I6 0,I6 n,AV.sl 1 false ds,AV.sl 1 false fs]]=List.take 1 (svA n ds fs)∧True)∧((∀ (k1:Nat),nn k1 (AV.ptr 10 0)=false->inL k1 (aAr n a b c ds fs).kp=true)∧(∀ (k2:Nat),nn k2 (AV.ptr 31 0)=false->inL k2 (aAr n a b c ds fs).kp=true)∧True)∧(∀ (k3:Nat),k3≤(aAr n a b c ds fs).N->lM ((aAr n a b c ds fs).H k3)=true)∧(∀ (k4:Nat),k4 < (aAr n a b c ds fs).N->bif decide (k4+(1:Nat)=(List.take (k4+(1:Nat)) (svA n ds fs)).length∧(List.take (k4+(1:Nat)) (svA n ds fs)).length+[[I6 (svS k4),I6 n,AV.sl 1 false ds,AV.sl 1 false fs]].length≤(9223372036854775807:Nat)∧((List.take (k4+(1:Nat)) (svA n ds fs)).length+[[I6 (svS k4),I6 n,AV.sl 1 false ds,AV.sl 1 false fs]].length)*(64:Nat)≤(140737488355328:Nat)) then True∧((List.take (k4+(1:Nat)) (svA n ds fs)++[[I6 (svS k4),I6 n,AV.sl 1 false ds,AV.sl 1 false fs]]).length=k4+(1:Nat)+(1:Nat)∧True)∧List.take (k4+(1:Nat)) (svA n ds fs)++[[I6 (svS k4),I6 n,AV.sl 1 false ds,AV.sl 1 false fs]]=List.take (k4+(1:Nat)+(1:Nat)) (svA n ds fs)∧True else False)∧(True∧List.take ((aAr n a b c ds fs).N+(1:Nat)) (svA n ds fs)=svA n ds fs)∧(0:Int)=(0:Int)∧True
theorem aSJ:aG4:=by
 unfold aG4
 delta I6
 intro n a b c f g h ds fs hP
 intros
 have hq:=itw hP
 have hld:=hP.ld
 have hlf:=hP.lf
 refine ⟨⟨hld,hlf⟩,trivial,hq,by repeat' first|exact trivial|exact rfl|assumption|apply And.intro,⟨λ k hk=>?_,λ k hk=>?_,trivial⟩,λ k _=>rfl,λ k hk=>?_,by repeat' first|exact trivial|exact rfl|assumption|apply And.intro⟩
 ·have:10=k:=aA (by simpa [nn] using hk)
  subst this; rfl
 ·have:31=k:=aA (by simpa [nn] using hk)
  subst this; rfl
 ·have hk3:k < 3:=hk
  rcases (show k=0∨k=1∨k=2 by omega) with rfl | rfl | rfl
  ·exact cd1 ⟨rfl,by simp [svA],by simp [svA]⟩ ⟨trivial,⟨rfl,trivial⟩,rfl,trivial⟩
  ·exact cd1 ⟨rfl,by simp [svA],by simp [svA]⟩ ⟨trivial,⟨rfl,trivial⟩,rfl,trivial⟩
  ·exact cd1 ⟨rfl,by simp [svA],by simp [svA]⟩ ⟨trivial,⟨rfl,trivial⟩,rfl,trivial⟩
theorem aSI:aG4=(∀ (n a b c:Int) (f g h:Bool) (ds fs:LL),RestP n a b c ds fs->fnW Tryz.prog { glob:=glb,spec:=lk [(146,aC3)],specH:=lk [(147,aHg)],nowf:=true } { nt:=55,drop:=drp [(4,1572864),(5,65011712),(6,67108864),(7,4160749568),(8,545460846592),(10,32985348833280),(11,527765581332480),(12,16888498602639360),(13,18014398509481984)] } (λ _ _=>none) 6 (λ st=>some (aAr n a b c ds fs)) Tryz.f108 [.agg [.int .i64 a,.int .i64 b,.int .i64 c],.sl 4 f [[.int .i64 0,.int .i64 n,.sl 1 g ds,.sl 1 h fs]],.int .i64 5,.int .i64 2] (.tup [.sl 4 false (svA n ds fs),.int .i64 0])):=by kernel_rfl
def aSH:=Eq.mp (aSI ..) (aSJ)
theorem aOq:SOK Tryz.prog glb 108 aG3:=by
 refine ⟨fok Tryz.func108 (by kernel_rfl) (by kernel_rfl),?_⟩
 intro xs pre r h hp
 unfold aG3 at h
 split at h
 ·cases h
  exact aHe bD (by exact aV rfl rfl ⟨(aHu glb),trivial⟩ ⟨(aOx glb),trivial⟩) rfl Tryz.func108 rfl (aSH  _ _ _ _ _ _ _ _ _ hp)
 ·cases h
def aBv:Sp
 | [.agg [.int .i64 a,.int .i64 b,.int .i64 c],.agg [.int .i64 n,.sl 1 g ds,.sl 1 h fs],.int .i64 5,.int .i64 2]=>some (RestP n a b c ds fs,.tup [.sl 4 false (svA n ds fs),.int .i64 0])
 | _=>none
def aBw:Prop :=
 ∀ (n a b c:Int) (g h:Bool) (ds fs:LL),RestP n a b c ds fs->(IR9 a)∧(IR9 b)∧(IR9 c)∧True->(IR9 n)∧True∧True∧True->IR9 5->IR9 2->((bU a b c=(0:Int)∧VStP n ds fs)∧((0:Int)≤(5:Int)∧(5:Int)≤(400:Int))∧(1:Int)≤(2:Int)∧(2:Int)≤(400:Int))∧RestP n a b c ds fs∧(True∧svA n ds fs=svA n ds fs)∧(0:Int)=(0:Int)∧True
theorem aOD:aBw:=by
 unfold aBw
 intro n a b c g h ds fs hP
 intros
 exact ⟨⟨⟨hP.am.sc,hP.am.v⟩,by decide,by decide⟩,hP,by repeat' first|exact trivial|exact rfl|assumption|apply And.intro⟩
theorem aOC:aBw=(∀ (n a b c:Int) (g h:Bool) (ds fs:LL),RestP n a b c ds fs->fnK Tryz.prog { glob:=glb,spec:=lk [(107,aHw),(108,aG3)],specH:=lk [],nowf:=true } { nt:=28,drop:=drp [(1,63488),(2,65536),(3,262144),(4,267911168)] } (λ _ _=>none) 6 Tryz.f55 [.agg [.int .i64 a,.int .i64 b,.int .i64 c],.agg [.int .i64 n,.sl 1 g ds,.sl 1 h fs],.int .i64 5,.int .i64 2] (.tup [.sl 4 false (svA n ds fs),.int .i64 0])):=by kernel_rfl
def aOB:=Eq.mp (aOC ..) (aOD)
theorem aKM:SOK Tryz.prog glb 55 aBv:=by
 refine ⟨fok Tryz.func55 (by kernel_rfl) (by kernel_rfl),?_⟩
 intro xs pre r h hp
 unfold aBv at h
 split at h
 ·cases h
  exact aT bD (by exact aV rfl rfl ⟨(aOI),(aOq),trivial⟩ trivial) (by kernel_rfl) Tryz.func55 rfl (aOB  _ _ _ _ _ _ _ _ hp)
 ·cases h
theorem fL (N i:Nat) (v:Int):(List.replicate N v).getD i 0=if i < N then v else 0:=by
 rw [aB,List.getElem?_replicate]
 split <;> rfl
theorem uM (k:Nat):List.replicate k (0:Int)++[0]=List.replicate (k+1) 0:=by
 rw [List.replicate_succ']
theorem aLn {es:LL} {ds:List Int} {N:Nat} (h:∀ k,k < N->ds.getD (nI (es.getD k []) 0).toNat 0=ds.getD (nI (es.getD k []) 1).toNat 0):∀ k,k≤N->aEW es ds k=List.replicate k 0
 | 0,_=>rfl
 | k+1,hk=>by
  rw [aEW,aLn h k (by omega),h k (by omega),Int.sub_self,uM]
theorem aL2 (s:Int):wan s 0=0:=by unfold wan; rw [Int.zero_ediv]
theorem aUl (a b:Int) (N:Nat):∀ k,acK a b (List.replicate N 0) (List.replicate N 0) k=List.replicate k 0
 | 0=>rfl
 | k+1=>by
  have:(List.replicate N (0:Int)).getD k 0=0:=by rw [fL]; split <;> rfl
  rw [acK,aUl a b N k,acV,this,aL2,aL2]
  exact uM k
theorem aWY {es:LL} {ds dg:List Int} (N:Nat) (mv:Int) (k:Nat) (hd:∀ j,0≤ds.getD j 0) (hg:∀ j,0≤dg.getD j 0):amV es ds (List.replicate N 0) dg mv k=(0,0):=by
 have:(List.replicate N (0:Int)).getD k 0=0:=by rw [fL]; split <;> rfl
 have h0:0≤(ds.getD (nI (es.getD k []) 0).toNat 0).tdiv (dg.getD (nI (es.getD k []) 0).toNat 0):=Int.tdiv_nonneg (hd _) (hg _)
 have h1:0≤(ds.getD (nI (es.getD k []) 1).toNat 0).tdiv (dg.getD (nI (es.getD k []) 1).toNat 0):=Int.tdiv_nonneg (hd _) (hg _)
 unfold amV
 simp only [this,aL2]
 rw [if_neg (by omega),if_neg (by omega)]
theorem aT5 {es:LL} {ds dg:List Int} (N:Nat) (mv:Int) (hd:∀ j,0≤ds.getD j 0) (hg:∀ j,0≤dg.getD j 0):∀ k,amK es ds (List.replicate N 0) dg mv k=(List.replicate k 0,List.replicate k 0)
 | 0=>rfl
 | k+1=>by
  rw [amK,aT5 N mv hd hg k,aWY N mv k hd hg]
  simp only [uM]
theorem aJr (l:List Int) (i:Nat):l.set i (l.getD i 0)=l:=by
 by_cases h:i < l.length
 ·rw [aB,aD h]
  simp
 ·rw [List.set_eq_of_length_le (by omega)]
theorem aRF (es:LL) (N:Nat) (ds:List Int):∀ k,mvK es (List.replicate N 0) ds k=ds
 | 0=>rfl
 | k+1=>by
  have:(List.replicate N (0:Int)).getD k 0=0:=by rw [fL]; split <;> rfl
  rw [mvK,aRF es N ds k,mvS]
  simp only [this,Int.sub_zero,Int.add_zero,aJr]
theorem aAO {lo hi v:Int} (h:lo≤v∧v≤hi) (N:Nat):outB lo hi (List.replicate N v)=false:=by
 unfold outB
 rw [List.any_eq_false]
 intro z hz
 rw [List.mem_replicate] at hz
 rw [hz.2]
 simp [inB,h.1,h.2]
theorem pV (N:Nat) (d:Int):aP (List.replicate N d)=List.replicate N [.int .i64 d]:=by simp [aP]
theorem aOW (es:LL) (N:Nat):∀ k j,0≤(nZ es N k).getD j 0:=λ k j=>(wQ es N k j).1
theorem aMO {n a b c d:Int} (hg:GrdP nrm n) (hs:bU a b c=0) (hd:0≤d∧d≤16777216):RestP n a b c (List.replicate (ndN n) [.int .i64 d]) (aP (zeV n)):=by
 have hN:(ndN n:Int)=10*n*n+2:=by have:=hg.ln; unfold ndN; omega
 have hNn:ndN n=(ptG nrm n).1.length:=by have:=hg.ln; omega
 have l2:=hg.bq.l2
 have eN:=(cB hg.bq).2
 have uD:aQ (List.replicate (ndN n) [.int .i64 d])=List.replicate (ndN n) d:=by rw [← pV,aU]
 have sb:aCe n (List.replicate (ndN n) d) (zeV n)=true:=by
  unfold aCe zeV
  rw [aAO hd,aAO (by decide),decide_eq_true (by rw [List.length_replicate]; exact hN),decide_eq_true (by rw [List.length_replicate])]
  rfl
 have vs:VStP n (List.replicate (ndN n) [.int .i64 d]) (aP (zeV n)):=⟨hg,by rw [uD,pV],by rw [aU],by rw [uD,aU]; exact sb⟩
 have dn:∀ j,0≤(List.replicate (ndN n) d).getD j 0:=λ j=>by rw [fL]; split <;> omega
 have hac:acZ n a b (List.replicate (ndN n) d) (zeV n)=zeV n:=by
  unfold acZ rP zeV
  rw [aLn (N:=(aS nrm n).length) (λ k hk=>?_) _ (Nat.le_refl _)]
  ·exact aUl a b _ _
  ·have er:(aS nrm n)[k]?=some ((aS nrm n).getD k []):=by rw [aB,aD hk]; rfl
   have hin:=(cB hg.bq).1 _ (aL er)
   have a0:=hin.at_ 0 (by decide)
   have a1:=hin.at_ 1 (by decide)
   rw [fL,fL,if_pos (by omega),if_pos (by omega)]
 have ham:sAm n a b c (List.replicate (ndN n) d) (zeV n)=List.replicate (aS nrm n).length 0:=by
  unfold sAm am1 amZ
  rw [hac]
  unfold zeV
  have:=aT5 (es:=aS nrm n) (aS nrm n).length c dn (dg:=bR n) (aOW _ _ _) (aS nrm n).length
  rw [this]
 have hmv:mvZ n (sAm n a b c (List.replicate (ndN n) d) (zeV n)) (List.replicate (ndN n) d)=List.replicate (ndN n) d:=by
  rw [ham]; exact aRF _ _ _ _
 have hB:mvB n (sAm n a b c (List.replicate (ndN n) d) (zeV n)) (List.replicate (ndN n) d)=false:=by
  unfold mvB; rw [hmv]; exact aAO hd _
 refine ⟨⟨vs,hs⟩,?_,?_,?_,?_,by rw [List.length_replicate]; omega,by unfold zeV; simp only [aP,List.length_map,List.length_replicate]; omega⟩
 ·rw [uD,aU]; unfold sE mvE; rw [hB]; rfl
 ·rw [uD,aU]; unfold sN mvN; rw [hB]; rfl
 ·rw [uD,aU]; unfold sD mvD; rw [hB,hmv,pV]; rfl
 ·rw [uD,aU]; unfold sF mvF; rw [hB,hac]; rfl
def aH6:Sp
 | []=>some (True,.bool true)
 | _=>none
def aH7:Prop :=
 VStP 1 (List.replicate 12 [AV.int IntKind.i64 5000]) (aP (zeV 1))∧RestP 1 1 2 3 (List.replicate 12 [AV.int IntKind.i64 5000]) (aP (zeV 1))∧(TwoI (List.replicate 12 [AV.int IntKind.i64 5000]) (List.replicate 12 [AV.int IntKind.i64 5000])∧TwoI (aP (zeV 1)) (aP (zeV 1)))∧bif aJi 1 1 (aQ (List.replicate 12 [AV.int IntKind.i64 5000])) (aQ (aP (zeV 1))) (aQ (List.replicate 12 [AV.int IntKind.i64 5000])) (aQ (aP (zeV 1))) then MssP (List.replicate 12 [AV.int IntKind.i64 5000])∧decide ((60000:Int)=(60000:Int))=true else false=true
theorem aTX:aH7:=by
 unfold aH7
 have hr:RestP 1 1 2 3 (List.replicate 12 [.int .i64 5000]) (aP (zeV 1)):=aMO (n:=1) (d:=5000) aKx (by decide) (by decide)
 have hu:aQ (List.replicate 12 [AV.int .i64 5000])=List.replicate 12 5000:=rfl
 have hz:aJi 1 1 (aQ (List.replicate 12 [.int .i64 5000])) (aQ (aP (zeV 1))) (aQ (List.replicate 12 [.int .i64 5000])) (aQ (aP (zeV 1)))=true:=by simp [aJi]
 refine ⟨hr.am.v,hr,⟨⟨rfl,rfl,by decide,by decide⟩,⟨by rw [aU],by rw [aU],hr.lf,hr.lf⟩⟩,?_⟩
 rw [hz]
 exact ⟨⟨rfl,by decide,by rw [hu]; decide⟩,rfl⟩
theorem aTW:aH7=(fnK Tryz.prog { glob:=glb,spec:=lk [(54,aF5),(55,aBv),(56,aBk),(57,aBt)],specH:=lk [],nowf:=true } { nt:=39,drop:=drp [(1,480),(2,32256),(3,549755781120)] } (λ _ _=>none) 6 Tryz.f21 [] (.bool true)):=by kernel_rfl
def aTV:=Eq.mp (aTW ..) (aTX)
theorem aPh:SOK Tryz.prog glb 21 aH6:=by
 refine ⟨fok Tryz.func21 (by kernel_rfl) (by kernel_rfl),?_⟩
 intro xs pre r h hp
 unfold aH6 at h
 split at h
 ·cases h
  exact aT bD (by exact aV rfl rfl ⟨(aNu),(aKM),(aKF glb),(aKL glb),trivial⟩ trivial) (by kernel_rfl) Tryz.func21 rfl (aTV  )
 ·cases h
end Go.Proofs.YtgbbmadjdaphnaaGreatDoor
namespace Go.Proofs.YtgbbmadjdaphnaaGreatDoor
open Go
structure BytL (xs:LL):Prop where
 el:∀ r ∈ xs,U8P r
theorem bytL_of {xs:LL} (h:∀ x ∈ xs,∃ z,rng .u8 z∧x=[.int .u8 z]):BytL xs:=⟨λ r hr=>by
 obtain ⟨z,hz,rfl⟩:=h r hr
 simp only [rng] at hz
 exact ⟨rfl,hz.1,hz.2⟩⟩
theorem aTP {xs:LL} (h:BytL xs):ChsP (xs.take 600) 0:=⟨λ r hr=>h.el r (List.mem_of_mem_take hr),by rw [List.length_take]; omega,Int.le_refl _,by omega⟩
theorem aQK {xs:LL} {p q r:Int} (h1:ChsP xs p) (h2:ChsP xs q) (h3:ChsP xs r):bU (1+nxV xs p 4) (1+nxV xs q 4) (1+nxV xs r 4)=0:=by
 have b1:=kM h1 (n:=4) (by decide)
 have b2:=kM h2 (n:=4) (by decide)
 have b3:=kM h3 (n:=4) (by decide)
 unfold bU
 rw [if_neg]
 intro q
 unfold outB at q
 rw [List.any_eq_true] at q
 obtain ⟨z,hz,q⟩:=q
 simp only [List.mem_cons,List.not_mem_nil,or_false] at hz
 simp only [inB,Bool.not_eq_true',decide_eq_false_iff_not] at q
 rcases hz with rfl | rfl | rfl <;> omega
theorem aLs {lo hi:Int} {l:List Int} (h:∀ z ∈ l,lo≤z∧z≤hi):outB lo hi l=false:=by
 unfold outB
 rw [List.any_eq_false]
 intro z hz
 have:=h z hz
 simp [inB,this.1,this.2]
theorem aVw {n:Int} {xs:LL} {p:Int} (hq:FrQ n) (hc:ChsP xs p):VStP n (aP (stD xs p n)) (aP (stF xs p n)):=by
 have b1:=kM hc (n:=4) (by decide)
 have m1:0≤pkV stm (nxV xs p 4)∧pkV stm (nxV xs p 4)≤1000000:=aJ3 (by decide) (by decide) (by decide) (by decide) b1
 have k1:=dD hc 4
 have w1:=nG (n:=(aS nrm n).length) k1 m1.1
 refine ⟨hq.gp,by rw [aU],by rw [aU],?_⟩
 rw [aU,aU]
 unfold aCe
 rw [decide_eq_true (by unfold stD; rw [bZ]; exact hq.nd),decide_eq_true (by unfold stF st1; rw [w1.1,Int.toNat_natCast]),aLs (λ z hz=>?_),aLs (λ z hz=>?_)]
 ·rfl
 ·have:=w1.2.1 z hz
  omega
 ·unfold stD mk at hz
  simp only [List.mem_map,List.mem_range] at hz
  obtain ⟨k,_,rfl⟩:=hz
  unfold stC
  omega
theorem aWL {n m:Int} {xs:LL} {p:Int} (hq:FrQ n) (hc:ChsP xs p) (hm:0≤m):ChP n (m+9) (aP (vcL xs p (ndN n) m)) (aP (vcL xs (vcA xs p (ndN n) m) (aS nrm n).length m)):=by
 have w1:=nG (n:=(ndN n:Int)) hc hm
 have w2:=nG (n:=((aS nrm n).length:Int)) w1.2.2 hm
 refine ⟨hq.gp,by rw [aU],by rw [aU],?_,?_,?_,?_⟩ <;> rw [aU]
 ·rw [w1.1,Int.toNat_natCast]
 ·rw [w2.1,Int.toNat_natCast]
 ·exact w1.2.1
 ·exact w2.2.1
theorem aWO {n a b c:Int} {ds fs:LL} (hP:AmoP n a b c ds fs) (he:sE n a b c (aQ ds) (aQ fs)=0):BrP n (sB n a b c (aQ ds) (aQ fs)):=by
 have hb:mvB n (sAm n a b c (aQ ds) (aQ fs)) (aQ ds)=false:=by
  cases h:mvB n (sAm n a b c (aQ ds) (aQ fs)) (aQ ds) with
  | false=>rfl
  | true =>
   unfold sE mvE at he
   rw [if_pos h] at he
   cases he
 have hv:=hP.v.acc (a:=a) (b:=b)
 have hk:=aIg hv (mK hP.sc).2.2 (aS nrm n).length (Nat.le_refl _)
 have hl:=(xC (aS nrm n) (aQ ds) (aQ (aP (acZ n a b (aQ ds) (aQ fs)))) (bR n) c (aS nrm n).length).2
 rw [aU] at hk hl
 have e:sB n a b c (aQ ds) (aQ fs)=aP (amZ n c (aQ ds) (acZ n a b (aQ ds) (aQ fs))).2:=by
  unfold sB
  rw [hb]; rfl
 rw [e]
 refine ⟨by rw [aU],?_,?_⟩ <;> rw [aU]
 ·exact hl
 ·exact hk.2
theorem aPs {n a b c:Int} {bs:List Int} (hq:FrQ n) (hs:bU a b c=0) (m j:Nat):-9254400≤(ajD n a b c bs (unV n m) (zeV n)).getD j 0∧(ajD n a b c bs (unV n m) (zeV n)).getD j 0≤9254400:=by
 have:=aPt (B:=1) (bs:=bs) hq.gp (by decide) hs (aCU (by decide) (aL8 n m)) (aCU (by decide) (aLU n)) (aS nrm n).length (Nat.le_refl _) j
 have h1:=hq.hi
 unfold ajD
 omega
theorem aPu {n a b c:Int} {bs:List Int} (hs:bU a b c=0) (m j:Nat):-23040≤(ajG n a b c bs (unV n m) (zeV n)).getD j 0∧(ajG n a b c bs (unV n m) (zeV n)).getD j 0≤23040:=by
 unfold ajG
 refine aUS (C:=23040) (by decide) (λ k _=>?_) j
 have:=aW5 (B:=1) (br:=bs.getD k 0) (r0:=nI ((aS nrm n).getD k []) 0) (r1:=nI ((aS nrm n).getD k []) 1) (i:=k) hs (aCU (by decide) (aL8 n m)) (aCU (by decide) (aLU n))
 unfold ajF
 omega
theorem aLF {l:List Int} {B:Int} (h:∀ j,-B≤l.getD j 0∧l.getD j 0≤B):∀ z ∈ l,-B≤z∧z≤B:=λ z hz=>by
 obtain ⟨j,hj,rfl⟩:=List.mem_iff_getElem.1 hz
 have:=h j
 rwa [aB,aD hj] at this
theorem aAp {f:Nat->Int} {B:Int} (h:∀ j,-B≤f j∧f j≤B):∀ k:Nat,-((k:Int)*B)≤kY f k∧kY f k≤(k:Int)*B
 | 0=>by simp [kY]
 | k+1=>by
  have h1:=aAp h k
  have h2:=h k
  rw [kY]
  have e:((k+1:Nat):Int)*B=(k:Int)*B+B:=by rw [Int.natCast_add,Int.add_mul]; simp
  rw [e]; omega
theorem aLE {f g:Nat->Int} {n i:Nat} {z:Int} (hz:z=g i) (h:∀ j,j≠i->f j=g j):(mk f n).set i z=mk g n:=by
 apply List.ext_getElem?
 intro j
 rw [List.getElem?_set]
 simp only [mk,List.getElem?_map,List.length_map,List.length_range]
 by_cases q:i=j
 ·subst q
  by_cases hi:i < n
  ·rw [if_pos rfl,if_pos hi,hz]; simp [hi]
  ·rw [if_pos rfl,if_neg hi,List.getElem?_eq_none (by simpa using hi)]; rfl
 ·rw [if_neg q]
  by_cases hj:j < n
  ·simp [hj,h j (λ e=>q e.symm)]
  ·rw [List.getElem?_eq_none (by simpa using hj)]; rfl
structure SenP (x:Int × Int × Int × Int × List Int × List Int × LL):Prop where
 sc:bU x.1 x.2.1 x.2.2.1=0
 ch:ChP 1 39 (aP x.2.2.2.2.1) (aP x.2.2.2.2.2.1)
 er:x.2.2.2.1=0∨x.2.2.2.1=7
 br:x.2.2.2.1=0->BrP 1 x.2.2.2.2.2.2
def aXF (node:Int):LInv:=⟨Int × Int × Int × Int × List Int × List Int × LL,λ x=>⟨[(1,.int .i64 node),(7,.ptr 7 0),(8,.ptr 8 0),(10,.sl 1 false x.2.2.2.2.2.2),(11,.int .i64 x.2.2.2.1)],[(7,.cells [.int .i64 x.1,.int .i64 x.2.1,.int .i64 x.2.2.1]),(8,.cells [.sl 1 false (aP x.2.2.2.2.1),.sl 1 false (aP x.2.2.2.2.2.1)])]⟩,SenP,λ _=>0,none⟩
def snD (a b c:Int) (bs:LL) (m j:Nat):Int:=(ajD 1 a b c (aQ bs) (unV 1 m) (zeV 1)).getD j 0
def snG (a b c:Int) (bs:LL) (m j:Nat):Int:=(ajG 1 a b c (aQ bs) (unV 1 m) (zeV 1)).getD j 0
def suD (a b c:Int) (bs:LL) (x:Int) (j:Nat):Int:=kY (λ m=>snD a b c bs m j) x.toNat
def suG (a b c:Int) (bs:LL) (x:Int) (j:Nat):Int:=kY (λ m=>snG a b c bs m j) x.toNat
def paD (a b c:Int) (bs:LL) (x y:Int) (j:Nat):Int:=if (j:Int) < y then suD a b c bs (x+1) j else suD a b c bs x j
def paG (a b c:Int) (bs:LL) (x y:Int) (j:Nat):Int:=if (j:Int) < y then suG a b c bs (x+1) j else suG a b c bs x j
structure Sen19 (x:Int × Int × Int × LL × Int):Prop where
 sc:bU x.1 x.2.1 x.2.2.1=0
 br:BrP 1 x.2.2.2.1
 lo:0≤x.2.2.2.2
 hi:x.2.2.2.2≤12
def aJx:LInv:=⟨Int × Int × Int × LL × Int,λ x=>⟨[(7,.ptr 7 0),(13,.sl 1 false [[.sl 1 false x.2.2.2.1]]),(20,.int .i64 (scZ x.1 x.2.1 x.2.2.1)),(22,.rw 119 1 12),(23,.rw 120 1 30),(122,.int .i64 12),(123,.int .i64 x.2.2.2.2)],[(7,.cells [.int .i64 x.1,.int .i64 x.2.1,.int .i64 x.2.2.1]),(119,.row 3 1 (aP (mk (suD x.1 x.2.1 x.2.2.1 x.2.2.2.1 x.2.2.2.2) 12))),(120,.row 3 1 (aP (mk (suG x.1 x.2.1 x.2.2.1 x.2.2.2.1 x.2.2.2.2) 30)))]⟩,Sen19,λ x=>(12 - x.2.2.2.2).toNat,none⟩
structure Sen25 (x N:Int) (z:Int × Int × Int × LL × Int):Prop where
 sc:bU z.1 z.2.1 z.2.2.1=0
 br:BrP 1 z.2.2.2.1
 lo:0≤x
 hi:x < 12
 l2:0≤z.2.2.2.2
 h2:z.2.2.2.2≤N
def aJw (x:Int):LInv:=⟨Int × Int × Int × LL × Int,λ z=>⟨[(7,.ptr 7 0),(13,.sl 1 false [[.sl 1 false z.2.2.2.1]]),(20,.int .i64 (scZ z.1 z.2.1 z.2.2.1)),(22,.rw 119 1 12),(23,.rw 120 1 30),(122,.int .i64 12),(123,.int .i64 x),(25,.ptr 25 0),(153,.int .i64 12),(154,.int .i64 z.2.2.2.2)],[(7,.cells [.int .i64 z.1,.int .i64 z.2.1,.int .i64 z.2.2.1]),(25,.cells [.sl 1 false (aP (ajD 1 z.1 z.2.1 z.2.2.1 (aQ z.2.2.2.1) (unV 1 x.toNat) (zeV 1))),.sl 1 false (aP (ajG 1 z.1 z.2.1 z.2.2.1 (aQ z.2.2.2.1) (unV 1 x.toNat) (zeV 1)))]),(119,.row 3 1 (aP (mk (paD z.1 z.2.1 z.2.2.1 z.2.2.2.1 x z.2.2.2.2) 12))),(120,.row 3 1 (aP (mk (suG z.1 z.2.1 z.2.2.1 z.2.2.2.1 x) 30)))]⟩,Sen25 x 12,λ z=>(12 - z.2.2.2.2).toNat,none⟩
def aJv (x:Int):LInv:=⟨Int × Int × Int × LL × Int,λ z=>⟨[(7,.ptr 7 0),(13,.sl 1 false [[.sl 1 false z.2.2.2.1]]),(20,.int .i64 (scZ z.1 z.2.1 z.2.2.1)),(22,.rw 119 1 12),(23,.rw 120 1 30),(122,.int .i64 12),(123,.int .i64 x),(25,.ptr 25 0),(171,.int .i64 30),(172,.int .i64 z.2.2.2.2)],[(7,.cells [.int .i64 z.1,.int .i64 z.2.1,.int .i64 z.2.2.1]),(25,.cells [.sl 1 false (aP (ajD 1 z.1 z.2.1 z.2.2.1 (aQ z.2.2.2.1) (unV 1 x.toNat) (zeV 1))),.sl 1 false (aP (ajG 1 z.1 z.2.1 z.2.2.1 (aQ z.2.2.2.1) (unV 1 x.toNat) (zeV 1)))]),(119,.row 3 1 (aP (mk (suD z.1 z.2.1 z.2.2.1 z.2.2.2.1 (x+1)) 12))),(120,.row 3 1 (aP (mk (paG z.1 z.2.1 z.2.2.1 z.2.2.2.1 x z.2.2.2.2) 30)))]⟩,Sen25 x 30,λ z=>(30 - z.2.2.2.2).toNat,none⟩
structure Sen36 (N:Int) (x:Int × Int):Prop where
 lo:0≤x.2
 hi:x.2≤N
def aJu:LInv:=⟨Int × Int,λ x=>⟨[(20,.int .i64 x.1),(23,.rw 120 1 30),(188,.rw 119 1 12),(189,.int .i64 12),(190,.int .i64 x.2)],[(119,.row 3 1 (aP (List.replicate 12 x.1))),(120,.row 3 1 (aP (List.replicate 30 0)))]⟩,Sen36 12,λ x=>(12 - x.2).toNat,none⟩
def aJt:LInv:=⟨Int × Int,λ x=>⟨[(198,.rw 120 1 30),(199,.int .i64 30),(200,.int .i64 x.2)],[(120,.row 3 1 (aP (List.replicate 30 0)))]⟩,Sen36 30,λ x=>(30 - x.2).toNat,none⟩
theorem lQ {f g:Nat->Int} {n:Nat} (h:∀ j,j < n->f j=g j):mk f n=mk g n:=by
 unfold mk
 exact List.map_congr_left λ j hj=>h j (List.mem_range.1 hj)
theorem oO {f:Nat->Int} {n:Nat} {v:Int} (h:∀ j,j < n->f j=v):mk f n=List.replicate n v:=by
 rw [lQ (g:=λ _=>v) h]
 unfold mk
 rw [List.eq_replicate_iff]
 exact ⟨by simp,λ z hz=>by simp at hz; exact hz.2.symm⟩
theorem aQJ {n:Int} {xs:LL} {p:Int} (hc:ChsP xs p):ChsP xs (st5 xs p n):=by
 have b1:=kM hc (n:=4) (by decide)
 have m1:0≤pkV stm (nxV xs p 4)∧pkV stm (nxV xs p 4)≤1000000:=aJ3 (by decide) (by decide) (by decide) (by decide) b1
 have w1:=nG (n:=(aS nrm n).length) (dD hc 4) m1.1
 have k2:=dD w1.2.2 4
 have b3:=kM k2 (n:=3) (by decide)
 have m3:0≤pkV sto (nxV xs (st3 xs p n) 3)∧pkV sto (nxV xs (st3 xs p n) 3)≤90000:=aRg (by decide) (by decide) (by decide) b3
 exact (nG (n:=(ndN n:Int)) (dD k2 3) m3.1).2.2
theorem aPY (z:Int):IntKind.u64.wrap z=z % 18446744073709551616:=by
 simp [IntKind.wrap,IntKind.bits,IntKind.signed]
theorem xE (n a b c:Int) (bs ds fs:List Int):(ajD n a b c bs ds fs).length=ndN n:=nE n a b c bs ds fs _
theorem rJ (n a b c:Int) (bs ds fs:List Int):(ajG n a b c bs ds fs).length=(aS nrm n).length:=by unfold ajG; rw [bZ]
theorem aVu (a b c:Int) (bs:LL) {x:Int} (h:0≤x) (j:Nat):suD a b c bs (x+1) j=suD a b c bs x j+snD a b c bs x.toNat j:=by
 unfold suD
 rw [show (x+1).toNat=x.toNat+1 by omega,kY]
theorem aVs (a b c:Int) (bs:LL) {x:Int} (h:0≤x) (j:Nat):suG a b c bs (x+1) j=suG a b c bs x j+snG a b c bs x.toNat j:=by
 unfold suG
 rw [show (x+1).toNat=x.toNat+1 by omega,kY]
theorem aVv {a b c:Int} {bs:LL} (hs:bU a b c=0) {x:Int} (h:0≤x∧x≤12) (j:Nat):-111052800≤suD a b c bs x j∧suD a b c bs x j≤111052800:=by
 have:=aAp (f:=λ m=>snD a b c bs m j) (B:=9254400) (λ m=>aPs aOp hs m j) x.toNat
 have e:(x.toNat:Int)*9254400≤12*9254400:=Int.mul_le_mul_of_nonneg_right (by omega) (by decide)
 unfold suD
 omega
theorem aVt {a b c:Int} {bs:LL} (hs:bU a b c=0) {x:Int} (h:0≤x∧x≤12) (j:Nat):-276480≤suG a b c bs x j∧suG a b c bs x j≤276480:=by
 have:=aAp (f:=λ m=>snG a b c bs m j) (B:=23040) (λ m=>aPu hs m j) x.toNat
 have e:(x.toNat:Int)*23040≤12*23040:=Int.mul_le_mul_of_nonneg_right (by omega) (by decide)
 unfold suG
 omega
theorem aVR (a b c:Int) (bs:LL) (x:Int) (n:Nat):mk (paD a b c bs x 0) n=mk (suD a b c bs x) n:=lQ λ j _=>by unfold paD; rw [if_neg (by omega)]
theorem aVP (a b c:Int) (bs:LL) (x:Int) (n:Nat):mk (paG a b c bs x 0) n=mk (suG a b c bs x) n:=lQ λ j _=>by unfold paG; rw [if_neg (by omega)]
theorem aVQ (a b c:Int) (bs:LL) (x:Int) (n:Nat):mk (paD a b c bs x n) n=mk (suD a b c bs (x+1)) n:=lQ λ j hj=>by unfold paD; rw [if_pos (by omega)]
theorem aVO (a b c:Int) (bs:LL) (x:Int) (n:Nat):mk (paG a b c bs x n) n=mk (suG a b c bs (x+1)) n:=lQ λ j hj=>by unfold paG; rw [if_pos (by omega)]
theorem aRp (a b c:Int) (bs:LL) (x y:Int) (h:0≤y):paD a b c bs x y y.toNat=suD a b c bs x y.toNat:=by unfold paD; rw [if_neg (by omega)]
theorem aRo (a b c:Int) (bs:LL) (x y:Int) (h:0≤y):paG a b c bs x y y.toNat=suG a b c bs x y.toNat:=by unfold paG; rw [if_neg (by omega)]
theorem aNc (a b c:Int) (bs:LL) {x y:Int} (hx:0≤x) (hy:0≤y) {n:Nat} (hn:y.toNat < n):setEl (aP (mk (paD a b c bs x y) n)) y.toNat 0 [.int .i64 (suD a b c bs x y.toNat+snD a b c bs x.toNat y.toNat)]=aP (mk (paD a b c bs x (y+1)) n):=by
 rw [cM (by rw [bZ]; exact hn),aLE]
 ·unfold paD; rw [if_pos (by omega),aVu a b c bs hx]
 ·intro j hj
  unfold paD
  by_cases q:(j:Int) < y
  ·rw [if_pos q,if_pos (by omega)]
  ·rw [if_neg q,if_neg (by omega)]
theorem aNb (a b c:Int) (bs:LL) {x y:Int} (hx:0≤x) (hy:0≤y) {n:Nat} (hn:y.toNat < n):setEl (aP (mk (paG a b c bs x y) n)) y.toNat 0 [.int .i64 (suG a b c bs x y.toNat+snG a b c bs x.toNat y.toNat)]=aP (mk (paG a b c bs x (y+1)) n):=by
 rw [cM (by rw [bZ]; exact hn),aLE]
 ·unfold paG; rw [if_pos (by omega),aVs a b c bs hx]
 ·intro j hj
  unfold paG
  by_cases q:(j:Int) < y
  ·rw [if_pos q,if_pos (by omega)]
  ·rw [if_neg q,if_neg (by omega)]
theorem aQH {a b c:Int} {bs:LL} (hs:bU a b c=0) (hB:BrP 1 bs):mk (suD a b c bs 12) 12=List.replicate 12 (scZ a b c):=oO λ j hj =>
 aJs (n:=1) aKx hs (aCU (by decide) hB.bb) (j:=j) hj
theorem aQG {a b c:Int} {bs:LL} (hs:bU a b c=0) (hB:BrP 1 bs):mk (suG a b c bs 12) 30=List.replicate 30 0:=oO λ j hj =>
 aE0 (n:=1) aKx hs (aCU (by decide) hB.bb) (i:=j) (by rw [wK]; exact hj)
theorem aTt {a b c:Int} {hd hf:List Int} {bs:LL} (hs:bU a b c=0) (ch:ChP 1 39 (aP hd) (aP hf)) (k:Nat):DotP (aP (ajD 1 a b c (aQ bs) (unV 1 k) (zeV 1))) (aP hd)∧DotP (aP (ajG 1 a b c (aQ bs) (unV 1 k) (zeV 1))) (aP hf):=by
 have h1:=ch.ld
 have h2:=ch.lf
 have h3:=ch.bd
 have h4:=ch.bf
 rw [aU] at h1 h2 h3 h4
 have e12:ndN 1=12:=rfl
 have e30:=wK
 refine ⟨⟨by rw [aU],by rw [aU],by rw [aR,aR,xE,h1],by rw [aR,xE]; omega,?_,?_⟩,⟨by rw [aU],by rw [aU],by rw [aR,aR,rJ,h2],by rw [aR,rJ]; omega,?_,?_⟩⟩ <;> rw [aU]
 ·exact λ z hz=>by have:=aLF (λ j=>aPs aOp hs k j) z hz; omega
 ·exact λ z hz=>by have:=h3 z hz; omega
 ·exact λ z hz=>by have:=aLF (λ j=>aPu hs k j) z hz; omega
 ·exact λ z hz=>by have:=h4 z hz; omega
def aGx:Sp
 | [.sl 1 false xs,.int .i64 node]=>some (BytL xs,.bool true)
 | _=>none
abbrev iZ (nxA:LL->Int->Int->Int) (xs:LL):=(nxA (List.take 600 xs) (nxA (List.take 600 xs) (st5 (List.take 600 xs) 0 1) 4) 4)
abbrev mS (x1:Int × Int × Int × Int × List Int × List Int × LL):=(aP (taD 1 x1.1 x1.2.1 x1.2.2.1 (aQ x1.2.2.2.2.2.2) (aQ (aP x1.2.2.2.2.1)) (aQ (aP x1.2.2.2.2.2.1))))
abbrev iY (x3:Int × Int × Int × LL × Int) (x2:Int × Int × Int × LL × Int):=(mk (paD x3.1 x3.2.1 x3.2.2.1 x3.2.2.2.1 x2.2.2.2.2 x3.2.2.2.2) 12)
abbrev iX (x4:Int × Int × Int × LL × Int) (x2:Int × Int × Int × LL × Int):=(mk (paG x4.1 x4.2.1 x4.2.2.1 x4.2.2.2.1 x2.2.2.2.2 x4.2.2.2.2) 30)
abbrev aA5 (x1:Int × Int × Int × Int × List Int × List Int × LL) (node:Int):=(cX (aQ (aP (ajD 1 x1.1 x1.2.1 x1.2.2.1 (aQ x1.2.2.2.2.2.2) (unV 1 (iJ node 12).toNat) (zeV 1)))) (aQ (aP x1.2.2.2.2.1))+cX (aQ (aP (ajG 1 x1.1 x1.2.1 x1.2.2.1 (aQ x1.2.2.2.2.2.2) (unV 1 (iJ node 12).toNat) (zeV 1)))) (aQ (aP x1.2.2.2.2.2.1)))
abbrev fX (xs:LL):=(st5 (List.take 600 xs) 0 1)
abbrev pS (x3:Int × Int × Int × LL × Int) (x2:Int × Int × Int × LL × Int):=(ajD 1 x3.1 x3.2.1 x3.2.2.1 (aQ x3.2.2.2.1) (unV 1 x2.2.2.2.2.toNat) (zeV 1))
abbrev vN (x2:Int × Int × Int × LL × Int):=(ajD 1 x2.1 x2.2.1 x2.2.2.1 (aQ x2.2.2.2.1) (unV 1 x2.2.2.2.2.toNat) (zeV 1))
def aA4 (nxV:LL->Int->Int->Int) (nxA:LL->Int->Int->Int) (wH:Int->Int) (wL:Int->Int) (adZ:Int->Int->Int->Int->Int):Prop :=
 ∀ (node:Int) (xs:LL),BytL xs->True->IR9 node->True∧(FrQ 1∧ChsP (List.take 600 xs) 0)∧ChsP (List.take 600 xs) (fX xs)∧(FrQ 1∧ChsP (List.take 600 xs) (nxA (List.take 600 xs) (iZ nxA xs) 4)∧(0:Int)≤(30:Int)∧(30:Int)≤(1000:Int))∧(AmoP 1 ((1:Int)+nxV (List.take 600 xs) (fX xs) 4) ((1:Int)+nxV (List.take 600 xs) (nxA (List.take 600 xs) (fX xs) 4) 4) ((1:Int)+nxV (List.take 600 xs) (iZ nxA xs) 4) (aP (stD (List.take 600 xs) 0 1)) (aP (stF (List.take 600 xs) 0 1))∧∃ x,SenP x∧(node=node∧(0:Nat)=(0:Nat)∧(0:Nat)=(0:Nat)∧(True∧sB 1 ((1:Int)+nxV (List.take 600 xs) (fX xs) 4) ((1:Int)+nxV (List.take 600 xs) (nxA (List.take 600 xs) (fX xs) 4) 4) ((1:Int)+nxV (List.take 600 xs) (iZ nxA xs) 4) (aQ (aP (stD (List.take 600 xs) 0 1))) (aQ (aP (stF (List.take 600 xs) 0 1)))=x.2.2.2.2.2.2)∧sE 1 ((1:Int)+nxV (List.take 600 xs) (fX xs) 4) ((1:Int)+nxV (List.take 600 xs) (nxA (List.take 600 xs) (fX xs) 4) 4) ((1:Int)+nxV (List.take 600 xs) (iZ nxA xs) 4) (aQ (aP (stD (List.take 600 xs) 0 1))) (aQ (aP (stF (List.take 600 xs) 0 1)))=x.2.2.2.1∧True)∧((1:Int)+nxV (List.take 600 xs) (fX xs) 4=x.1∧(1:Int)+nxV (List.take 600 xs) (nxA (List.take 600 xs) (fX xs) 4) 4=x.2.1∧(1:Int)+nxV (List.take 600 xs) (iZ nxA xs) 4=x.2.2.1∧True)∧((True∧aP (vcL (List.take 600 xs) (nxA (List.take 600 xs) (iZ nxA xs) 4) 12 30)=aP x.2.2.2.2.1)∧(True∧aP (vcL (List.take 600 xs) (vcA (List.take 600 xs) (nxA (List.take 600 xs) (iZ nxA xs) 4) 12 30) (↑(aS nrm 1).length:Int) 30)=aP x.2.2.2.2.2.1)∧True)∧True)∧∀ (x1:Int × Int × Int × Int × List Int × List Int × LL),SenP x1->bif decide ¬x1.2.2.2.1=(0:Int) then bif decide (x1.2.2.2.1=(7:Int)) then True∧true=true else false=true else True∧((bU x1.1 x1.2.1 x1.2.2.1=(0:Int)∧GrdP nrm 1∧BrP 1 x1.2.2.2.2.2.2)∧0≤iJ node 12∧iJ node 12 < (12:Int))∧(bU x1.1 x1.2.1 x1.2.2.1=(0:Int)∧ChP 1 10000000000 (aP x1.2.2.2.2.1) (aP x1.2.2.2.2.2.1)∧BrP 1 x1.2.2.2.2.2.2)∧(DotP (aP (ajD 1 x1.1 x1.2.1 x1.2.2.1 (aQ x1.2.2.2.2.2.2) (unV 1 (iJ node 12).toNat) (zeV 1))) (aP x1.2.2.2.2.1)∧DotP (aP (ajG 1 x1.1 x1.2.1 x1.2.2.1 (aQ x1.2.2.2.2.2.2) (unV 1 (iJ node 12).toNat) (zeV 1))) (aP x1.2.2.2.2.2.1))∧bU x1.1 x1.2.1 x1.2.2.1=(0:Int)∧bif decide ¬(↑(mS x1).length:Int)=(12:Int) then false=true else bif decide (0≤iJ node 12∧iJ node 12 < (↑(mS x1).length:Int)) then ∃ n,List.take [I6 n].length ((mS x1).getD (iJ node 12).toNat [])=[I6 n]∧bif decide (0≤iJ node 12∧iJ node 12 < (↑(mS x1).length:Int)) then ∃ n_1,List.take [I6 n_1].length ((mS x1).getD (iJ node 12).toNat [])=[I6 n_1]∧bif !(decide (wH (aA5 x1 node)=n / (9223372036854775808:Int))&&(decide (wL (aA5 x1 node)=IntKind.u64.wrap n_1)&&true)) then false=true else (∃ x_1,Sen19 x_1∧((0:Nat)=(0:Nat)∧((1:Nat)=[[AV.sl 1 false x1.2.2.2.2.2.2]].length∧[[AV.sl 1 false x1.2.2.2.2.2.2]]=[[AV.sl 1 false x_1.2.2.2.1]])∧scZ x1.1 x1.2.1 x1.2.2.1=scZ x_1.1 x_1.2.1 x_1.2.2.1∧(12:Nat)=(12:Nat)∧(30:Nat)=(30:Nat)∧(12:Int)=(12:Int)∧(0:Int)=x_1.2.2.2.2∧True)∧(x1.1=x_1.1∧x1.2.1=x_1.2.1∧x1.2.2.1=x_1.2.2.1∧True)∧List.replicate 12 [I6 0]=aP (mk (suD x_1.1 x_1.2.1 x_1.2.2.1 x_1.2.2.2.1 x_1.2.2.2.2) 12)∧List.replicate 30 [I6 0]=aP (mk (suG x_1.1 x_1.2.1 x_1.2.2.1 x_1.2.2.2.1 x_1.2.2.2.2) 30)∧True)∧∀ (x2:Int × Int × Int × LL × Int),Sen19 x2->bif decide (x2.2.2.2.2 < (12:Int)) then ((bU x2.1 x2.2.1 x2.2.2.1=(0:Int)∧GrdP nrm 1∧BrP 1 x2.2.2.2.1)∧0≤x2.2.2.2.2∧x2.2.2.2.2 < (12:Int))∧bif decide ¬(↑(aP (vN x2)).length:Int)=(12:Int) then false=true else bif decide ¬(↑(aP (ajG 1 x2.1 x2.2.1 x2.2.2.1 (aQ x2.2.2.2.1) (unV 1 x2.2.2.2.2.toNat) (zeV 1))).length:Int)=(30:Int) then false=true else (∃ x_1,Sen25 x2.2.2.2.2 12 x_1∧((0:Nat)=(0:Nat)∧(True∧[[AV.sl 1 false x2.2.2.2.1]]=[[AV.sl 1 false x_1.2.2.2.1]])∧scZ x2.1 x2.2.1 x2.2.2.1=scZ x_1.1 x_1.2.1 x_1.2.2.1∧(12:Nat)=(12:Nat)∧(30:Nat)=(30:Nat)∧(12:Int)=(12:Int)∧x2.2.2.2.2=x2.2.2.2.2∧(0:Nat)=(0:Nat)∧(↑(aP (vN x2)).length:Int)=(12:Int)∧(0:Int)=x_1.2.2.2.2∧True)∧(x2.1=x_1.1∧x2.2.1=x_1.2.1∧x2.2.2.1=x_1.2.2.1∧True)∧((True∧aP (vN x2)=aP (ajD 1 x_1.1 x_1.2.1 x_1.2.2.1 (aQ x_1.2.2.2.1) (unV 1 x2.2.2.2.2.toNat) (zeV 1)))∧(True∧aP (ajG 1 x2.1 x2.2.1 x2.2.2.1 (aQ x2.2.2.2.1) (unV 1 x2.2.2.2.2.toNat) (zeV 1))=aP (ajG 1 x_1.1 x_1.2.1 x_1.2.2.1 (aQ x_1.2.2.2.1) (unV 1 x2.2.2.2.2.toNat) (zeV 1)))∧True)∧aP (mk (suD x2.1 x2.2.1 x2.2.2.1 x2.2.2.2.1 x2.2.2.2.2) 12)=aP (mk (paD x_1.1 x_1.2.1 x_1.2.2.1 x_1.2.2.2.1 x2.2.2.2.2 x_1.2.2.2.2) 12)∧aP (mk (suG x2.1 x2.2.1 x2.2.2.1 x2.2.2.2.1 x2.2.2.2.2) 30)=aP (mk (suG x_1.1 x_1.2.1 x_1.2.2.1 x_1.2.2.2.1 x2.2.2.2.2) 30)∧True)∧∀ (x3:Int × Int × Int × LL × Int),Sen25 x2.2.2.2.2 12 x3->bif decide (x3.2.2.2.2 < (12:Int)) then bif decide (0≤x3.2.2.2.2∧x3.2.2.2.2 < (12:Int)) then bif decide ((12:Nat)=(aP (iY x3 x2)).length∧x3.2.2.2.2.toNat < (aP (iY x3 x2)).length) then ∃ n,List.take [I6 n].length (List.drop 0 ((aP (iY x3 x2)).getD x3.2.2.2.2.toNat []))=[I6 n]∧bif decide (0≤x3.2.2.2.2∧x3.2.2.2.2 < (↑(aP (pS x3 x2)).length:Int)) then ∃ n_2,List.take [I6 n_2].length ((aP (pS x3 x2)).getD x3.2.2.2.2.toNat [])=[I6 n_2]∧bif decide (rng IntKind.i64 (n+n_2)) then bif decide (0≤x3.2.2.2.2∧x3.2.2.2.2 < (12:Int)) then bif decide ((12:Nat)=(aP (iY x3 x2)).length∧x3.2.2.2.2.toNat < (aP (iY x3 x2)).length) then bif decide (rng IntKind.i64 (x3.2.2.2.2+(1:Int))) then ∃ y,Sen25 x2.2.2.2.2 12 y∧(aJw x2.2.2.2.2).m y < (aJw x2.2.2.2.2).m x3∧((0:Nat)=(0:Nat)∧(True∧[[AV.sl 1 false x3.2.2.2.1]]=[[AV.sl 1 false y.2.2.2.1]])∧scZ x3.1 x3.2.1 x3.2.2.1=scZ y.1 y.2.1 y.2.2.1∧(12:Nat)=(12:Nat)∧(30:Nat)=(30:Nat)∧(12:Int)=(12:Int)∧x2.2.2.2.2=x2.2.2.2.2∧(0:Nat)=(0:Nat)∧(12:Int)=(12:Int)∧x3.2.2.2.2+(1:Int)=y.2.2.2.2∧True)∧(x3.1=y.1∧x3.2.1=y.2.1∧x3.2.2.1=y.2.2.1∧True)∧((True∧aP (pS x3 x2)=aP (ajD 1 y.1 y.2.1 y.2.2.1 (aQ y.2.2.2.1) (unV 1 x2.2.2.2.2.toNat) (zeV 1)))∧(True∧aP (ajG 1 x3.1 x3.2.1 x3.2.2.1 (aQ x3.2.2.2.1) (unV 1 x2.2.2.2.2.toNat) (zeV 1))=aP (ajG 1 y.1 y.2.1 y.2.2.1 (aQ y.2.2.2.1) (unV 1 x2.2.2.2.2.toNat) (zeV 1)))∧True)∧setEl (aP (iY x3 x2)) x3.2.2.2.2.toNat 0 [I6 (n+n_2)]=aP (mk (paD y.1 y.2.1 y.2.2.1 y.2.2.2.1 x2.2.2.2.2 y.2.2.2.2) 12)∧aP (mk (suG x3.1 x3.2.1 x3.2.2.1 x3.2.2.2.1 x2.2.2.2.2) 30)=aP (mk (suG y.1 y.2.1 y.2.2.1 y.2.2.2.1 x2.2.2.2.2) 30)∧True else False else False else False else False else False else False else False else (∃ x_2,Sen25 x2.2.2.2.2 30 x_2∧((0:Nat)=(0:Nat)∧(True∧[[AV.sl 1 false x3.2.2.2.1]]=[[AV.sl 1 false x_2.2.2.2.1]])∧scZ x3.1 x3.2.1 x3.2.2.1=scZ x_2.1 x_2.2.1 x_2.2.2.1∧(12:Nat)=(12:Nat)∧(30:Nat)=(30:Nat)∧(12:Int)=(12:Int)∧x2.2.2.2.2=x2.2.2.2.2∧(0:Nat)=(0:Nat)∧(↑(aP (ajG 1 x3.1 x3.2.1 x3.2.2.1 (aQ x3.2.2.2.1) (unV 1 x2.2.2.2.2.toNat) (zeV 1))).length:Int)=(30:Int)∧(0:Int)=x_2.2.2.2.2∧True)∧(x3.1=x_2.1∧x3.2.1=x_2.2.1∧x3.2.2.1=x_2.2.2.1∧True)∧((True∧aP (pS x3 x2)=aP (ajD 1 x_2.1 x_2.2.1 x_2.2.2.1 (aQ x_2.2.2.2.1) (unV 1 x2.2.2.2.2.toNat) (zeV 1)))∧(True∧aP (ajG 1 x3.1 x3.2.1 x3.2.2.1 (aQ x3.2.2.2.1) (unV 1 x2.2.2.2.2.toNat) (zeV 1))=aP (ajG 1 x_2.1 x_2.2.1 x_2.2.2.1 (aQ x_2.2.2.2.1) (unV 1 x2.2.2.2.2.toNat) (zeV 1)))∧True)∧aP (iY x3 x2)=aP (mk (suD x_2.1 x_2.2.1 x_2.2.2.1 x_2.2.2.2.1 (x2.2.2.2.2+(1:Int))) 12)∧aP (mk (suG x3.1 x3.2.1 x3.2.2.1 x3.2.2.2.1 x2.2.2.2.2) 30)=aP (mk (paG x_2.1 x_2.2.1 x_2.2.2.1 x_2.2.2.2.1 x2.2.2.2.2 x_2.2.2.2.2) 30)∧True)∧∀ (x4:Int × Int × Int × LL × Int),Sen25 x2.2.2.2.2 30 x4->bif decide (x4.2.2.2.2 < (30:Int)) then bif decide (0≤x4.2.2.2.2∧x4.2.2.2.2 < (30:Int)) then bif decide ((30:Nat)=(aP (iX x4 x2)).length∧x4.2.2.2.2.toNat < (aP (iX x4 x2)).length) then ∃ n,List.take [I6 n].length (List.drop 0 ((aP (iX x4 x2)).getD x4.2.2.2.2.toNat []))=[I6 n]∧bif decide (0≤x4.2.2.2.2∧x4.2.2.2.2 < (↑(aP (ajG 1 x4.1 x4.2.1 x4.2.2.1 (aQ x4.2.2.2.1) (unV 1 x2.2.2.2.2.toNat) (zeV 1))).length:Int)) then ∃ n_2,List.take [I6 n_2].length ((aP (ajG 1 x4.1 x4.2.1 x4.2.2.1 (aQ x4.2.2.2.1) (unV 1 x2.2.2.2.2.toNat) (zeV 1))).getD x4.2.2.2.2.toNat [])=[I6 n_2]∧bif decide (rng IntKind.i64 (n+n_2)) then bif decide (0≤x4.2.2.2.2∧x4.2.2.2.2 < (30:Int)) then bif decide ((30:Nat)=(aP (iX x4 x2)).length∧x4.2.2.2.2.toNat < (aP (iX x4 x2)).length) then bif decide (rng IntKind.i64 (x4.2.2.2.2+(1:Int))) then ∃ y,Sen25 x2.2.2.2.2 30 y∧(aJv x2.2.2.2.2).m y < (aJv x2.2.2.2.2).m x4∧((0:Nat)=(0:Nat)∧(True∧[[AV.sl 1 false x4.2.2.2.1]]=[[AV.sl 1 false y.2.2.2.1]])∧scZ x4.1 x4.2.1 x4.2.2.1=scZ y.1 y.2.1 y.2.2.1∧(12:Nat)=(12:Nat)∧(30:Nat)=(30:Nat)∧(12:Int)=(12:Int)∧x2.2.2.2.2=x2.2.2.2.2∧(0:Nat)=(0:Nat)∧(30:Int)=(30:Int)∧x4.2.2.2.2+(1:Int)=y.2.2.2.2∧True)∧(x4.1=y.1∧x4.2.1=y.2.1∧x4.2.2.1=y.2.2.1∧True)∧((True∧aP (ajD 1 x4.1 x4.2.1 x4.2.2.1 (aQ x4.2.2.2.1) (unV 1 x2.2.2.2.2.toNat) (zeV 1))=aP (ajD 1 y.1 y.2.1 y.2.2.1 (aQ y.2.2.2.1) (unV 1 x2.2.2.2.2.toNat) (zeV 1)))∧(True∧aP (ajG 1 x4.1 x4.2.1 x4.2.2.1 (aQ x4.2.2.2.1) (unV 1 x2.2.2.2.2.toNat) (zeV 1))=aP (ajG 1 y.1 y.2.1 y.2.2.1 (aQ y.2.2.2.1) (unV 1 x2.2.2.2.2.toNat) (zeV 1)))∧True)∧aP (mk (suD x4.1 x4.2.1 x4.2.2.1 x4.2.2.2.1 (x2.2.2.2.2+(1:Int))) 12)=aP (mk (suD y.1 y.2.1 y.2.2.1 y.2.2.2.1 (x2.2.2.2.2+(1:Int))) 12)∧setEl (aP (iX x4 x2)) x4.2.2.2.2.toNat 0 [I6 (n+n_2)]=aP (mk (paG y.1 y.2.1 y.2.2.1 y.2.2.2.1 x2.2.2.2.2 y.2.2.2.2) 30)∧True else False else False else False else False else False else False else False else bif decide (rng IntKind.i64 (x2.2.2.2.2+(1:Int))) then ∃ y,Sen19 y∧aJx.m y < aJx.m x2∧((0:Nat)=(0:Nat)∧(True∧[[AV.sl 1 false x4.2.2.2.1]]=[[AV.sl 1 false y.2.2.2.1]])∧scZ x4.1 x4.2.1 x4.2.2.1=scZ y.1 y.2.1 y.2.2.1∧(12:Nat)=(12:Nat)∧(30:Nat)=(30:Nat)∧(12:Int)=(12:Int)∧x2.2.2.2.2+(1:Int)=y.2.2.2.2∧True)∧(x4.1=y.1∧x4.2.1=y.2.1∧x4.2.2.1=y.2.2.1∧True)∧aP (mk (suD x4.1 x4.2.1 x4.2.2.1 x4.2.2.2.1 (x2.2.2.2.2+(1:Int))) 12)=aP (mk (suD y.1 y.2.1 y.2.2.1 y.2.2.2.1 y.2.2.2.2) 12)∧aP (iX x4 x2)=aP (mk (suG y.1 y.2.1 y.2.2.1 y.2.2.2.1 y.2.2.2.2) 30)∧True else False else (∃ x_1,Sen36 12 x_1∧(scZ x2.1 x2.2.1 x2.2.2.1=x_1.1∧(30:Nat)=(30:Nat)∧(12:Nat)=(12:Nat)∧(12:Int)=(12:Int)∧(0:Int)=x_1.2∧True)∧aP (mk (suD x2.1 x2.2.1 x2.2.2.1 x2.2.2.2.1 x2.2.2.2.2) 12)=aP (List.replicate 12 x_1.1)∧aP (mk (suG x2.1 x2.2.1 x2.2.2.1 x2.2.2.2.1 x2.2.2.2.2) 30)=aP (List.replicate 30 0)∧True)∧∀ (x5:Int × Int),Sen36 12 x5->bif decide (x5.2 < (12:Int)) then bif decide (0≤x5.2∧x5.2 < (12:Int)) then bif decide ((12:Nat)=(aP (List.replicate 12 x5.1)).length∧x5.2.toNat < (aP (List.replicate 12 x5.1)).length) then ∃ n,List.take [I6 n].length (List.drop 0 ((aP (List.replicate 12 x5.1)).getD x5.2.toNat []))=[I6 n]∧bif decide ¬n=x5.1 then false=true else bif decide (rng IntKind.i64 (x5.2+(1:Int))) then ∃ y,Sen36 12 y∧aJu.m y < aJu.m x5∧(x5.1=y.1∧(30:Nat)=(30:Nat)∧(12:Nat)=(12:Nat)∧(12:Int)=(12:Int)∧x5.2+(1:Int)=y.2∧True)∧aP (List.replicate 12 x5.1)=aP (List.replicate 12 y.1)∧aP (List.replicate 30 0)=aP (List.replicate 30 0)∧True else False else False else False else (∃ x,Sen36 30 x∧((30:Nat)=(30:Nat)∧(30:Int)=(30:Int)∧(0:Int)=x.2∧True)∧aP (List.replicate 30 0)=aP (List.replicate 30 0)∧True)∧∀ (x6:Int × Int),Sen36 30 x6->bif decide (x6.2 < (30:Int)) then bif decide (0≤x6.2∧x6.2 < (30:Int)) then bif decide ((30:Nat)=(30:Nat)∧x6.2.toNat < (30:Nat)) then ∃ n,List.take [I6 n].length (List.drop 0 ((aP (List.replicate 30 0)).getD x6.2.toNat []))=[I6 n]∧bif decide ¬n=(0:Int) then false=true else bif decide (rng IntKind.i64 (x6.2+(1:Int))) then ∃ y,Sen36 30 y∧aJt.m y < aJt.m x6∧((30:Nat)=(30:Nat)∧(30:Int)=(30:Int)∧x6.2+(1:Int)=y.2∧True)∧aP (List.replicate 30 0)=aP (List.replicate 30 0)∧True else False else False else False else True∧true=true else False else False
theorem aNX:aA4 nxV nxA wH wL adZ:=by
 unfold aA4
 delta iZ mS iY iX aA5 fX pS vN I6
 intro node xs hx
 intros
 have c0:=aTP hx
 have hk:0≤iJ node 12∧iJ node 12 < 12:=by unfold iJ; rw [if_neg (by decide)]; omega
 generalize List.take 600 xs=zs at *
 have s5:ChsP zs (st5 zs 0 1):=aQJ c0
 have q1:=dD s5 4
 have q2:=dD q1 4
 have q3:=dD q2 4
 have hsc:=aQK s5 q1 q2
 have hch:ChP 1 39 (aP (vcL zs (nxA zs (nxA zs (nxA zs (st5 zs 0 1) 4) 4) 4) 12 30)) (aP (vcL zs (vcA zs (nxA zs (nxA zs (nxA zs (st5 zs 0 1) 4) 4) 4) 12 30) (aS nrm 1).length 30)):=aWL (n:=1) (m:=30) aOp q3 (by decide)
 generalize nxA zs (nxA zs (nxA zs (st5 zs 0 1) 4) 4) 4=p3 at *
 generalize 1+nxV zs (st5 zs 0 1) 4=a at *
 generalize 1+nxV zs (nxA zs (st5 zs 0 1) 4) 4=b at *
 generalize 1+nxV zs (nxA zs (nxA zs (st5 zs 0 1) 4) 4) 4=c at *
 have hA:AmoP 1 a b c (aP (stD zs 0 1)) (aP (stF zs 0 1)):=⟨aVw aOp c0,hsc⟩
 have hbr:=aWO hA
 have her:sE 1 a b c (aQ (aP (stD zs 0 1))) (aQ (aP (stF zs 0 1)))=0∨sE 1 a b c (aQ (aP (stD zs 0 1))) (aQ (aP (stF zs 0 1)))=7:=by
  unfold sE mvE
  split
  ·exact .inr rfl
  ·exact .inl rfl
 refine ⟨trivial,⟨aOp,c0⟩,s5,⟨aOp,q3,by decide,by decide⟩,⟨hA,⟨(a,b,c,sE 1 a b c (aQ (aP (stD zs 0 1))) (aQ (aP (stF zs 0 1))),vcL zs p3 12 30,vcL zs (vcA zs p3 12 30) (aS nrm 1).length 30,sB 1 a b c (aQ (aP (stD zs 0 1))) (aQ (aP (stF zs 0 1)))),⟨hsc,hch,her,hbr⟩,by repeat' first|exact trivial|exact rfl|assumption|apply And.intro,by repeat' first|exact trivial|exact rfl|assumption|apply And.intro,by repeat' first|exact trivial|exact rfl|assumption|apply And.intro,trivial⟩⟩,?_⟩
 clear hA hbr her hch hsc q1 q2 q3 s5 c0 hx
 clear p3 a b c
 rintro ⟨a,b,c,e,hd,hf,bs⟩ ⟨sc,ch,er,br⟩
 dsimp only at sc ch er br ⊢
 refine csp (λ q=>cd1 (er.resolve_left q) ⟨trivial,rfl⟩) (λ q=>?_)
 have hB:=br (Classical.not_not.1 q)
 have hd2:=aTt (bs:=bs) sc ch (iJ node 12).toNat
 have ld:=ch.ld
 rw [aU] at ld
 have tl:(taD 1 a b c (aQ bs) (aQ (aP hd)) (aQ (aP hf))).length=12:=pB _ _ _ _ _ _ _ _
 have hse:=aVB (n:=1) (a:=a) (b:=b) (c:=c) (ds:=hd) (fs:=hf) aKx sc (aCU (by decide) hB.bb) ld (k:=(iJ node 12).toNat) (show _ < 12 by omega)
 have til:=cV (taD 1 a b c (aQ bs) (aQ (aP hd)) (aQ (aP hf)))
 have ub:-4611686018427387904≤(taD 1 a b c (aQ bs) hd hf).getD (iJ node 12).toNat 0∧(taD 1 a b c (aQ bs) hd hf).getD (iJ node 12).toNat 0≤4611686018427387904:=by
  have h3:=ch.bd
  have h4:=ch.bf
  rw [aU] at h3 h4
  have:=aQt (B:=39) (bs:=aQ bs) aKx (by decide) sc (aCU (by decide) h3) (aCU (by decide) h4) (aS nrm 1).length (iJ node 12).toNat
  have e30:=wK
  rw [e30] at this
  unfold taD
  rw [e30]
  omega
 refine ⟨trivial,⟨⟨sc,aKx,hB⟩,hk⟩,⟨sc,ch.mono (by decide),hB⟩,hd2,sc,cd0 (by omega) (cd1 (by omega) ⟨_,by rw [eL (by omega)]; rfl,cd1 (by omega) ⟨_,by rw [eL (by omega)]; rfl,?_⟩⟩)⟩
 rw [aU,aU,aU,aU]
 rw [hse]
 generalize (taD 1 a b c (aQ bs) hd hf).getD (iJ node 12).toNat 0=u at ub
 rw [decide_eq_true (show wH u=u / 9223372036854775808 by unfold wH; omega),decide_eq_true (show wL u=IntKind.u64.wrap u by unfold wL; rw [aPY])]
 simp only [Bool.and_self,Bool.not_true,cond_false]
 clear hse til tl ld hd2 q br er ub u hk
 refine ⟨⟨(a,b,c,bs,0),⟨sc,hB,Int.le_refl _,by dsimp only; omega⟩,by repeat' first|exact trivial|exact rfl|assumption|apply And.intro,by repeat' first|exact trivial|exact rfl|assumption|apply And.intro,?_,?_,trivial⟩,?_⟩
 ·show _=aP (mk (suD a b c bs 0) 12)
  have e:mk (suD a b c bs 0) 12=List.replicate 12 0:=oO λ j _=>rfl
  rw [e]; rfl
 ·show _=aP (mk (suG a b c bs 0) 30)
  have e:mk (suG a b c bs 0) 30=List.replicate 30 0:=oO λ j _=>rfl
  rw [e]; rfl
 clear sc ch hB
 clear a b c e hd hf bs
 rintro ⟨a,b,c,bs,x⟩ ⟨sc,hB,x0,x1⟩
 dsimp only at sc hB x0 x1 ⊢
 have lD:=xE 1 a b c (aQ bs) (unV 1 x.toNat) (zeV 1)
 have lG:=rJ 1 a b c (aQ bs) (unV 1 x.toNat) (zeV 1)
 rw [wK] at lG
 rw [show ndN 1=12 from rfl] at lD
 have liD:=cV (ajD 1 a b c (aQ bs) (unV 1 x.toNat) (zeV 1))
 have liG:=cV (ajG 1 a b c (aQ bs) (unV 1 x.toNat) (zeV 1))
 refine csp (λ qx=>?_) (λ qx=>?_)
 ·refine ⟨⟨⟨sc,aKx,hB⟩,x0,qx⟩,cd0 (by omega) (cd0 (by omega) ⟨⟨(a,b,c,bs,0),⟨sc,hB,x0,qx,Int.le_refl _,by dsimp only; omega⟩,by repeat' (first | exact trivial | exact rfl | apply And.intro | omega),by repeat' first|exact trivial|exact rfl|assumption|apply And.intro,by repeat' first|exact trivial|exact rfl|assumption|apply And.intro,by rw [aVR],by repeat' first|exact trivial|exact rfl|assumption|apply And.intro⟩,?_⟩)⟩
  clear sc hB lD lG liD liG
  rintro ⟨a,b,c,bs,y⟩ ⟨sc,hB,_,_,y0,y1⟩
  dsimp only at sc hB y0 y1 ⊢
  have lD:=xE 1 a b c (aQ bs) (unV 1 x.toNat) (zeV 1)
  have lG:=rJ 1 a b c (aQ bs) (unV 1 x.toNat) (zeV 1)
  rw [wK] at lG
  rw [show ndN 1=12 from rfl] at lD
  have liD:=cV (ajD 1 a b c (aQ bs) (unV 1 x.toNat) (zeV 1))
  have liG:=cV (ajG 1 a b c (aQ bs) (unV 1 x.toNat) (zeV 1))
  have lm:=cV (mk (paD a b c bs x y) 12)
  rw [bZ] at lm
  refine csp (λ qy=>?_) (λ qy=>?_)
  ·have hy:y.toNat < 12:=by omega
   have s1:=aVv (bs:=bs) sc ⟨x0,x1⟩ y.toNat
   have s2:=aPs (bs:=aQ bs) aOp sc x.toNat y.toNat
   have c2:12=(aP (mk (paD a b c bs x y) 12)).length∧y.toNat < (aP (mk (paD a b c bs x y) 12)).length:=by omega
   refine cd1 ⟨y0,qy⟩ (cd1 c2 ⟨suD a b c bs x y.toNat,?_,cd1 ⟨y0,by omega⟩ ⟨snD a b c bs x.toNat y.toNat,?_,cdI ?_ (cd1 ⟨y0,qy⟩ (cd1 c2 (cdI (by omega) ⟨(a,b,c,bs,y+1),⟨sc,hB,x0,qx,by dsimp only; omega,by dsimp only; omega⟩,by show (_:Nat) < _; simp only [aJw]; omega,by repeat' first|exact trivial|exact rfl|assumption|apply And.intro,by repeat' first|exact trivial|exact rfl|assumption|apply And.intro,by repeat' first|exact trivial|exact rfl|assumption|apply And.intro,aNc a b c bs x0 y0 hy,by repeat' first|exact trivial|exact rfl|assumption|apply And.intro⟩)))⟩⟩)
   ·rw [List.drop_zero,eL (by rw [bZ]; exact hy),fV _ hy,aRp a b c bs x y y0]; rfl
   ·rw [eL (by omega)]; rfl
   ·unfold snD; omega
  ·obtain rfl:y=12:=by omega
   refine ⟨⟨(a,b,c,bs,0),⟨sc,hB,x0,qx,Int.le_refl _,by dsimp only; omega⟩,by repeat' (first | exact trivial | exact rfl | apply And.intro | omega),by repeat' first|exact trivial|exact rfl|assumption|apply And.intro,by repeat' first|exact trivial|exact rfl|assumption|apply And.intro,?_,by rw [aVP],trivial⟩,?_⟩
   ·exact congrArg aP (aVQ a b c bs x 12)
   clear sc hB lD lG liD liG lm y0 y1 qy
   rintro ⟨a,b,c,bs,y⟩ ⟨sc,hB,_,_,y0,y1⟩
   dsimp only at sc hB y0 y1 ⊢
   have lG:=rJ 1 a b c (aQ bs) (unV 1 x.toNat) (zeV 1)
   rw [wK] at lG
   have liG:=cV (ajG 1 a b c (aQ bs) (unV 1 x.toNat) (zeV 1))
   have lm:=cV (mk (paG a b c bs x y) 30)
   rw [bZ] at lm
   refine csp (λ qy=>?_) (λ qy=>?_)
   ·have hy:y.toNat < 30:=by omega
    have s1:=aVt (bs:=bs) sc ⟨x0,x1⟩ y.toNat
    have s2:=aPu (n:=1) (bs:=aQ bs) sc x.toNat y.toNat
    have c2:30=(aP (mk (paG a b c bs x y) 30)).length∧y.toNat < (aP (mk (paG a b c bs x y) 30)).length:=by omega
    refine cd1 ⟨y0,qy⟩ (cd1 c2 ⟨suG a b c bs x y.toNat,?_,cd1 ⟨y0,by omega⟩ ⟨snG a b c bs x.toNat y.toNat,?_,cdI ?_ (cd1 ⟨y0,qy⟩ (cd1 c2 (cdI (by omega) ⟨(a,b,c,bs,y+1),⟨sc,hB,x0,qx,by dsimp only; omega,by dsimp only; omega⟩,by show (_:Nat) < _; simp only [aJv]; omega,by repeat' first|exact trivial|exact rfl|assumption|apply And.intro,by repeat' first|exact trivial|exact rfl|assumption|apply And.intro,by repeat' first|exact trivial|exact rfl|assumption|apply And.intro,by repeat' first|exact trivial|exact rfl|assumption|apply And.intro,aNb a b c bs x0 y0 hy,trivial⟩)))⟩⟩)
    ·rw [List.drop_zero,eL (by rw [bZ]; exact hy),fV _ hy,aRo a b c bs x y y0]; rfl
    ·rw [eL (by omega)]; rfl
    ·unfold snG; omega
   ·obtain rfl:y=30:=by omega
    exact cdI (by omega) ⟨(a,b,c,bs,x+1),⟨sc,hB,by dsimp only; omega,by dsimp only; omega⟩,by show (_:Nat) < _; simp only [aJx]; omega,by repeat' first|exact trivial|exact rfl|assumption|apply And.intro,by repeat' first|exact trivial|exact rfl|assumption|apply And.intro,by repeat' first|exact trivial|exact rfl|assumption|apply And.intro,congrArg aP (aVO a b c bs x 30),trivial⟩
 ·obtain rfl:x=12:=by omega
  refine ⟨⟨(scZ a b c,0),⟨Int.le_refl _,by dsimp only; omega⟩,by repeat' first|exact trivial|exact rfl|assumption|apply And.intro,congrArg aP (aQH sc hB),congrArg aP (aQG sc hB),trivial⟩,?_⟩
  clear sc hB lD lG liD liG x0 x1 qx
  clear a b c bs
  rintro ⟨z,y⟩ ⟨y0,y1⟩
  dsimp only at y0 y1 ⊢
  refine csp (λ qy=>?_) (λ qy=>?_)
  ·refine cd1 ⟨y0,qy⟩ (cd1 ⟨by repeat' first|exact trivial|exact rfl|assumption|apply And.intro,by show y.toNat < 12; omega⟩ ⟨z,?_,cd0 (λ q=>q rfl) (cdI (by omega) ⟨(z,y+1),⟨by dsimp only; omega,by dsimp only; omega⟩,by show (_:Nat) < _; simp only [aJu]; omega,by repeat' first|exact trivial|exact rfl|assumption|apply And.intro⟩)⟩)
   rw [List.drop_zero,eL (by simp; omega),fL,if_pos (by omega)]; rfl
  ·refine ⟨⟨(z,0),⟨Int.le_refl _,by dsimp only; omega⟩,by repeat' first|exact trivial|exact rfl|assumption|apply And.intro⟩,?_⟩
   clear y0 y1 qy
   rintro ⟨z,y⟩ ⟨y0,y1⟩
   dsimp only at y0 y1 ⊢
   refine csp (λ qy=>?_) (λ qy=>by repeat' first|exact trivial|exact rfl|assumption|apply And.intro)
   refine cd1 ⟨y0,qy⟩ (cd1 ⟨by repeat' first|exact trivial|exact rfl|assumption|apply And.intro,by omega⟩ ⟨0,?_,cd0 (λ q=>q rfl) (cdI (by omega) ⟨(z,y+1),⟨by dsimp only; omega,by dsimp only; omega⟩,by show (_:Nat) < _; simp only [aJt]; omega,by repeat' first|exact trivial|exact rfl|assumption|apply And.intro⟩)⟩)
   rw [List.drop_zero,eL (by simp; omega),fL,if_pos (by omega)]; rfl
theorem aNW (nxV:LL->Int->Int->Int) (nxA:LL->Int->Int->Int) (wH:Int->Int) (wL:Int->Int) (adZ:Int->Int->Int->Int->Int):aA4 nxV nxA wH wL adZ=(∀ (node:Int) (xs:LL),BytL xs->fnK Tryz.prog { glob:=glb,spec:=lk [(22,aNw),(20,vD),(21,aH6),(23,aIb),(24,aEC),(25,(aEA wH wL adZ)),(26,sA)],specH:=lk [(16,aHT),(17,wS),(18,(aBG nxV nxA)),(19,aHZ)],shape:=[109,115,160,165,178,183,193,203],nowf:=true } { nt:=208,drop:=drp [(1,25769803776),(2,515396075520),(3,1649267441664),(4,279275953455616),(5,281474976710656),(6,34902897112121344),(7,108086391056891904),(8,432345564227567616),(9,73210515542534782976),(10,9370945989444452220928),(11,595018176841575296925696),(12,18738350204026752207945728),(13,10141185459012721377906830344192),(15,332286716536625316555527817818800128),(17,1993841993677373809355710590420516864),(18,2658455991569831745807614120560689152),(20,42535295865117307932921825928971026432),(21,10803965149739796214962143785958640713728),(22,1427236803670218411027455141462057319799980032),(24,8563486156235759286349715816696970818296479744),(26,91343852333181432387730302044767688728495783936),(27,373961731452044784195367856571278917654461739433984),(28,374144419156711147060143317175368453031918731001856),(29,2244866514940266882360859903052210718191512386011136),(31,23945242826029513411849172299223580994042798784118784),(32,98031824129764827908110511393021340589611218222182301696),(33,98079714615416886934934209737619787751599303819750539264),(34,196159429230833773869868419475239575503198607639501078528),(37,18831305206160042291507368269622999248307066333392103538688),(38,75325220824640169166029473078491996993228265333568414154752),(40,200867255532373784442745261542645325315275374222849104412672),(43,19283256531107883306503545108093951230266435925393514023616512),(44,25711008708143844408671393477458601640355247900524685364822016),(46,102844034832575377634685573909834406561420991602098741459288064),(47,205688069665150755269371147819668813122841983204197482918576128)],tys:=[69] } (λ id st=>match vQ [(25,123,aJw),(30,123,aJv)] id st with | some L=>some L | none=>xH [(100005,aXF node),(19,aJx),(36,aJu),(42,aJt)] id st) 6 Tryz.f4 [.sl 1 false xs,.int .i64 node] (.bool true)):=by kernel_rfl
def aNV:=Eq.mp (aNW ..) (aNX)
theorem ltsen_ok:SOK Tryz.prog glb 4 aGx:=by
 refine ⟨fok Tryz.func4 (by kernel_rfl) (by kernel_rfl),?_⟩
 intro xs pre r h hp
 unfold aGx at h
 split at h
 ·cases h
  exact aT (aPI (by kernel_rfl)) (by exact aV rfl rfl ⟨(aRX glb),(aCB),(aPh),(aPi),(aMj),(aMi glb),(tZ glb),trivial⟩ ⟨(aO5 glb),(aHP glb),(aKY glb),(aPg glb),trivial⟩) (by kernel_rfl) Tryz.func4 rfl (aNV  _ _ hp)
 ·cases h
open Go.ChangeShapes Go.WideShapes
open Go.RowKit (Below)
def pinAll (w:World):Pin:=λ b o=>match w.cell? ⟨b,o,none⟩ with | some v=>cond v.oneCell' (some v) none | none=>none
theorem pJ {w:World} {b o:Nat} {v:Value} (h:w.cell? ⟨b,o,none⟩=some v) (k:v.oneCell'=true):pinAll w b o=some v:=by simp [pinAll,h,k]
theorem aIl (w:World):dX (pinAll w) w:=by
 intro b o v h
 unfold pinAll at h
 split at h
 ·next u e =>
  cases hk:u.oneCell' with
  | true=>rw [hk] at h; simp only [cond_true,aJ] at h; subst h; exact ⟨e,hk⟩
  | false=>rw [hk] at h; cases h
 ·cases h
def uA (P:Program):List Field->Nat->Nat->Bool
 | [],o,n=>Nat.beq o n
 | f::fs,o,n=>Nat.beq f.offset o&&uA P fs (o+P.cellsOf f.type) n
def aEM (P:Program):Nat->TypeId->Bool
 | 0,_=>false
 | n+1,t=>match P.underlying t with
  | some .bool=>true
  | some (.int _)=>true
  | some .string=>true
  | some (.slice e)=>Nat.blt 0 (P.cellsOf e)&&aEM P n e
  | some (.struct fs)=>uA P fs.toList 0 (P.cellsOf t)&&fs.toList.all λ f=>aEM P n f.type
  | some (.array m e)=>Nat.beq (m*P.cellsOf e) (P.cellsOf t)&&aEM P n e
  | _=>false
def ShF (P:Program) (sh:TypeId->List AV->Prop):List Field->List AV->Prop
 | [],cs=>cs=[]
 | f::fs,cs=>∃ ys zs,sh f.type ys∧ShF P sh fs zs∧cs=ys++zs
def ShE (sh:List AV->Prop):Nat->List AV->Prop
 | 0,cs=>cs=[]
 | n+1,cs=>∃ ys zs,sh ys∧ShE sh n zs∧cs=ys++zs
def Sh (P:Program):Nat->TypeId->List AV->Prop
 | 0,_,_=>False
 | n+1,t,cs=>match P.underlying t with
  | some .bool=>∃ b,cs=[.bool b]
  | some (.int k)=>∃ z,rng k z∧cs=[.int k z]
  | some .string=>∃ s:ByteArray,s.size≤9223372036854775807∧cs=[.str s]
  | some (.slice e)=>∃ xs:LL,xs.length≤9223372036854775807∧(∀ x ∈ xs,Sh P n e x)∧cs=[.sl (P.cellsOf e) false xs]
  | some (.struct fs)=>ShF P (Sh P n) fs.toList cs
  | some (.array m e)=>ShE (Sh P n e) m cs
  | _=>False
theorem aEZ {P:Program} {S:Pin} {sh:TypeId->List AV->Prop} {vs:List Value}:∀ (fs:List Field) (o tot:Nat),uA P fs o tot=true->vs.length=tot ->
  (∀ f ∈ fs,∃ ys,sh f.type ys∧cW ys=true∧CVl S ys dE ((vs.drop f.offset).take (P.cellsOf f.type)))->∃ cs,ShF P sh fs cs∧cW cs=true∧CVl S cs dE (vs.drop o)
 | [],o,tot,ht,hl,_=>by
  simp only [uA] at ht
  have:=aA ht
  exact ⟨[],rfl,rfl,by simp only [CVl]; exact List.drop_eq_nil_of_le (by omega)⟩
 | f::fs,o,tot,ht,hl,h=>by
  simp only [uA,aC] at ht
  obtain ⟨ho,ht⟩:=ht
  have ho:=aA ho
  obtain ⟨ys,h1,h2,h3⟩:=h f (aO ..)
  obtain ⟨zs,k1,k2,k3⟩:=aEZ fs _ tot ht hl (λ g hg=>h g (aN _ hg))
  refine ⟨ys++zs,⟨ys,zs,h1,k1,rfl⟩,allOne_append h2 k2,?_⟩
  rw [ho] at h3
  have e:vs.drop o=(vs.drop o).take (P.cellsOf f.type)++vs.drop (o+P.cellsOf f.type):=by
   rw [← List.drop_drop]; exact (List.take_append_drop _ _).symm
  rw [e]
  exact CVl.append h3 k3
where allOne_append:∀ {xs ys:List AV},cW xs=true->cW ys=true->cW (xs++ys)=true
 | [],ys,_,h=>h
 | x::xs,ys,h,k=>by
  simp only [cW,aC,List.cons_append] at h ⊢
  exact ⟨h.1,allOne_append h.2 k⟩
theorem aLo {S:Pin} {sh:List AV->Prop} {s:Nat}:∀ (n:Nat) (vs:List Value),vs.length=n*s->(∀ i,i < n->∃ ys,sh ys∧cW ys=true∧CVl S ys dE ((vs.drop (i*s)).take s)) ->
  ∃ cs,ShE sh n cs∧cW cs=true∧CVl S cs dE vs
 | 0,vs,hl,_=>⟨[],rfl,rfl,by simp only [CVl]; exact List.eq_nil_of_length_eq_zero (by omega)⟩
 | n+1,vs,hl,h=>by
  obtain ⟨ys,h1,h2,h3⟩:=h 0 (by omega)
  have hl':vs.length=n*s+s:=by rw [hl,Nat.succ_mul]
  obtain ⟨zs,k1,k2,k3⟩:=aLo n (vs.drop s) (by rw [List.length_drop,hl',Nat.add_sub_cancel]) (λ i hi=>by
   obtain ⟨q,q1,q2,q3⟩:=h (i+1) (by omega)
   refine ⟨q,q1,q2,?_⟩
   rw [List.drop_drop,show s+i*s=(i+1)*s by rw [Nat.succ_mul]; omega]
   exact q3)
  refine ⟨ys++zs,⟨ys,zs,h1,k1,rfl⟩,aEZ.allOne_append h2 k2,?_⟩
  rw [Nat.zero_mul,List.drop_zero] at h3
  have e:vs=vs.take s++vs.drop s:=(List.take_append_drop _ _).symm
  rw [e]
  exact CVl.append h3 k3
theorem aGA {α:Type} {p:Nat->α->Prop}:∀ (n:Nat),(∀ i,i < n->∃ x,p i x)->∃ xs:List α,xs.length=n∧∀ i x,xs[i]?=some x->p i x
 | 0,_=>⟨[],rfl,by simp⟩
 | n+1,h=>by
  obtain ⟨xs,h1,h2⟩:=aGA n (λ i hi=>h i (by omega))
  obtain ⟨x,hx⟩:=h n (by omega)
  refine ⟨xs++[x],by simp [h1],λ i y hy=>?_⟩
  rcases Nat.lt_or_ge i xs.length with hi | hi
  ·rw [List.getElem?_append_left hi] at hy; exact h2 i y hy
  ·rw [List.getElem?_append_right hi] at hy
   rcases Nat.eq_zero_or_pos (i - xs.length) with h0 | h0
   ·rw [h0] at hy
    simp only [List.getElem?_cons_zero,aJ] at hy
    rw [← hy,show i=n by omega]; exact hx
   ·rw [List.getElem?_eq_none (by simp; omega)] at hy; cases hy
section
variable {H:Type} {enc:TypeId × Value->H} {P:Program} {w:World} {base:Nat} {held:Bool}
theorem aFb {k:IntKind} {z:Int} (h:(Lit.int k z).wf=true):rng k z:=by
 rw [aMG]
 simp only [Lit.wf,aC,decide_eq_true_eq] at h
 exact h
theorem jU:∀ (n:Nat) (t:TypeId) (fuel:Nat) (vs:List Value) (x:DataW H × List MemPlace),aEM P n t=true->DataW.trod enc P w base (λ _=>true) held fuel t vs=some x ->
  ∃ cs,Sh P n t cs∧cW cs=true∧CVl (pinAll w) cs dE vs
 | 0,t,_,_,_,hs,_=>by simp [aEM] at hs
 | n+1,t,fuel,vs,x,hs,h=>by
  unfold aEM at hs
  unfold Sh
  split at hs
  ·next ht =>
   obtain ⟨b,rfl,_⟩:=DataW.trod_bool ht h
   exact ⟨[.bool b],⟨b,rfl⟩,rfl,_,_,rfl,rfl,rfl⟩
  ·next k ht =>
   obtain ⟨z,rfl,_,hw⟩:=DataW.trod_int ht h
   exact ⟨[.int k z],⟨z,aFb hw,rfl⟩,rfl,_,_,rfl,⟨rfl,aFb hw⟩,rfl⟩
  ·next ht =>
   obtain ⟨s,rfl,_,hw⟩:=DataW.trod_string ht h
   exact ⟨[.str s],⟨s,hw,rfl⟩,rfl,_,_,rfl,⟨rfl,hw⟩,rfl⟩
  ·next e ht =>
   simp only [aC] at hs
   have hs0:0 < P.cellsOf e:=by have:=hs.1; simp [Nat.blt] at this; omega
   rcases DataW.trod_slice ht h with ⟨rfl,_⟩ | ⟨a,len,cap,elems,rest,m,_,rfl,_,hb,hl,hc,hlen,hel,hsp,hns⟩
   ·refine ⟨[.sl (P.cellsOf e) false []],⟨[],by simp,by simp,rfl⟩,rfl,_,_,rfl,⟨none,0,rfl,by simp,by simp,(λ h=>by cases h),(λ _=>rfl),(λ a ha=>by cases ha)⟩,rfl⟩
   ·have each:∀ i,i < len->∃ x,(Sh P n e x)∧∃ cs',w.cells? base (a.add (i*P.cellsOf e)) (P.cellsOf e)=some cs'∧cW x=true∧CVl (pinAll w) x dE cs':=by
     intro i hi
     have h1:=hel i hi
     have hx:elems[i]?=some (elems[i]'(by omega)):=aD (by omega)
     rw [hx,Option.bind_eq_some_iff] at h1
     obtain ⟨cs',h2,h3⟩:=h1
     obtain ⟨y,k1,k2,k3⟩:=jU n e m cs' _ hs.2 h3
     exact ⟨y,k1,cs',h2,k2,k3⟩
    obtain ⟨xs,hx1,hx2⟩:=aGA len each
    have hmem:∀ x ∈ xs,Sh P n e x:=by
     intro x hx
     obtain ⟨i,hi⟩:=List.getElem?_of_mem hx
     exact (hx2 i x hi).1
    refine ⟨[.sl (P.cellsOf e) false xs],⟨xs,by unfold maxLen at hc; omega,hmem,rfl⟩,rfl,_,_,rfl,⟨some a,cap,by rw [hx1],by omega,hc,(λ h=>by cases h),(λ h=>by cases h),λ a' ha=>?_⟩,rfl⟩
    cases ha
    have key:∀ (j:Nat) (x:List AV),xs[j]?=some x->∃ cs':List Value,cs'.length=P.cellsOf e∧CVl (pinAll w) x dE cs'∧cW x=true∧∀ i,i < P.cellsOf e->w.cell? ((a.add (j*P.cellsOf e)).add i)=cs'[i]?:=by
     intro j x hj
     obtain ⟨_,cs',h2,h3,h4⟩:=hx2 j x hj
     obtain ⟨_,q1,q2⟩:=World.cells?_some h2
     exact ⟨cs',q1,h4,h3,q2⟩
    have spot:cap≠0->a.spot=none:=by
     intro h0
     have h1:∃ cs',w.cells? base (a.add (0*P.cellsOf e)) (P.cellsOf e)=some cs':=by
      rcases Nat.eq_zero_or_pos len with hl0 | hl0
      ·obtain ⟨hr,hr2⟩:=hsp rfl
       have h1:=hr2 0 (by omega)
       have hx:rest[0]?=some (rest[0]'(by omega)):=aD (by omega)
       rw [hx,Option.bind_eq_some_iff] at h1
       obtain ⟨cs',h2,_⟩:=h1
       exact ⟨cs',by rw [← h2,hl0]⟩
      ·have h1:=hel 0 hl0
       have hx:elems[0]?=some (elems[0]'(by omega)):=aD (by omega)
       rw [hx,Option.bind_eq_some_iff] at h1
       obtain ⟨cs',h2,_⟩:=h1
       exact ⟨cs',h2⟩
     obtain ⟨cs',h2⟩:=h1
     obtain ⟨_,q1,q2⟩:=World.cells?_some h2
     have h3:=q2 0 hs0
     rw [aD (by omega)] at h3
     have h4:=World.cell?_spot h3
     simpa [Addr.add] using h4
    refine ⟨spot,CE.mk λ j x hj=>?_⟩
    obtain ⟨cs',k1,k2,k3,k4⟩:=key j x hj
    have hxl:x.length=P.cellsOf e:=by rw [← k1]; exact (CVl.len k2).symm
    refine ⟨hxl,CC.mk λ i y hy=>?_⟩
    obtain ⟨u,hu,hcv⟩:=CVl.get k2 hy
    have hi:i < P.cellsOf e:=by have:=(aF.1 hy).1; omega
    have hj':j < len:=by have:=(aF.1 hj).1; omega
    have hsp:=spot (by omega)
    obtain ⟨b,o,sp⟩:=a
    simp only at hsp
    subst hsp
    have h5:=k4 i hi
    rw [bW,bW,hu] at h5
    exact ⟨u,pJ h5 (gQ k2 k3 u (aL hu)),hcv⟩
  ·next fs ht =>
   simp only [aC,List.all_eq_true] at hs
   obtain ⟨xs,m,_,_,hl,hxl,hf⟩:=DataW.trod_struct ht h
   obtain ⟨cs,k1,k2,k3⟩:=aEZ (S:=pinAll w) (sh:=Sh P n) (vs:=vs) fs.toList 0 _ hs.1 hl (λ f hfm=>by
    obtain ⟨i,hi⟩:=List.getElem?_of_mem hfm
    have h1:=hf i f (by simpa using hi)
    have hi':i < fs.size:=by have:=(aF.1 hi).1; simpa using this
    rw [aD (by omega:i < xs.length)] at h1
    exact jU n f.type m _ _ (hs.2 f hfm) h1)
   exact ⟨cs,k1,k2,by simpa using k3⟩
  ·next m e ht =>
   simp only [aC] at hs
   obtain ⟨xs,q,_,_,hl,hxl,hf⟩:=DataW.trod_array ht h
   have hsz:=aA hs.1
   exact aLo (S:=pinAll w) (sh:=Sh P n e) (s:=P.cellsOf e) m vs (by omega) (λ i hi=>by
    have h1:=hf i hi
    rw [aD (by omega:i < xs.length)] at h1
    exact jU n e q _ _ hs.2 h1)
  ·cases hs
def mkA (P:Program) (t:TypeId) (cs:List AV):AV:=cond (xG P t) (.agg cs) (match cs with | [x]=>x | _=>.dead)
def ShAll (P:Program):List TypeId->(List AV->Prop)->Prop
 | [],K=>K []
 | t::ts,K=>∀ cs,Sh P 50 t cs->ShAll P ts λ xs=>K (mkA P t cs::xs)
theorem aSr {r:Reach} {b0 n:Nat} {t:TypeId} {v:Value} {fuel:Nat} {x:DataW H × List MemPlace} (hs:aEM P n t=true) (hv:Value.okWide P w r b0 t v) (h:DataW.trod enc P w base (λ _=>true) held fuel t v.cells.toList=some x) :
  ∃ cs,Sh P n t cs∧CV (pinAll w) (mkA P t cs) dE v:=by
 obtain ⟨cs,h1,h2,h3⟩:=jU n t fuel _ x hs h
 refine ⟨cs,h1,?_⟩
 have one:xG P t=false->v.cells=#[v]->CV (pinAll w) (mkA P t cs) dE v:=by
  intro ha hc
  rw [hc] at h3
  unfold mkA
  rw [ha]
  match cs,h3 with
  | [y],h3 =>
   simp only [CVl] at h3
   obtain ⟨u,us,e,hy,hn⟩:=h3
   simp at e
   rw [e.1]; exact hy
  | [],h3=>simp [CVl] at h3
  | _::_::_,h3 =>
   simp [CVl] at h3
   obtain ⟨u,us,⟨_,e⟩,_,u',us',e',_⟩:=h3
   rw [e] at e'; cases e'
 have agg:xG P t=true->∀ us,v=.agg us->CV (pinAll w) (mkA P t cs) dE v:=by
  intro ha us e
  subst e
  unfold mkA
  rw [ha]
  exact ⟨us,rfl,h3⟩
 unfold Value.okWide at hv
 cases n with
 | zero=>simp [aEM] at hs
 | succ n =>
  unfold aEM at hs
  split at hs
  ·next ht =>
   rw [ht] at hv
   simp only [Cell.okWide,Cell.ok,ht] at hv
   refine one (by unfold xG; rw [ht]) ?_
   split at hv <;> first | rfl | (split at hv <;> first | rfl | cases hv) | cases hv
  ·next k ht =>
   rw [ht] at hv
   simp only [Cell.okWide,Cell.ok,ht] at hv
   refine one (by unfold xG; rw [ht]) ?_
   split at hv <;> first | rfl | (split at hv <;> first | rfl | cases hv) | cases hv
  ·next ht =>
   rw [ht] at hv
   simp only [Cell.okWide,Cell.ok,ht] at hv
   refine one (by unfold xG; rw [ht]) ?_
   split at hv <;> first | rfl | (split at hv <;> first | rfl | cases hv) | cases hv
  ·next e ht =>
   rw [ht] at hv
   simp only [Cell.okWide,Cell.ok,ht] at hv
   refine one (by unfold xG; rw [ht]) ?_
   split at hv <;> first | rfl | (split at hv <;> first | rfl | cases hv) | cases hv
  ·next fs ht =>
   rw [ht] at hv
   obtain ⟨us,e,_⟩:=hv
   exact agg (by unfold xG; rw [ht]) us e
  ·next m e ht =>
   rw [ht] at hv
   obtain ⟨us,e,_⟩:=hv
   exact agg (by unfold xG; rw [ht]) us e
  ·cases hs
theorem aLH {r:Reach} {b0:Nat}:∀ (ts:List TypeId) (vs:List Value) (ds:List (DataW H)) (ps:List MemPlace) (K:List AV->Prop),(ts.all λ t=>aEM P 50 t)=true->DataW.TrodAll enc P w base (λ _=>true) held ts vs ds ps ->
  (∀ (j:Nat) t v,ts[j]?=some t->vs[j]?=some v->Value.okWide P w r b0 t v)->ShAll P ts K->∃ xs,K xs∧CVl (pinAll w) xs dE vs
 | [],[],[],ps,K,_,h,_,hK=>⟨[],hK,by simp only [CVl]⟩
 | t::ts,v::vs,d::ds,ps,K,hs,h,hv,hK=>by
  simp only [List.all_cons,aC] at hs
  obtain ⟨p,q,⟨fuel,h1⟩,h2,_⟩:=h
  obtain ⟨cs,k1,k2⟩:=aSr hs.1 (hv 0 t v rfl rfl) h1
  obtain ⟨xs,q1,q2⟩:=aLH ts vs ds q (λ xs=>K (mkA P t cs::xs)) hs.2 h2 (λ j t v ht hv'=>hv (j+1) t v (by simpa using ht) (by simpa using hv')) (hK cs k1)
  exact ⟨_,q1,by simp only [CVl]; exact ⟨v,vs,rfl,k2,q2⟩⟩
 | [],v::vs,ds,ps,K,_,h,_,_=>by cases ds <;> simp [DataW.TrodAll] at h
 | [],[],d::ds,ps,K,_,h,_,_=>by simp [DataW.TrodAll] at h
 | t::ts,[],ds,ps,K,_,h,_,_=>by cases ds <;> simp [DataW.TrodAll] at h
 | t::ts,v::vs,[],ps,K,_,h,_,_=>by simp [DataW.TrodAll] at h
theorem law_calls {gl:aX} {f:FuncId} {r:Reach} {b0:Nat} {ts:List TypeId} {args:Array Value} {ds:List (DataW H)} {ps:List MemPlace} (hs:(ts.all λ t=>aEM P 50 t)=true) (hg:GOKg gl (pinAll w))
  (h:ShAll P ts λ xs=>PureC P gl f xs (.bool true)) (hA:DataW.TrodAll enc P w base (λ _=>true) held ts args.toList ds ps)
  (hv:∀ (j:Nat) t v,ts[j]?=some t->args.toList[j]?=some v->Value.okWide P w r b0 t v) :
  Calls P f args w λ e w'=>e=.returned (.bool true)∧Below w.heap.size w w':=by
 obtain ⟨xs,h1,h2⟩:=aLH ts _ ds ps _ hs hA hv h
 refine (h1 w (pinAll w) args hg (aIl w) h2).mono λ e w' h=>?_
 obtain ⟨u,S',h3,h4,_,_,_,h5⟩:=h
 simp only [CV] at h5
 exact ⟨by rw [h3,h5],h4⟩
theorem trodAll_stay (hl:laidOutB P=true) {w':World} (hb:Below w.heap.size w w'):∀ (ts:List TypeId) (vs:List Value) (ds:List (DataW H)) (ps:List MemPlace),(ts.all λ t=>P.readableRec t&&decide (t < P.types.size))=true ->
  DataW.TrodAll enc P w 0 (λ _=>true) true ts vs ds ps->DataW.TrodAll enc P w' 0 (λ b=>decide (b < w.heap.size)) true ts vs ds ps
 | [],[],[],ps,_,h=>h
 | t::ts,v::vs,d::ds,ps,hs,h=>by
  simp only [List.all_cons,aC,decide_eq_true_eq] at hs
  obtain ⟨p,q,h1,h2,h3⟩:=h
  have hlt:∀ x ∈ p,x.block < w.heap.size:=by obtain ⟨m,hm⟩:=h1; exact DataW.trod_lt m _ _ _ hm
  exact ⟨p,q,Below.trod hl hs.1.1 hs.1.2 h1 hb hlt,trodAll_stay hl hb ts vs ds q hs.2 h2,h3⟩
 | [],v::vs,ds,ps,_,h=>by cases ds <;> simp [DataW.TrodAll] at h
 | [],[],d::ds,ps,_,h=>by simp [DataW.TrodAll] at h
 | t::ts,[],ds,ps,_,h=>by cases ds <;> simp [DataW.TrodAll] at h
 | t::ts,v::vs,[],ps,_,h=>by simp [DataW.TrodAll] at h
def aEL (P:Program):Nat->TypeId->Bool
 | 0,_=>false
 | n+1,t=>match P.underlying t with
  | some .bool=>true
  | some (.int _)=>true
  | some .string=>true
  | some (.struct fs)=>uA P fs.toList 0 (P.cellsOf t)&&fs.toList.all λ f=>aEL P n f.type
  | some (.array m e)=>Nat.beq (m*P.cellsOf e) (P.cellsOf t)&&aEL P n e
  | _=>false
mutual
def flatD:DataW H->List AV
 | .lit (.bool b)=>[.bool b]
 | .lit (.int k z)=>[.int k z]
 | .lit (.string l)=>[.str ⟨l.toArray⟩]
 | .agg ds=>nX ds
 | _=>[.dead]
def nX:List (DataW H)->List AV
 | []=>[]
 | d::ds=>flatD d++nX ds
end
theorem aSR {S:Pin} {vs:List Value}:∀ (fs:List Field) (ds:List (DataW H)) (o tot:Nat),uA P fs o tot=true->vs.length=tot->ds.length=fs.length ->
  (∀ (i:Nat) (f:Field) (d:DataW H),fs[i]?=some f->ds[i]?=some d->CVl S (flatD d) dE ((vs.drop f.offset).take (P.cellsOf f.type)))->CVl S (nX ds) dE (vs.drop o)
 | [],[],o,tot,ht,hl,_,_=>by
  simp only [uA] at ht
  have:=aA ht
  simp only [nX,CVl]; exact List.drop_eq_nil_of_le (by omega)
 | f::fs,d::ds,o,tot,ht,hl,hd,h=>by
  simp only [uA,aC] at ht
  obtain ⟨ho,ht⟩:=ht
  have ho:=aA ho
  have h1:=h 0 f d rfl rfl
  have h2:=aSR fs ds _ tot ht hl (by simpa using hd) (λ i g d' hg hd'=>h (i+1) g d' (by simpa using hg) (by simpa using hd'))
  rw [ho] at h1
  have e:vs.drop o=(vs.drop o).take (P.cellsOf f.type)++vs.drop (o+P.cellsOf f.type):=by
   rw [← List.drop_drop]; exact (List.take_append_drop _ _).symm
  rw [e]
  simp only [nX]
  exact CVl.append h1 h2
 | [],_::_,_,_,_,_,hd,_=>by simp at hd
 | _::_,[],_,_,_,_,hd,_=>by simp at hd
theorem aSS {S:Pin} {s:Nat}:∀ (ds:List (DataW H)) (vs:List Value),vs.length=ds.length*s->(∀ (i:Nat) (d:DataW H),ds[i]?=some d->CVl S (flatD d) dE ((vs.drop (i*s)).take s))->CVl S (nX ds) dE vs
 | [],vs,hl,_=>by simp only [nX,CVl]; exact List.eq_nil_of_length_eq_zero (by simpa using hl)
 | d::ds,vs,hl,h=>by
  have h1:=h 0 d rfl
  have hl':vs.length=ds.length*s+s:=by rw [hl,List.length_cons,Nat.succ_mul]
  have h2:=aSS (S:=S) (s:=s) ds (vs.drop s) (by rw [List.length_drop]; omega) (λ i d' hd=>by
   have:=h (i+1) d' (by simpa using hd)
   rw [List.drop_drop,show s+i*s=(i+1)*s by rw [Nat.succ_mul]; omega]
   exact this)
  rw [Nat.zero_mul,List.drop_zero] at h1
  have e:vs=vs.take s++vs.drop s:=(List.take_append_drop _ _).symm
  rw [e]
  simp only [nX]
  exact CVl.append h1 h2
theorem flat_of_trod {S:Pin} {spare:Nat->Bool}:∀ (n:Nat) (t:TypeId) (fuel:Nat) (vs:List Value) (x:DataW H × List MemPlace),aEL P n t=true->DataW.trod enc P w base spare held fuel t vs=some x->CVl S (flatD x.1) dE vs
 | 0,t,_,_,_,hs,_=>by simp [aEL] at hs
 | n+1,t,fuel,vs,x,hs,h=>by
  unfold aEL at hs
  split at hs
  ·next ht =>
   obtain ⟨b,rfl,rfl⟩:=DataW.trod_bool ht h
   exact ⟨_,_,rfl,rfl,rfl⟩
  ·next k ht =>
   obtain ⟨z,rfl,rfl,hw⟩:=DataW.trod_int ht h
   exact ⟨_,_,rfl,⟨rfl,aFb hw⟩,rfl⟩
  ·next ht =>
   obtain ⟨s,rfl,rfl,hw⟩:=DataW.trod_string ht h
   exact ⟨_,_,rfl,⟨by simp,by simpa using hw⟩,rfl⟩
  ·next fs ht =>
   simp only [aC,List.all_eq_true] at hs
   obtain ⟨xs,m,_,rfl,hl,hxl,hf⟩:=DataW.trod_struct ht h
   have:=aSR (S:=S) (vs:=vs) fs.toList (xs.map (·.1)) 0 _ hs.1 hl (by simpa using hxl) (λ i f d hi hd=>by
    have h1:=hf i f (by simpa using hi)
    rw [List.getElem?_map] at hd
    cases hx:xs[i]? with
    | none=>rw [hx] at hd; cases hd
    | some y =>
     rw [hx] at hd h1
     simp only [Option.map_some,aJ] at hd
     subst hd
     exact flat_of_trod n f.type m _ _ (hs.2 f (aL hi)) h1)
   simpa [flatD] using this
  ·next m e ht =>
   simp only [aC] at hs
   obtain ⟨xs,q,_,rfl,hl,hxl,hf⟩:=DataW.trod_array ht h
   have hsz:=aA hs.1
   have:=aSS (S:=S) (s:=P.cellsOf e) (xs.map (·.1)) vs (by simp only [List.length_map]; rw [hxl]; omega) (λ i d hd=>by
    rw [List.getElem?_map] at hd
    cases hx:xs[i]? with
    | none=>rw [hx] at hd; cases hd
    | some y =>
     have hi:i < m:=by have:=(aF.1 hx).1; omega
     have h1:=hf i hi
     rw [hx] at hd h1
     simp only [Option.map_some,aJ] at hd
     subst hd
     exact flat_of_trod n e q _ _ hs.2 h1)
   simpa [flatD] using this
  ·cases hs
end
theorem glob_cells {W:World} {g:Nat} {cs:Array Value} {az:List AV} (hc:∀ i,W.cell? ⟨g,i,none⟩=cs[i]?) (h:CVl (pinAll W) az dE cs.toList) (h1:cW az=true):CC (pinAll W) az g 0:=by
 refine CC.mk λ j x hx=>?_
 obtain ⟨u,hu,hcv⟩:=CVl.get h hx
 have h2:=hc j
 rw [show cs[j]?=some u by simpa using hu] at h2
 rw [Nat.zero_add]
 exact ⟨u,pJ h2 (gQ h h1 u (aL hu)),hcv⟩
end Go.Proofs.YtgbbmadjdaphnaaGreatDoor
