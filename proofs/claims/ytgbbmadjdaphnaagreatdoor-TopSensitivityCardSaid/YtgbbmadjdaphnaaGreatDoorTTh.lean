import Derived.Test.YtgbbmadjdaphnaaGreatDoorTTg
import Derived.Test.YtgbbmadjdaphnaaGreatDoorTTe
import Derived.OrdersIn
import Derived.Test.YtgbbmadjdaphnaaGreatDoorTTc
import Derived.ProofKit
import Derived.OpenShut
import Derived.ShutString
import Derived.ChangeOld
import Derived.Carry
import Derived.Deep.Slices
import Derived.WideShapes
import Derived.LaidMore
set_option maxRecDepth 100000
set_option linter.defProp false
set_option linter.unusedVariables false
set_option linter.unusedSimpArgs false
namespace Go.Proofs.YtgbbmadjdaphnaaGreatDoor
open Go
structure FrQ (n:Int):Prop where
 ar:AroP n
 gp:GrdP nrm n
 le:(redL n).length=(edgG nrm n).length
 nd:(ndN n:Int)=10*n*n+2
 hi:(edgG nrm n).length≤120
 lo:1≤(edgG nrm n).length
theorem frq1:FrQ 1:=⟨aro1,grd1,by rw [red30,edg30],by decide,by rw [edg30]; decide,by rw [edg30]; decide⟩
def cnew_s:SpH
 | [.sl 1 g xs,.int .i64 600],[]=>some (True,.ptr 0 0,[.cells [.sl 1 false (xs.take 600),.int .i64 0]])
 | _,_=>none
def cnew_T:Prop :=
 ∀ (gl:Glob) (g:Bool) (xs:LL),True->IR9 600->bif decide ((600:Int) < (↑xs.length:Int)) then bif decide ((0:Int)≤(600:Int)∧(600:Int)≤(↑xs.length:Int)) then (0:Nat)=(0:Nat)∧((True∧List.drop 0 (List.take 600 xs)=List.take 600 xs)∧(0:Int)=(0:Int)∧True)∧True else False else (0:Nat)=(0:Nat)∧((True∧xs=List.take 600 xs)∧(0:Int)=(0:Int)∧True)∧True
theorem cnew_P:cnew_T:=by
 unfold cnew_T
 intro gl g xs
 intros
 refine csp (λ q=>cd1 (by omega) ⟨rfl,⟨⟨trivial,by rw [List.drop_zero]⟩,rfl,trivial⟩,trivial⟩) (λ q=>⟨rfl,⟨⟨trivial,by rw [List.take_of_length_le (by omega)]⟩,rfl,trivial⟩,trivial⟩)
theorem cnew_e:cnew_T=(∀ (gl:Glob) (g:Bool) (xs:LL),fnH Tryz.prog { glob:=gl,spec:=lk [],specH:=lk [],nowf:=true } { nt:=15,drop:=drp [(1,224),(2,3584),(3,28672)],fr:=1000,kp:=[] } (λ _ _=>none) 6 Tryz.f16 [.sl 1 g xs,.int .i64 600] [] (.ptr 0 0) [.cells [.sl 1 false (xs.take 600),.int .i64 0]]):=by kernel_rfl
def cnew_v:=Eq.mp (cnew_e ..) (cnew_P)
theorem cnew_ok (gl:Glob):HOK Tryz.prog gl 16 cnew_s:=by
 refine ⟨fok Tryz.func16 (by kernel_rfl) (by kernel_rfl),?_⟩
 intro xs bs pre r bs2 h hp
 unfold cnew_s at h
 split at h
 ·cases h
  exact fnH_sound tyNil (by exact specOK rfl rfl trivial trivial) (by kernel_rfl) Tryz.func16 (cnew_v gl _ _)
 ·cases h
def rnod_s:Sp
 | [.int .i64 n]=>some (1≤n∧n≤4,.int .i64 (10*n*n+2))
 | _=>none
def rnod_T:Prop :=
 ∀ (gl:Glob) (n:Int),1≤n∧n≤(4:Int)->IR9 n->bif decide (rng IntKind.i64 ((10:Int)*n)) then bif decide (rng IntKind.i64 ((10:Int)*n*n)) then bif decide (rng IntKind.i64 ((10:Int)*n*n+(2:Int))) then (10:Int)*n*n+(2:Int)=(10:Int)*n*n+(2:Int) else False else False else False
theorem rnod_P:rnod_T:=by
 unfold rnod_T
 intro gl n hn
 intros
 rcases (show n=1∨n=2∨n=3∨n=4 by omega) with rfl | rfl | rfl | rfl <;> exact cd1 (by decide) (cd1 (by decide) (cd1 (by decide) rfl))
theorem rnod_e:rnod_T=(∀ (gl:Glob) (n:Int),1≤n∧n≤4->fnK Tryz.prog { glob:=gl,spec:=lk [],specH:=lk [],nowf:=true } { nt:=8,drop:=drp [(1,248)] } (λ _ _=>none) 6 Tryz.f49 [.int .i64 n] (.int .i64 (10*n*n+2))):=by kernel_rfl
def rnod_v:=Eq.mp (rnod_e ..) (rnod_P)
theorem rnod_ok (gl:Glob):SOK Tryz.prog gl 49 rnod_s:=by
 refine ⟨fok Tryz.func49 (by kernel_rfl) (by kernel_rfl),?_⟩
 intro xs pre r h hp
 unfold rnod_s at h
 split at h
 ·cases h
  exact fnK_sound tyNil (by exact specOK rfl rfl trivial trivial) (by kernel_rfl) Tryz.func49 rfl (rnod_v gl _ hp)
 ·cases h
def rclip_s:Sp
 | [.int .i64 a,.int .i64 b,.int .i64 c]=>some (True,.int .i64 (max b (min a c)))
 | _=>none
def rclip_T:Prop :=
 ∀ (gl:Glob) (a b c:Int),IR9 a->IR9 b->IR9 c->max b (min a c)=max b (min a c)
theorem rclip_P:rclip_T:=by
 unfold rclip_T
 intros
 rfl
theorem rclip_e:rclip_T=(∀ (gl:Glob) (a b c:Int),fnK Tryz.prog { glob:=gl,spec:=lk [],specH:=lk [],nowf:=true } { nt:=12,drop:=drp [(1,3968)] } (λ _ _=>none) 6 Tryz.f50 [.int .i64 a,.int .i64 b,.int .i64 c] (.int .i64 (max b (min a c)))):=by kernel_rfl
def rclip_v:=Eq.mp (rclip_e ..) (rclip_P)
theorem rclip_ok (gl:Glob):SOK Tryz.prog gl 50 rclip_s:=by
 refine ⟨fok Tryz.func50 (by kernel_rfl) (by kernel_rfl),?_⟩
 intro xs pre r h hp
 unfold rclip_s at h
 split at h
 ·cases h
  exact fnK_sound tyNil (by exact specOK rfl rfl trivial trivial) (by kernel_rfl) Tryz.func50 rfl (rclip_v gl _ _ _)
 ·cases h
def pkV (l:List Int) (i:Int):Int:=l.getD i.toNat 0
def stm:List Int:=[0,30,5000,1000000]
def std:List Int:=[0,40,100000,2500000]
def sto:List Int:=[0,30,90000]
theorem pk4 {a b c d i:Int} (h:0≤i∧i < 4):List.take [AV.int .i64 (pkV [a,b,c,d] i)].length (List.drop 0 ([[AV.int .i64 a],[.int .i64 b],[.int .i64 c],[.int .i64 d]].getD i.toNat []))=[.int .i64 (pkV [a,b,c,d] i)]:=by
 rcases (show i=0∨i=1∨i=2∨i=3 by omega) with rfl | rfl | rfl | rfl <;> rfl
theorem pk3 {a b c i:Int} (h:0≤i∧i < 3):List.take [AV.int .i64 (pkV [a,b,c] i)].length (List.drop 0 ([[AV.int .i64 a],[.int .i64 b],[.int .i64 c]].getD i.toNat []))=[.int .i64 (pkV [a,b,c] i)]:=by
 rcases (show i=0∨i=1∨i=2 by omega) with rfl | rfl | rfl <;> rfl
theorem pk4_b {a b c d B i:Int} (ha:0≤a∧a≤B) (hb:0≤b∧b≤B) (hc:0≤c∧c≤B) (hd:0≤d∧d≤B) (h:0≤i∧i < 4):0≤pkV [a,b,c,d] i∧pkV [a,b,c,d] i≤B:=by
 rcases (show i=0∨i=1∨i=2∨i=3 by omega) with rfl | rfl | rfl | rfl <;> assumption
theorem pk3_b {a b c B i:Int} (ha:0≤a∧a≤B) (hb:0≤b∧b≤B) (hc:0≤c∧c≤B) (h:0≤i∧i < 3):0≤pkV [a,b,c] i∧pkV [a,b,c] i≤B:=by
 rcases (show i=0∨i=1∨i=2 by omega) with rfl | rfl | rfl <;> assumption
def st1 (xs:LL) (p:Int):Int:=nxA xs p 4
def stF (xs:LL) (p n:Int):List Int:=vcL xs (st1 xs p) (edgG nrm n).length (pkV stm (nxV xs p 4))
def st2 (xs:LL) (p n:Int):Int:=vcA xs (st1 xs p) (edgG nrm n).length (pkV stm (nxV xs p 4))
def st3 (xs:LL) (p n:Int):Int:=nxA xs (st2 xs p n) 4
def st4 (xs:LL) (p n:Int):Int:=nxA xs (st3 xs p n) 3
def stW (xs:LL) (p n:Int):List Int:=vcL xs (st4 xs p n) (ndN n) (pkV sto (nxV xs (st3 xs p n) 3))
def st5 (xs:LL) (p n:Int):Int:=vcA xs (st4 xs p n) (ndN n) (pkV sto (nxV xs (st3 xs p n) 3))
def stE (xs:LL) (p n:Int):Int:=pkV std (nxV xs (st2 xs p n) 4)
def stC (xs:LL) (p n:Int) (k:Nat):Int:=max 0 (min (stE xs p n+(stW xs p n).getD k 0) 16777216)
def stD (xs:LL) (p n:Int):List Int:=mk (stC xs p n) (ndN n)
def st5I (g:Bool) (xs:LL) (p n:Int):LInv:=⟨Int,λ x=>⟨[(0,.ptr 0 0),(4,.ptr 1004 0),(7,.ptr 1007 0),(8,.int .i64 (stE xs p n)),(42,.sl 1 false (intsL (stW xs p n))),(43,.int .i64 (ndN n)),(44,.int .i64 x)],[(0,.cells [.sl 1 g xs,.int .i64 (st5 xs p n)]),(1004,.cells [.int .i64 0,.nils,.nils]),(1007,.cells [.int .i64 n,.rw 700 1 x.toNat,.sl 1 false (intsL (stF xs p n))]),(700,.row 3 1 (intsL (mk (stC xs p n) x.toNat)))]⟩,LtP (ndN n),λ x=>(ndN n - x).toNat,none⟩
def cstate_s:SpH
 | [.ptr 0 0,.int .i64 n],[.cells [.sl 1 g xs,.int .i64 p]]=>some (FrQ n∧ChsP xs p,.agg [.int .i64 n,.sl 1 false (intsL (stD xs p n)),.sl 1 false (intsL (stF xs p n))],[.cells [.sl 1 g xs,.int .i64 (st5 xs p n)]])
 | _,_=>none
abbrev cstate_1 (n:Int):=(↑(List.length (redL n)):Int)
def cstate_T:Prop :=
 ∀ (gl:Glob) (p n:Int) (g:Bool) (xs:LL),FrQ n∧ChsP xs p->True->IR9 n->True->IR9 p->AroP n∧ChsP xs p∧bif decide (0≤nxV xs p 4∧nxV xs p 4 < (4:Int)) then bif decide ((4:Nat)=(4:Nat)∧(nxV xs p 4).toNat < (4:Nat)) then ∃ n_1,List.take [I6 n_1].length (List.drop 0 ([[I6 0],[I6 30],[I6 5000],[I6 1000000]].getD (nxV xs p 4).toNat []))=[I6 n_1]∧(ChsP xs (nxA xs p 4)∧((1:Int)≤(cstate_1 n)∧(cstate_1 n)≤(1000:Int))∧0≤n_1∧n_1≤(1000000000:Int))∧ChsP xs (vcA xs (nxA xs p 4) (cstate_1 n) n_1)∧bif decide (0≤nxV xs (vcA xs (nxA xs p 4) (cstate_1 n) n_1) 4∧nxV xs (vcA xs (nxA xs p 4) (cstate_1 n) n_1) 4 < (4:Int)) then bif decide ((4:Nat)=(4:Nat)∧(nxV xs (vcA xs (nxA xs p 4) (cstate_1 n) n_1) 4).toNat < (4:Nat)) then ∃ n_2,List.take [I6 n_2].length (List.drop 0 ([[I6 0],[I6 40],[I6 100000],[I6 2500000]].getD (nxV xs (vcA xs (nxA xs p 4) (cstate_1 n) n_1) 4).toNat []))=[I6 n_2]∧ChsP xs (nxA xs (vcA xs (nxA xs p 4) (cstate_1 n) n_1) 4)∧bif decide (0≤nxV xs (nxA xs (vcA xs (nxA xs p 4) (cstate_1 n) n_1) 4) 3∧nxV xs (nxA xs (vcA xs (nxA xs p 4) (cstate_1 n) n_1) 4) 3 < (3:Int)) then bif decide ((3:Nat)=(3:Nat)∧(nxV xs (nxA xs (vcA xs (nxA xs p 4) (cstate_1 n) n_1) 4) 3).toNat < (3:Nat)) then ∃ n_3,List.take [I6 n_3].length (List.drop 0 ([[I6 0],[I6 30],[I6 90000]].getD (nxV xs (nxA xs (vcA xs (nxA xs p 4) (cstate_1 n) n_1) 4) 3).toNat []))=[I6 n_3]∧(1≤n∧n≤(4:Int))∧(ChsP xs (nxA xs (nxA xs (vcA xs (nxA xs p 4) (cstate_1 n) n_1) 4) 3)∧((1:Int)≤(10:Int)*n*n+(2:Int)∧(10:Int)*n*n+(2:Int)≤(1000:Int))∧0≤n_3∧n_3≤(1000000000:Int))∧(∃ x,LtP (ndN n) x∧((0:Nat)=(0:Nat)∧(0:Nat)=(0:Nat)∧(0:Nat)=(0:Nat)∧n_2=stE xs p n∧(True∧intsL (vcL xs (nxA xs (nxA xs (vcA xs (nxA xs p 4) (cstate_1 n) n_1) 4) 3) ((10:Int)*n*n+(2:Int)) n_3)=intsL (stW xs p n))∧(↑(intsL (vcL xs (nxA xs (nxA xs (vcA xs (nxA xs p 4) (cstate_1 n) n_1) 4) 3) ((10:Int)*n*n+(2:Int)) n_3)).length:Int)=(↑(ndN n):Int)∧(0:Int)=x∧True)∧(((bif g then g=true else True)∧xs=xs)∧vcA xs (nxA xs (nxA xs (vcA xs (nxA xs p 4) (cstate_1 n) n_1) 4) 3) ((10:Int)*n*n+(2:Int)) n_3=st5 xs p n∧True)∧((0:Int)=(0:Int)∧True∧True∧True)∧(n=n∧(0:Nat)=Int.toNat x∧(True∧intsL (vcL xs (nxA xs p 4) (cstate_1 n) n_1)=intsL (stF xs p n))∧True)∧[]=intsL (mk (stC xs p n) (Int.toNat x))∧True)∧∀ (x1:Int),LtP (ndN n) x1->bif decide (x1 < (↑(ndN n):Int)) then bif decide (0≤x1∧x1 < (↑(intsL (stW xs p n)).length:Int)) then ∃ n_4,List.take [I6 n_4].length ((intsL (stW xs p n)).getD x1.toNat [])=[I6 n_4]∧bif decide (rng IntKind.i64 (stE xs p n+n_4)) then True∧bif decide (x1.toNat=(intsL (mk (stC xs p n) x1.toNat)).length∧(intsL (mk (stC xs p n) x1.toNat)).length+[[I6 (max 0 (min (stE xs p n+n_4) 16777216))]].length≤(9223372036854775807:Nat)∧((intsL (mk (stC xs p n) x1.toNat)).length+[[I6 (max 0 (min (stE xs p n+n_4) 16777216))]].length)*(8:Nat)≤(140737488355328:Nat)) then bif decide (rng IntKind.i64 (x1+(1:Int))) then ∃ y,LtP (ndN n) y∧(st5I g xs p n).m y < (st5I g xs p n).m x1∧((0:Nat)=(0:Nat)∧(0:Nat)=(0:Nat)∧(0:Nat)=(0:Nat)∧stE xs p n=stE xs p n∧(True∧intsL (stW xs p n)=intsL (stW xs p n))∧(↑(ndN n):Int)=(↑(ndN n):Int)∧x1+(1:Int)=y∧True)∧(((bif g then g=true else True)∧xs=xs)∧st5 xs p n=st5 xs p n∧True)∧((0:Int)=(0:Int)∧True∧True∧True)∧(n=n∧(intsL (mk (stC xs p n) x1.toNat)++[[I6 (max 0 (min (stE xs p n+n_4) 16777216))]]).length=Int.toNat y∧(True∧intsL (stF xs p n)=intsL (stF xs p n))∧True)∧intsL (mk (stC xs p n) x1.toNat)++[[I6 (max 0 (min (stE xs p n+n_4) 16777216))]]=intsL (mk (stC xs p n) (Int.toNat y))∧True else False else False else False else False else bif decide (x1.toNat=(intsL (mk (stC xs p n) x1.toNat)).length) then (n=n∧(True∧intsL (mk (stC xs p n) x1.toNat)=intsL (stD xs p n))∧(True∧intsL (stF xs p n)=intsL (stF xs p n))∧True)∧(((bif g then g=true else True)∧xs=xs)∧st5 xs p n=st5 xs p n∧True)∧True else False else False else False else False else False else False else False
theorem cstate_P:cstate_T:=by
 unfold cstate_T
 delta cstate_1 I6
 intro gl p n g xs ⟨hq,hc⟩
 intros
 have hA:=hq.ar
 have n1:=hA.lo
 have n2:=hA.hi
 have hnd:=hq.nd
 have hlo:=hq.lo
 have hhi:=hq.hi
 have hb:1≤10*n*n+2∧10*n*n+2≤1000:=by rcases (show n=1∨n=2 by omega) with rfl | rfl <;> decide
 have hgg:cond g (g=true) True:=by cases g <;> trivial
 rw [hq.le]
 have b1:=nxV_b hc (n:=4) (by decide)
 have m1:0≤pkV stm (nxV xs p 4)∧pkV stm (nxV xs p 4)≤1000000:=pk4_b (by decide) (by decide) (by decide) (by decide) b1
 have k1:=nxA_ok hc 4
 have w1:=vcL_ok (n:=(edgG nrm n).length) k1 m1.1
 have b2:=nxV_b w1.2.2 (n:=4) (by decide)
 have k2:=nxA_ok w1.2.2 4
 have b3:=nxV_b k2 (n:=3) (by decide)
 have k3:=nxA_ok k2 3
 have e2:0≤stE xs p n∧stE xs p n≤2500000:=pk4_b (by decide) (by decide) (by decide) (by decide) b2
 have m3:0≤pkV sto (nxV xs (st3 xs p n) 3)∧pkV sto (nxV xs (st3 xs p n) 3)≤90000:=pk3_b (by decide) (by decide) (by decide) b3
 have w3:=vcL_ok (n:=(ndN n:Int)) k3 m3.1
 have wl:(stW xs p n).length=ndN n:=by have:=w3.1; rwa [Int.toNat_natCast] at this
 have wb:∀ j,j < ndN n->-90009≤(stW xs p n).getD j 0∧(stW xs p n).getD j 0≤90009:=λ j hj=>by
  have:=w3.2.1 ((stW xs p n).getD j 0) (by rw [List.getD_eq_getElem?_getD,List.getElem?_eq_getElem (by rw [wl]; exact hj)]; exact List.getElem_mem _)
  omega
 have hil:=ints_len (stW xs p n)
 refine ⟨hA,hc,cd1 b1 (cd1 (by omega) ⟨pkV stm (nxV xs p 4),pk4 b1,⟨k1,by omega,m1.1,by omega⟩,w1.2.2,cd1 b2 (cd1 (by omega) ⟨stE xs p n,pk4 b2,k2,cd1 b3 (cd1 (by omega) ⟨pkV sto (nxV xs (st3 xs p n) 3),pk3 b3,by omega,⟨k3,hb,m3.1,by omega⟩,?_⟩)⟩)⟩)⟩
 rw [← hnd]
 refine ⟨⟨0,⟨Int.le_refl _,by omega⟩,⟨rfl,rfl,rfl,rfl,⟨trivial,rfl⟩,by show ((intsL (stW xs p n)).length:Int)=_; omega,rfl,trivial⟩,⟨⟨hgg,rfl⟩,rfl,trivial⟩,by repeat' first|exact trivial|exact rfl|assumption|apply And.intro⟩,?_⟩
 rintro x ⟨x0,x1⟩
 have hml:=mk_len (stC xs p n) x.toNat
 have hmi:=ints_len (mk (stC xs p n) x.toNat)
 refine csp (λ q=>?_) (λ q=>?_)
 ·have hj:x.toNat < ndN n:=by omega
  have hw:=wb x.toNat hj
  refine cd1 ⟨x0,by omega⟩ ⟨_,by rw [ints_at (by omega)]; rfl,cdI (by omega) ⟨trivial,?_⟩⟩
  have el:[[AV.int .i64 (max 0 (min (stE xs p n+(stW xs p n).getD x.toNat 0) 16777216))]].length=1:=rfl
  have es:intsL (mk (stC xs p n) x.toNat)++[[.int .i64 (max 0 (min (stE xs p n+(stW xs p n).getD x.toNat 0) 16777216))]]=intsL (mk (stC xs p n) (x+1).toNat):=by
   rw [show (x+1).toNat=x.toNat+1 by omega,mk_succ]
   simp only [intsL,List.map_append,List.map_cons,List.map_nil]
   rfl
  refine cd1 (by rw [el]; omega) (cdI (by omega) ⟨x+1,⟨by omega,by omega⟩,by show (_:Nat) < _; simp only [st5I]; omega,by repeat' first|exact trivial|exact rfl|assumption|apply And.intro,⟨⟨hgg,rfl⟩,rfl,trivial⟩,by repeat' first|exact trivial|exact rfl|assumption|apply And.intro,⟨rfl,?_,by repeat' first|exact trivial|exact rfl|assumption|apply And.intro⟩,es,trivial⟩)
  rw [es,ints_len,mk_len]
 ·have e:x.toNat=ndN n:=by omega
  refine cd1 (by omega) ⟨⟨rfl,⟨trivial,?_⟩,by repeat' first|exact trivial|exact rfl|assumption|apply And.intro⟩,⟨⟨hgg,rfl⟩,rfl,trivial⟩,trivial⟩
  rw [e]; rfl
theorem cstate_e:cstate_T=(∀ (gl:Glob) (p n:Int) (g:Bool) (xs:LL),FrQ n∧ChsP xs p->fnH Tryz.prog { glob:=gl,spec:=lk [(46,redges_s),(49,rnod_s),(50,rclip_s)],specH:=lk [(48,cnext_s),(47,cvec_s)],shape:=[25,32,37,47],nowf:=true } { nt:=59,drop:=drp [(1,126976),(2,268304384),(3,274609471488),(4,4123168604160),(6,211106232532992),(7,143833713099145216),(8,144115188075855872),(9,288230376151711744)],fr:=1000,kp:=[0],emp:=λ id=>cond (Nat.beq id 4) [(1100701,700,3,1)] [] } (invs [(5,st5I g xs p n)]) 6 Tryz.f17 [.ptr 0 0,.int .i64 n] [.cells [.sl 1 g xs,.int .i64 p]] (.agg [.int .i64 n,.sl 1 false (intsL (stD xs p n)),.sl 1 false (intsL (stF xs p n))]) [.cells [.sl 1 g xs,.int .i64 (st5 xs p n)]]):=by kernel_rfl
def cstate_v:=Eq.mp (cstate_e ..) (cstate_P)
theorem cstate_ok (gl:Glob):HOK Tryz.prog gl 17 cstate_s:=by
 refine ⟨fok Tryz.func17 (by kernel_rfl) (by kernel_rfl),?_⟩
 intro xs bs pre r bs2 h hp
 unfold cstate_s at h
 split at h
 ·cases h
  exact fnH_sound tyNil (by exact specOK rfl rfl ⟨(redges_ok gl),(rnod_ok gl),(rclip_ok gl),trivial⟩ ⟨(cnext_ok gl),(cvec_ok gl),trivial⟩) (by kernel_rfl) Tryz.func17 (cstate_v gl _ _ _ _ hp)
 ·cases h
def cchg_s:SpH
 | [.ptr 0 0,.int .i64 n,.int .i64 m],[.cells [.sl 1 g xs,.int .i64 p]]=>some (FrQ n∧ChsP xs p∧0≤m∧m≤1000,.agg [.sl 1 false (intsL (vcL xs p (ndN n) m)),.sl 1 false (intsL (vcL xs (vcA xs p (ndN n) m) (edgG nrm n).length m))],[.cells [.sl 1 g xs,.int .i64 (vcA xs (vcA xs p (ndN n) m) (edgG nrm n).length m)]])
 | _,_=>none
def cchg_T:Prop :=
 ∀ (gl:Glob) (p n m:Int) (g:Bool) (xs:LL),FrQ n∧ChsP xs p∧0≤m∧m≤(1000:Int)->True->IR9 n->IR9 m->True->IR9 p->AroP n∧(1≤n∧n≤(4:Int))∧(ChsP xs p∧((1:Int)≤(10:Int)*n*n+(2:Int)∧(10:Int)*n*n+(2:Int)≤(1000:Int))∧0≤m∧m≤(1000000000:Int))∧(ChsP xs (vcA xs p ((10:Int)*n*n+(2:Int)) m)∧((1:Int)≤(↑(List.length (redL n)):Int)∧(↑(List.length (redL n)):Int)≤(1000:Int))∧0≤m∧m≤(1000000000:Int))∧((True∧intsL (vcL xs p ((10:Int)*n*n+(2:Int)) m)=intsL (vcL xs p (↑(ndN n):Int) m))∧(True∧intsL (vcL xs (vcA xs p ((10:Int)*n*n+(2:Int)) m) (↑(List.length (redL n)):Int) m)=intsL (vcL xs (vcA xs p (↑(ndN n):Int) m) (↑(edgG nrm n).length:Int) m))∧True)∧(((bif g then g=true else True)∧xs=xs)∧vcA xs (vcA xs p ((10:Int)*n*n+(2:Int)) m) (↑(List.length (redL n)):Int) m=vcA xs (vcA xs p (↑(ndN n):Int) m) (↑(edgG nrm n).length:Int) m∧True)∧True
theorem cchg_P:cchg_T:=by
 unfold cchg_T
 intro gl p n m g xs ⟨hq,hc,m0,m1⟩
 intros
 have hA:=hq.ar
 have n1:=hA.lo
 have n2:=hA.hi
 have hnd:=hq.nd
 have hlo:=hq.lo
 have hhi:=hq.hi
 have hb:1≤10*n*n+2∧10*n*n+2≤1000:=by rcases (show n=1∨n=2 by omega) with rfl | rfl <;> decide
 have hgg:cond g (g=true) True:=by cases g <;> trivial
 rw [hq.le,← hnd]
 have w1:=vcL_ok (n:=(ndN n:Int)) hc m0
 exact ⟨hA,by omega,⟨hc,by omega,m0,by omega⟩,⟨w1.2.2,by omega,m0,by omega⟩,by repeat' first|exact trivial|exact rfl|assumption|apply And.intro,⟨⟨hgg,rfl⟩,rfl,trivial⟩,trivial⟩
theorem cchg_e:cchg_T=(∀ (gl:Glob) (p n m:Int) (g:Bool) (xs:LL),FrQ n∧ChsP xs p∧0≤m∧m≤1000->fnH Tryz.prog { glob:=gl,spec:=lk [(46,redges_s),(49,rnod_s)],specH:=lk [(48,cnext_s),(47,cvec_s)],nowf:=true } { nt:=25,drop:=drp [(1,15872),(2,33538048)],fr:=1000,kp:=[0] } (λ _ _=>none) 6 Tryz.f19 [.ptr 0 0,.int .i64 n,.int .i64 m] [.cells [.sl 1 g xs,.int .i64 p]] (.agg [.sl 1 false (intsL (vcL xs p (ndN n) m)),.sl 1 false (intsL (vcL xs (vcA xs p (ndN n) m) (edgG nrm n).length m))]) [.cells [.sl 1 g xs,.int .i64 (vcA xs (vcA xs p (ndN n) m) (edgG nrm n).length m)]]):=by kernel_rfl
def cchg_v:=Eq.mp (cchg_e ..) (cchg_P)
theorem cchg_ok (gl:Glob):HOK Tryz.prog gl 19 cchg_s:=by
 refine ⟨fok Tryz.func19 (by kernel_rfl) (by kernel_rfl),?_⟩
 intro xs bs pre r bs2 h hp
 unfold cchg_s at h
 split at h
 ·cases h
  exact fnH_sound tyNil (by exact specOK rfl rfl ⟨(redges_ok gl),(rnod_ok gl),trivial⟩ ⟨(cnext_ok gl),(cvec_ok gl),trivial⟩) (by kernel_rfl) Tryz.func19 (cchg_v gl _ _ _ _ _ hp)
 ·cases h
end Go.Proofs.YtgbbmadjdaphnaaGreatDoor
namespace Go.Proofs.YtgbbmadjdaphnaaGreatDoor
open Go Go.RowKit
variable {P:Program} {S:Pin} {m:Nm} {w:World} {a:Act} {G:Gh} {kp:List Nat} {st:St} {E:Env} {C:Cx}
structure Chg (I:Nat->Prop) (S:Pin) (W:World) (S':Pin) (W':World):Prop where
 os:W'.os=W.os
 tape:W'.tape=W.tape
 output:W'.output=W.output
 size:W.heap.size≤W'.heap.size
 frame:∀ b,b < W.heap.size->¬ I b->W'.heap[b]?=W.heap[b]?
 pins:Ext S S'
 pinOld:∀ b o,b < W.heap.size->S' b o=S b o
 agree:Agree S' W'
theorem Chg.refl {I:Nat->Prop} {W:World} (h:Agree S W):Chg I S W S W:=⟨rfl,rfl,rfl,Nat.le_refl _,λ _ _ _=>rfl,Ext.refl _,λ _ _ _=>rfl,h⟩
structure JOKI (I:Nat->Prop) (J:Nat->Pin->World->Prop):Prop where
 ag:∀ k S W,J k S W->Agree S W
 lt:∀ k S W,J k S W->∀ g,I g->g < W.heap.size
 pin:∀ k S W,J k S W->∀ g o,I g->S g o=none
 ch:∀ k S W S' W',J k S W->Chg I S W S' W'->J k S' W'
theorem Rel.chg {kp kp1:List Nat} {st st2:St} {a a2:Act} {w w2:World} {S S2:Pin} {m m2:Nm} {I:Nat->Prop} (h:Rel G kp st a w S m) (h2:Rel (mkG w S m st.heap kp1) kp1 st2 a2 w2 S2 m2)
  (hI:∀ k blk u b,lk st.heap k=some blk->m k=some u->bk u=some b->I b) (hpin:∀ b o,I b->S b o=none∧S2 b o=none):Chg I S w S2 w2 where
 os:=h2.os
 tape:=h2.tape
 output:=h2.output
 size:=h2.size
 frame:=λ b hb hn=>h2.frame b hb λ ⟨k,blk,u,q1,q2,q3⟩=>hn (hI k blk u b q1 q2 q3)
 pins:=h2.pin0
 pinOld:=λ b o hb=>by
  by_cases q:I b
  ·rw [(hpin b o q).1,(hpin b o q).2]
  ·exact h2.pinNew b o hb λ ⟨k,blk,u,q1,q2,q3⟩=>q (hI k blk u b q1 q2 q3)
 agree:=h2.agree
theorem Rel.change {w w':World} {S S':Pin} {I:Nat->Prop} (h:Rel G kp st a w S m) (hc:Chg I S w S' w') (hd:∀ k b u g,lk st.heap k=some b->m k=some u->bk u=some g->¬ I g) (hM:∀ g,I g->g < G.w0.heap.size->G.M g):Rel G kp st a w' S' m where
 defers:=h.defers
 pin0:=h.pin0.trans hc.pins
 pinNew:=λ b o h1 h2=>(hc.pinOld b o (Nat.lt_of_lt_of_le h1 h.size)).trans (h.pinNew b o h1 h2)
 agree:=hc.agree
 tmps:=λ t=>(h.tmps t).ext hc.pins (MLe.refl m)
 held:=λ k b hk=>(h.held k b hk).keep hc.pins (λ _ _ _ hv=>hv.ext hc.pins (MLe.refl m)) rfl (λ u g hu hg=>by
  have hl:=(h.held k b hk).lt hu hg
  exact ⟨hc.frame g hl (hd k b u g hk hu hg),λ o=>hc.pinOld g o hl⟩)
 inj:=h.inj
 own:=h.own
 os:=hc.os.trans h.os
 tape:=hc.tape.trans h.tape
 output:=hc.output.trans h.output
 size:=Nat.le_trans h.size hc.size
 frame:=λ b h1 h2=>(hc.frame b (Nat.lt_of_lt_of_le h1 h.size) λ q=>h2 (hM b q h1)).trans (h.frame b h1 h2)
 m0:=h.m0
 keep:=h.keep
theorem Rel.after {kp kp1:List Nat} {w w':World} {S S':Pin} (h:Rel G kp st a w S m) (hS:Ext S S') (hA:Agree S' w') (hd:∀ k b u g,lk st.heap k=some b->m k=some u->bk u=some g->w'.heap[g]?=w.heap[g]?∧∀ o,S' g o=S g o):Rel (mkG w' S' m st.heap kp1) kp1 st a w' S' m where
 defers:=h.defers
 pin0:=Ext.refl _
 pinNew:=λ _ _ _ _=>rfl
 agree:=hA
 tmps:=λ t=>(h.tmps t).ext hS (MLe.refl m)
 held:=λ k b hk=>(h.held k b hk).keep hS (λ _ _ _ hv=>hv.ext hS (MLe.refl m)) rfl (λ u g hu hg=>hd k b u g hk hu hg)
 inj:=h.inj
 own:=λ k b u g hk hu hg=>.inr ⟨k,b,u,hk,hu,hg⟩
 os:=rfl
 tape:=rfl
 output:=rfl
 size:=Nat.le_refl _
 frame:=λ _ _ _=>rfl
 m0:=λ k u e=>by
  simp only [mkG] at e
  split at e
  ·exact ⟨u,e,.refl u⟩
  ·cases e
 keep:=λ k u e=>by
  simp only [mkG] at e
  split at e
  ·rename_i q; exact inL_of q
  ·cases e
theorem Rel.addC (h:Rel G kp st a w S m) {k:Nat} {cs:List AV} (hh:Held S m w k (.cells cs)) (hn:lk st.heap k=none)
    (ho:∀ u g,m k=some u->bk u=some g->G.w0.heap.size≤g∨G.M g) (hd:∀ k' b u g u' ,lk st.heap k'=some b->m k'=some u->bk u=some g->m k=some u'->bk u'≠some g):Rel G kp ⟨st.tmps,(k,.cells cs)::st.heap⟩ a w S m :=
  { h with
    defers:=h.defers
    tmps:=h.tmps
    held:=λ j b hj=>by
      rw [lk_cons] at hj
      split at hj
      · rename_i q; subst q; simp only [Option.some.injEq] at hj; subst hj; exact hh
      · exact h.held j b hj
    inj:=λ j j' b b' u u' g q1 q2 q3 q4 q5 q6=>by
      rw [lk_cons] at q1 q2
      split at q1
      · rename_i e1
        split at q2
        · rename_i e2; exact absurd (e1.trans e2.symm) q3
        · intro q7
          subst e1
          exact hd j' b' u' g u q2 q5 q7 q4 q6
      · split at q2
        · rename_i e2
          subst e2
          exact hd j b u g u' q1 q4 q6 q5
        · exact h.inj j j' b b' u u' g q1 q2 q3 q4 q5 q6
    own:=λ j b u g q1 q2 q3=>by
      rw [lk_cons] at q1
      split at q1
      · rename_i e; subst e; exact ho u g q2 q3
      · exact h.own j b u g q1 q2 q3 }
def IterW (P:Program) (gf:Nat) (lb:Array Value) (I:Nat->Prop) (x0:Nat->AV) (N:Nat) (X Y:Pin->World->Prop):Prop :=
 ∀ (n l:Nat) (J:Nat->Pin->World->Prop),JOKI I J->(∀ k S W v,J k S W->k < N->CV S (x0 k) noNm v->YieldAt Fence.wide (n - 1) P l #[v] W λ e W'=>e=.returned (.bool true)∧(∀ g,I g->W'.heap[g]?=W.heap[g]?)∧∃ S',Ext S S'∧J (k+1) S' W') ->
  ∀ (S0:Pin) (W:World),GOKg glb S0->X S0 W->J 0 S0 W->CallsIn Fence.wide n P gf (#[.func (.yield l) #[] #[]]++lb) W λ e W'=>(∃ v,e=.returned v)∧∃ S',Ext S0 S'∧J N S' W'∧Y S' W'
def HeldL (m:Nm) (H:List (Nat × Blk)) (S:Pin) (W:World):Prop:=∀ k b,lk H k=some b->Held S m W k b
set_option maxHeartbeats 1000000 in
theorem range1 {inv:Nat->St->Option LInv} {fuel:Nat} (hT:TyOK P C.tys) (hS:SpecOK P E) (hM:P.follows .mixedOrders=true) {kp kp1:List Nat} (hCk:C.kp=kp1) (hkp:∀ k ∈ kp,inL k kp1=true) (hGE:∀ S,GOKg glb S->GOK E S)
    {T:List (Nat × AV)} {Hx Hy:List (Nat × Blk)} {H:Nat->List (Nat × Blk)} (hgl:GOKg glb S) (hR:Rel G kp ⟨T,Hx++H 0⟩ a w S m) (hn:a.tmps.size=C.nt)
    (hx1:∀ k b,lk Hx k=some b->lk (Hx++H 0) k=some b) (hx2:∀ k b,lk (H 0) k=some b->lk Hx k=none∧lk (Hx++H 0) k=some b) (hxc:∀ k b,lk Hx k=some b->∃ cs,b=.cells cs) (hyc:∀ k b,lk Hy k=some b->∃ b',lk Hx k=some b')
    {I:Nat->Prop} (hI:∀ g,I g↔∃ k b u,lk Hx k=some b∧m k=some u∧bk u=some g)
    {g:Operand} {gf:Nat} {lb:Array Value} (hg:a.eval g=.func (.func gf) #[] lb) (eg:∀ args w,(callFunc gf args).run P w=.ok (.enter gf args) w)
    {x0:Nat->AV} {N:Nat} (hIt:IterW P gf lb I x0 N (HeldL m Hx) (HeldL m Hy))
    {p0:Nat} (hp0:p0 < C.nt) (hTm:tmOK kp1 T) {assign body:Code} (hsa:simpleC assign=true) (hsb:simpleC body=true) (hH:∀ k,k≤N->okHs (H k)=true)
    (hbody:∀ k,k < N->acode P E C inv fuel assign (St.put ⟨T,H k⟩ p0 (x0 k)) (λ st1=>cond (okHs st1.heap) (acode P E C inv fuel body st1 (λ st2=>leS st2 ⟨[],H (k+1)⟩) (λ _ _=>False) (λ _=>False)) False) (λ _ _=>False) (λ _=>False))
    {n:Nat} {Q:Exit->Act->World->Prop}
    (hdone:∀ (W:World) (S':Pin) (m':Nm),Rel G kp ⟨T,H N⟩ a W S' m'->Ext S S'->HeldL m Hy S' W->(∀ k b u g,lk (H N) k=some b->m' k=some u->bk u=some g->¬ I g)->(∀ k u,inL k kp1=true->m k=some u->∃ u',m' k=some u'∧Goes u u')->W.heap[w.heap.size]?=some (.deferred (some []))->Q .normal (plusD [{ target:=.collected w.heap.size,args:=#[] }] a) W) :
    (Code.rangeFunc g #[p0] assign body).wpIn Fence.wide n P Q a w:=by
  have ha:=hR.defers
  subst hCk
  have hself:∀ k ∈ C.kp,inL k C.kp=true:=λ k hk=>mem_inG hk
  have hIlt:∀ g,I g->g < w.heap.size:=λ g hg=>by
    obtain ⟨k,b,u,q1,q2,q3⟩:=(hI g).1 hg
    exact (hR.held k b (hx1 k b q1)).lt q2 q3
  have hIpin:∀ g o,I g->S g o=none:=λ g o hg=>by
    obtain ⟨k,b,u,q1,q2,q3⟩:=(hI g).1 hg
    obtain ⟨cs,rfl⟩:=hxc k b q1
    obtain ⟨g',arr,t,h1,_,_,h4⟩:=hR.held k _ (hx1 k _ q1)
    rw [h1] at q2
    injection q2 with q2
    subst q2
    simp only [bk,Option.some.injEq] at q3
    subst q3
    exact h4 o
  have hdis0:∀ k b u g,lk (H 0) k=some b->m k=some u->bk u=some g->¬ I g:=λ k b u g q1 q2 q3 q4=>by
    obtain ⟨k',b',u',r1,r2,r3⟩:=(hI g).1 q4
    obtain ⟨e1,e2⟩:=hx2 k b q1
    have hne:k≠k':=λ e=>by subst e; rw [e1] at r1; cases r1
    exact hR.inj k k' b b' u u' g e2 (hx1 k' b' r1) hne q2 r2 q3 r3
  refine wpIn_rangeFunc ?_
  intro fn hfn
  rw [show Fence.wide.round=none from rfl]
  obtain ⟨rec,hrec⟩:∃ rec:LoopState->Option Code->Loop,rec=λ st pe=>{ state:=st,pending:=pe,fn,tmps:=a.tmps,params:=#[p0],assign,body,defers:=w.heap.size }:=⟨_,rfl⟩
  obtain ⟨W1,hW1⟩:∃ W1,(w.alloc (.deferred (some []))).alloc (.loop (rec .ready none))=W1:=⟨_,rfl⟩
  have hL1:W1.heap[w.heap.size+1]?=some (.loop (rec .ready none)):=by
    rw [← hW1]; have:=World.alloc_heap_new (w.alloc (.deferred (some []))) (.loop (rec .ready none)); rwa [World.size_alloc] at this
  have hK1:W1.heap[w.heap.size]?=some (.deferred (some [])):=by
    rw [← hW1]; exact (Below.heap_alloc _ _ _ (by simp)).trans (World.alloc_heap_new w _)
  have hb1:Below w.heap.size w W1:=by
    rw [← hW1]; exact ((Below.refl _ w).alloc (Nat.le_refl _) _).alloc (by simp) _
  have hag1:Agree S W1:=λ b o v e=>⟨(hb1.cell (p:=⟨b,o,none⟩) (hR.agree.lt e)).trans (hR.agree b o v e).1,(hR.agree b o v e).2⟩
  have hR0:Rel (mkG w S m (Hx++H 0) C.kp) C.kp ⟨T,Hx++H 0⟩ a W1 S m:=(hR.begin_ (kp1:=C.kp)).next hb1 (Ext.refl S) (λ _ _ _=>rfl) hag1
  have hR1:Rel (mkG w S m (Hx++H 0) C.kp) C.kp ⟨T,H 0⟩ a W1 S m :=
    { hR0 with
      defers:=hR0.defers
      tmps:=hR0.tmps
      held:=λ k b hk=>hR0.held k b (hx2 k b hk).2
      inj:=λ k k' b b' u u' g q1 q2=>hR0.inj k k' b b' u u' g (hx2 k b q1).2 (hx2 k' b' q2).2
      own:=λ k b u g q1=>hR0.own k b u g (hx2 k b q1).2 }
  obtain ⟨G1,hG1⟩:∃ G1,G1=mkG w S m (Hx++H 0) C.kp:=⟨_,rfl⟩
  rw [← hG1] at hR1
  have hw0:G1.w0=w:=by rw [hG1]; rfl
  have hM1:∀ g,I g->G1.M g:=λ g hg=>by
    obtain ⟨k,b,u,q1,q2,q3⟩:=(hI g).1 hg
    rw [hG1]; exact ⟨k,b,u,hx1 k b q1,q2,q3⟩
  have hX1:HeldL m Hx S W1:=λ k b hk=>hR0.held k b (hx1 k b hk)
  obtain ⟨J,hJ⟩:∃ J:Nat->Pin->World->Prop,J=λ k S' W'=>W'.heap[w.heap.size+1]?=some (.loop (rec .ready none))∧W'.heap[w.heap.size]?=some (.deferred (some []))∧GOKg glb S'∧Ext S S'∧(∀ g o,I g->S' g o=none)∧∃ m',Rel G1 C.kp ⟨T,H k⟩ a W' S' m'∧(∀ k' b u g,lk (H k) k'=some b->m' k'=some u->bk u=some g->¬ I g):=⟨_,rfl⟩
  refine ⟨w.heap.size+1,[{ target:=.collected w.heap.size,args:=#[] }],W1,{ target:=.fn (.func gf) lb,args:=#[.func (.yield (w.heap.size+1)) #[] #[]] },W1,gf,
    #[.func (.yield (w.heap.size+1)) #[] #[]]++lb,W1,?_,?_,λ f' hf'=>trivial,?_,λ q=>(by cases q),?_⟩
  · rw [← hW1,hrec]; exact run_enterLoop_outer _ _ _ _ _
  · simp only [resolve,hg]
    simp [go_sem]
  · simp [invoke,go_sem,eg]
  refine (hIt (n - 1) (w.heap.size+1) J ?jok ?round S W1 hgl hX1 (by rw [hJ]; exact ⟨hL1,hK1,hgl,Ext.refl S,hIpin,m,hR1,hdis0⟩)).mono ?_
  case jok =>
    rw [hJ]
    refine ⟨λ k S' W' ⟨_,_,_,_,_,m',h,_⟩=>h.agree,λ k S' W' ⟨h1,_,_,_,_,m',h,_⟩ g hg=>?_,λ k S' W' ⟨_,_,_,_,hp,_⟩=>hp,λ k S' W' S2 W2 ⟨h1,h2,h3,hx,hp,m',h,hd⟩ hc=>⟨?_,?_,?_,hx.trans hc.pins,?_,m',h.change hc hd (λ g hg _=>hM1 g hg),hd⟩⟩
    · have:=hIlt g hg
      have:=h.size
      rw [hw0] at this
      omega
    · exact (hc.frame _ (Array.getElem?_eq_some_iff.1 h1).1 (λ q=>by have:=hIlt _ q; omega)).trans h1
    · exact (hc.frame _ (Array.getElem?_eq_some_iff.1 h2).1 (λ q=>by have:=hIlt _ q; omega)).trans h2
    · exact λ g cs e=>CC.mono hc.pins cs g 0 (h3 g cs e)
    · intro g o hg
      rw [hc.pinOld g o (by have:=hIlt g hg; have:=h.size; rw [hw0] at this; omega)]
      exact hp g o hg
  case round =>
    intro k S' W' v0 hj hk hv0
    rw [hJ] at hj
    obtain ⟨hl,hd,hgl',hxt,hpi,m',hRk,hdis⟩:=hj
    have hy:=run_yield (P:=P) (args:=#[v0]) hl (by rw [hrec]; rfl)
    have c0:CV S' (x0 k) m' v0:=hv0.ext (Ext.refl _) (MLe.no m')
    have hRk2:=hRk.put c0 (d:=p0) (by rw [hn]; exact hp0)
    have eact:({ tmps:=((rec .ready none).params.zip #[v0]).foldl (λ tmps (t,a)=>tmps.setIfInBounds t a) (rec .ready none).tmps,defers:=[] }:Act)=a.put (some p0) v0:=by
      rw [hrec]
      have ef:((#[p0]:Array Tmp).zip #[v0]).foldl (λ tmps (x:Tmp × Value)=>tmps.setIfInBounds x.1 x.2) a.tmps=a.tmps.setIfInBounds p0 v0:=by simp
      have e2:({ tmps:=((#[p0]:Array Tmp).zip #[v0]).foldl (λ tmps (x:Tmp × Value)=>tmps.setIfInBounds x.1 x.2) a.tmps,defers:=[] }:Act)=a.put (some p0) v0:=by
        rw [ef]
        show ({ tmps:=a.tmps.setIfInBounds p0 v0,defers:=[] }:Act)={ a with tmps:=a.tmps.setIfInBounds p0 v0 }
        rw [← ha]
      exact e2
    have hnk:(a.put (some p0) v0).tmps.size=C.nt:=by rw [put_size,hn]
    generalize a.put (some p0) v0=ak at hRk2 eact hnk
    have hltl:w.heap.size+1 < W'.heap.size:=(Array.getElem?_eq_some_iff.1 hl).1
    have hokk:okHs (St.put ⟨T,H k⟩ p0 (x0 k)).heap=true:=hH k (Nat.le_of_lt hk)
    have heT:(St.put ⟨T,H k⟩ p0 (x0 k)).heap=H k:=rfl
    have hbk:=hbody k hk
    have hdisk:∀ k' b u g,lk (St.put ⟨T,H k⟩ p0 (x0 k)).heap k'=some b->m' k'=some u->bk u=some g->¬ I g:=hdis
    generalize St.put ⟨T,H k⟩ p0 (x0 k)=stk at hRk2 hokk heT hbk hdisk
    have efn:(rec .ready none).assign=assign∧(rec .ready none).body=body:=by rw [hrec]; exact ⟨rfl,rfl⟩
    refine ⟨_,_,_,_,hy,?_⟩
    rw [efn.1,efn.2]
    refine roundIn_of_wpIn trivial ?_
    rw [eact]
    have hx1:=acode_x hT hS hM (G:=mkG W' S' m' stk.heap C.kp) (hGE S' hgl') (r:=some (w.heap.size+1)) (n:=n - 1 - 1) (ds:=[]) assign hsa stk _ _ _ hbk ak W' S' m' hRk2.begin_ hnk
    rw [plusD_nil] at hx1
    refine Go.wpIn_mono hx1 ?_
    rintro e a1' w1 ⟨a1,rfl,he⟩
    rw [plusD_nil]
    cases e with
    | normal =>
      obtain ⟨st1,S1,m1,hb0,hA,hn1⟩:=he
      obtain ⟨hok1,hb⟩:=cond_F hb0
      have j1:=hRk2.join hA hself
      have hnot:∀ {x:Nat} {o:Obj},W'.heap[x]?=some o->o.isCells=false->¬ (mkG W' S' m' stk.heap C.kp).M x:=λ {x o} hx ho ⟨q,blk,u,q1,q2,q3⟩=>hRk2.notObj hokk hx ho q blk u x q1 q2 q3 rfl
      have hl1:w1.heap[w.heap.size+1]?=some (.loop (rec .ready none)):=(hA.frame _ hltl (hnot hl rfl)).trans hl
      have hd1:w1.heap[w.heap.size]?=some (.deferred (some [])):=(hA.frame _ (Array.getElem?_eq_some_iff.1 hd).1 (hnot hd rfl)).trans hd
      have hi1:∀ g,I g->w1.heap[g]?=W'.heap[g]?:=λ g hg=>hA.frame g (by have h1:=hIlt g hg; show g < W'.heap.size; omega) λ ⟨q,blk,u,q1,q2,q3⟩=>hdisk q blk u g q1 q2 q3 hg
      have hp1:∀ g o,I g->S1 g o=none:=λ g o hg=>(hA.pinNew g o (by have h1:=hIlt g hg; show g < W'.heap.size; omega) λ ⟨q,blk,u,q1,q2,q3⟩=>hdisk q blk u g q1 q2 q3 hg).trans (hpi g o hg)
      have hdis1:∀ k' b u g,lk st1.heap k'=some b->m1 k'=some u->bk u=some g->¬ I g:=λ k' b u g q1 q2 q3 q4=>by
        rcases hA.own k' b u g q1 q2 q3 with q | ⟨q,blk,u',r1,r2,r3⟩
        · have h1:=hIlt g q4
          have:W'.heap.size≤g:=q
          omega
        · exact hdisk q blk u' g r1 r2 r3 q4
      have hg1:GOKg glb S1:=λ g cs e=>CC.mono hA.pin0 cs g 0 (hgl' g cs e)
      refine ⟨_,run_beginRound hl1 (by rw [hrec]),?_⟩
      have j2:=j1.obj (o':=.loop { rec .ready none with state:=.busy }) hl1 rfl (by rw [hw0]; omega) (j1.notObj hok1 hl1 rfl)
      obtain ⟨w2,hw2⟩:∃ w2,w2=w1.putObj (w.heap.size+1) (.loop { rec .ready none with state:=.busy }):=⟨_,rfl⟩
      rw [← hw2] at j2 ⊢
      have hl2:w2.heap[w.heap.size+1]?=some (.loop { rec .ready none with state:=.busy }):=by rw [hw2]; exact World.putObj_heap_same (Array.getElem?_eq_some_iff.1 hl1).1
      have hd2:w2.heap[w.heap.size]?=some (.deferred (some [])):=by rw [hw2]; exact (World.putObj_heap_other (by omega)).trans hd1
      have hi2:∀ g,I g->w2.heap[g]?=W'.heap[g]?:=λ g hg=>by
        rw [hw2]; exact (World.putObj_heap_other (by have h1:=hIlt g hg; omega)).trans (hi1 g hg)
      have hx2:=acode_x hT hS hM (G:=mkG w2 S1 m1 st1.heap C.kp) (hGE S1 hg1) (r:=some (w.heap.size+1)) (n:=n - 1 - 1) (ds:=[]) body hsb st1 _ _ _ hb a1 w2 S1 m1 j2.begin_ hn1
      rw [plusD_nil] at hx2
      refine Go.wpIn_mono hx2 ?_
      rintro e a2' w3 ⟨a2,rfl,he⟩
      cases e with
      | normal =>
        obtain ⟨st2,S2,m2,hle,hB,hn2⟩:=he
        have hlt2:w.heap.size+1 < w2.heap.size:=(Array.getElem?_eq_some_iff.1 hl2).1
        have hnot2:∀ {x:Nat} {o:Obj},w2.heap[x]?=some o->o.isCells=false->¬ (mkG w2 S1 m1 st1.heap C.kp).M x:=λ {x o} hx ho ⟨q,blk,u,q1,q2,q3⟩=>j2.notObj hok1 hx ho q blk u x q1 q2 q3 rfl
        have hl3:=(hB.frame _ (Array.getElem?_eq_some_iff.1 hl2).1 (hnot2 hl2 rfl)).trans hl2
        have hd3:=(hB.frame _ (Array.getElem?_eq_some_iff.1 hd2).1 (hnot2 hd2 rfl)).trans hd2
        have hi3:∀ g,I g->w3.heap[g]?=W'.heap[g]?:=λ g hg=>(hB.frame g (by have h1:=hIlt g hg; show g < w2.heap.size; omega) λ ⟨q,blk,u,q1,q2,q3⟩=>hdis1 q blk u g q1 q2 q3 hg).trans (hi2 g hg)
        have hp3:∀ g o,I g->S2 g o=none:=λ g o hg=>(hB.pinNew g o (by have h1:=hIlt g hg; show g < w2.heap.size; omega) λ ⟨q,blk,u,q1,q2,q3⟩=>hdis1 q blk u g q1 q2 q3 hg).trans (hp1 g o hg)
        have hB2:=hB.le hle
        have hdis3:∀ k' b u g,lk (H (k+1)) k'=some b->m2 k'=some u->bk u=some g->¬ I g:=λ k' b u g q1 q2 q3 q4=>by
          rcases hB2.own k' b u g q1 q2 q3 with q | ⟨q,blk,u',r1,r2,r3⟩
          · have h1:=hIlt g q4
            have:w2.heap.size≤g:=q
            omega
          · exact hdis1 q blk u' g r1 r2 r3 q4
        have j3:=(j2.join hB hself).le hle
        have hok3:okHs (H (k+1))=true:=hH (k+1) (by omega)
        have j4:=j3.obj (o':=.loop (rec .ready none)) hl3 rfl (by rw [hw0]; omega) (j3.notObj hok3 hl3 rfl)
        have hend:=run_endRound (P:=P) none hl3
        have erec:({ ({ rec .ready none with state:=.busy }:Loop) with state:=if (none:Option Code).isNone then .ready else .done,pending:=none }:Loop)=rec .ready none:=by rw [hrec]; rfl
        rw [erec] at hend
        refine ⟨_,_,hend,rfl,λ g hg=>?_,S2,hA.pin0.trans hB.pin0,?_⟩
        · exact (World.putObj_heap_other (by have h1:=hIlt g hg; omega)).trans (hi3 g hg)
        rw [hJ]
        refine ⟨World.putObj_heap_same (Array.getElem?_eq_some_iff.1 hl3).1,(World.putObj_heap_other (by omega)).trans hd3,λ g cs e=>CC.mono hB.pin0 cs g 0 (hg1 g cs e),hxt.trans (hA.pin0.trans hB.pin0),hp3,m2,?_,hdis3⟩
        refine hRk.rebase (kp1:=C.kp) j4 (hA.pin0.trans hB.pin0) (λ q u hq hu=>?_) hTm
        obtain ⟨u1,e1,g1⟩:=hA.m0 q u (by simp only [mkG]; rw [if_pos hq]; exact hu)
        obtain ⟨u2,e2,g2⟩:=hB.m0 q u1 (by simp only [mkG]; rw [if_pos hq]; exact e1)
        exact ⟨u2,e2,g1.trans g2⟩
      | exit _=>obtain ⟨_,_,_,q,_⟩:=he; exact q.elim
      | ret=>obtain ⟨_,_,_,q,_⟩:=he; exact q.elim
      | _=>exact he.elim
    | exit _=>obtain ⟨_,_,_,q,_⟩:=he; exact q.elim
    | ret=>obtain ⟨_,_,_,q,_⟩:=he; exact q.elim
    | _=>exact he.elim
  · rintro e W2 ⟨⟨v,rfl⟩,S2,hS2,hj,hY⟩
    rw [hJ] at hj
    obtain ⟨hl,hk,hgl2,_,hp2,m2,h2,hd2⟩:=hj
    refine ⟨none,_,by have:=run_endLoop (P:=P) hl (by rw [hrec]; simp); rw [hrec] at this; exact this,?_⟩
    have h3:=h2.obj (o':=.loop { rec .ready none with state:=.exhausted }) hl rfl (by rw [hw0]; omega) (h2.notObj (hH N (Nat.le_refl _)) hl rfl)
    rw [hG1] at h3
    have hY':HeldL m Hy S2 (W2.putObj (w.heap.size+1) (.loop { rec .ready none with state:=.exhausted })):=λ k b hk=>(hY k b hk).keep (Ext.refl _) (λ _ _ _ h=>h) rfl λ u g hu hg=>by
      obtain ⟨b',e⟩:=hyc k b hk
      have h1:=hIlt g ((hI g).2 ⟨k,b',u,e,hu,hg⟩)
      exact ⟨World.putObj_heap_other (by omega),λ _=>rfl⟩
    have:=hdone _ S2 m2 (hR.join h3 hkp) hS2 hY' hd2 (λ k u q1 q2=>h3.m0 k u (by simp only [mkG]; rw [if_pos q1]; exact q2)) ((World.putObj_heap_other (by omega)).trans hk)
    unfold plusD at this
    rw [ha] at this ⊢
    rw [hrec] at this
    exact this
structure PreOK (ops pre:Array Oper) (K:Nat):Prop where
 sz:pre.size=K
 le:K < ops.size
 at_:∀ i,i < K->pre[i]?=ops[i]?
 back:∀ i o,ops[i]?=some o->∀ e ∈ o.after,Region.binds .any e=true->e.on < i
 all:∀ i,i < K->i ∈ (ancs ops.toList []).getD K []
 nxt:∀ i o,K < i->ops[i]?=some o->∃ e ∈ o.after,Region.binds .any e=true∧e.on=i - 1
 gd:∀ i o,i < K->ops[i]?=some o->∀ j b,o.guard=some (j,b)->j < K
 nd:∀ i o,i < K->ops[i]?=some o->noDef o=true
def chkO (K i:Nat) (o:Oper):Bool :=
 o.after.toList.all (λ e=>!(Region.binds .any e)||Nat.blt e.on i) &&
 ((Nat.ble i K||o.after.toList.any (λ e=>Region.binds .any e&&Nat.beq e.on (i - 1))) &&
 (Nat.ble K i||((match o.guard with | some (j,_)=>Nat.blt j K | none=>true)&&noDef o)))
def chkL (K:Nat):Nat->List Oper->Bool
 | _,[]=>true
 | i,o::l=>chkO K i o&&chkL K (i+1) l
theorem chkL_get {K:Nat}:∀ {l:List Oper} {i j:Nat} {o:Oper},chkL K i l=true->l[j]?=some o->chkO K (i+j) o=true
 | [],_,_,_,_,e=>by simp at e
 | x::l,i,0,o,h,e=>by simp only [chkL,Bool.and_eq_true] at h; simp at e; subst e; exact h.1
 | x::l,i,j+1,o,h,e=>by
  simp only [chkL,Bool.and_eq_true] at h
  have:=chkL_get h.2 (by simpa using e)
  rwa [show i+1+j=i+(j+1) by omega] at this
def preO (ops:Array Oper) (K:Nat):Array Oper:=(ops.toList.take K).toArray
def preB (ops:Array Oper) (K:Nat):Bool:=Nat.blt K ops.size&&(chkL K 0 ops.toList&&(List.range K).all λ i=>inL i ((ancs ops.toList []).getD K []))
theorem preOK_of {ops:Array Oper} {K:Nat} (h:preB ops K=true):PreOK ops (preO ops K) K:=by
 simp only [preB,Bool.and_eq_true,List.all_eq_true,List.mem_range] at h
 obtain ⟨h1,h2,h3⟩:=h
 have hK:K < ops.size:=Nat.le_of_ble_eq_true h1
 have hl:ops.toList.length=ops.size:=by simp
 have hc:∀ i o,ops[i]?=some o->chkO K i o=true:=λ i o e=>by
  have:=chkL_get (j:=i) h2 (by simpa using e)
  rwa [Nat.zero_add] at this
 refine ⟨?_,hK,λ i hi=>?_,λ i o e ed hed hb=>?_,λ i hi=>inL_true.1 (h3 i hi),λ i o hi e=>?_,λ i o hi e j b hg=>?_,λ i o hi e=>?_⟩
 ·simp only [preO,List.size_toArray,List.length_take]; omega
 ·simp only [preO]
  rw [List.getElem?_toArray,List.getElem?_take]
  simp [hi]
 ·have:=hc i o e
  simp only [chkO,Bool.and_eq_true,List.all_eq_true,Bool.or_eq_true,Bool.not_eq_true'] at this
  rcases this.1 ed (Array.mem_toList_iff.2 hed) with q | q
  ·rw [hb] at q; cases q
  ·exact Nat.le_of_ble_eq_true q
 ·have:=hc i o e
  simp only [chkO,Bool.and_eq_true,Bool.or_eq_true] at this
  rcases this.2.1 with q | q
  ·have:=Nat.le_of_ble_eq_true q; omega
  ·obtain ⟨ed,hed,q⟩:=List.any_eq_true.1 q
   simp only [Bool.and_eq_true] at q
   exact ⟨ed,Array.mem_toList_iff.1 hed,q.1,Nat.eq_of_beq_eq_true q.2⟩
 ·have:=hc i o e
  simp only [chkO,Bool.and_eq_true,Bool.or_eq_true] at this
  rcases this.2.2 with q | q
  ·have:=Nat.le_of_ble_eq_true q; omega
  ·rw [hg] at q; exact Nat.le_of_ble_eq_true q.1
 ·have:=hc i o e
  simp only [chkO,Bool.and_eq_true,Bool.or_eq_true] at this
  rcases this.2.2 with q | q
  ·have:=Nat.le_of_ble_eq_true q; omega
  ·exact q.2
section
variable {P:Program} {ops pre:Array Oper} {K:Nat} {n:Nat} {r:Option Nat} {Q:Exit->Act->World->Prop}
theorem any_tail (h:PreOK ops pre K):∀ (d F t:Nat) (li:Array Bool) (a:Act) (w:World),t+d=ops.size->K≤t->d≤F->(∀ i,i < t->li.getD i false=true)->(∀ i,t≤i->i < ops.size->li.getD i true=false)->wpListIn (Fr r) n P ops Q (ops.toList.drop t) a w->wpAnyIn (Fr r) n P .any ops Q F li a w
 | 0,F,t,li,a,w,ht,hK,hF,h1,h2,hl=>by
  have hr:Region.ready .any ops li=[]:=by
   apply List.eq_nil_iff_forall_not_mem.2
   intro j hj
   obtain ⟨q0,o,ho,_⟩:=mem_ready.1 hj
   have hlt:=(Array.getElem?_eq_some_iff.1 ho).1
   have:=h1 j (by omega)
   simp only [Array.getD_eq_getD_getElem?] at this q0
   cases e:li[j]? with
   | none=>rw [e] at this; cases this
   | some b=>rw [e] at this q0; simp at this q0; rw [this] at q0; cases q0
  rw [List.drop_eq_nil_of_le (by simp; omega)] at hl
  cases F with
  | zero=>exact ⟨hr,hl⟩
  | succ F=>exact ⟨λ _=>hl,λ i hi=>by rw [hr] at hi; cases hi⟩
 | d+1,0,t,li,a,w,ht,hK,hF,h1,h2,hl=>by omega
 | d+1,F+1,t,li,a,w,ht,hK,hF,h1,h2,hl=>by
  have hlt:t < ops.size:=by omega
  have ho:ops[t]?=some ops[t]:=Array.getElem?_eq_getElem hlt
  have hrd:t ∈ Region.ready .any ops li:=mem_ready.2 ⟨h2 t (Nat.le_refl _) hlt,_,ho,λ e he hb=>h1 _ (h.back t _ ho e he hb)⟩
  refine ⟨λ e=>(by rw [e] at hrd; cases hrd),λ j hj=>?_⟩
  obtain ⟨q0,o,hj1,hj2⟩:=mem_ready.1 hj
  have hjs:=(Array.getElem?_eq_some_iff.1 hj1).1
  have hjt:j=t:=by
   rcases Nat.lt_trichotomy j t with q | q | q
   ·have:=h1 j q
    simp only [Array.getD_eq_getD_getElem?] at this q0
    cases e:li[j]? with
    | none=>rw [e] at this; cases this
    | some b=>rw [e] at this q0; simp at this q0; rw [this] at q0; cases q0
   ·exact q
   ·obtain ⟨e,he,hb,hon⟩:=h.nxt j o (by omega) hj1
    have q1:=hj2 e he hb
    have q2:=h2 e.on (by omega) (by omega)
    simp only [Array.getD_eq_getD_getElem?] at q1 q2
    cases e':li[e.on]? with
    | none=>rw [e'] at q1; cases q1
    | some b=>rw [e'] at q1 q2; simp at q1 q2; rw [q1] at q2; cases q2
  subst hjt
  have hd:ops.toList.drop j=ops[j]::ops.toList.drop (j+1):=by
   rw [List.drop_eq_getElem_cons (by simpa using hlt)]; simp
  rw [hd] at hl
  have hli:j < li.size:=by
   rcases Nat.lt_or_ge j li.size with q | q
   ·exact q
   ·have:=h2 j (Nat.le_refl _) hlt
    simp [Array.getElem?_eq_none q] at this
  have next:∀ a w,wpListIn (Fr r) n P ops Q (ops.toList.drop (j+1)) a w->wpAnyIn (Fr r) n P .any ops Q F (li.setIfInBounds j true) a w:=λ a w hl =>
   any_tail h d F (j+1) _ a w (by omega) (by omega) (by omega) (λ i hi=>by
    by_cases e:j=i
    ·subst e; simp [hli]
    ·rw [getD_set_ne false e]; exact h1 i (by omega)) (λ i h3 h4=>by rw [getD_set_ne true (by omega)]; exact h2 i (by omega) h4) hl
  unfold wpOpIn
  rw [ho]
  unfold wpListIn at hl
  simp only
  split
  ·rename_i hw
   rw [if_pos hw] at hl
   exact wpIn_next hl next
  ·rename_i hw
   rw [if_neg hw] at hl
   exact ⟨hl.1,next _ _ hl.2⟩
theorem wop_pre (h:PreOK ops pre K) {Qp:Exit->Act->World->Prop} (hQ:noBad Qp) {i:Nat} (hi:i < K) {K1 K2:Act->World->Prop} (hk:∀ a w,K1 a w->K2 a w) {a:Act} {w:World} (hw:wpOp P pre Qp i K1 a w):wpOpIn (Fr r) n P ops Q i K2 a w:=by
 have he:=h.at_ i hi
 unfold wpOp at hw
 unfold wpOpIn
 rw [he] at hw
 cases ho:ops[i]? with
 | none=>simp only [ho] at hw ⊢; exact hk _ _ hw
 | some o =>
  simp only [ho] at hw ⊢
  have hwant:Region.wanted o (yielded ops a.tmps)=Region.wanted o (yielded pre a.tmps):=by
   unfold Region.wanted
   cases hg:o.guard with
   | none=>rfl
   | some p =>
    obtain ⟨j,b⟩:=p
    have hj:=h.gd i o hi ho j b hg
    simp only [yielded]
    rw [h.at_ j hj]
  rw [hwant]
  split
  ·rename_i q
   rw [if_pos q] at hw
   rcases hw with hw | hw
   ·have:=op_x (r:=r) (n:=n) (ds:=[]) (Q':=Q) hQ (noDef_of (h.nd i o hi ho)) hw
    rw [plusD_nil] at this
    exact wpIn_next this λ a' w' ⟨a0,e,q⟩=>by rw [e,plusD_nil]; exact hk _ _ q
   ·exact absurd hw.2 hQ.out
  ·rename_i q
   rw [if_neg q] at hw
   exact ⟨λ _ _=>trivial,hk _ _ hw⟩
theorem least_un {D:Nat->Bool}:∀ {K:Nat},(∃ i,i < K∧D i=false)->∃ i,i < K∧D i=false∧∀ j,j < i->D j=true
 | 0,⟨i,h,_⟩=>by omega
 | K+1,⟨i,h,hd⟩=>by
  by_cases q:∃ i,i < K∧D i=false
  ·obtain ⟨i,h1,h2,h3⟩:=least_un q
   exact ⟨i,by omega,h2,h3⟩
  ·refine ⟨i,h,hd,λ j hj=>?_⟩
   cases e:D j with
   | true=>rfl
   | false=>exact absurd ⟨j,by omega,e⟩ q
theorem any_pre (h:PreOK ops pre K) {Qp:Exit->Act->World->Prop} (hQ:noBad Qp) (hl:∀ a w,Qp .normal a w->wpListIn (Fr r) n P ops Q (ops.toList.drop K) a w) :
  ∀ (f:Nat) (lp li:Array Bool) (a:Act) (w:World),lp.size=K->li.size=ops.size->(∀ i,i < K->lp[i]?=li[i]?)->(∀ i,K≤i->i < ops.size->li.getD i true=false)->Closed ops (λ i=>li.getD i false) ->
   wpAny P .any pre Qp f lp a w->wpAnyIn (Fr r) n P .any ops Q (f+(ops.size - K)) li a w:=by
 have hK:=h.le
 have eqD:∀ (lp li:Array Bool) (i:Nat) (d:Bool),lp[i]?=li[i]?->lp.getD i d=li.getD i d:=λ lp li i d e=>by
  simp only [Array.getD_eq_getD_getElem?,e]
 have tr:∀ (lp li:Array Bool),(∀ i,i < K->lp[i]?=li[i]?)->∀ i,i < K->(i ∈ Region.ready .any pre lp↔i ∈ Region.ready .any ops li):=λ lp li he i hi=>by
  rw [mem_ready,mem_ready,eqD lp li i true (he i hi),h.at_ i hi]
  refine and_congr_right λ _=>exists_congr λ o=>and_congr_right λ ho=>?_
  refine forall_congr' λ e=>forall_congr' λ hm=>forall_congr' λ hb=>?_
  have:=h.back i o ho e hm hb
  rw [eqD lp li e.on false (he _ (by omega))]
 have stuck:∀ (lp li:Array Bool),lp.size=K->(∀ i,i < K->lp[i]?=li[i]?)->(∀ i,i < K->li.getD i false=true)->Region.ready .any pre lp=[]:=λ lp li hs he hall=>by
  apply List.eq_nil_iff_forall_not_mem.2
  intro i hi
  obtain ⟨q0,o,ho,_⟩:=mem_ready.1 hi
  have hlt:i < K:=by have:=(Array.getElem?_eq_some_iff.1 ho).1; rw [h.sz] at this; exact this
  have q1:=hall i hlt
  rw [eqD lp li i true (he i hlt)] at q0
  simp only [Array.getD_eq_getD_getElem?] at q0 q1
  cases e:li[i]? with
  | none=>rw [e] at q1; cases q1
  | some b=>rw [e] at q0 q1; simp at q0 q1; rw [q1] at q0; cases q0
 have first:∀ (li:Array Bool),li.size=ops.size->(¬ ∀ i,i < K->li.getD i false=true)->∃ i,i < K∧li.getD i false=false∧i ∈ Region.ready .any ops li:=λ li hs hn=>by
  obtain ⟨i,h1,h2,h3⟩:=least_un (K:=K) (D:=λ i=>li.getD i false) (by
   refine Classical.byContradiction λ q=>hn λ i hi=>?_
   cases e:li.getD i false with
   | true=>rfl
   | false=>exact absurd ⟨i,hi,e⟩ q)
  refine ⟨i,h1,h2,mem_ready.2 ⟨?_,ops[i]'(by omega),Array.getElem?_eq_getElem _,λ e he hb=>h3 _ (h.back i _ (Array.getElem?_eq_getElem _) e he hb)⟩⟩
  have hlt:i < li.size:=by omega
  simp only [Array.getD_eq_getD_getElem?,Array.getElem?_eq_getElem hlt,Option.getD_some] at h2 ⊢
  exact h2
 intro f
 induction f with
 | zero =>
  intro lp li a w hlp hli he hlate hcl hw
  by_cases hall:∀ i,i < K->li.getD i false=true
  ·exact any_tail h (ops.size - K) _ K li a w (by omega) (Nat.le_refl _) (by omega) hall hlate (hl a w hw.2)
  ·obtain ⟨i,h1,h2,h3⟩:=first li hli hall
   have:=(tr lp li he i h1).2 h3
   rw [hw.1] at this; cases this
 | succ f ih =>
  intro lp li a w hlp hli he hlate hcl hw
  by_cases hall:∀ i,i < K->li.getD i false=true
  ·exact any_tail h (ops.size - K) _ K li a w (by omega) (Nat.le_refl _) (by omega) hall hlate (hl a w (hw.1 (stuck lp li hlp he hall)))
  ·obtain ⟨i0,h1,h2,h3⟩:=first li hli hall
   rw [show f+1+(ops.size - K)=(f+(ops.size - K))+1 by omega]
   refine ⟨λ e=>(by rw [e] at h3; cases h3),λ i hi=>?_⟩
   have hi':=hi
   obtain ⟨q0,o,ho,hdep⟩:=mem_ready.1 hi'
   have his:=(Array.getElem?_eq_some_iff.1 ho).1
   have hcl':Closed ops (λ j=>(li.setIfInBounds i true).getD j false):=by
    intro j o' hj hd e hm hb
    simp only at hd ⊢
    by_cases q:i=j
    ·subst q
     rw [ho] at hj
     injection hj with hj
     subst hj
     exact getD_set_true (hdep e hm hb)
    ·rw [getD_set_ne false q] at hd
     exact getD_set_true (hcl j o' hj hd e hm hb)
   have hiK:i < K:=by
    rcases Nat.lt_trichotomy i K with q | q | q
    ·exact q
    ·subst q
     exfalso
     have:=ancs_ok hcl' ops.toList [] (λ j=>by simp) (λ p q hp hq=>by simp at hq) i i0 (by simp [hli,his]) (h.all i0 h1)
     rw [getD_set_ne false (by omega),h2] at this
     cases this
    ·exfalso
     obtain ⟨e,hm,hb,hon⟩:=h.nxt i o q ho
     have q1:=hdep e hm hb
     have q2:=hlate e.on (by omega) (by omega)
     simp only [Array.getD_eq_getD_getElem?] at q1 q2
     cases e':li[e.on]? with
     | none=>rw [e'] at q1; cases q1
     | some b=>rw [e'] at q1 q2; simp at q1 q2; rw [q1] at q2; cases q2
   refine wop_pre h hQ hiK (λ a w q=>ih (lp.setIfInBounds i true) (li.setIfInBounds i true) a w (by simp [hlp]) (by simp [hli]) (λ j hj=>?_) (λ j h4 h5=>?_) hcl' q) (hw.2 i ((tr lp li he i hiK).2 hi))
   ·rw [Array.getElem?_setIfInBounds,Array.getElem?_setIfInBounds,he j hj,hlp,hli]
    by_cases q:i=j
    ·subst q; simp [hiK,his]
    ·simp [q]
   ·rw [getD_set_ne true (by omega)]; exact hlate j h4 h5
theorem split_in (hM:P.follows .mixedOrders=true) {id:Nat} (hb:preB ops K=true) {Qp:Exit->Act->World->Prop} (hQ:noBad Qp) {a:Act} {w:World} (hw:wpAny P .any (preO ops K) Qp (preO ops K).size (Array.replicate (preO ops K).size false) a { w with drawn:=w.drawn+1 })
  (hl:∀ a w,Qp .normal a w->wpListIn (Fr r) n P ops Q (ops.toList.drop K) a w):(Code.region id ops true).wpIn (Fr r) n P Q a w:=by
 have h:=preOK_of hb
 have hK:=h.le
 refine wpIn_region_any hM ?_
 have:=any_pre (r:=r) (n:=n) h hQ hl (preO ops K).size (Array.replicate (preO ops K).size false) (Array.replicate ops.size false) a { w with drawn:=w.drawn+1 } (by simp [h.sz]) (by simp) (λ i hi=>by
  rw [Array.getElem?_replicate,Array.getElem?_replicate,h.sz]
  simp [hi,Nat.lt_trans hi hK]) (λ i h1 h2=>by
  simp [Array.getD_eq_getD_getElem?,Array.getElem?_replicate,h2]) (λ j o hj hd=>by
  simp only [Array.getD_eq_getD_getElem?,Array.getElem?_replicate] at hd
  split at hd <;> simp at hd) hw
 rwa [h.sz,show K+(ops.size - K)=ops.size by omega] at this
end
def IN (m:Nm) (H:List (Nat × Blk)):Nat->Prop:=λ g=>∃ k b u,lk H k=some b∧m k=some u∧bk u=some g
def InjN (m:Nm) (H:List (Nat × Blk)):Prop:=∀ k k' b b' u u' g,lk H k=some b->lk H k'=some b'->k≠k'->m k=some u->m k'=some u'->bk u=some g->bk u'≠some g
structure ItW (gf c1 c2:Nat) (Hx:List (Nat × Blk)) (kn:Nat) (cn:List AV) (N:Nat) (x0:Nat->AV):Prop where
 lt:Nat.blt gf fnB=true
 en:∀ args w,(callFunc gf args).run Tryz.prog w=.ok (.enter gf args) w
 it:∀ (m:Nm) (g1 g2:Nat),m c1=some (.pointer (some ⟨g1,0,none⟩))->m c2=some (.pointer (some ⟨g2,0,none⟩))->InjN m Hx->IterW Tryz.prog gf #[.pointer (some ⟨g1,0,none⟩),.pointer (some ⟨g2,0,none⟩)] (IN m Hx) x0 N (HeldL m Hx) (HeldL m [(kn,.cells cn)])
structure RLW where
 gf:Nat
 c1:Nat
 c2:Nat
 N:Nat
 x0:Nat->AV
 T:List (Nat × AV)
 Hx:List (Nat × Blk)
 kn:Nat
 cn:List AV
 H:Nat->List (Nat × Blk)
 kp:List Nat
def allC:List (Nat × Blk)->Bool
 | []=>true
 | (_,.cells _)::l=>allC l
 | _=>false
theorem allC_get:∀ {l:List (Nat × Blk)} {k:Nat} {b:Blk},allC l=true->lk l k=some b->∃ cs,b=.cells cs
 | [],k,b,_,e=>by simp [lk] at e
 | (j,c)::l,k,b,h,e=>by
  cases c with
  | cells cs =>
   rw [lk_cons] at e
   split at e
   ·simp only [Option.some.injEq] at e; exact ⟨cs,e.symm⟩
   ·exact allC_get (by simpa only [allC] using h) e
  | _=>simp [allC] at h
def disH (Hx:List (Nat × Blk)):List (Nat × Blk)->Bool
 | []=>true
 | (k,_)::l=>!(hasH k Hx)&&disH Hx l
theorem disH_get {Hx:List (Nat × Blk)}:∀ {l:List (Nat × Blk)} {k:Nat} {b:Blk},disH Hx l=true->lk l k=some b->lk Hx k=none
 | [],k,b,_,e=>by simp [lk] at e
 | (j,c)::l,k,b,h,e=>by
  simp only [disH,Bool.and_eq_true,Bool.not_eq_true'] at h
  rw [lk_cons] at e
  split at e
  ·rename_i q; subst q; exact hasH_no h.1
  ·exact disH_get h.2 e
def noNm':List AV->Bool
 | []=>true
 | .int _ _::l=>noNm' l
 | _=>false
theorem noNm'_cv {S:Pin} {m m':Nm}:∀ {cs:List AV} {vs:List Value},noNm' cs=true->CVl S cs m vs->CVl S cs m' vs
 | [],vs,_,h=>by simp only [CVl] at h ⊢; exact h
 | x::l,vs,hn,h=>by
  cases x with
  | int k v =>
   simp only [CVl] at h ⊢
   obtain ⟨u,us,e,h1,h2⟩:=h
   exact ⟨u,us,e,by simp only [CV] at h1 ⊢; exact h1,noNm'_cv (by simpa only [noNm'] using hn) h2⟩
  | _=>simp [noNm'] at hn
def rlwK (P:Program) (E:Env) (C:Cx) (inv:Nat->St->Option LInv) (fuel:Nat) (g:Operand) (ps:List Nat) (assign body:Code) (st:St) (L:RLW) (kn:Prop):Prop:=match g,ps with
 | .tmp tg,[p0]=>cond (Nat.blt p0 C.nt&&simpleC assign&&simpleC body&&!(hasT tg L.T)&&allC L.Hx&&hasH L.kn L.Hx&&disH L.Hx (L.H 0)&&!(hasH L.kn (L.H L.N))&&noNm' L.cn&&inL L.kn L.kp)
   (ItW L.gf L.c1 L.c2 L.Hx L.kn L.cn L.N L.x0∧leS st ⟨(tg,.fn L.gf [.ptr L.c1 0,.ptr L.c2 0])::L.T,L.Hx++L.H 0⟩∧kpT L.kp L.T∧(∀ k,k≤L.N->okHs (L.H k)=true) ∧
    (∀ k,k < L.N->acode P E { C with kp:=L.kp } inv fuel assign (St.put ⟨L.T,L.H k⟩ p0 (L.x0 k)) (λ st1=>cond (okHs st1.heap) (acode P E { C with kp:=L.kp } inv fuel body st1 (λ st2=>leS st2 ⟨[],L.H (k+1)⟩) (λ _ _=>False) (λ _=>False)) False) (λ _ _=>False) (λ _=>False))∧kn) False
 | _,_=>False
def acW (P:Program) (E:Env) (C:Cx) (inv:Nat->St->Option LInv) (fuel:Nat) (rl:St->Option RLW):Code->Bool->St->(Bool->St->Prop)->(Bool->St->Prop)->Prop
 | .seq a b,d,st,kn,kr=>acW P E C inv fuel rl a d st (λ d' st'=>acW P E C inv fuel rl b d' st' kn kr) kr
 | .block id (.rangeFunc g ps assign body),d,st,kn,kr=>(match d,rl st with
  | false,some L=>rlwK P E C inv fuel g ps.toList assign body st L (kn true ⟨L.T,(L.kn,.cells L.cn)::L.H L.N⟩)
  | _,_=>False)
 | c,d,st,kn,kr=>cond d (cond (simpleC c) (cond (okHs st.heap) (acode P E C inv fuel c st (kn true) (λ _ _=>False) (kr true)) False) False) (acode P E C inv fuel c st (kn false) (λ _ _=>False) (kr false))
theorem hasH_yes {t:Nat}:∀ {T:List (Nat × Blk)},hasH t T=true->∃ b,lk T t=some b
 | [],h=>by simp [hasH] at h
 | (j,y)::l,h=>by
  rw [lk_cons]
  simp only [hasH,Bool.or_eq_true] at h
  by_cases q:t=j
  ·exact ⟨y,if_pos q⟩
  ·rw [if_neg q]
   rcases h with h | h
   ·exact absurd (Nat.eq_of_beq_eq_true h).symm q
   ·exact hasH_yes h
theorem rlw_x {E:Env} {C:Cx} {inv:Nat->St->Option LInv} {fuel:Nat} (hT:TyOK Tryz.prog C.tys) (hS:SpecOK Tryz.prog E) (hGE:E.glob=glb) {G:Gh} (hG:GOKg glb G.S0) {n:Nat} {id:Nat} {g:Operand} {ps:Array Tmp} {assign body:Code} {st:St} {L:RLW} {kn kr:Bool->St->Prop}
  (h:rlwK Tryz.prog E C inv fuel g ps.toList assign body st L (kn true ⟨L.T,(L.kn,.cells L.cn)::L.H L.N⟩)) {a:Act} {w:World} {S:Pin} {m:Nm} (hR:Rel G [] st a w S m) (hn:a.tmps.size=C.nt):(Code.block id (.rangeFunc g ps assign body)).wpIn Fence.wide n Tryz.prog (EndQ G C kn kr) a w:=by
 unfold rlwK at h
 split at h
 ·rename_i tg p0 hps
  obtain rfl:ps=#[p0]:=Array.toList_inj.1 hps
  obtain ⟨hb,hq,hle,hkT,hok,hbody,hkn⟩:=cond_F h
  simp only [Bool.and_eq_true,Bool.not_eq_true'] at hb
  obtain ⟨⟨⟨⟨⟨⟨⟨⟨⟨b0,b1⟩,b2⟩,b3⟩,b4⟩,b5⟩,b6⟩,b7⟩,b8⟩,b9⟩:=hb
  have hgS:GOKg glb S:=λ g cs e=>CC.mono hR.pin0 cs g 0 (hG g cs e)
  have hR1:=hR.le hle
  have hfv:=hR1.tmps tg
  have e1:St.get ⟨(tg,.fn L.gf [.ptr L.c1 0,.ptr L.c2 0])::L.T,L.Hx++L.H 0⟩ tg=.fn L.gf [.ptr L.c1 0,.ptr L.c2 0]:=by
   unfold St.get; simp only; rw [lk_cons,if_pos rfl]
  rw [e1] at hfv
  simp only [CV,CVl] at hfv
  obtain ⟨us,hfv,v1,vs1,hus,⟨g1,hg1,rfl⟩,v2,vs2,rfl,⟨g2,hg2,rfl⟩,rfl⟩:=hfv
  obtain rfl:us=#[.pointer (some ⟨g1,0,none⟩),.pointer (some ⟨g2,0,none⟩)]:=Array.toList_inj.1 hus
  rw [fnV_lt hq.lt] at hfv
  have hR3:Rel G [] ⟨L.T,L.Hx++L.H 0⟩ a w S m:={ hR1 with
   defers:=hR1.defers
   held:=hR1.held
   inj:=hR1.inj
   own:=hR1.own
   tmps:=λ t=>by
    have:=hR1.tmps t
    unfold St.get at this ⊢
    simp only at this ⊢
    rw [lk_cons] at this
    by_cases q:t=tg
    ·subst q
     rw [hasT_no b3]; simp only [CV]
    ·rw [if_neg q] at this; exact this }
  have x1:∀ k b,lk L.Hx k=some b->lk (L.Hx++L.H 0) k=some b:=λ k b e=>by rw [lk_app,e]
  have x2:∀ k b,lk (L.H 0) k=some b->lk L.Hx k=none∧lk (L.Hx++L.H 0) k=some b:=λ k b e=>by
   have:=disH_get b6 e
   exact ⟨this,by rw [lk_app,this]; exact e⟩
  have hinj:InjN m L.Hx:=λ k k' b b' u u' g q1 q2 q3 q4 q5 q6=>hR3.inj k k' b b' u u' g (x1 k b q1) (x1 k' b' q2) q3 q4 q5 q6
  obtain ⟨bn,hbn⟩:=hasH_yes b5
  obtain ⟨cs0,hcs0⟩:=allC_get b4 hbn
  subst hcs0
  obtain ⟨gn,arr0,t0,hgn,_,_,_⟩:=hR3.held L.kn _ (x1 _ _ hbn)
  refine wpIn_block (range1 (C:={ C with kp:=L.kp }) hT hS (by kernel_rfl) (kp:=[]) (kp1:=L.kp) rfl (λ k hk=>by cases hk) (λ S h=>by unfold GOK; rw [hGE]; exact h) hgS hR3 hn x1 x2 (λ k b e=>allC_get b4 e)
   (Hy:=[(L.kn,.cells L.cn)]) (λ k b e=>by
    rw [lk_cons] at e
    split at e
    ·rename_i q; subst q; exact ⟨_,hbn⟩
    ·simp [lk] at e) (I:=IN m L.Hx) (λ g=>Iff.rfl) (gf:=L.gf) (lb:=#[.pointer (some ⟨g1,0,none⟩),.pointer (some ⟨g2,0,none⟩)]) (by
   show a.tmps.getD tg undef=_
   exact hfv) hq.en (hq.it m g1 g2 hg1 hg2 hinj) (Nat.le_of_ble_eq_true b0) (kpT_get hkT) b1 b2 hok hbody ?_)
  intro W S' m' h1 h2 h3 h4 h5 h6
  have hh:=h3 L.kn (.cells L.cn) (by rw [lk_cons,if_pos rfl])
  obtain ⟨g',arr,t,q1,q2,q3,q4⟩:=hh
  rw [hgn] at q1
  injection q1 with q1
  injection q1 with q1
  injection q1 with q1
  injection q1 with q1 _ _
  subst q1
  have hm':m' L.kn=some (.pointer (some ⟨gn,0,none⟩)):=by
   obtain ⟨u',e',hgo⟩:=h5 L.kn _ b9 hgn
   rcases hgo with rfl | ⟨A,n',c,A',n'',c',_,⟨e,_⟩ | ⟨e,_⟩⟩
   ·exact e'
   ·cases e
   ·cases e
  have hI:IN m L.Hx gn:=⟨L.kn,_,_,hbn,hgn,rfl⟩
  refine ⟨true,_,a,_,S',m',rfl,⟨_,rfl,h6,hR.size⟩,hkn,?_,hn⟩
  refine h1.addC ⟨gn,arr,t,hm',q2,noNm'_cv b8 q3,q4⟩ (hasH_no b7) (λ u g e1 e2=>?_) (λ k' b u g u' r1 r2 r3 r4 r5=>?_)
  ·rw [hm'] at e1
   injection e1 with e1
   subst e1
   exact hR3.own L.kn _ _ g (x1 _ _ hbn) hgn e2
  ·rw [hm'] at r4
   injection r4 with r4
   subst r4
   simp only [bk,Option.some.injEq] at r5
   subst r5
   exact h4 k' b u gn r1 r2 r3 hI
 ·exact h.elim
theorem acW_sound {E:Env} {C:Cx} {inv:Nat->St->Option LInv} {fuel:Nat} {rl:St->Option RLW} (hT:TyOK Tryz.prog C.tys) (hS:SpecOK Tryz.prog E) (hC:C.kp=[]) (hGE:E.glob=glb) {G:Gh} (hG:GOKg glb G.S0) {n:Nat} :
  ∀ (c:Code) (d:Bool) (st:St) (kn kr:Bool->St->Prop),acW Tryz.prog E C inv fuel rl c d st kn kr->∀ (a:Act) (w:World) (S:Pin) (m:Nm) (ds:List Deferred),Mark G d ds w->Rel G [] st a w S m->a.tmps.size=C.nt->c.wpIn Fence.wide n Tryz.prog (EndQ G C kn kr) (plusD ds a) w:=by
 intro c
 induction c with
 | seq x y ihx ihy =>
  intro d st kn kr h a w S m ds hD hR hn
  unfold acW at h
  refine wpIn_seq (Go.wpIn_mono (ihx d st _ kr h a w S m ds hD hR hn) ?_)
  intro e a' w' he
  cases e with
  | normal =>
   obtain ⟨d',ds',a0,st',S',m',rfl,hD',hk,hR',hn'⟩:=he
   exact ihy d' st' kn kr hk a0 w' S' m' ds' hD' hR' hn'
  | ret=>exact he
  | _=>exact he.elim
 | block id b ih =>
  intro d st kn kr h a w S m ds hD hR hn
  by_cases hb:∃ g ps x y,b=.rangeFunc g ps x y
  ·obtain ⟨g,ps,x,y,rfl⟩:=hb
   unfold acW at h
   split at h
   ·rename_i L hL
    have hds:ds=[]:=hD
    subst hds
    rw [plusD_nil]
    exact rlw_x hT hS hGE hG h hR hn
   ·exact h.elim
  ·refine leaf_x (inv:=inv) (fuel:=fuel) hT hS hC hGE hG ?_ hD hR hn
   cases b with
   | rangeFunc g ps x y=>exact absurd ⟨g,ps,x,y,rfl⟩ hb
   | _=>exact h
 | _ =>
  intro d st kn kr h a w S m ds hD hR hn
  exact leaf_x (inv:=inv) (fuel:=fuel) hT hS hC hGE hG h hD hR hn
@[irreducible] def fnW (P:Program) (E:Env) (C:Cx) (inv:Nat->St->Option LInv) (fuel:Nat) (rl:St->Option RLW) (fn:Func) (xs:List AV) (r:AV):Prop :=
 match fn.body with
 | some c=>cond (Nat.beq C.nt fn.ntmps&&Nat.ble xs.length fn.ntmps) (acW P E C inv fuel rl c false ⟨slots xs 0,[]⟩ (resR P E C fn r) (resR P E C fn r)) False
 | none=>False
theorem fnW_sound {E:Env} {C:Cx} {inv:Nat->St->Option LInv} {fuel:Nat} {rl:St->Option RLW} (hT:TyOK Tryz.prog C.tys) (hS:SpecOK Tryz.prog E) (hGE:E.glob=glb) {f:FuncId} {fn:Func} (hf:Tryz.prog.funcs[f]?=some fn) (hkp:C.kp=[]) {xs:List AV} {r:AV}
    (h:fnW Tryz.prog E C inv fuel rl fn xs r):PureC Tryz.prog glb f xs r:=by
  intro w S vs hG hA hv
  unfold fnW at h
  split at h
  · rename_i c hc
    obtain ⟨hb,h⟩:=cond_F h
    simp only [Bool.and_eq_true] at hb
    have hnt:=Nat.eq_of_beq_eq_true hb.1
    have hle:=Nat.le_of_ble_eq_true hb.2
    have hlen:=hv.len
    simp only [Array.length_toList] at hlen
    obtain ⟨G,hGd⟩:∃ G:Gh,G=⟨w,S,noNm,λ _=>False⟩:=⟨_,rfl⟩
    have hR0:Rel G [] ⟨slots xs 0,[]⟩ { tmps:=vs++Array.replicate (fn.ntmps - vs.size) undef,defers:=[] } w S noNm:=by
      subst hGd
      exact
      { defers:=rfl
        pin0:=Ext.refl S
        pinNew:=λ _ _ _ _=>rfl
        agree:=hA
        tmps:=λ t=>by
          unfold St.get
          rw [slots_lk]
          simp only [Nat.zero_le,if_true,Nat.sub_zero]
          cases e:xs[t]? with
          | none=>simp only [CV]
          | some x =>
            obtain ⟨v,hv1,hv2⟩:=hv.get e
            have hlt:t < vs.size:=by have:=(List.getElem?_eq_some_iff.1 hv1).1; simpa using this
            have:vs[t]?=some v:=by simpa using hv1
            simp only [Array.getD_eq_getD_getElem?,Array.getElem?_append_left hlt,this,Option.getD_some]
            exact hv2
        held:=λ k b hk=>by simp [lk] at hk
        inj:=λ k k' b b' u u' g hk=>by simp [lk] at hk
        own:=λ k b u g hk=>by simp [lk] at hk
        os:=rfl
        tape:=rfl
        output:=rfl
        size:=Nat.le_refl _
        frame:=λ _ _ _=>rfl
        m0:=MLe.refl _
        keep:=λ k u e=>by cases e }
    have hGS:GOKg glb G.S0:=by rw [hGd]; exact hG
    have hrun:=acW_sound (n:=3) hT hS hkp hGE hGS c false _ _ _ h _ w S noNm [] rfl hR0 (by simp; omega)
    rw [plusD_nil] at hrun
    refine callsIn_wide.1 (callsIn_of_wp_marks (n:=3) hf hc trivial (Go.wpIn_mono hrun ?_))
    have fin:∀ st a w' S0 m0,resF Tryz.prog E C st fn.results.toList (λ x=>strip x λ y=>le y r)->Rel G [] st a w' S0 m0->∃ v,(results fn a.tmps).run Tryz.prog w'=.ok v w' ∧
          ∃ u S',Ending.returned v=.returned u∧Below w.heap.size w w'∧Ext S S'∧(∀ b o,b < w.heap.size->S' b o=S b o)∧Agree S' w'∧CV S' r noNm u:=by
      intro st0 a w' S0 m0 hk0 hR0
      unfold resF at hk0
      rw [hkp] at hk0
      obtain ⟨st,S',m,hk,hR⟩:=frzN_sound _ _ S0 m0 _ hk0 hR0
      obtain ⟨x,v,h1,h2,h3⟩:=resK_sound (C:=C) (by rw [hkp]; exact hR) hk
      obtain ⟨y,h4,h5⟩:=strip_sound _ _ h1
      subst hGd
      exact ⟨v,h3,v,S',rfl,⟨hR.os,hR.tape,hR.output,hR.size,λ b hb=>hR.frame b hb (λ q=>q)⟩,hR.pin0,λ b o hb=>hR.pinNew b o hb (λ q=>q),hR.agree,le_sound _ _ _ _ h4 (h5 S' m v h2)⟩
    have key:∀ a' w',(∃ d ds a0 st S m,a'=plusD ds a0∧Mark G d ds w'∧resR Tryz.prog E C fn r d st∧Rel G [] st a0 w' S m∧a0.tmps.size=C.nt)->LeavesInM Fence.wide 3 Tryz.prog fn a'.tmps (λ e w'=>∃ u S',e=.returned u∧Below w.heap.size w w'∧Ext S S'∧(∀ b o,b < w.heap.size->S' b o=S b o)∧Agree S' w'∧CV S' r noNm u) a'.defers .returning w':=by
      rintro a' w' ⟨d,ds,a0,st,S1,m1,rfl,hD,hk,hR,hn⟩
      have hd0:=hR.defers
      show LeavesInM Fence.wide 3 Tryz.prog fn a0.tmps _ (a0.defers++ds) .returning w'
      rw [hd0,List.nil_append]
      cases d with
      | false =>
        obtain rfl:ds=[]:=hD
        exact fin st a0 w' S1 m1 hk hR
      | true =>
        obtain ⟨D,rfl,hd,hDs⟩:=(show ∃ D,_ from hD)
        obtain ⟨hok,hk⟩:=cond_F (show cond (okHs st.heap) _ False from hk)
        refine ⟨by simp,.inl ⟨_,_,rfl,run_takeDeferred hd,?_⟩⟩
        exact fin st a0 _ S1 m1 hk (hR.obj hd rfl hDs (hR.notObj hok hd rfl))
    intro e a' w' he
    cases e with
    | normal=>exact key a' w' he
    | ret=>exact key a' w' he
    | _=>exact he.elim
  · exact h.elim
def fmks_s:SpH
 | [.ptr 0 0,.agg [.int .i64 s,.int .i64 n,.sl 1 g ds,.sl 1 h fs]],[.cells [.int .i64 a,.int .i64 b,.int .i64 c,.int .i64 p,.int .i64 q,.int .i64 e]]=>some (True,.fn 190 [.ptr 1 0,.ptr 2 0],[.cells [.int .i64 a,.int .i64 b,.int .i64 c,.int .i64 p,.int .i64 q,.int .i64 e],.cells [.int .i64 s,.int .i64 n,.sl 1 g ds,.sl 1 h fs],.cells [.ptr 0 0]])
 | _,_=>none
def fmks_T:Prop :=
 ∀ (gl:Glob) (s n a b c p q e:Int) (g h:Bool) (ds fs:LL),True->(IR9 s)∧(IR9 n)∧True∧True∧True->IR9 a->IR9 b->IR9 c->IR9 p->IR9 q->IR9 e->((0:Nat)=(0:Nat)∧(0:Nat)=(0:Nat)∧True)∧(a=a∧b=b∧c=c∧p=p∧q=q∧e=e∧True)∧(s=s∧n=n∧((bif g then g=true else True)∧ds=ds)∧((bif h then h=true else True)∧fs=fs)∧True)∧((0:Nat)=(0:Nat)∧True)∧True
theorem fmks_P:fmks_T:=by
 unfold fmks_T
 intro gl s n a b c p q e g h ds fs
 intros
 cases g <;> cases h <;> (repeat' (first | exact trivial | exact rfl | assumption | apply And.intro))
theorem fmks_e:fmks_T=(∀ (gl:Glob) (s n a b c p q e:Int) (g h:Bool) (ds fs:LL),fnH Tryz.prog { glob:=gl,spec:=lk [],specH:=lk [],nowf:=true } { nt:=6,drop:=drp [(1,32)],fr:=1000,kp:=[0] } (λ _ _=>none) 6 Tryz.f147 [.ptr 0 0,.agg [.int .i64 s,.int .i64 n,.sl 1 g ds,.sl 1 h fs]] [.cells [.int .i64 a,.int .i64 b,.int .i64 c,.int .i64 p,.int .i64 q,.int .i64 e]] (.fn 190 [.ptr 1 0,.ptr 2 0]) [.cells [.int .i64 a,.int .i64 b,.int .i64 c,.int .i64 p,.int .i64 q,.int .i64 e],.cells [.int .i64 s,.int .i64 n,.sl 1 g ds,.sl 1 h fs],.cells [.ptr 0 0]]):=by kernel_rfl
def fmks_v:=Eq.mp (fmks_e ..) (fmks_P)
theorem fmks_ok (gl:Glob):HOK Tryz.prog gl 147 fmks_s:=by
 refine ⟨fok Tryz.func147 (by kernel_rfl) (by kernel_rfl),?_⟩
 intro xs bs pre r bs2 h hp
 unfold fmks_s at h
 split at h
 ·cases h
  exact fnH_sound tyNil (by exact specOK rfl rfl trivial trivial) (by kernel_rfl) Tryz.func147 (fmks_v gl _ _ _ _ _ _ _ _ _ _ _ _)
 ·cases h
structure RestP (n a b c:Int) (ds fs:LL):Prop where
 am:AmoP n a b c ds fs
 e:sE n a b c (ungI ds) (ungI fs)=0
 n_:sN n a b c (ungI ds) (ungI fs)=n
 d:sD n a b c (ungI ds) (ungI fs)=ds
 f:sF n a b c (ungI ds) (ungI fs)=fs
 ld:ds.length≤1000000
 lf:fs.length≤1000000
def svR (n:Int) (ds fs:LL) (s:Int):List AV:=[.int .i64 s,.int .i64 n,.sl 1 false ds,.sl 1 false fs]
def svS (k:Nat):Int:=if k=0 then 2 else if k=1 then 4 else 5
def svX (n:Int) (ds fs:LL) (k:Nat):AV:=.agg (svR n ds fs (svS k))
def svA (n:Int) (ds fs:LL):LL:=[svR n ds fs 0,svR n ds fs 2,svR n ds fs 4,svR n ds fs 5]
def runC (a b c:Int):List AV:=[.int .i64 a,.int .i64 b,.int .i64 c,.int .i64 5,.int .i64 2,.int .i64 0]
def unB:Code->Code
 | .block _ b=>b
 | .loop b=>b
 | _=>.skip
def sqA:Code->Code
 | .seq a _=>a
 | _=>.skip
def sqB:Code->Code
 | .seq _ b=>b
 | _=>.skip
def opsC:Code->Array Oper
 | .region _ o _=>o
 | _=>#[]
noncomputable def svFn:Func:=Tryz.f190
noncomputable def svL:Code:=unB (unB (svFn.body.getD .skip))
noncomputable def svC1:Code:=sqA svL
noncomputable def svM:Code:=unB (sqB svL)
noncomputable def svC2:Code:=sqA svM
noncomputable def svR3:Code:=sqA (sqB svM)
noncomputable def svR4:Code:=sqA (sqB (sqB svM))
noncomputable def svCd:Code:=sqB (sqB (sqB svM))
noncomputable def svOp:Array Oper:=opsC svR4
def CW:Cx:={ nt:=59,drop:=drp [(0,1008),(1,65009664),(2,1006632960),(3,32212254720),(4,288230341791973376)],fr:=2000,kp:=[39,1039,31] }
def EW:Env:={ glob:=glb,spec:=lk [(20,mstep_s),(146,fccp_s)],specH:=lk [],nowf:=true }
@[irreducible] def adX (P:Program) (E:Env) (C:Cx) (ops:Array Oper) (st:St) (k:St->Prop):Prop:=adraw P E C ops st k
def svT (l:Nat):List (Nat × AV):=[(0,.fn (fnB+l) []),(1,.ptr 39 0),(2,.ptr 1039 0)]
def svH (n a b c j:Int) (ds fs:LL):List (Nat × Blk):=[(39,.cells (svR n ds fs j)),(1039,.cells [.ptr 31 0]),(31,.cells (runC a b c))]
def wv1_T:Prop :=
 ∀ (l:Nat) (n a b c j:Int) (ds fs:LL),0≤j∧j < (5:Int)->bif decide (j < (5:Int)) then ((bif (fnB+l).beq (fnB+l) then True else False)∧(0:Nat)=(0:Nat)∧(0:Nat)=(0:Nat)∧True)∧(j=j∧n=n∧(True∧ds=ds)∧(True∧fs=fs)∧True)∧((0:Nat)=(0:Nat)∧True)∧(a=a∧b=b∧c=c∧(5:Int)=(5:Int)∧(2:Int)=(2:Int)∧(0:Int)=(0:Int)∧True)∧True else False
theorem wv1_P:wv1_T:=by
 unfold wv1_T
 intro l n a b c j ds fs ⟨h1,h2⟩
 have hb:cond (Nat.beq (fnB+l) (fnB+l)) True False:=by rw [show Nat.beq (fnB+l) (fnB+l)=true from Nat.beq_refl _]; trivial
 exact cd1 h2 ⟨⟨hb,rfl,rfl,trivial⟩,by repeat' first|exact trivial|exact rfl|assumption|apply And.intro⟩
def wv1_S:Prop:=∀ (l:Nat) (n a b c j:Int) (ds fs:LL),0≤j∧j < 5->acX Tryz.prog EW CW (λ _ _=>none) 6 svC1 ⟨svT l,svH n a b c j ds fs⟩ (λ st=>leS st ⟨svT l,svH n a b c j ds fs⟩) (λ _ _=>False) (λ _=>False)
theorem wv1_e:wv1_T=wv1_S:=by kernel_rfl
theorem wv1:wv1_S:=@Eq.mp (wv1_T) (wv1_S) (wv1_e) (wv1_P)
def wv5_T:Prop :=
 ∀ (l:Nat) (n a b c:Int) (ds fs:LL),(0:Nat)=(0:Nat)∧((bif (fnB+l).beq (fnB+l) then True else False)∧(0:Nat)=(0:Nat)∧(0:Nat)=(0:Nat)∧True)∧((5:Int)=(5:Int)∧n=n∧(True∧ds=ds)∧(True∧fs=fs)∧True)∧((0:Nat)=(0:Nat)∧True)∧(a=a∧b=b∧c=c∧(5:Int)=(5:Int)∧(2:Int)=(2:Int)∧(0:Int)=(0:Int)∧True)∧True
theorem wv5_P:wv5_T:=by
 unfold wv5_T
 intro l n a b c ds fs
 have hb:cond (Nat.beq (fnB+l) (fnB+l)) True False:=by rw [show Nat.beq (fnB+l) (fnB+l)=true from Nat.beq_refl _]; trivial
 exact ⟨rfl,⟨hb,rfl,rfl,trivial⟩,by repeat' first|exact trivial|exact rfl|assumption|apply And.intro⟩
def wv5_S:Prop:=∀ (l:Nat) (n a b c:Int) (ds fs:LL),acX Tryz.prog EW CW (λ _ _=>none) 6 svC1 ⟨svT l,svH n a b c 5 ds fs⟩ (λ _=>False) (λ i st=>i=0∧leS st ⟨svT l,svH n a b c 5 ds fs⟩) (λ _=>False)
theorem wv5_e:wv5_T=wv5_S:=by kernel_rfl
theorem wv5:wv5_S:=@Eq.mp (wv5_T) (wv5_S) (wv5_e) (wv5_P)
def wv2_T:Prop :=
 ∀ (l:Nat) (n a b c j:Int) (ds fs:LL),RestP n a b c ds fs∧0≤j∧j < (5:Int)->AmoP n a b c ds fs∧bif decide ¬sE n a b c (ungI ds) (ungI fs)=(0:Int) then False else bif decide (rng IntKind.i64 (j+(1:Int))) then ((bif (fnB+l).beq (fnB+l) then True else False)∧(0:Nat)=(0:Nat)∧(0:Nat)=(0:Nat)∧True)∧(j+(1:Int)=j+(1:Int)∧sN n a b c (ungI ds) (ungI fs)=n∧(True∧sD n a b c (ungI ds) (ungI fs)=ds)∧(True∧sF n a b c (ungI ds) (ungI fs)=fs)∧True)∧((0:Nat)=(0:Nat)∧True)∧(a=a∧b=b∧c=c∧(5:Int)=(5:Int)∧(2:Int)=(2:Int)∧sE n a b c (ungI ds) (ungI fs)=(0:Int)∧True)∧True else False
theorem wv2_P:wv2_T:=by
 unfold wv2_T
 intro l n a b c j ds fs ⟨hP,h1,h2⟩
 have hb:cond (Nat.beq (fnB+l) (fnB+l)) True False:=by rw [show Nat.beq (fnB+l) (fnB+l)=true from Nat.beq_refl _]; trivial
 have he:=hP.e
 have hn:=hP.n_
 have hd:=hP.d
 have hf:=hP.f
 exact ⟨hP.am,cd0 (λ q=>q he) (cd1 (by simp only [rng]; omega) ⟨⟨hb,rfl,rfl,trivial⟩,by repeat' first|exact trivial|exact rfl|assumption|apply And.intro⟩)⟩
def wv2_S:Prop:=∀ (l:Nat) (n a b c j:Int) (ds fs:LL),RestP n a b c ds fs∧0≤j∧j < 5->acX Tryz.prog EW CW (λ _ _=>none) 6 svC2 ⟨svT l,svH n a b c j ds fs⟩ (λ st1=>acX Tryz.prog EW CW (λ _ _=>none) 6 svR3 st1 (λ st=>leS st ⟨svT l,svH n a b c (j+1) ds fs⟩) (λ _ _=>False) (λ _=>False)) (λ _ _=>False) (λ _=>False)
theorem wv2_e:wv2_T=wv2_S:=by kernel_rfl
theorem wv2:wv2_S:=@Eq.mp (wv2_T) (wv2_S) (wv2_e) (wv2_P)
def wv31_T:Prop :=
 ∀ (l:Nat) (n a b c:Int) (ds fs:LL),((bif (fnB+l).beq (fnB+l) then True else False)∧(0:Nat)=(0:Nat)∧(0:Nat)=(0:Nat)∧True)∧((1:Int)=(1:Int)∧n=n∧(True∧ds=ds)∧(True∧fs=fs)∧True)∧((0:Nat)=(0:Nat)∧True)∧(a=a∧b=b∧c=c∧(5:Int)=(5:Int)∧(2:Int)=(2:Int)∧(0:Int)=(0:Int)∧True)∧True
theorem wv31_P:wv31_T:=by
 unfold wv31_T
 intro l n a b c ds fs
 have hb:cond (Nat.beq (fnB+l) (fnB+l)) True False:=by rw [show Nat.beq (fnB+l) (fnB+l)=true from Nat.beq_refl _]; trivial
 exact ⟨⟨hb,rfl,rfl,trivial⟩,by repeat' first|exact trivial|exact rfl|assumption|apply And.intro⟩
def wv31_S:Prop:=∀ (l:Nat) (n a b c:Int) (ds fs:LL),acX Tryz.prog EW CW (λ _ _=>none) 6 (.seq svR4 svCd) ⟨svT l,svH n a b c 1 ds fs⟩ (λ st=>leS st ⟨svT l,svH n a b c 1 ds fs⟩) (λ _ _=>False) (λ _=>False)
theorem wv31_e:wv31_T=wv31_S:=by kernel_rfl
theorem wv31:wv31_S:=@Eq.mp (wv31_T) (wv31_S) (wv31_e) (wv31_P)
def wv33_T:Prop :=
 ∀ (l:Nat) (n a b c:Int) (ds fs:LL),((bif (fnB+l).beq (fnB+l) then True else False)∧(0:Nat)=(0:Nat)∧(0:Nat)=(0:Nat)∧True)∧((3:Int)=(3:Int)∧n=n∧(True∧ds=ds)∧(True∧fs=fs)∧True)∧((0:Nat)=(0:Nat)∧True)∧(a=a∧b=b∧c=c∧(5:Int)=(5:Int)∧(2:Int)=(2:Int)∧(0:Int)=(0:Int)∧True)∧True
theorem wv33_P:wv33_T:=by
 unfold wv33_T
 intro l n a b c ds fs
 have hb:cond (Nat.beq (fnB+l) (fnB+l)) True False:=by rw [show Nat.beq (fnB+l) (fnB+l)=true from Nat.beq_refl _]; trivial
 exact ⟨⟨hb,rfl,rfl,trivial⟩,by repeat' first|exact trivial|exact rfl|assumption|apply And.intro⟩
def wv33_S:Prop:=∀ (l:Nat) (n a b c:Int) (ds fs:LL),acX Tryz.prog EW CW (λ _ _=>none) 6 (.seq svR4 svCd) ⟨svT l,svH n a b c 3 ds fs⟩ (λ st=>leS st ⟨svT l,svH n a b c 3 ds fs⟩) (λ _ _=>False) (λ _=>False)
theorem wv33_e:wv33_T=wv33_S:=by kernel_rfl
theorem wv33:wv33_S:=@Eq.mp (wv33_T) (wv33_S) (wv33_e) (wv33_P)
abbrev wv4_1 (l:Nat):=(bif (fnB+l).beq (fnB+l) then True else False)
abbrev wv4_2 (a:Int) (b:Int) (c:Int):=(a=a∧b=b∧c=c∧(5:Int)=(5:Int)∧(2:Int)=(2:Int)∧(0:Int)=(0:Int)∧True)
abbrev wv4_3 (j:Int) (n:Int) (ds:LL) (fs:LL):=(j=j∧n=n∧(True∧ds=ds)∧(True∧fs=fs)∧True)
def wv4_T:Prop :=
 ∀ (l:Nat) (n a b c j:Int) (ds fs:LL),RestP n a b c ds fs∧(j=(2:Int)∨j=(4:Int)∨j=(5:Int))->bif decide (j.tmod 2=(0:Int)) then (ds.length≤(1000000:Nat)∧fs.length≤(1000000:Nat))∧(true=true∧(wv4_1 l)∧(wv4_3 j n ds fs)∧(wv4_1 l)∧(0:Nat)=(0:Nat)∧(0:Nat)=(0:Nat)∧True)∧(wv4_3 j n ds fs)∧((0:Nat)=(0:Nat)∧True)∧(wv4_2 a b c)∧True else bif decide (j=(5:Int)) then (ds.length≤(1000000:Nat)∧fs.length≤(1000000:Nat))∧(true=true∧(wv4_1 l)∧(wv4_3 j n ds fs)∧(wv4_1 l)∧(0:Nat)=(0:Nat)∧(0:Nat)=(0:Nat)∧True)∧(wv4_3 j n ds fs)∧((0:Nat)=(0:Nat)∧True)∧(wv4_2 a b c)∧True else (false=true∧False∧False∧(wv4_1 l)∧(0:Nat)=(0:Nat)∧(0:Nat)=(0:Nat)∧True)∧(wv4_3 j n ds fs)∧((0:Nat)=(0:Nat)∧True)∧(wv4_2 a b c)∧True
theorem wv4_P:wv4_T:=by
 unfold wv4_T
 delta wv4_1 wv4_2 wv4_3
 intro l n a b c j ds fs ⟨hP,hj⟩
 have hb:cond (Nat.beq (fnB+l) (fnB+l)) True False:=by rw [show Nat.beq (fnB+l) (fnB+l)=true from Nat.beq_refl _]; trivial
 have h1:=hP.ld
 have h2:=hP.lf
 rcases hj with rfl | rfl | rfl
 ·exact cd1 (by decide) ⟨⟨h1,h2⟩,⟨rfl,hb,by repeat' first|exact trivial|exact rfl|assumption|apply And.intro,hb,by repeat' first|exact trivial|exact rfl|assumption|apply And.intro⟩,by repeat' first|exact trivial|exact rfl|assumption|apply And.intro⟩
 ·exact cd1 (by decide) ⟨⟨h1,h2⟩,⟨rfl,hb,by repeat' first|exact trivial|exact rfl|assumption|apply And.intro,hb,by repeat' first|exact trivial|exact rfl|assumption|apply And.intro⟩,by repeat' first|exact trivial|exact rfl|assumption|apply And.intro⟩
 ·exact cd0 (by decide) (cd1 (by decide) ⟨⟨h1,h2⟩,⟨rfl,hb,by repeat' first|exact trivial|exact rfl|assumption|apply And.intro,hb,by repeat' first|exact trivial|exact rfl|assumption|apply And.intro⟩,by repeat' first|exact trivial|exact rfl|assumption|apply And.intro⟩)
def wv4_S:Prop:=∀ (l:Nat) (n a b c j:Int) (ds fs:LL),RestP n a b c ds fs∧(j=2∨j=4∨j=5)->adX Tryz.prog EW CW (preO svOp 21) ⟨svT l,svH n a b c j ds fs⟩ (λ st=>leS st ⟨(52,.bool true)::(53,.fn (fnB+l) [])::(55,.agg (svR n ds fs j))::svT l,svH n a b c j ds fs⟩)
theorem wv4_e:wv4_T=wv4_S:=by kernel_rfl
theorem wv4:wv4_S:=@Eq.mp (wv4_T) (wv4_S) (wv4_e) (wv4_P)
@[irreducible] def aruX (P:Program) (E:Env) (C:Cx) (ops:Array Oper) (l:List Oper) (st:St) (k:St->Prop):Prop:=arun P E C ops l st k
def wv6_T:Prop :=
 ∀ (l:Nat) (n a b c j:Int) (ds fs:LL),((!true)=false∧(bif (fnB+l).beq (fnB+l) then True else False)∧(0:Nat)=(0:Nat)∧(0:Nat)=(0:Nat)∧True)∧(j=j∧n=n∧(True∧ds=ds)∧(True∧fs=fs)∧True)∧((0:Nat)=(0:Nat)∧True)∧(a=a∧b=b∧c=c∧(5:Int)=(5:Int)∧(2:Int)=(2:Int)∧(0:Int)=(0:Int)∧True)∧True
theorem wv6_P:wv6_T:=by
 unfold wv6_T
 intro l n a b c j ds fs
 have hb:cond (Nat.beq (fnB+l) (fnB+l)) True False:=by rw [show Nat.beq (fnB+l) (fnB+l)=true from Nat.beq_refl _]; trivial
 exact ⟨⟨rfl,hb,rfl,rfl,trivial⟩,by repeat' first|exact trivial|exact rfl|assumption|apply And.intro⟩
def wv6_S:Prop:=∀ (l:Nat) (n a b c j:Int) (ds fs:LL),aruX Tryz.prog EW CW svOp (svOp.toList.drop 22) (St.put ⟨(52,.bool true)::(53,.fn (fnB+l) [])::(55,.agg (svR n ds fs j))::svT l,svH n a b c j ds fs⟩ 56 (.bool true)) (λ st=>leS st ⟨(58,.bool false)::svT l,svH n a b c j ds fs⟩)
theorem wv6_e:wv6_T=wv6_S:=by kernel_rfl
theorem wv6:wv6_S:=@Eq.mp (wv6_T) (wv6_S) (wv6_e) (wv6_P)
variable {P:Program} {S:Pin} {m:Nm} {w:World} {a:Act} {G:Gh} {kp:List Nat} {st:St} {E:Env} {C:Cx}
theorem svE:svFn.body=some (.block 0 (.loop (.seq svC1 (.block 1 (.seq svC2 (.seq svR3 (.seq svR4 svCd))))))):=by kernel_rfl
theorem svR4_e:svR4=.region 4 svOp true:=by kernel_rfl
theorem svCd_e:svCd=.cond (.tmp 58) .ret .skip:=by kernel_rfl
theorem sv_pre:preB svOp 21=true:=by kernel_rfl
theorem sv_s:simpleC svC1=true∧(simpleC svC2=true∧simpleC svR3=true)∧simpleC (.seq svR4 svCd)=true:=⟨by kernel_rfl,⟨by kernel_rfl,by kernel_rfl⟩,by kernel_rfl⟩
theorem sv_nd:(svOp.toList.drop 22).all noDef=true:=by kernel_rfl
def svO:Oper:={ dst:=some 56,op:=.call { callee:=.value (.tmp 53),args:=#[.tmp 55],argTypes:=#[127] },type:=4,pos:="forecast.go:29",after:=#[],guard:=some (17,true) }
theorem sv_o:∃ o,svOp.toList.drop 21=o::svOp.toList.drop 22∧o.op=.call { callee:=.value (.tmp 53),args:=#[.tmp 55],argTypes:=#[127] }∧o.dst=some 56∧o.guard=some (17,true):=⟨svOp.toList.getD 21 svO,by kernel_rfl,by kernel_rfl,by kernel_rfl,by kernel_rfl⟩
theorem sv_17:(svOp[17]?).bind (·.dst)=some 52:=by kernel_rfl
theorem EW_ok:SpecOK Tryz.prog EW:=specOK rfl rfl ⟨mstep_ok,fccp_ok glb,trivial⟩ trivial
def kpS:List Nat:=[39,1039,31]
theorem mixP:Tryz.prog.follows .mixedOrders=true:=by kernel_rfl
theorem sv_x {cd:Code} (hs:simpleC cd=true) {kn:St->Prop} {ke:Nat->St->Prop} {kr:St->Prop} (h:acX Tryz.prog EW CW (λ _ _=>none) 6 cd st kn ke kr) (hg:GOKg glb G.S0) (hR:Rel G kpS st a w S m) (hz:a.tmps.size=CW.nt) {k:Nat}:cd.wpIn Fence.wide k Tryz.prog (Ends G CW kn ke kr) a w:=by
 unfold acX at h
 have:=acode_x (P:=Tryz.prog) (E:=EW) (C:=CW) (inv:=λ _ _=>none) (fuel:=6) tyNil EW_ok mixP (G:=G) hg (r:=none) (n:=k) (ds:=[]) cd hs st kn ke kr h a w S m hR hz
 rw [plusD_nil] at this
 exact Go.wpIn_mono this λ e a' w' ⟨a0,e1,he⟩=>by rw [e1,plusD_nil]; exact he
noncomputable def svLp:Code:=.seq svC1 (.block 1 (.seq svC2 (.seq svR3 (.seq svR4 svCd))))
theorem sv_nt:svFn.ntmps=59:=by kernel_rfl
theorem sv_res:svFn.results=#[]:=by kernel_rfl
section
variable {n a b c:Int} {ds fs:LL}
theorem IN3 {gx gr gn:Nat} {j:Int} (h1:m 39=some (.pointer (some ⟨gx,0,none⟩))) (h2:m 1039=some (.pointer (some ⟨gr,0,none⟩))) (h3:m 31=some (.pointer (some ⟨gn,0,none⟩))) (g:Nat):IN m (svH n a b c j ds fs) g↔g=gx∨g=gr∨g=gn:=by
 constructor
 ·rintro ⟨k,bl,u,e1,e2,e3⟩
  simp only [svH,lk_cons] at e1
  split at e1
  ·rename_i q; subst q; rw [h1] at e2; injection e2 with e2; subst e2; simp only [bk,Option.some.injEq] at e3; exact .inl e3.symm
  ·split at e1
   ·rename_i q; subst q; rw [h2] at e2; injection e2 with e2; subst e2; simp only [bk,Option.some.injEq] at e3; exact .inr (.inl e3.symm)
   ·split at e1
    ·rename_i q; subst q; rw [h3] at e2; injection e2 with e2; subst e2; simp only [bk,Option.some.injEq] at e3; exact .inr (.inr e3.symm)
    ·simp [lk] at e1
 ·rintro (rfl | rfl | rfl)
  ·exact ⟨39,_,_,rfl,h1,rfl⟩
  ·exact ⟨1039,_,_,rfl,h2,rfl⟩
  ·exact ⟨31,_,_,rfl,h3,rfl⟩
theorem goes_ptr {g:Nat} {u:Value} (h:Goes (.pointer (some ⟨g,0,none⟩)) u):u=.pointer (some ⟨g,0,none⟩):=by
 rcases h with rfl | ⟨A,n',c,A',n'',c',_,⟨e,_⟩ | ⟨e,_⟩⟩
 ·rfl
 ·cases e
 ·cases e
def SvI (n a b c:Int) (ds fs:LL) (gx gr gn:Nat) (J:Nat->Pin->World->Prop) (S0:Pin) (kk:Nat) (j:Int) (T:List (Nat × AV)) (ac:Act) (w:World):Prop :=
 ∃ S m,m 39=some (.pointer (some ⟨gx,0,none⟩))∧m 1039=some (.pointer (some ⟨gr,0,none⟩))∧m 31=some (.pointer (some ⟨gn,0,none⟩))∧Rel (mkG w S m (svH n a b c j ds fs) kpS) kpS ⟨T,svH n a b c j ds fs⟩ ac w S m∧ac.tmps.size=CW.nt∧J kk S w∧Ext S0 S∧GOKg glb S
variable {gx gr gn:Nat} {J:Nat->Pin->World->Prop} {S0:Pin}
theorem sv_end {I:Nat->Prop} (hI:∀ g,I g↔g=gx∨g=gr∨g=gn) (hJ:JOKI I J) {kk:Nat} {j j':Int} {T T':List (Nat × AV)} {ac a2:Act} {w w2:World} {S S2:Pin} {m m2:Nm} {st2:St}
  (e1:m 39=some (.pointer (some ⟨gx,0,none⟩))) (e2:m 1039=some (.pointer (some ⟨gr,0,none⟩))) (e3:m 31=some (.pointer (some ⟨gn,0,none⟩))) (hR:Rel (mkG w S m (svH n a b c j ds fs) kpS) kpS ⟨T,svH n a b c j ds fs⟩ ac w S m) (hj:J kk S w) (hx:Ext S0 S) (hg:GOKg glb S)
  (hR2:Rel (mkG w S m (svH n a b c j ds fs) kpS) kpS st2 a2 w2 S2 m2) (hn:a2.tmps.size=CW.nt) (hle:leS st2 ⟨T',svH n a b c j' ds fs⟩):SvI n a b c ds fs gx gr gn J S0 kk j' T' a2 w2:=by
 have R2:=hR2.le hle
 have nm:∀ k g,inL k kpS=true->m k=some (.pointer (some ⟨g,0,none⟩))->m2 k=some (.pointer (some ⟨g,0,none⟩)):=λ k g hk e=>by
  obtain ⟨u,q1,q2⟩:=R2.m0 k _ (by simp only [mkG]; rw [if_pos hk]; exact e)
  rw [q1,goes_ptr q2]
 have f1:=nm 39 gx rfl e1
 have f2:=nm 1039 gr rfl e2
 have f3:=nm 31 gn rfl e3
 have none_:∀ (S:Pin) (m:Nm) (w:World) (j:Int) (T:List (Nat × AV)) (G:Gh) (ac:Act),Rel G kpS ⟨T,svH n a b c j ds fs⟩ ac w S m->m 39=some (.pointer (some ⟨gx,0,none⟩))->m 1039=some (.pointer (some ⟨gr,0,none⟩))->m 31=some (.pointer (some ⟨gn,0,none⟩))->∀ g o,I g->S g o=none:=λ S m w j T G ac h k1 k2 k3 g o hi=>by
  rcases (hI g).1 hi with rfl | rfl | rfl
  ·obtain ⟨g',arr,t,q1,_,_,q4⟩:=h.held 39 _ rfl
   rw [k1] at q1; injection q1 with q1; injection q1 with q1; injection q1 with q1; injection q1 with q1 _ _; subst q1; exact q4 o
  ·obtain ⟨g',arr,t,q1,_,_,q4⟩:=h.held 1039 _ rfl
   rw [k2] at q1; injection q1 with q1; injection q1 with q1; injection q1 with q1; injection q1 with q1 _ _; subst q1; exact q4 o
  ·obtain ⟨g',arr,t,q1,_,_,q4⟩:=h.held 31 _ rfl
   rw [k3] at q1; injection q1 with q1; injection q1 with q1; injection q1 with q1; injection q1 with q1 _ _; subst q1; exact q4 o
 have hc:Chg I S w S2 w2:=hR.chg R2 (λ k blk u b q1 q2 q3=>(hI b).2 ((IN3 e1 e2 e3 b).1 ⟨k,blk,u,q1,q2,q3⟩)) (λ b o hi=>⟨none_ S m w j T _ ac hR e1 e2 e3 b o hi,none_ S2 m2 w2 j' T' _ a2 R2 f1 f2 f3 b o hi⟩)
 exact ⟨S2,m2,f1,f2,f3,R2.begin_,hn,hJ.ch _ _ _ _ _ hj hc,hx.trans R2.pin0,λ g cs e=>CC.mono R2.pin0 cs g 0 (hg g cs e)⟩
variable {I:Nat->Prop} (hI:∀ g,I g↔g=gx∨g=gr∨g=gn) (hJ:JOKI I J) {k:Nat}
include hI hJ
theorem sv_go {kk:Nat} {j j':Int} {T T':List (Nat × AV)} {ac:Act} {cd:Code} (hs:simpleC cd=true)
  (h:acX Tryz.prog EW CW (λ _ _=>none) 6 cd ⟨T,svH n a b c j ds fs⟩ (λ st=>leS st ⟨T',svH n a b c j' ds fs⟩) (λ _ _=>False) (λ _=>False)) (hv:SvI n a b c ds fs gx gr gn J S0 kk j T ac w) {Q:Exit->Act->World->Prop}
  (hn:∀ a2 w2,SvI n a b c ds fs gx gr gn J S0 kk j' T' a2 w2->Q .normal a2 w2):cd.wpIn Fence.wide k Tryz.prog Q ac w:=by
 obtain ⟨S,m,e1,e2,e3,hR,hz,hj,hx,hg⟩:=hv
 refine Go.wpIn_mono (sv_x hs h (G:=mkG w S m (svH n a b c j ds fs) kpS) hg hR hz) ?_
 intro e a' w' he
 cases e with
 | normal=>obtain ⟨st',S',m',hk,hR',hn'⟩:=he; exact hn _ _ (sv_end hI hJ e1 e2 e3 hR hj hx hg hR' hn' hk)
 | exit _=>obtain ⟨_,_,_,hk,_⟩:=he; exact hk.elim
 | ret=>obtain ⟨_,_,_,hk,_⟩:=he; exact hk.elim
 | _=>exact he.elim
theorem sv_two {kk:Nat} {j:Int} {l:Nat} {ac:Act} (hP:RestP n a b c ds fs) (hjj:0≤j∧j < 5) (hv:SvI n a b c ds fs gx gr gn J S0 kk j (svT l) ac w) {Z:Code} {Q:Exit->Act->World->Prop}
  (hn:∀ a2 w2,SvI n a b c ds fs gx gr gn J S0 kk (j+1) (svT l) a2 w2->Z.wpIn Fence.wide k Tryz.prog Q a2 w2):(Code.seq svC2 (.seq svR3 Z)).wpIn Fence.wide k Tryz.prog Q ac w:=by
 obtain ⟨S,m,e1,e2,e3,hR,hz,hj,hx,hg⟩:=hv
 have h:=wv2 l n a b c j ds fs ⟨hP,hjj⟩
 have hs:=sv_s.2.1
 refine wpIn_seq (Go.wpIn_mono (sv_x hs.1 h (G:=mkG w S m (svH n a b c j ds fs) kpS) hg hR hz) ?_)
 intro e a' w' he
 cases e with
 | normal =>
  obtain ⟨st',S',m',hk,hR',hn'⟩:=he
  refine wpIn_seq (Go.wpIn_mono (sv_x hs.2 hk (G:=mkG w S m (svH n a b c j ds fs) kpS) hg hR' hn') ?_)
  intro e a' w' he
  cases e with
  | normal=>obtain ⟨st',S',m',hk,hR',hn'⟩:=he; exact hn _ _ (sv_end hI hJ e1 e2 e3 hR hj hx hg hR' hn' hk)
  | exit _=>obtain ⟨_,_,_,hk,_⟩:=he; exact hk.elim
  | ret=>obtain ⟨_,_,_,hk,_⟩:=he; exact hk.elim
  | _=>exact he.elim
 | exit _=>obtain ⟨_,_,_,hk,_⟩:=he; exact hk.elim
 | ret=>obtain ⟨_,_,_,hk,_⟩:=he; exact hk.elim
 | _=>exact he.elim
set_option maxHeartbeats 1000000 in
theorem sv_yield {kk l:Nat} {j:Int} {ac:Act} (hP:RestP n a b c ds fs) (hjj:j=2∨j=4∨j=5)
  (hY:∀ S W v,J kk S W->CV S (.agg (svR n ds fs j)) noNm v->YieldAt Fence.wide (k - 1) Tryz.prog l #[v] W λ e W'=>e=.returned (.bool true)∧(∀ g,I g->W'.heap[g]?=W.heap[g]?)∧∃ S',Ext S S'∧J (kk+1) S' W')
  (hv:SvI n a b c ds fs gx gr gn J S0 kk j (svT l) ac w) {Q:Exit->Act->World->Prop}
  (hn:∀ a2 w2,SvI n a b c ds fs gx gr gn J S0 (kk+1) j ((58,.bool false)::svT l) a2 w2->Q .normal a2 w2):svR4.wpIn Fence.wide k Tryz.prog Q ac w:=by
 obtain ⟨S,m,e1,e2,e3,hR,hz,hj,hx,hg⟩:=hv
 have h:=wv4 l n a b c j ds fs ⟨hP,hjj⟩
 unfold adX at h
 rw [svR4_e]
 let T5:List (Nat × AV):=(52,.bool true)::(53,.fn (fnB+l) [])::(55,.agg (svR n ds fs j))::svT l
 let Qp:Exit->Act->World->Prop:=λ e a2 w2=>e=.normal∧SvI n a b c ds fs gx gr gn J S0 kk j T5 a2 w2
 let Qe:Exit->Act->World->Prop:=λ e a2 w2=>e=.normal∧SvI n a b c ds fs gx gr gn J S0 (kk+1) j ((58,.bool false)::svT l) a2 w2
 have hQp:noBad Qp:=⟨λ a w h=>(by cases h.1),λ ch a w h=>(by cases h.1)⟩
 have hQe:noBad Qe:=⟨λ a w h=>(by cases h.1),λ ch a w h=>(by cases h.1)⟩
 have key:=split_in (r:=none) (n:=k) (P:=Tryz.prog) (ops:=svOp) (K:=21) (id:=4) (Q:=QX [] Qe) mixP sv_pre (Qp:=Qp) hQp (a:=ac) (w:=w)
  (adraw_sound (P:=Tryz.prog) (E:=EW) (C:=CW) tyNil EW_ok (show GOK EW (mkG w S m (svH n a b c j ds fs) kpS).S0 from hg) h hR hz λ st' a' w' S' m' hk hR' hn'=>⟨rfl,sv_end hI hJ e1 e2 e3 hR hj hx hg hR' hn' hk⟩) ?_
 ·refine Go.wpIn_mono key ?_
  rintro e a' w' ⟨a0,rfl,he,hv⟩
  subst he
  rw [plusD_nil]
  exact hn _ _ hv
 ·rintro a2 w2 ⟨_,S,m,e1,e2,e3,hR,hz,hj,hx,hg⟩
  obtain ⟨o,ho,hop,hdst,hgd⟩:=sv_o
  rw [ho]
  have t52:=hR.tmps 52
  have t53:=hR.tmps 53
  have t55:=hR.tmps 55
  simp only [T5,St.get,lk_cons] at t52 t53 t55
  simp only [if_true,if_pos,reduceIte,Nat.reduceEqDiff,CV,CVl] at t52 t53
  obtain ⟨us,t53,hus⟩:=t53
  have hus:us=#[]:=by simpa using hus
  subst hus
  rw [fnV_y] at t53
  have hwant:Region.wanted o (yielded svOp a2.tmps)=true:=by
   unfold Region.wanted
   rw [hgd]
   show (yielded svOp a2.tmps 17 == some true)=true
   unfold yielded
   rw [sv_17]
   have hsz:52 < a2.tmps.size:=by rw [hz]; decide
   have:a2.tmps[52]?=some (.bool true):=by
    rw [Array.getElem?_eq_getElem hsz]
    simp only [Array.getD_eq_getD_getElem?,Array.getElem?_eq_getElem hsz,Option.getD_some] at t52
    rw [t52]
   simp [this]
  unfold wpListIn
  rw [if_pos hwant]
  obtain ⟨v5,f55⟩:∃ v5,a2.eval (.tmp 55)=v5:=⟨_,rfl⟩
  have f5:a2.tmps.getD 55 undef=v5:=f55
  have hcv:CV S (.agg (svR n ds fs j)) noNm v5:=by
   rw [← f5]
   refine CV.mono (Ext.refl S) _ m noNm _ (λ q u hk _=>?_) (by simpa using t55)
   exfalso
   simp [nn,nnl,svR] at hk
  obtain ⟨fn,tmps,assign,body,hrun,hRd⟩:=hY S w2 _ hj hcv
  have hsem:(o.semAt (Fr none).round a2.eval).run Tryz.prog w2=.ok (.round l fn tmps assign body) w2:=by
   show (execOp a2.eval o).run Tryz.prog w2=_
   have f53:a2.eval (.tmp 53)=.func (.yield l) #[] #[]:=t53
   simp [execOp,hop,resolve,f53,f55,Deferred.ofValue,invoke,hrun]
  unfold Oper.wpIn
  refine ⟨λ _ _=>trivial,?_⟩
  rw [hsem]
  refine ⟨λ q=>(by cases q),hRd.mono ?_⟩
  rintro e w3 ⟨rfl,hsame,S3,hS3,hJ3⟩
  show wpListIn (Fr none) k Tryz.prog svOp (QX [] Qe) (svOp.toList.drop 22) (a2.put o.dst (.bool true)) w3
  rw [hdst]
  have R3:=hR.after (kp1:=kpS) hS3 (hJ.ag _ _ _ hJ3) (λ q blk u g q1 q2 q3=>by
   have hi:=(hI g).2 ((IN3 e1 e2 e3 g).1 ⟨q,blk,u,q1,q2,q3⟩)
   exact ⟨hsame g hi,λ o=>by rw [hJ.pin _ _ _ hJ3 g o hi,hJ.pin _ _ _ hj g o hi]⟩)
  have R4:=R3.put (r:=.bool true) (v:=.bool true) (by simp only [CV]) (d:=56) (by rw [hz]; decide)
  have h6:=wv6 l n a b c j ds fs
  unfold aruX at h6
  have hg3:GOKg glb S3:=λ g cs e=>CC.mono hS3 cs g 0 (hg g cs e)
  have hl:=arun_sound (P:=Tryz.prog) (E:=EW) (C:=CW) tyNil EW_ok (Q:=Qe) (ops:=svOp) (show GOK EW (mkG w3 S3 m (svH n a b c j ds fs) kpS).S0 from hg3) _ _ _ h6 _ w3 S3 m R4 (by rw [put_size,hz]) (λ st' a' w' S' m' hk hR' hn'=>⟨rfl,sv_end hI hJ e1 e2 e3 R3 hJ3 (hx.trans hS3) hg3 hR' hn' hk⟩)
  have:=list_x (r:=none) (n:=k) (ds:=[]) hQe _ sv_nd _ _ hl
  rwa [plusD_nil] at this
omit hI hJ in
theorem arr3 (v0 v1 v2:Value) (N:Nat):(#[v0]++#[v1,v2]++Array.replicate (N - (#[v0]++#[v1,v2]).size) undef).size=3+(N - 3)∧(#[v0]++#[v1,v2]++Array.replicate (N - (#[v0]++#[v1,v2]).size) undef).getD 0 undef=v0∧(#[v0]++#[v1,v2]++Array.replicate (N - (#[v0]++#[v1,v2]).size) undef).getD 1 undef=v1∧(#[v0]++#[v1,v2]++Array.replicate (N - (#[v0]++#[v1,v2]).size) undef).getD 2 undef=v2:=by
 refine ⟨by simp,?_,?_,?_⟩ <;> simp [Array.getD_eq_getD_getElem?,Array.getElem?_append]
omit hI hJ in
theorem sv_start {l:Nat} {W:World} (hm1:m 39=some (.pointer (some ⟨gx,0,none⟩))) (hm2:m 1039=some (.pointer (some ⟨gr,0,none⟩))) (hm3:m 31=some (.pointer (some ⟨gn,0,none⟩))) (hinj:InjN m (svH n a b c 0 ds fs)) (hX:HeldL m (svH n a b c 0 ds fs) S0 W) (hg:GOKg glb S0) (h0:J 0 S0 W) (hA:Agree S0 W)
    {tm:Array Value} (hz:tm.size=CW.nt) (t0:tm.getD 0 undef=.func (.yield l) #[] #[]) (t1:tm.getD 1 undef=.pointer (some ⟨gx,0,none⟩)) (t2:tm.getD 2 undef=.pointer (some ⟨gr,0,none⟩)):SvI n a b c ds fs gx gr gn J S0 0 0 (svT l) { tmps:=tm,defers:=[] } W:=by
  have hN:fnV (fnB+l)=.yield l:=fnV_y l
  have e0:St.get ⟨svT l,svH n a b c 0 ds fs⟩ 0=.fn (fnB+l) []:=rfl
  have e1:St.get ⟨svT l,svH n a b c 0 ds fs⟩ 1=.ptr 39 0:=rfl
  have e2:St.get ⟨svT l,svH n a b c 0 ds fs⟩ 2=.ptr 1039 0:=rfl
  have e3:∀ t,t≠0->t≠1->t≠2->lk (svT l) t=none:=λ t h0 h1 h2=>by
    unfold svT
    rw [lk_cons,if_neg h0,lk_cons,if_neg h1,lk_cons,if_neg h2]; rfl
  have ht:∀ t,CV S0 (St.get ⟨svT l,svH n a b c 0 ds fs⟩ t) m (tm.getD t undef):=λ t=>by
    by_cases q0:t=0
    · subst q0
      rw [e0,t0]
      simp only [CV,CVl]
      rw [hN]
      exact ⟨#[],rfl,rfl⟩
    · by_cases q1:t=1
      · subst q1
        rw [e1,t1]
        simp only [CV]
        exact ⟨gx,hm1,rfl⟩
      · by_cases q2:t=2
        · subst q2
          rw [e2,t2]
          simp only [CV]
          exact ⟨gr,hm2,rfl⟩
        · unfold St.get
          simp only [e3 t q0 q1 q2]
          simp only [CV]
  refine ⟨S0,m,hm1,hm2,hm3,?_,hz,h0,Ext.refl _,hg⟩
  exact
    { defers:=rfl
      pin0:=Ext.refl _
      pinNew:=λ _ _ _ _=>rfl
      agree:=hA
      tmps:=ht
      held:=λ k b hk=>hX k b hk
      inj:=λ k k' b b' u u' g q1 q2 q3 q4 q5 q6=>hinj k k' b b' u u' g q1 q2 q3 q4 q5 q6
      own:=λ k b u g hk hu hg=>.inr ⟨k,b,u,hk,hu,hg⟩
      os:=rfl
      tape:=rfl
      output:=rfl
      size:=Nat.le_refl _
      frame:=λ _ _ _=>rfl
      m0:=λ k u e=>by
        simp only [mkG] at e
        split at e
        · exact ⟨u,e,.refl u⟩
        · cases e
      keep:=λ k u e=>by
        simp only [mkG] at e
        split at e
        · rename_i q; exact inL_of q
        · cases e }
omit hI hJ in
theorem drop58 {kk l:Nat} {jj:Int} {ac:Act} (hv:SvI n a b c ds fs gx gr gn J S0 kk jj ((58,.bool false)::svT l) ac w):ac.eval (.tmp 58)=.bool false∧SvI n a b c ds fs gx gr gn J S0 kk jj (svT l) ac w:=by
 obtain ⟨S,m',e1,e2,e3,hR,hz,hj,hx,hg⟩:=hv
 have t58:=hR.tmps 58
 simp only [St.get,lk_cons,if_true] at t58
 simp only [CV] at t58
 refine ⟨t58,S,m',e1,e2,e3,{ hR with defers:=hR.defers,held:=hR.held,inj:=hR.inj,own:=hR.own,tmps:=λ t=>?_ },hz,hj,hx,hg⟩
 have:=hR.tmps t
 simp only [St.get,lk_cons] at this ⊢
 by_cases q:t=58
 ·subst q
  simp only [svT,lk_cons]
  simp [lk,CV]
 ·rw [if_neg q] at this; exact this
theorem sv_rY {Q0:Exit->Act->World->Prop} {kk l d:Nat} {j j1:Int} {ac:Act} (hP:RestP n a b c ds fs) (hj1:j1=j+1) (hb:0≤j∧j < 5) (h4:j1=2∨j1=4∨j1=5)
  (hY:∀ S W v,J kk S W->CV S (.agg (svR n ds fs j1)) noNm v->YieldAt Fence.wide (k - 1) Tryz.prog l #[v] W λ e W'=>e=.returned (.bool true)∧(∀ g,I g->W'.heap[g]?=W.heap[g]?)∧∃ S',Ext S S'∧J (kk+1) S' W')
  (hv:SvI n a b c ds fs gx gr gn J S0 kk j (svT l) ac w) (hn:∀ ac w,SvI n a b c ds fs gx gr gn J S0 (kk+1) j1 (svT l) ac w->Code.roundsIn Fence.wide k Tryz.prog svLp Q0 d ac w):Code.roundsIn Fence.wide k Tryz.prog svLp Q0 (d+1) ac w:=by
 subst hj1
 rw [roundsIn_succ]
 unfold svLp at hn ⊢
 refine wpIn_seq (sv_go hI hJ sv_s.1 (wv1 l n a b c j ds fs hb) hv λ a2 w2 hv=>?_)
 refine wpIn_block (sv_two hI hJ hP hb hv λ a3 w3 hv=>?_)
 refine wpIn_seq (sv_yield hI hJ hP h4 hY hv λ a4 w4 hv=>?_)
 obtain ⟨t58,hv⟩:=drop58 hv
 show svCd.wpIn _ _ _ _ _ _
 rw [svCd_e]
 exact wpIn_cond_false t58 (wpIn_skip (hn a4 w4 hv))
theorem sv_rQ {Q0:Exit->Act->World->Prop} {kk l d:Nat} {j j1:Int} {ac:Act} (hP:RestP n a b c ds fs) (hj1:j1=j+1) (hb:0≤j∧j < 5)
  (h4:acX Tryz.prog EW CW (λ _ _=>none) 6 (.seq svR4 svCd) ⟨svT l,svH n a b c j1 ds fs⟩ (λ st=>leS st ⟨svT l,svH n a b c j1 ds fs⟩) (λ _ _=>False) (λ _=>False))
  (hv:SvI n a b c ds fs gx gr gn J S0 kk j (svT l) ac w) (hn:∀ ac w,SvI n a b c ds fs gx gr gn J S0 kk j1 (svT l) ac w->Code.roundsIn Fence.wide k Tryz.prog svLp Q0 d ac w):Code.roundsIn Fence.wide k Tryz.prog svLp Q0 (d+1) ac w:=by
 subst hj1
 rw [roundsIn_succ]
 unfold svLp at hn ⊢
 refine wpIn_seq (sv_go hI hJ sv_s.1 (wv1 l n a b c j ds fs hb) hv λ a2 w2 hv=>?_)
 refine wpIn_block (sv_two hI hJ hP hb hv λ a3 w3 hv=>?_)
 exact sv_go hI hJ sv_s.2.2 h4 hv λ a4 w4 hv=>hn a4 w4 hv
theorem sv_rE {R:Ending->World->Prop} {kk l d:Nat} {ac:Act} (hv:SvI n a b c ds fs gx gr gn J S0 kk 5 (svT l) ac w)
  (hn:∀ ac w,SvI n a b c ds fs gx gr gn J S0 kk 5 (svT l) ac w->R (.returned (.tuple #[])) w):Code.roundsIn Fence.wide k Tryz.prog svLp (Exit.inBlock 0 (bodyPost Tryz.prog svFn R)) (d+1) ac w:=by
 rw [roundsIn_succ]
 obtain ⟨S,m',e1,e2,e3,hR,hz,hj,hx,hg⟩:=hv
 have h:=wv5 l n a b c ds fs
 unfold svLp
 refine wpIn_seq (Go.wpIn_mono (sv_x sv_s.1 h (G:=mkG w S m' (svH n a b c 5 ds fs) kpS) hg hR hz) ?_)
 intro e a' w' he
 cases e with
 | normal=>obtain ⟨_,_,_,hk,_⟩:=he; exact hk.elim
 | exit i =>
  obtain ⟨st',S',m2,⟨rfl,hk⟩,hR',hn'⟩:=he
  have hv:=sv_end hI hJ e1 e2 e3 hR hj hx hg hR' hn' hk
  have hd:a'.defers=[]:=hR'.defers
  have hr:(results svFn a'.tmps).run Tryz.prog w'=.ok (.tuple #[]) w':=by
   unfold results
   rw [sv_res]
   simp [go_sem]
  simp only [Exit.then,Exit.inBlock,reduceIte]
  exact ⟨hd,_,hr,hn a' w' hv⟩
 | ret=>obtain ⟨_,_,_,hk,_⟩:=he; exact hk.elim
 | _=>exact he.elim
end
set_option maxHeartbeats 1000000 in
theorem itw {n a b c:Int} {ds fs:LL} (hP:RestP n a b c ds fs):ItW 190 39 1039 (svH n a b c 0 ds fs) 31 (runC a b c) 3 (svX n ds fs):=by
 refine ⟨rfl,enters_of Tryz.func190 (by kernel_rfl) rfl,λ m g1 g2 hm1 hm2 hinj=>?_⟩
 intro k l J hJ hY S0 W hg hX h0
 have hX31:=hX 31 _ rfl
 obtain ⟨gn,arr,t,hm3,_,_,_⟩:=hX31
 have hI:=IN3 (n:=n) (a:=a) (b:=b) (c:=c) (ds:=ds) (fs:=fs) (j:=0) hm1 hm2 hm3
 refine callsIn_of_wp Tryz.func190 svE trivial ?_ rfl
 refine wpIn_block (wpIn_loop_rounds 6 ?_)
 show Code.roundsIn Fence.wide k Tryz.prog svLp _ (5+1) _ W
 obtain ⟨tm,htm⟩:∃ tm,tm=#[Value.func (.yield l) #[] #[]]++#[Value.pointer (some ⟨g1,0,none⟩),Value.pointer (some ⟨g2,0,none⟩)]++Array.replicate (svFn.ntmps - (#[Value.func (.yield l) #[] #[]]++#[Value.pointer (some ⟨g1,0,none⟩),Value.pointer (some ⟨g2,0,none⟩)]).size) undef:=⟨_,rfl⟩
 have start:SvI n a b c ds fs g1 g2 gn J S0 0 0 (svT l) { tmps:=tm,defers:=[] } W:=by
  refine sv_start hm1 hm2 hm3 hinj hX hg h0 (hJ.ag _ _ _ h0) ?_ ?_ ?_ ?_
  ·rw [htm,sv_nt]; exact (arr3 _ _ _ _).1
  ·rw [htm]; exact (arr3 _ _ _ _).2.1
  ·rw [htm]; exact (arr3 _ _ _ _).2.2.1
  ·rw [htm]; exact (arr3 _ _ _ _).2.2.2
 subst htm
 refine sv_rQ hI hJ hP (j:=0) (j1:=1) (kk:=0) (l:=l) (S0:=S0) rfl (by decide) (wv31 l n a b c ds fs) start λ ac w hv=>?_
 refine sv_rY hI hJ hP (j:=1) (j1:=2) (kk:=0) (d:=4) rfl (by decide) (.inl rfl) (λ S W v q1 q2=>hY 0 S W v q1 (by decide) q2) hv λ ac w hv=>?_
 refine sv_rQ hI hJ hP (j:=2) (j1:=3) (kk:=1) (d:=3) rfl (by decide) (wv33 l n a b c ds fs) hv λ ac w hv=>?_
 refine sv_rY hI hJ hP (j:=3) (j1:=4) (kk:=1) (d:=2) rfl (by decide) (.inr (.inl rfl)) (λ S W v q1 q2=>hY 1 S W v q1 (by decide) q2) hv λ ac w hv=>?_
 refine sv_rY hI hJ hP (j:=4) (j1:=5) (kk:=2) (d:=1) rfl (by decide) (.inr (.inr rfl)) (λ S W v q1 q2=>hY 2 S W v q1 (by decide) q2) hv λ ac w hv=>?_
 ·refine sv_rE hI hJ (d:=0) hv λ ac w ⟨S2,m3,f1,f2,f3,R2,z2,j2,x2,g2'⟩=>⟨⟨_,rfl⟩,S2,x2,j2,λ q bl hq=>?_⟩
  rw [lk_cons] at hq
  split at hq
  ·rename_i e
   subst e
   simp only [Option.some.injEq] at hq
   subst hq
   obtain ⟨g',arr,t,q1,q2,q3,q4⟩:=R2.held 31 _ rfl
   rw [f3] at q1
   injection q1 with q1; injection q1 with q1; injection q1 with q1; injection q1 with q1 _ _
   subst q1
   exact ⟨gn,arr,t,hm3,q2,noNm'_cv rfl q3,q4⟩
  ·simp [lk] at hq
def rsuL (n a b c:Int) (ds fs:LL):RLW:=⟨190,39,1039,3,svX n ds fs,[(10,.ptr 10 0),(13,.ptr 31 0)],[(39,.cells (svR n ds fs 0)),(1039,.cells [.ptr 31 0]),(31,.cells (runC a b c))],31,runC a b c,λ k=>[(10,.cells [.rw 25 4 (k+1)]),(25,.row 127 4 ((svA n ds fs).take (k+1)))],[39,1039,31,10]⟩
def fres_s:Sp
 | [.agg [.int .i64 a,.int .i64 b,.int .i64 c],.sl 4 f [[.int .i64 0,.int .i64 n,.sl 1 g ds,.sl 1 h fs]],.int .i64 5,.int .i64 2]=>some (RestP n a b c ds fs,.tup [.sl 4 false (svA n ds fs),.int .i64 0])
 | _=>none
def fres_T:Prop :=
 ∀ (n a b c:Int) (f g h:Bool) (ds fs:LL),RestP n a b c ds fs->(ds.length≤(1000000:Nat)∧fs.length≤(1000000:Nat))∧True∧ItW (rsuL n a b c ds fs).gf (rsuL n a b c ds fs).c1 (rsuL n a b c ds fs).c2 (rsuL n a b c ds fs).Hx (rsuL n a b c ds fs).kn (rsuL n a b c ds fs).cn (rsuL n a b c ds fs).N (rsuL n a b c ds fs).x0∧((((0:Nat)=(0:Nat)∧(0:Nat)=(0:Nat)∧True)∧(0:Nat)=(0:Nat)∧(0:Nat)=(0:Nat)∧True)∧((0:Int)=(0:Int)∧n=n∧(True∧ds=ds)∧(True∧fs=fs)∧True)∧((0:Nat)=(0:Nat)∧True)∧(a=a∧b=b∧c=c∧(5:Int)=(5:Int)∧(2:Int)=(2:Int)∧(0:Int)=(0:Int)∧True)∧([[I6 0,I6 n,AV.sl 1 false ds,AV.sl 1 false fs]].length=(1:Nat)∧True)∧[[I6 0,I6 n,AV.sl 1 false ds,AV.sl 1 false fs]]=List.take 1 (svA n ds fs)∧True)∧((∀ (k1:Nat),nn k1 (AV.ptr 10 0)=false->inL k1 (rsuL n a b c ds fs).kp=true)∧(∀ (k2:Nat),nn k2 (AV.ptr 31 0)=false->inL k2 (rsuL n a b c ds fs).kp=true)∧True)∧(∀ (k3:Nat),k3≤(rsuL n a b c ds fs).N->okHs ((rsuL n a b c ds fs).H k3)=true)∧(∀ (k4:Nat),k4 < (rsuL n a b c ds fs).N->bif decide (k4+(1:Nat)=(List.take (k4+(1:Nat)) (svA n ds fs)).length∧(List.take (k4+(1:Nat)) (svA n ds fs)).length+[[I6 (svS k4),I6 n,AV.sl 1 false ds,AV.sl 1 false fs]].length≤(9223372036854775807:Nat)∧((List.take (k4+(1:Nat)) (svA n ds fs)).length+[[I6 (svS k4),I6 n,AV.sl 1 false ds,AV.sl 1 false fs]].length)*(64:Nat)≤(140737488355328:Nat)) then True∧((List.take (k4+(1:Nat)) (svA n ds fs)++[[I6 (svS k4),I6 n,AV.sl 1 false ds,AV.sl 1 false fs]]).length=k4+(1:Nat)+(1:Nat)∧True)∧List.take (k4+(1:Nat)) (svA n ds fs)++[[I6 (svS k4),I6 n,AV.sl 1 false ds,AV.sl 1 false fs]]=List.take (k4+(1:Nat)+(1:Nat)) (svA n ds fs)∧True else False)∧(True∧List.take ((rsuL n a b c ds fs).N+(1:Nat)) (svA n ds fs)=svA n ds fs)∧(0:Int)=(0:Int)∧True
theorem fres_P:fres_T:=by
 unfold fres_T
 delta I6
 intro n a b c f g h ds fs hP
 intros
 have hq:=itw hP
 have hld:=hP.ld
 have hlf:=hP.lf
 refine ⟨⟨hld,hlf⟩,trivial,hq,by repeat' first|exact trivial|exact rfl|assumption|apply And.intro,⟨λ k hk=>?_,λ k hk=>?_,trivial⟩,λ k _=>rfl,λ k hk=>?_,by repeat' first|exact trivial|exact rfl|assumption|apply And.intro⟩
 ·have:10=k:=Nat.eq_of_beq_eq_true (by simpa [nn] using hk)
  subst this; rfl
 ·have:31=k:=Nat.eq_of_beq_eq_true (by simpa [nn] using hk)
  subst this; rfl
 ·have hk3:k < 3:=hk
  rcases (show k=0∨k=1∨k=2 by omega) with rfl | rfl | rfl
  ·exact cd1 ⟨rfl,by simp [svA],by simp [svA]⟩ ⟨trivial,⟨rfl,trivial⟩,rfl,trivial⟩
  ·exact cd1 ⟨rfl,by simp [svA],by simp [svA]⟩ ⟨trivial,⟨rfl,trivial⟩,rfl,trivial⟩
  ·exact cd1 ⟨rfl,by simp [svA],by simp [svA]⟩ ⟨trivial,⟨rfl,trivial⟩,rfl,trivial⟩
theorem fres_e:fres_T=(∀ (n a b c:Int) (f g h:Bool) (ds fs:LL),RestP n a b c ds fs->fnW Tryz.prog { glob:=glb,spec:=lk [(146,fccp_s)],specH:=lk [(147,fmks_s)],nowf:=true } { nt:=55,drop:=drp [(4,1572864),(5,65011712),(6,67108864),(7,4160749568),(8,545460846592),(10,32985348833280),(11,527765581332480),(12,16888498602639360),(13,18014398509481984)] } (λ _ _=>none) 6 (λ st=>some (rsuL n a b c ds fs)) Tryz.f108 [.agg [.int .i64 a,.int .i64 b,.int .i64 c],.sl 4 f [[.int .i64 0,.int .i64 n,.sl 1 g ds,.sl 1 h fs]],.int .i64 5,.int .i64 2] (.tup [.sl 4 false (svA n ds fs),.int .i64 0])):=by kernel_rfl
def fres_v:=Eq.mp (fres_e ..) (fres_P)
theorem fres_ok:SOK Tryz.prog glb 108 fres_s:=by
 refine ⟨fok Tryz.func108 (by kernel_rfl) (by kernel_rfl),?_⟩
 intro xs pre r h hp
 unfold fres_s at h
 split at h
 ·cases h
  exact fnW_sound tyNil (by exact specOK rfl rfl ⟨(fccp_ok glb),trivial⟩ ⟨(fmks_ok glb),trivial⟩) rfl Tryz.func108 rfl (fres_v  _ _ _ _ _ _ _ _ _ hp)
 ·cases h
def fmake_s:Sp
 | [.agg [.int .i64 a,.int .i64 b,.int .i64 c],.agg [.int .i64 n,.sl 1 g ds,.sl 1 h fs],.int .i64 5,.int .i64 2]=>some (RestP n a b c ds fs,.tup [.sl 4 false (svA n ds fs),.int .i64 0])
 | _=>none
def fmake_T:Prop :=
 ∀ (n a b c:Int) (g h:Bool) (ds fs:LL),RestP n a b c ds fs->(IR9 a)∧(IR9 b)∧(IR9 c)∧True->(IR9 n)∧True∧True∧True->IR9 5->IR9 2->((schE a b c=(0:Int)∧VStP n ds fs)∧((0:Int)≤(5:Int)∧(5:Int)≤(400:Int))∧(1:Int)≤(2:Int)∧(2:Int)≤(400:Int))∧RestP n a b c ds fs∧(True∧svA n ds fs=svA n ds fs)∧(0:Int)=(0:Int)∧True
theorem fmake_P:fmake_T:=by
 unfold fmake_T
 intro n a b c g h ds fs hP
 intros
 exact ⟨⟨⟨hP.am.sc,hP.am.v⟩,by decide,by decide⟩,hP,by repeat' first|exact trivial|exact rfl|assumption|apply And.intro⟩
theorem fmake_e:fmake_T=(∀ (n a b c:Int) (g h:Bool) (ds fs:LL),RestP n a b c ds fs->fnK Tryz.prog { glob:=glb,spec:=lk [(107,fcck_s),(108,fres_s)],specH:=lk [],nowf:=true } { nt:=28,drop:=drp [(1,63488),(2,65536),(3,262144),(4,267911168)] } (λ _ _=>none) 6 Tryz.f55 [.agg [.int .i64 a,.int .i64 b,.int .i64 c],.agg [.int .i64 n,.sl 1 g ds,.sl 1 h fs],.int .i64 5,.int .i64 2] (.tup [.sl 4 false (svA n ds fs),.int .i64 0])):=by kernel_rfl
def fmake_v:=Eq.mp (fmake_e ..) (fmake_P)
theorem fmake_ok:SOK Tryz.prog glb 55 fmake_s:=by
 refine ⟨fok Tryz.func55 (by kernel_rfl) (by kernel_rfl),?_⟩
 intro xs pre r h hp
 unfold fmake_s at h
 split at h
 ·cases h
  exact fnK_sound tyNil (by exact specOK rfl rfl ⟨(fcck_ok),(fres_ok),trivial⟩ trivial) (by kernel_rfl) Tryz.func55 rfl (fmake_v  _ _ _ _ _ _ _ _ hp)
 ·cases h
theorem rep_getD (N i:Nat) (v:Int):(List.replicate N v).getD i 0=if i < N then v else 0:=by
 rw [List.getD_eq_getElem?_getD,List.getElem?_replicate]
 split <;> rfl
theorem rep_snoc (k:Nat):List.replicate k (0:Int)++[0]=List.replicate (k+1) 0:=by
 rw [List.replicate_succ']
theorem sloI_z {es:LL} {ds:List Int} {N:Nat} (h:∀ k,k < N->ds.getD (nI (es.getD k []) 0).toNat 0=ds.getD (nI (es.getD k []) 1).toNat 0):∀ k,k≤N->sloI es ds k=List.replicate k 0
 | 0,_=>rfl
 | k+1,hk=>by
  rw [sloI,sloI_z h k (by omega),h k (by omega),Int.sub_self,rep_snoc]
theorem wan_z (s:Int):wan s 0=0:=by unfold wan; rw [Int.zero_ediv]
theorem acK_z (a b:Int) (N:Nat):∀ k,acK a b (List.replicate N 0) (List.replicate N 0) k=List.replicate k 0
 | 0=>rfl
 | k+1=>by
  have:(List.replicate N (0:Int)).getD k 0=0:=by rw [rep_getD]; split <;> rfl
  rw [acK,acK_z a b N k,acV,this,wan_z,wan_z]
  exact rep_snoc k
theorem amV_z {es:LL} {ds dg:List Int} (N:Nat) (mv:Int) (k:Nat) (hd:∀ j,0≤ds.getD j 0) (hg:∀ j,0≤dg.getD j 0):amV es ds (List.replicate N 0) dg mv k=(0,0):=by
 have:(List.replicate N (0:Int)).getD k 0=0:=by rw [rep_getD]; split <;> rfl
 have h0:0≤(ds.getD (nI (es.getD k []) 0).toNat 0).tdiv (dg.getD (nI (es.getD k []) 0).toNat 0):=Int.tdiv_nonneg (hd _) (hg _)
 have h1:0≤(ds.getD (nI (es.getD k []) 1).toNat 0).tdiv (dg.getD (nI (es.getD k []) 1).toNat 0):=Int.tdiv_nonneg (hd _) (hg _)
 unfold amV
 simp only [this,wan_z]
 rw [if_neg (by omega),if_neg (by omega)]
theorem amK_z {es:LL} {ds dg:List Int} (N:Nat) (mv:Int) (hd:∀ j,0≤ds.getD j 0) (hg:∀ j,0≤dg.getD j 0):∀ k,amK es ds (List.replicate N 0) dg mv k=(List.replicate k 0,List.replicate k 0)
 | 0=>rfl
 | k+1=>by
  rw [amK,amK_z N mv hd hg k,amV_z N mv k hd hg]
  simp only [rep_snoc]
theorem set_self (l:List Int) (i:Nat):l.set i (l.getD i 0)=l:=by
 by_cases h:i < l.length
 ·rw [List.getD_eq_getElem?_getD,List.getElem?_eq_getElem h]
  simp
 ·rw [List.set_eq_of_length_le (by omega)]
theorem mvK_z (es:LL) (N:Nat) (ds:List Int):∀ k,mvK es (List.replicate N 0) ds k=ds
 | 0=>rfl
 | k+1=>by
  have:(List.replicate N (0:Int)).getD k 0=0:=by rw [rep_getD]; split <;> rfl
  rw [mvK,mvK_z es N ds k,mvS]
  simp only [this,Int.sub_zero,Int.add_zero,set_self]
theorem out_rep {lo hi v:Int} (h:lo≤v∧v≤hi) (N:Nat):outB lo hi (List.replicate N v)=false:=by
 unfold outB
 rw [List.any_eq_false]
 intro z hz
 rw [List.mem_replicate] at hz
 rw [hz.2]
 simp [inB,h.1,h.2]
theorem intsL_rep (N:Nat) (d:Int):intsL (List.replicate N d)=List.replicate N [.int .i64 d]:=by simp [intsL]
theorem degK_nn (es:LL) (N:Nat):∀ k j,0≤(degK es N k).getD j 0:=λ k j=>(degK_bd es N k j).1
theorem rest_ok {n a b c d:Int} (hg:GrdP nrm n) (hs:schE a b c=0) (hd:0≤d∧d≤16777216):RestP n a b c (List.replicate (ndN n) [.int .i64 d]) (intsL (zeV n)):=by
 have hN:(ndN n:Int)=10*n*n+2:=by have:=hg.ln; unfold ndN; omega
 have hNn:ndN n=(ptG nrm n).1.length:=by have:=hg.ln; omega
 have l2:=hg.bq.l2
 have eN:=(edgG_in hg.bq).2
 have uD:ungI (List.replicate (ndN n) [.int .i64 d])=List.replicate (ndN n) d:=by rw [← intsL_rep,ungI_ints]
 have sb:staB n (List.replicate (ndN n) d) (zeV n)=true:=by
  unfold staB zeV
  rw [out_rep hd,out_rep (by decide),decide_eq_true (by rw [List.length_replicate]; exact hN),decide_eq_true (by rw [List.length_replicate])]
  rfl
 have vs:VStP n (List.replicate (ndN n) [.int .i64 d]) (intsL (zeV n)):=⟨hg,by rw [uD,intsL_rep],by rw [ungI_ints],by rw [uD,ungI_ints]; exact sb⟩
 have dn:∀ j,0≤(List.replicate (ndN n) d).getD j 0:=λ j=>by rw [rep_getD]; split <;> omega
 have hac:acZ n a b (List.replicate (ndN n) d) (zeV n)=zeV n:=by
  unfold acZ sloZ zeV
  rw [sloI_z (N:=(edgG nrm n).length) (λ k hk=>?_) _ (Nat.le_refl _)]
  ·exact acK_z a b _ _
  ·have er:(edgG nrm n)[k]?=some ((edgG nrm n).getD k []):=by rw [List.getD_eq_getElem?_getD,List.getElem?_eq_getElem hk]; rfl
   have hin:=(edgG_in hg.bq).1 _ (List.mem_of_getElem? er)
   have a0:=hin.at_ 0 (by decide)
   have a1:=hin.at_ 1 (by decide)
   rw [rep_getD,rep_getD,if_pos (by omega),if_pos (by omega)]
 have ham:sAm n a b c (List.replicate (ndN n) d) (zeV n)=List.replicate (edgG nrm n).length 0:=by
  unfold sAm am1 amZ
  rw [hac]
  unfold zeV
  have:=amK_z (es:=edgG nrm n) (edgG nrm n).length c dn (dg:=degZ n) (degK_nn _ _ _) (edgG nrm n).length
  rw [this]
 have hmv:mvZ n (sAm n a b c (List.replicate (ndN n) d) (zeV n)) (List.replicate (ndN n) d)=List.replicate (ndN n) d:=by
  rw [ham]; exact mvK_z _ _ _ _
 have hB:mvB n (sAm n a b c (List.replicate (ndN n) d) (zeV n)) (List.replicate (ndN n) d)=false:=by
  unfold mvB; rw [hmv]; exact out_rep hd _
 refine ⟨⟨vs,hs⟩,?_,?_,?_,?_,by rw [List.length_replicate]; omega,by unfold zeV; simp only [intsL,List.length_map,List.length_replicate]; omega⟩
 ·rw [uD,ungI_ints]; unfold sE mvE; rw [hB]; rfl
 ·rw [uD,ungI_ints]; unfold sN mvN; rw [hB]; rfl
 ·rw [uD,ungI_ints]; unfold sD mvD; rw [hB,hmv,intsL_rep]; rfl
 ·rw [uD,ungI_ints]; unfold sF mvF; rw [hB,hac]; rfl
def aw33_s:Sp
 | []=>some (True,.bool true)
 | _=>none
def aw33_T:Prop :=
 VStP 1 (List.replicate 12 [AV.int IntKind.i64 5000]) (intsL (zeV 1))∧RestP 1 1 2 3 (List.replicate 12 [AV.int IntKind.i64 5000]) (intsL (zeV 1))∧(TwoI (List.replicate 12 [AV.int IntKind.i64 5000]) (List.replicate 12 [AV.int IntKind.i64 5000])∧TwoI (intsL (zeV 1)) (intsL (zeV 1)))∧bif staS 1 1 (ungI (List.replicate 12 [AV.int IntKind.i64 5000])) (ungI (intsL (zeV 1))) (ungI (List.replicate 12 [AV.int IntKind.i64 5000])) (ungI (intsL (zeV 1))) then MssP (List.replicate 12 [AV.int IntKind.i64 5000])∧decide ((60000:Int)=(60000:Int))=true else false=true
theorem aw33_P:aw33_T:=by
 unfold aw33_T
 have hr:RestP 1 1 2 3 (List.replicate 12 [.int .i64 5000]) (intsL (zeV 1)):=rest_ok (n:=1) (d:=5000) grd1 (by decide) (by decide)
 have hu:ungI (List.replicate 12 [AV.int .i64 5000])=List.replicate 12 5000:=rfl
 have hz:staS 1 1 (ungI (List.replicate 12 [.int .i64 5000])) (ungI (intsL (zeV 1))) (ungI (List.replicate 12 [.int .i64 5000])) (ungI (intsL (zeV 1)))=true:=by simp [staS]
 refine ⟨hr.am.v,hr,⟨⟨rfl,rfl,by decide,by decide⟩,⟨by rw [ungI_ints],by rw [ungI_ints],hr.lf,hr.lf⟩⟩,?_⟩
 rw [hz]
 exact ⟨⟨rfl,by decide,by rw [hu]; decide⟩,rfl⟩
theorem aw33_e:aw33_T=(fnK Tryz.prog { glob:=glb,spec:=lk [(54,mrst_s),(55,fmake_s),(56,fsame_s),(57,fmass_s)],specH:=lk [],nowf:=true } { nt:=39,drop:=drp [(1,480),(2,32256),(3,549755781120)] } (λ _ _=>none) 6 Tryz.f21 [] (.bool true)):=by kernel_rfl
def aw33_v:=Eq.mp (aw33_e ..) (aw33_P)
theorem aw33_ok:SOK Tryz.prog glb 21 aw33_s:=by
 refine ⟨fok Tryz.func21 (by kernel_rfl) (by kernel_rfl),?_⟩
 intro xs pre r h hp
 unfold aw33_s at h
 split at h
 ·cases h
  exact fnK_sound tyNil (by exact specOK rfl rfl ⟨(mrst_ok),(fmake_ok),(fsame_ok glb),(fmass_ok glb),trivial⟩ trivial) (by kernel_rfl) Tryz.func21 rfl (aw33_v  )
 ·cases h
end Go.Proofs.YtgbbmadjdaphnaaGreatDoor
namespace Go.Proofs.YtgbbmadjdaphnaaGreatDoor
open Go
structure BytL (xs:LL):Prop where
 el:∀ r ∈ xs,U8P r
theorem bytL_of {xs:LL} (h:∀ x ∈ xs,∃ z,rng .u8 z∧x=[.int .u8 z]):BytL xs:=⟨λ r hr=>by
 obtain ⟨z,hz,rfl⟩:=h r hr
 simp only [rng] at hz
 exact ⟨rfl,hz.1,hz.2⟩⟩
theorem byt_ch {xs:LL} (h:BytL xs):ChsP (xs.take 600) 0:=⟨λ r hr=>h.el r (List.mem_of_mem_take hr),by rw [List.length_take]; omega,Int.le_refl _,by omega⟩
theorem sch_ok {xs:LL} {p q r:Int} (h1:ChsP xs p) (h2:ChsP xs q) (h3:ChsP xs r):schE (1+nxV xs p 4) (1+nxV xs q 4) (1+nxV xs r 4)=0:=by
 have b1:=nxV_b h1 (n:=4) (by decide)
 have b2:=nxV_b h2 (n:=4) (by decide)
 have b3:=nxV_b h3 (n:=4) (by decide)
 unfold schE
 rw [if_neg]
 intro q
 unfold outB at q
 rw [List.any_eq_true] at q
 obtain ⟨z,hz,q⟩:=q
 simp only [List.mem_cons,List.not_mem_nil,or_false] at hz
 simp only [inB,Bool.not_eq_true',decide_eq_false_iff_not] at q
 rcases hz with rfl | rfl | rfl <;> omega
theorem out_of {lo hi:Int} {l:List Int} (h:∀ z ∈ l,lo≤z∧z≤hi):outB lo hi l=false:=by
 unfold outB
 rw [List.any_eq_false]
 intro z hz
 have:=h z hz
 simp [inB,this.1,this.2]
theorem st_ok {n:Int} {xs:LL} {p:Int} (hq:FrQ n) (hc:ChsP xs p):VStP n (intsL (stD xs p n)) (intsL (stF xs p n)):=by
 have b1:=nxV_b hc (n:=4) (by decide)
 have m1:0≤pkV stm (nxV xs p 4)∧pkV stm (nxV xs p 4)≤1000000:=pk4_b (by decide) (by decide) (by decide) (by decide) b1
 have k1:=nxA_ok hc 4
 have w1:=vcL_ok (n:=(edgG nrm n).length) k1 m1.1
 refine ⟨hq.gp,by rw [ungI_ints],by rw [ungI_ints],?_⟩
 rw [ungI_ints,ungI_ints]
 unfold staB
 rw [decide_eq_true (by unfold stD; rw [mk_len]; exact hq.nd),decide_eq_true (by unfold stF st1; rw [w1.1,Int.toNat_natCast]),out_of (λ z hz=>?_),out_of (λ z hz=>?_)]
 ·rfl
 ·have:=w1.2.1 z hz
  omega
 ·unfold stD mk at hz
  simp only [List.mem_map,List.mem_range] at hz
  obtain ⟨k,_,rfl⟩:=hz
  unfold stC
  omega
theorem ch_ok {n m:Int} {xs:LL} {p:Int} (hq:FrQ n) (hc:ChsP xs p) (hm:0≤m):ChP n (m+9) (intsL (vcL xs p (ndN n) m)) (intsL (vcL xs (vcA xs p (ndN n) m) (edgG nrm n).length m)):=by
 have w1:=vcL_ok (n:=(ndN n:Int)) hc hm
 have w2:=vcL_ok (n:=((edgG nrm n).length:Int)) w1.2.2 hm
 refine ⟨hq.gp,by rw [ungI_ints],by rw [ungI_ints],?_,?_,?_,?_⟩ <;> rw [ungI_ints]
 ·rw [w1.1,Int.toNat_natCast]
 ·rw [w2.1,Int.toNat_natCast]
 ·exact w1.2.1
 ·exact w2.2.1
theorem br_ok {n a b c:Int} {ds fs:LL} (hP:AmoP n a b c ds fs) (he:sE n a b c (ungI ds) (ungI fs)=0):BrP n (sB n a b c (ungI ds) (ungI fs)):=by
 have hb:mvB n (sAm n a b c (ungI ds) (ungI fs)) (ungI ds)=false:=by
  cases h:mvB n (sAm n a b c (ungI ds) (ungI fs)) (ungI ds) with
  | false=>rfl
  | true =>
   unfold sE mvE at he
   rw [if_pos h] at he
   cases he
 have hv:=hP.v.acc (a:=a) (b:=b)
 have hk:=amK_bd hv (sch_b hP.sc).2.2 (edgG nrm n).length (Nat.le_refl _)
 have hl:=(amK_len (edgG nrm n) (ungI ds) (ungI (intsL (acZ n a b (ungI ds) (ungI fs)))) (degZ n) c (edgG nrm n).length).2
 rw [ungI_ints] at hk hl
 have e:sB n a b c (ungI ds) (ungI fs)=intsL (amZ n c (ungI ds) (acZ n a b (ungI ds) (ungI fs))).2:=by
  unfold sB
  rw [hb]; rfl
 rw [e]
 refine ⟨by rw [ungI_ints],?_,?_⟩ <;> rw [ungI_ints]
 ·exact hl
 ·exact hk.2
theorem aj_bd {n a b c:Int} {bs:List Int} (hq:FrQ n) (hs:schE a b c=0) (m j:Nat):-9254400≤(ajD n a b c bs (unV n m) (zeV n)).getD j 0∧(ajD n a b c bs (unV n m) (zeV n)).getD j 0≤9254400:=by
 have:=ajK_b (B:=1) (bs:=bs) hq.gp (by decide) hs (gD_b (by decide) (unV_b n m)) (gD_b (by decide) (zeV_b n)) (edgG nrm n).length (Nat.le_refl _) j
 have h1:=hq.hi
 unfold ajD
 omega
theorem ag_bd {n a b c:Int} {bs:List Int} (hs:schE a b c=0) (m j:Nat):-23040≤(ajG n a b c bs (unV n m) (zeV n)).getD j 0∧(ajG n a b c bs (unV n m) (zeV n)).getD j 0≤23040:=by
 unfold ajG
 refine mk_b (C:=23040) (by decide) (λ k _=>?_) j
 have:=alF_b (B:=1) (br:=bs.getD k 0) (r0:=nI ((edgG nrm n).getD k []) 0) (r1:=nI ((edgG nrm n).getD k []) 1) (i:=k) hs (gD_b (by decide) (unV_b n m)) (gD_b (by decide) (zeV_b n))
 unfold ajF
 omega
theorem mem_bd {l:List Int} {B:Int} (h:∀ j,-B≤l.getD j 0∧l.getD j 0≤B):∀ z ∈ l,-B≤z∧z≤B:=λ z hz=>by
 obtain ⟨j,hj,rfl⟩:=List.mem_iff_getElem.1 hz
 have:=h j
 rwa [List.getD_eq_getElem?_getD,List.getElem?_eq_getElem hj] at this
theorem sumF_bd {f:Nat->Int} {B:Int} (h:∀ j,-B≤f j∧f j≤B):∀ k:Nat,-((k:Int)*B)≤sumF f k∧sumF f k≤(k:Int)*B
 | 0=>by simp [sumF]
 | k+1=>by
  have h1:=sumF_bd h k
  have h2:=h k
  rw [sumF]
  have e:((k+1:Nat):Int)*B=(k:Int)*B+B:=by rw [Int.natCast_add,Int.add_mul]; simp
  rw [e]; omega
theorem mk_set {f g:Nat->Int} {n i:Nat} {z:Int} (hz:z=g i) (h:∀ j,j≠i->f j=g j):(mk f n).set i z=mk g n:=by
 apply List.ext_getElem?
 intro j
 rw [List.getElem?_set]
 simp only [mk,List.getElem?_map,List.length_map,List.length_range]
 by_cases q:i=j
 ·subst q
  by_cases hi:i < n
  ·rw [if_pos rfl,if_pos hi,hz]; simp [hi]
  ·rw [if_pos rfl,if_neg hi,List.getElem?_eq_none (by simpa using hi)]; rfl
 ·rw [if_neg q]
  by_cases hj:j < n
  ·simp [hj,h j (λ e=>q e.symm)]
  ·rw [List.getElem?_eq_none (by simpa using hj)]; rfl
structure SenP (x:Int × Int × Int × Int × List Int × List Int × LL):Prop where
 sc:schE x.1 x.2.1 x.2.2.1=0
 ch:ChP 1 39 (intsL x.2.2.2.2.1) (intsL x.2.2.2.2.2.1)
 er:x.2.2.2.1=0∨x.2.2.2.1=7
 br:x.2.2.2.1=0->BrP 1 x.2.2.2.2.2.2
def sen5 (node:Int):LInv:=⟨Int × Int × Int × Int × List Int × List Int × LL,λ x=>⟨[(1,.int .i64 node),(7,.ptr 7 0),(8,.ptr 8 0),(10,.sl 1 false x.2.2.2.2.2.2),(11,.int .i64 x.2.2.2.1)],[(7,.cells [.int .i64 x.1,.int .i64 x.2.1,.int .i64 x.2.2.1]),(8,.cells [.sl 1 false (intsL x.2.2.2.2.1),.sl 1 false (intsL x.2.2.2.2.2.1)])]⟩,SenP,λ _=>0,none⟩
def snD (a b c:Int) (bs:LL) (m j:Nat):Int:=(ajD 1 a b c (ungI bs) (unV 1 m) (zeV 1)).getD j 0
def snG (a b c:Int) (bs:LL) (m j:Nat):Int:=(ajG 1 a b c (ungI bs) (unV 1 m) (zeV 1)).getD j 0
def suD (a b c:Int) (bs:LL) (x:Int) (j:Nat):Int:=sumF (λ m=>snD a b c bs m j) x.toNat
def suG (a b c:Int) (bs:LL) (x:Int) (j:Nat):Int:=sumF (λ m=>snG a b c bs m j) x.toNat
def paD (a b c:Int) (bs:LL) (x y:Int) (j:Nat):Int:=if (j:Int) < y then suD a b c bs (x+1) j else suD a b c bs x j
def paG (a b c:Int) (bs:LL) (x y:Int) (j:Nat):Int:=if (j:Int) < y then suG a b c bs (x+1) j else suG a b c bs x j
structure Sen19 (x:Int × Int × Int × LL × Int):Prop where
 sc:schE x.1 x.2.1 x.2.2.1=0
 br:BrP 1 x.2.2.2.1
 lo:0≤x.2.2.2.2
 hi:x.2.2.2.2≤12
def sen19:LInv:=⟨Int × Int × Int × LL × Int,λ x=>⟨[(7,.ptr 7 0),(13,.sl 1 false [[.sl 1 false x.2.2.2.1]]),(20,.int .i64 (scZ x.1 x.2.1 x.2.2.1)),(22,.rw 119 1 12),(23,.rw 120 1 30),(122,.int .i64 12),(123,.int .i64 x.2.2.2.2)],[(7,.cells [.int .i64 x.1,.int .i64 x.2.1,.int .i64 x.2.2.1]),(119,.row 3 1 (intsL (mk (suD x.1 x.2.1 x.2.2.1 x.2.2.2.1 x.2.2.2.2) 12))),(120,.row 3 1 (intsL (mk (suG x.1 x.2.1 x.2.2.1 x.2.2.2.1 x.2.2.2.2) 30)))]⟩,Sen19,λ x=>(12 - x.2.2.2.2).toNat,none⟩
structure Sen25 (x N:Int) (z:Int × Int × Int × LL × Int):Prop where
 sc:schE z.1 z.2.1 z.2.2.1=0
 br:BrP 1 z.2.2.2.1
 lo:0≤x
 hi:x < 12
 l2:0≤z.2.2.2.2
 h2:z.2.2.2.2≤N
def sen25 (x:Int):LInv:=⟨Int × Int × Int × LL × Int,λ z=>⟨[(7,.ptr 7 0),(13,.sl 1 false [[.sl 1 false z.2.2.2.1]]),(20,.int .i64 (scZ z.1 z.2.1 z.2.2.1)),(22,.rw 119 1 12),(23,.rw 120 1 30),(122,.int .i64 12),(123,.int .i64 x),(25,.ptr 25 0),(153,.int .i64 12),(154,.int .i64 z.2.2.2.2)],[(7,.cells [.int .i64 z.1,.int .i64 z.2.1,.int .i64 z.2.2.1]),(25,.cells [.sl 1 false (intsL (ajD 1 z.1 z.2.1 z.2.2.1 (ungI z.2.2.2.1) (unV 1 x.toNat) (zeV 1))),.sl 1 false (intsL (ajG 1 z.1 z.2.1 z.2.2.1 (ungI z.2.2.2.1) (unV 1 x.toNat) (zeV 1)))]),(119,.row 3 1 (intsL (mk (paD z.1 z.2.1 z.2.2.1 z.2.2.2.1 x z.2.2.2.2) 12))),(120,.row 3 1 (intsL (mk (suG z.1 z.2.1 z.2.2.1 z.2.2.2.1 x) 30)))]⟩,Sen25 x 12,λ z=>(12 - z.2.2.2.2).toNat,none⟩
def sen30 (x:Int):LInv:=⟨Int × Int × Int × LL × Int,λ z=>⟨[(7,.ptr 7 0),(13,.sl 1 false [[.sl 1 false z.2.2.2.1]]),(20,.int .i64 (scZ z.1 z.2.1 z.2.2.1)),(22,.rw 119 1 12),(23,.rw 120 1 30),(122,.int .i64 12),(123,.int .i64 x),(25,.ptr 25 0),(171,.int .i64 30),(172,.int .i64 z.2.2.2.2)],[(7,.cells [.int .i64 z.1,.int .i64 z.2.1,.int .i64 z.2.2.1]),(25,.cells [.sl 1 false (intsL (ajD 1 z.1 z.2.1 z.2.2.1 (ungI z.2.2.2.1) (unV 1 x.toNat) (zeV 1))),.sl 1 false (intsL (ajG 1 z.1 z.2.1 z.2.2.1 (ungI z.2.2.2.1) (unV 1 x.toNat) (zeV 1)))]),(119,.row 3 1 (intsL (mk (suD z.1 z.2.1 z.2.2.1 z.2.2.2.1 (x+1)) 12))),(120,.row 3 1 (intsL (mk (paG z.1 z.2.1 z.2.2.1 z.2.2.2.1 x z.2.2.2.2) 30)))]⟩,Sen25 x 30,λ z=>(30 - z.2.2.2.2).toNat,none⟩
structure Sen36 (N:Int) (x:Int × Int):Prop where
 lo:0≤x.2
 hi:x.2≤N
def sen36:LInv:=⟨Int × Int,λ x=>⟨[(20,.int .i64 x.1),(23,.rw 120 1 30),(188,.rw 119 1 12),(189,.int .i64 12),(190,.int .i64 x.2)],[(119,.row 3 1 (intsL (List.replicate 12 x.1))),(120,.row 3 1 (intsL (List.replicate 30 0)))]⟩,Sen36 12,λ x=>(12 - x.2).toNat,none⟩
def sen42:LInv:=⟨Int × Int,λ x=>⟨[(198,.rw 120 1 30),(199,.int .i64 30),(200,.int .i64 x.2)],[(120,.row 3 1 (intsL (List.replicate 30 0)))]⟩,Sen36 30,λ x=>(30 - x.2).toNat,none⟩
theorem mk_congr {f g:Nat->Int} {n:Nat} (h:∀ j,j < n->f j=g j):mk f n=mk g n:=by
 unfold mk
 exact List.map_congr_left λ j hj=>h j (List.mem_range.1 hj)
theorem mk_const {f:Nat->Int} {n:Nat} {v:Int} (h:∀ j,j < n->f j=v):mk f n=List.replicate n v:=by
 rw [mk_congr (g:=λ _=>v) h]
 unfold mk
 rw [List.eq_replicate_iff]
 exact ⟨by simp,λ z hz=>by simp at hz; exact hz.2.symm⟩
theorem st5_ok {n:Int} {xs:LL} {p:Int} (hc:ChsP xs p):ChsP xs (st5 xs p n):=by
 have b1:=nxV_b hc (n:=4) (by decide)
 have m1:0≤pkV stm (nxV xs p 4)∧pkV stm (nxV xs p 4)≤1000000:=pk4_b (by decide) (by decide) (by decide) (by decide) b1
 have w1:=vcL_ok (n:=(edgG nrm n).length) (nxA_ok hc 4) m1.1
 have k2:=nxA_ok w1.2.2 4
 have b3:=nxV_b k2 (n:=3) (by decide)
 have m3:0≤pkV sto (nxV xs (st3 xs p n) 3)∧pkV sto (nxV xs (st3 xs p n) 3)≤90000:=pk3_b (by decide) (by decide) (by decide) b3
 exact (vcL_ok (n:=(ndN n:Int)) (nxA_ok k2 3) m3.1).2.2
theorem wrap_u (z:Int):IntKind.u64.wrap z=z % 18446744073709551616:=by
 simp [IntKind.wrap,IntKind.bits,IntKind.signed]
theorem ajD_len (n a b c:Int) (bs ds fs:List Int):(ajD n a b c bs ds fs).length=ndN n:=ajK_len n a b c bs ds fs _
theorem ajG_len (n a b c:Int) (bs ds fs:List Int):(ajG n a b c bs ds fs).length=(edgG nrm n).length:=by unfold ajG; rw [mk_len]
theorem suD_s (a b c:Int) (bs:LL) {x:Int} (h:0≤x) (j:Nat):suD a b c bs (x+1) j=suD a b c bs x j+snD a b c bs x.toNat j:=by
 unfold suD
 rw [show (x+1).toNat=x.toNat+1 by omega,sumF]
theorem suG_s (a b c:Int) (bs:LL) {x:Int} (h:0≤x) (j:Nat):suG a b c bs (x+1) j=suG a b c bs x j+snG a b c bs x.toNat j:=by
 unfold suG
 rw [show (x+1).toNat=x.toNat+1 by omega,sumF]
theorem suD_b {a b c:Int} {bs:LL} (hs:schE a b c=0) {x:Int} (h:0≤x∧x≤12) (j:Nat):-111052800≤suD a b c bs x j∧suD a b c bs x j≤111052800:=by
 have:=sumF_bd (f:=λ m=>snD a b c bs m j) (B:=9254400) (λ m=>aj_bd frq1 hs m j) x.toNat
 have e:(x.toNat:Int)*9254400≤12*9254400:=Int.mul_le_mul_of_nonneg_right (by omega) (by decide)
 unfold suD
 omega
theorem suG_b {a b c:Int} {bs:LL} (hs:schE a b c=0) {x:Int} (h:0≤x∧x≤12) (j:Nat):-276480≤suG a b c bs x j∧suG a b c bs x j≤276480:=by
 have:=sumF_bd (f:=λ m=>snG a b c bs m j) (B:=23040) (λ m=>ag_bd hs m j) x.toNat
 have e:(x.toNat:Int)*23040≤12*23040:=Int.mul_le_mul_of_nonneg_right (by omega) (by decide)
 unfold suG
 omega
theorem paD_0 (a b c:Int) (bs:LL) (x:Int) (n:Nat):mk (paD a b c bs x 0) n=mk (suD a b c bs x) n:=mk_congr λ j _=>by unfold paD; rw [if_neg (by omega)]
theorem paG_0 (a b c:Int) (bs:LL) (x:Int) (n:Nat):mk (paG a b c bs x 0) n=mk (suG a b c bs x) n:=mk_congr λ j _=>by unfold paG; rw [if_neg (by omega)]
theorem paD_N (a b c:Int) (bs:LL) (x:Int) (n:Nat):mk (paD a b c bs x n) n=mk (suD a b c bs (x+1)) n:=mk_congr λ j hj=>by unfold paD; rw [if_pos (by omega)]
theorem paG_N (a b c:Int) (bs:LL) (x:Int) (n:Nat):mk (paG a b c bs x n) n=mk (suG a b c bs (x+1)) n:=mk_congr λ j hj=>by unfold paG; rw [if_pos (by omega)]
theorem paD_at (a b c:Int) (bs:LL) (x y:Int) (h:0≤y):paD a b c bs x y y.toNat=suD a b c bs x y.toNat:=by unfold paD; rw [if_neg (by omega)]
theorem paG_at (a b c:Int) (bs:LL) (x y:Int) (h:0≤y):paG a b c bs x y y.toNat=suG a b c bs x y.toNat:=by unfold paG; rw [if_neg (by omega)]
theorem paD_set (a b c:Int) (bs:LL) {x y:Int} (hx:0≤x) (hy:0≤y) {n:Nat} (hn:y.toNat < n):setEl (intsL (mk (paD a b c bs x y) n)) y.toNat 0 [.int .i64 (suD a b c bs x y.toNat+snD a b c bs x.toNat y.toNat)]=intsL (mk (paD a b c bs x (y+1)) n):=by
 rw [intsL_set (by rw [mk_len]; exact hn),mk_set]
 ·unfold paD; rw [if_pos (by omega),suD_s a b c bs hx]
 ·intro j hj
  unfold paD
  by_cases q:(j:Int) < y
  ·rw [if_pos q,if_pos (by omega)]
  ·rw [if_neg q,if_neg (by omega)]
theorem paG_set (a b c:Int) (bs:LL) {x y:Int} (hx:0≤x) (hy:0≤y) {n:Nat} (hn:y.toNat < n):setEl (intsL (mk (paG a b c bs x y) n)) y.toNat 0 [.int .i64 (suG a b c bs x y.toNat+snG a b c bs x.toNat y.toNat)]=intsL (mk (paG a b c bs x (y+1)) n):=by
 rw [intsL_set (by rw [mk_len]; exact hn),mk_set]
 ·unfold paG; rw [if_pos (by omega),suG_s a b c bs hx]
 ·intro j hj
  unfold paG
  by_cases q:(j:Int) < y
  ·rw [if_pos q,if_pos (by omega)]
  ·rw [if_neg q,if_neg (by omega)]
theorem suD_12 {a b c:Int} {bs:LL} (hs:schE a b c=0) (hB:BrP 1 bs):mk (suD a b c bs 12) 12=List.replicate 12 (scZ a b c):=mk_const λ j hj =>
 sens_sum (n:=1) grd1 hs (gD_b (by decide) hB.bb) (j:=j) hj
theorem suG_12 {a b c:Int} {bs:LL} (hs:schE a b c=0) (hB:BrP 1 bs):mk (suG a b c bs 12) 30=List.replicate 30 0:=mk_const λ j hj =>
 sens_zero (n:=1) grd1 hs (gD_b (by decide) hB.bb) (i:=j) (by rw [edg30]; exact hj)
theorem dot_ok {a b c:Int} {hd hf:List Int} {bs:LL} (hs:schE a b c=0) (ch:ChP 1 39 (intsL hd) (intsL hf)) (k:Nat):DotP (intsL (ajD 1 a b c (ungI bs) (unV 1 k) (zeV 1))) (intsL hd)∧DotP (intsL (ajG 1 a b c (ungI bs) (unV 1 k) (zeV 1))) (intsL hf):=by
 have h1:=ch.ld
 have h2:=ch.lf
 have h3:=ch.bd
 have h4:=ch.bf
 rw [ungI_ints] at h1 h2 h3 h4
 have e12:ndN 1=12:=rfl
 have e30:=edg30
 refine ⟨⟨by rw [ungI_ints],by rw [ungI_ints],by rw [intsL_len,intsL_len,ajD_len,h1],by rw [intsL_len,ajD_len]; omega,?_,?_⟩,⟨by rw [ungI_ints],by rw [ungI_ints],by rw [intsL_len,intsL_len,ajG_len,h2],by rw [intsL_len,ajG_len]; omega,?_,?_⟩⟩ <;> rw [ungI_ints]
 ·exact λ z hz=>by have:=mem_bd (λ j=>aj_bd frq1 hs k j) z hz; omega
 ·exact λ z hz=>by have:=h3 z hz; omega
 ·exact λ z hz=>by have:=mem_bd (λ j=>ag_bd hs k j) z hz; omega
 ·exact λ z hz=>by have:=h4 z hz; omega
def ltsen_s:Sp
 | [.sl 1 false xs,.int .i64 node]=>some (BytL xs,.bool true)
 | _=>none
abbrev ltsen_1 (nxA:LL->Int->Int->Int) (xs:LL):=(nxA (List.take 600 xs) (nxA (List.take 600 xs) (st5 (List.take 600 xs) 0 1) 4) 4)
abbrev ltsen_2 (x1:Int × Int × Int × Int × List Int × List Int × LL):=(intsL (taD 1 x1.1 x1.2.1 x1.2.2.1 (ungI x1.2.2.2.2.2.2) (ungI (intsL x1.2.2.2.2.1)) (ungI (intsL x1.2.2.2.2.2.1))))
abbrev ltsen_3 (x3:Int × Int × Int × LL × Int) (x2:Int × Int × Int × LL × Int):=(mk (paD x3.1 x3.2.1 x3.2.2.1 x3.2.2.2.1 x2.2.2.2.2 x3.2.2.2.2) 12)
abbrev ltsen_4 (x4:Int × Int × Int × LL × Int) (x2:Int × Int × Int × LL × Int):=(mk (paG x4.1 x4.2.1 x4.2.2.1 x4.2.2.2.1 x2.2.2.2.2 x4.2.2.2.2) 30)
abbrev ltsen_5 (x1:Int × Int × Int × Int × List Int × List Int × LL) (node:Int):=(dotZ (ungI (intsL (ajD 1 x1.1 x1.2.1 x1.2.2.1 (ungI x1.2.2.2.2.2.2) (unV 1 (modZ node 12).toNat) (zeV 1)))) (ungI (intsL x1.2.2.2.2.1))+dotZ (ungI (intsL (ajG 1 x1.1 x1.2.1 x1.2.2.1 (ungI x1.2.2.2.2.2.2) (unV 1 (modZ node 12).toNat) (zeV 1)))) (ungI (intsL x1.2.2.2.2.2.1)))
abbrev ltsen_6 (xs:LL):=(st5 (List.take 600 xs) 0 1)
abbrev ltsen_7 (x3:Int × Int × Int × LL × Int) (x2:Int × Int × Int × LL × Int):=(ajD 1 x3.1 x3.2.1 x3.2.2.1 (ungI x3.2.2.2.1) (unV 1 x2.2.2.2.2.toNat) (zeV 1))
abbrev ltsen_8 (x2:Int × Int × Int × LL × Int):=(ajD 1 x2.1 x2.2.1 x2.2.2.1 (ungI x2.2.2.2.1) (unV 1 x2.2.2.2.2.toNat) (zeV 1))
def ltsen_T (nxV:LL->Int->Int->Int) (nxA:LL->Int->Int->Int) (wH:Int->Int) (wL:Int->Int) (adZ:Int->Int->Int->Int->Int):Prop :=
 ∀ (node:Int) (xs:LL),BytL xs->True->IR9 node->True∧(FrQ 1∧ChsP (List.take 600 xs) 0)∧ChsP (List.take 600 xs) (ltsen_6 xs)∧(FrQ 1∧ChsP (List.take 600 xs) (nxA (List.take 600 xs) (ltsen_1 nxA xs) 4)∧(0:Int)≤(30:Int)∧(30:Int)≤(1000:Int))∧(AmoP 1 ((1:Int)+nxV (List.take 600 xs) (ltsen_6 xs) 4) ((1:Int)+nxV (List.take 600 xs) (nxA (List.take 600 xs) (ltsen_6 xs) 4) 4) ((1:Int)+nxV (List.take 600 xs) (ltsen_1 nxA xs) 4) (intsL (stD (List.take 600 xs) 0 1)) (intsL (stF (List.take 600 xs) 0 1))∧∃ x,SenP x∧(node=node∧(0:Nat)=(0:Nat)∧(0:Nat)=(0:Nat)∧(True∧sB 1 ((1:Int)+nxV (List.take 600 xs) (ltsen_6 xs) 4) ((1:Int)+nxV (List.take 600 xs) (nxA (List.take 600 xs) (ltsen_6 xs) 4) 4) ((1:Int)+nxV (List.take 600 xs) (ltsen_1 nxA xs) 4) (ungI (intsL (stD (List.take 600 xs) 0 1))) (ungI (intsL (stF (List.take 600 xs) 0 1)))=x.2.2.2.2.2.2)∧sE 1 ((1:Int)+nxV (List.take 600 xs) (ltsen_6 xs) 4) ((1:Int)+nxV (List.take 600 xs) (nxA (List.take 600 xs) (ltsen_6 xs) 4) 4) ((1:Int)+nxV (List.take 600 xs) (ltsen_1 nxA xs) 4) (ungI (intsL (stD (List.take 600 xs) 0 1))) (ungI (intsL (stF (List.take 600 xs) 0 1)))=x.2.2.2.1∧True)∧((1:Int)+nxV (List.take 600 xs) (ltsen_6 xs) 4=x.1∧(1:Int)+nxV (List.take 600 xs) (nxA (List.take 600 xs) (ltsen_6 xs) 4) 4=x.2.1∧(1:Int)+nxV (List.take 600 xs) (ltsen_1 nxA xs) 4=x.2.2.1∧True)∧((True∧intsL (vcL (List.take 600 xs) (nxA (List.take 600 xs) (ltsen_1 nxA xs) 4) 12 30)=intsL x.2.2.2.2.1)∧(True∧intsL (vcL (List.take 600 xs) (vcA (List.take 600 xs) (nxA (List.take 600 xs) (ltsen_1 nxA xs) 4) 12 30) (↑(edgG nrm 1).length:Int) 30)=intsL x.2.2.2.2.2.1)∧True)∧True)∧∀ (x1:Int × Int × Int × Int × List Int × List Int × LL),SenP x1->bif decide ¬x1.2.2.2.1=(0:Int) then bif decide (x1.2.2.2.1=(7:Int)) then True∧true=true else false=true else True∧((schE x1.1 x1.2.1 x1.2.2.1=(0:Int)∧GrdP nrm 1∧BrP 1 x1.2.2.2.2.2.2)∧0≤modZ node 12∧modZ node 12 < (12:Int))∧(schE x1.1 x1.2.1 x1.2.2.1=(0:Int)∧ChP 1 10000000000 (intsL x1.2.2.2.2.1) (intsL x1.2.2.2.2.2.1)∧BrP 1 x1.2.2.2.2.2.2)∧(DotP (intsL (ajD 1 x1.1 x1.2.1 x1.2.2.1 (ungI x1.2.2.2.2.2.2) (unV 1 (modZ node 12).toNat) (zeV 1))) (intsL x1.2.2.2.2.1)∧DotP (intsL (ajG 1 x1.1 x1.2.1 x1.2.2.1 (ungI x1.2.2.2.2.2.2) (unV 1 (modZ node 12).toNat) (zeV 1))) (intsL x1.2.2.2.2.2.1))∧schE x1.1 x1.2.1 x1.2.2.1=(0:Int)∧bif decide ¬(↑(ltsen_2 x1).length:Int)=(12:Int) then false=true else bif decide (0≤modZ node 12∧modZ node 12 < (↑(ltsen_2 x1).length:Int)) then ∃ n,List.take [I6 n].length ((ltsen_2 x1).getD (modZ node 12).toNat [])=[I6 n]∧bif decide (0≤modZ node 12∧modZ node 12 < (↑(ltsen_2 x1).length:Int)) then ∃ n_1,List.take [I6 n_1].length ((ltsen_2 x1).getD (modZ node 12).toNat [])=[I6 n_1]∧bif !(decide (wH (ltsen_5 x1 node)=n / (9223372036854775808:Int))&&(decide (wL (ltsen_5 x1 node)=IntKind.u64.wrap n_1)&&true)) then false=true else (∃ x_1,Sen19 x_1∧((0:Nat)=(0:Nat)∧((1:Nat)=[[AV.sl 1 false x1.2.2.2.2.2.2]].length∧[[AV.sl 1 false x1.2.2.2.2.2.2]]=[[AV.sl 1 false x_1.2.2.2.1]])∧scZ x1.1 x1.2.1 x1.2.2.1=scZ x_1.1 x_1.2.1 x_1.2.2.1∧(12:Nat)=(12:Nat)∧(30:Nat)=(30:Nat)∧(12:Int)=(12:Int)∧(0:Int)=x_1.2.2.2.2∧True)∧(x1.1=x_1.1∧x1.2.1=x_1.2.1∧x1.2.2.1=x_1.2.2.1∧True)∧List.replicate 12 [I6 0]=intsL (mk (suD x_1.1 x_1.2.1 x_1.2.2.1 x_1.2.2.2.1 x_1.2.2.2.2) 12)∧List.replicate 30 [I6 0]=intsL (mk (suG x_1.1 x_1.2.1 x_1.2.2.1 x_1.2.2.2.1 x_1.2.2.2.2) 30)∧True)∧∀ (x2:Int × Int × Int × LL × Int),Sen19 x2->bif decide (x2.2.2.2.2 < (12:Int)) then ((schE x2.1 x2.2.1 x2.2.2.1=(0:Int)∧GrdP nrm 1∧BrP 1 x2.2.2.2.1)∧0≤x2.2.2.2.2∧x2.2.2.2.2 < (12:Int))∧bif decide ¬(↑(intsL (ltsen_8 x2)).length:Int)=(12:Int) then false=true else bif decide ¬(↑(intsL (ajG 1 x2.1 x2.2.1 x2.2.2.1 (ungI x2.2.2.2.1) (unV 1 x2.2.2.2.2.toNat) (zeV 1))).length:Int)=(30:Int) then false=true else (∃ x_1,Sen25 x2.2.2.2.2 12 x_1∧((0:Nat)=(0:Nat)∧(True∧[[AV.sl 1 false x2.2.2.2.1]]=[[AV.sl 1 false x_1.2.2.2.1]])∧scZ x2.1 x2.2.1 x2.2.2.1=scZ x_1.1 x_1.2.1 x_1.2.2.1∧(12:Nat)=(12:Nat)∧(30:Nat)=(30:Nat)∧(12:Int)=(12:Int)∧x2.2.2.2.2=x2.2.2.2.2∧(0:Nat)=(0:Nat)∧(↑(intsL (ltsen_8 x2)).length:Int)=(12:Int)∧(0:Int)=x_1.2.2.2.2∧True)∧(x2.1=x_1.1∧x2.2.1=x_1.2.1∧x2.2.2.1=x_1.2.2.1∧True)∧((True∧intsL (ltsen_8 x2)=intsL (ajD 1 x_1.1 x_1.2.1 x_1.2.2.1 (ungI x_1.2.2.2.1) (unV 1 x2.2.2.2.2.toNat) (zeV 1)))∧(True∧intsL (ajG 1 x2.1 x2.2.1 x2.2.2.1 (ungI x2.2.2.2.1) (unV 1 x2.2.2.2.2.toNat) (zeV 1))=intsL (ajG 1 x_1.1 x_1.2.1 x_1.2.2.1 (ungI x_1.2.2.2.1) (unV 1 x2.2.2.2.2.toNat) (zeV 1)))∧True)∧intsL (mk (suD x2.1 x2.2.1 x2.2.2.1 x2.2.2.2.1 x2.2.2.2.2) 12)=intsL (mk (paD x_1.1 x_1.2.1 x_1.2.2.1 x_1.2.2.2.1 x2.2.2.2.2 x_1.2.2.2.2) 12)∧intsL (mk (suG x2.1 x2.2.1 x2.2.2.1 x2.2.2.2.1 x2.2.2.2.2) 30)=intsL (mk (suG x_1.1 x_1.2.1 x_1.2.2.1 x_1.2.2.2.1 x2.2.2.2.2) 30)∧True)∧∀ (x3:Int × Int × Int × LL × Int),Sen25 x2.2.2.2.2 12 x3->bif decide (x3.2.2.2.2 < (12:Int)) then bif decide (0≤x3.2.2.2.2∧x3.2.2.2.2 < (12:Int)) then bif decide ((12:Nat)=(intsL (ltsen_3 x3 x2)).length∧x3.2.2.2.2.toNat < (intsL (ltsen_3 x3 x2)).length) then ∃ n,List.take [I6 n].length (List.drop 0 ((intsL (ltsen_3 x3 x2)).getD x3.2.2.2.2.toNat []))=[I6 n]∧bif decide (0≤x3.2.2.2.2∧x3.2.2.2.2 < (↑(intsL (ltsen_7 x3 x2)).length:Int)) then ∃ n_2,List.take [I6 n_2].length ((intsL (ltsen_7 x3 x2)).getD x3.2.2.2.2.toNat [])=[I6 n_2]∧bif decide (rng IntKind.i64 (n+n_2)) then bif decide (0≤x3.2.2.2.2∧x3.2.2.2.2 < (12:Int)) then bif decide ((12:Nat)=(intsL (ltsen_3 x3 x2)).length∧x3.2.2.2.2.toNat < (intsL (ltsen_3 x3 x2)).length) then bif decide (rng IntKind.i64 (x3.2.2.2.2+(1:Int))) then ∃ y,Sen25 x2.2.2.2.2 12 y∧(sen25 x2.2.2.2.2).m y < (sen25 x2.2.2.2.2).m x3∧((0:Nat)=(0:Nat)∧(True∧[[AV.sl 1 false x3.2.2.2.1]]=[[AV.sl 1 false y.2.2.2.1]])∧scZ x3.1 x3.2.1 x3.2.2.1=scZ y.1 y.2.1 y.2.2.1∧(12:Nat)=(12:Nat)∧(30:Nat)=(30:Nat)∧(12:Int)=(12:Int)∧x2.2.2.2.2=x2.2.2.2.2∧(0:Nat)=(0:Nat)∧(12:Int)=(12:Int)∧x3.2.2.2.2+(1:Int)=y.2.2.2.2∧True)∧(x3.1=y.1∧x3.2.1=y.2.1∧x3.2.2.1=y.2.2.1∧True)∧((True∧intsL (ltsen_7 x3 x2)=intsL (ajD 1 y.1 y.2.1 y.2.2.1 (ungI y.2.2.2.1) (unV 1 x2.2.2.2.2.toNat) (zeV 1)))∧(True∧intsL (ajG 1 x3.1 x3.2.1 x3.2.2.1 (ungI x3.2.2.2.1) (unV 1 x2.2.2.2.2.toNat) (zeV 1))=intsL (ajG 1 y.1 y.2.1 y.2.2.1 (ungI y.2.2.2.1) (unV 1 x2.2.2.2.2.toNat) (zeV 1)))∧True)∧setEl (intsL (ltsen_3 x3 x2)) x3.2.2.2.2.toNat 0 [I6 (n+n_2)]=intsL (mk (paD y.1 y.2.1 y.2.2.1 y.2.2.2.1 x2.2.2.2.2 y.2.2.2.2) 12)∧intsL (mk (suG x3.1 x3.2.1 x3.2.2.1 x3.2.2.2.1 x2.2.2.2.2) 30)=intsL (mk (suG y.1 y.2.1 y.2.2.1 y.2.2.2.1 x2.2.2.2.2) 30)∧True else False else False else False else False else False else False else False else (∃ x_2,Sen25 x2.2.2.2.2 30 x_2∧((0:Nat)=(0:Nat)∧(True∧[[AV.sl 1 false x3.2.2.2.1]]=[[AV.sl 1 false x_2.2.2.2.1]])∧scZ x3.1 x3.2.1 x3.2.2.1=scZ x_2.1 x_2.2.1 x_2.2.2.1∧(12:Nat)=(12:Nat)∧(30:Nat)=(30:Nat)∧(12:Int)=(12:Int)∧x2.2.2.2.2=x2.2.2.2.2∧(0:Nat)=(0:Nat)∧(↑(intsL (ajG 1 x3.1 x3.2.1 x3.2.2.1 (ungI x3.2.2.2.1) (unV 1 x2.2.2.2.2.toNat) (zeV 1))).length:Int)=(30:Int)∧(0:Int)=x_2.2.2.2.2∧True)∧(x3.1=x_2.1∧x3.2.1=x_2.2.1∧x3.2.2.1=x_2.2.2.1∧True)∧((True∧intsL (ltsen_7 x3 x2)=intsL (ajD 1 x_2.1 x_2.2.1 x_2.2.2.1 (ungI x_2.2.2.2.1) (unV 1 x2.2.2.2.2.toNat) (zeV 1)))∧(True∧intsL (ajG 1 x3.1 x3.2.1 x3.2.2.1 (ungI x3.2.2.2.1) (unV 1 x2.2.2.2.2.toNat) (zeV 1))=intsL (ajG 1 x_2.1 x_2.2.1 x_2.2.2.1 (ungI x_2.2.2.2.1) (unV 1 x2.2.2.2.2.toNat) (zeV 1)))∧True)∧intsL (ltsen_3 x3 x2)=intsL (mk (suD x_2.1 x_2.2.1 x_2.2.2.1 x_2.2.2.2.1 (x2.2.2.2.2+(1:Int))) 12)∧intsL (mk (suG x3.1 x3.2.1 x3.2.2.1 x3.2.2.2.1 x2.2.2.2.2) 30)=intsL (mk (paG x_2.1 x_2.2.1 x_2.2.2.1 x_2.2.2.2.1 x2.2.2.2.2 x_2.2.2.2.2) 30)∧True)∧∀ (x4:Int × Int × Int × LL × Int),Sen25 x2.2.2.2.2 30 x4->bif decide (x4.2.2.2.2 < (30:Int)) then bif decide (0≤x4.2.2.2.2∧x4.2.2.2.2 < (30:Int)) then bif decide ((30:Nat)=(intsL (ltsen_4 x4 x2)).length∧x4.2.2.2.2.toNat < (intsL (ltsen_4 x4 x2)).length) then ∃ n,List.take [I6 n].length (List.drop 0 ((intsL (ltsen_4 x4 x2)).getD x4.2.2.2.2.toNat []))=[I6 n]∧bif decide (0≤x4.2.2.2.2∧x4.2.2.2.2 < (↑(intsL (ajG 1 x4.1 x4.2.1 x4.2.2.1 (ungI x4.2.2.2.1) (unV 1 x2.2.2.2.2.toNat) (zeV 1))).length:Int)) then ∃ n_2,List.take [I6 n_2].length ((intsL (ajG 1 x4.1 x4.2.1 x4.2.2.1 (ungI x4.2.2.2.1) (unV 1 x2.2.2.2.2.toNat) (zeV 1))).getD x4.2.2.2.2.toNat [])=[I6 n_2]∧bif decide (rng IntKind.i64 (n+n_2)) then bif decide (0≤x4.2.2.2.2∧x4.2.2.2.2 < (30:Int)) then bif decide ((30:Nat)=(intsL (ltsen_4 x4 x2)).length∧x4.2.2.2.2.toNat < (intsL (ltsen_4 x4 x2)).length) then bif decide (rng IntKind.i64 (x4.2.2.2.2+(1:Int))) then ∃ y,Sen25 x2.2.2.2.2 30 y∧(sen30 x2.2.2.2.2).m y < (sen30 x2.2.2.2.2).m x4∧((0:Nat)=(0:Nat)∧(True∧[[AV.sl 1 false x4.2.2.2.1]]=[[AV.sl 1 false y.2.2.2.1]])∧scZ x4.1 x4.2.1 x4.2.2.1=scZ y.1 y.2.1 y.2.2.1∧(12:Nat)=(12:Nat)∧(30:Nat)=(30:Nat)∧(12:Int)=(12:Int)∧x2.2.2.2.2=x2.2.2.2.2∧(0:Nat)=(0:Nat)∧(30:Int)=(30:Int)∧x4.2.2.2.2+(1:Int)=y.2.2.2.2∧True)∧(x4.1=y.1∧x4.2.1=y.2.1∧x4.2.2.1=y.2.2.1∧True)∧((True∧intsL (ajD 1 x4.1 x4.2.1 x4.2.2.1 (ungI x4.2.2.2.1) (unV 1 x2.2.2.2.2.toNat) (zeV 1))=intsL (ajD 1 y.1 y.2.1 y.2.2.1 (ungI y.2.2.2.1) (unV 1 x2.2.2.2.2.toNat) (zeV 1)))∧(True∧intsL (ajG 1 x4.1 x4.2.1 x4.2.2.1 (ungI x4.2.2.2.1) (unV 1 x2.2.2.2.2.toNat) (zeV 1))=intsL (ajG 1 y.1 y.2.1 y.2.2.1 (ungI y.2.2.2.1) (unV 1 x2.2.2.2.2.toNat) (zeV 1)))∧True)∧intsL (mk (suD x4.1 x4.2.1 x4.2.2.1 x4.2.2.2.1 (x2.2.2.2.2+(1:Int))) 12)=intsL (mk (suD y.1 y.2.1 y.2.2.1 y.2.2.2.1 (x2.2.2.2.2+(1:Int))) 12)∧setEl (intsL (ltsen_4 x4 x2)) x4.2.2.2.2.toNat 0 [I6 (n+n_2)]=intsL (mk (paG y.1 y.2.1 y.2.2.1 y.2.2.2.1 x2.2.2.2.2 y.2.2.2.2) 30)∧True else False else False else False else False else False else False else False else bif decide (rng IntKind.i64 (x2.2.2.2.2+(1:Int))) then ∃ y,Sen19 y∧sen19.m y < sen19.m x2∧((0:Nat)=(0:Nat)∧(True∧[[AV.sl 1 false x4.2.2.2.1]]=[[AV.sl 1 false y.2.2.2.1]])∧scZ x4.1 x4.2.1 x4.2.2.1=scZ y.1 y.2.1 y.2.2.1∧(12:Nat)=(12:Nat)∧(30:Nat)=(30:Nat)∧(12:Int)=(12:Int)∧x2.2.2.2.2+(1:Int)=y.2.2.2.2∧True)∧(x4.1=y.1∧x4.2.1=y.2.1∧x4.2.2.1=y.2.2.1∧True)∧intsL (mk (suD x4.1 x4.2.1 x4.2.2.1 x4.2.2.2.1 (x2.2.2.2.2+(1:Int))) 12)=intsL (mk (suD y.1 y.2.1 y.2.2.1 y.2.2.2.1 y.2.2.2.2) 12)∧intsL (ltsen_4 x4 x2)=intsL (mk (suG y.1 y.2.1 y.2.2.1 y.2.2.2.1 y.2.2.2.2) 30)∧True else False else (∃ x_1,Sen36 12 x_1∧(scZ x2.1 x2.2.1 x2.2.2.1=x_1.1∧(30:Nat)=(30:Nat)∧(12:Nat)=(12:Nat)∧(12:Int)=(12:Int)∧(0:Int)=x_1.2∧True)∧intsL (mk (suD x2.1 x2.2.1 x2.2.2.1 x2.2.2.2.1 x2.2.2.2.2) 12)=intsL (List.replicate 12 x_1.1)∧intsL (mk (suG x2.1 x2.2.1 x2.2.2.1 x2.2.2.2.1 x2.2.2.2.2) 30)=intsL (List.replicate 30 0)∧True)∧∀ (x5:Int × Int),Sen36 12 x5->bif decide (x5.2 < (12:Int)) then bif decide (0≤x5.2∧x5.2 < (12:Int)) then bif decide ((12:Nat)=(intsL (List.replicate 12 x5.1)).length∧x5.2.toNat < (intsL (List.replicate 12 x5.1)).length) then ∃ n,List.take [I6 n].length (List.drop 0 ((intsL (List.replicate 12 x5.1)).getD x5.2.toNat []))=[I6 n]∧bif decide ¬n=x5.1 then false=true else bif decide (rng IntKind.i64 (x5.2+(1:Int))) then ∃ y,Sen36 12 y∧sen36.m y < sen36.m x5∧(x5.1=y.1∧(30:Nat)=(30:Nat)∧(12:Nat)=(12:Nat)∧(12:Int)=(12:Int)∧x5.2+(1:Int)=y.2∧True)∧intsL (List.replicate 12 x5.1)=intsL (List.replicate 12 y.1)∧intsL (List.replicate 30 0)=intsL (List.replicate 30 0)∧True else False else False else False else (∃ x,Sen36 30 x∧((30:Nat)=(30:Nat)∧(30:Int)=(30:Int)∧(0:Int)=x.2∧True)∧intsL (List.replicate 30 0)=intsL (List.replicate 30 0)∧True)∧∀ (x6:Int × Int),Sen36 30 x6->bif decide (x6.2 < (30:Int)) then bif decide (0≤x6.2∧x6.2 < (30:Int)) then bif decide ((30:Nat)=(30:Nat)∧x6.2.toNat < (30:Nat)) then ∃ n,List.take [I6 n].length (List.drop 0 ((intsL (List.replicate 30 0)).getD x6.2.toNat []))=[I6 n]∧bif decide ¬n=(0:Int) then false=true else bif decide (rng IntKind.i64 (x6.2+(1:Int))) then ∃ y,Sen36 30 y∧sen42.m y < sen42.m x6∧((30:Nat)=(30:Nat)∧(30:Int)=(30:Int)∧x6.2+(1:Int)=y.2∧True)∧intsL (List.replicate 30 0)=intsL (List.replicate 30 0)∧True else False else False else False else True∧true=true else False else False
theorem ltsen_P:ltsen_T nxV nxA wH wL adZ:=by
 unfold ltsen_T
 delta ltsen_1 ltsen_2 ltsen_3 ltsen_4 ltsen_5 ltsen_6 ltsen_7 ltsen_8 I6
 intro node xs hx
 intros
 have c0:=byt_ch hx
 have hk:0≤modZ node 12∧modZ node 12 < 12:=by unfold modZ; rw [if_neg (by decide)]; omega
 generalize List.take 600 xs=zs at *
 have s5:ChsP zs (st5 zs 0 1):=st5_ok c0
 have q1:=nxA_ok s5 4
 have q2:=nxA_ok q1 4
 have q3:=nxA_ok q2 4
 have hsc:=sch_ok s5 q1 q2
 have hch:ChP 1 39 (intsL (vcL zs (nxA zs (nxA zs (nxA zs (st5 zs 0 1) 4) 4) 4) 12 30)) (intsL (vcL zs (vcA zs (nxA zs (nxA zs (nxA zs (st5 zs 0 1) 4) 4) 4) 12 30) (edgG nrm 1).length 30)):=ch_ok (n:=1) (m:=30) frq1 q3 (by decide)
 generalize nxA zs (nxA zs (nxA zs (st5 zs 0 1) 4) 4) 4=p3 at *
 generalize 1+nxV zs (st5 zs 0 1) 4=a at *
 generalize 1+nxV zs (nxA zs (st5 zs 0 1) 4) 4=b at *
 generalize 1+nxV zs (nxA zs (nxA zs (st5 zs 0 1) 4) 4) 4=c at *
 have hA:AmoP 1 a b c (intsL (stD zs 0 1)) (intsL (stF zs 0 1)):=⟨st_ok frq1 c0,hsc⟩
 have hbr:=br_ok hA
 have her:sE 1 a b c (ungI (intsL (stD zs 0 1))) (ungI (intsL (stF zs 0 1)))=0∨sE 1 a b c (ungI (intsL (stD zs 0 1))) (ungI (intsL (stF zs 0 1)))=7:=by
  unfold sE mvE
  split
  ·exact .inr rfl
  ·exact .inl rfl
 refine ⟨trivial,⟨frq1,c0⟩,s5,⟨frq1,q3,by decide,by decide⟩,⟨hA,⟨(a,b,c,sE 1 a b c (ungI (intsL (stD zs 0 1))) (ungI (intsL (stF zs 0 1))),vcL zs p3 12 30,vcL zs (vcA zs p3 12 30) (edgG nrm 1).length 30,sB 1 a b c (ungI (intsL (stD zs 0 1))) (ungI (intsL (stF zs 0 1)))),⟨hsc,hch,her,hbr⟩,by repeat' first|exact trivial|exact rfl|assumption|apply And.intro,by repeat' first|exact trivial|exact rfl|assumption|apply And.intro,by repeat' first|exact trivial|exact rfl|assumption|apply And.intro,trivial⟩⟩,?_⟩
 clear hA hbr her hch hsc q1 q2 q3 s5 c0 hx
 clear p3 a b c
 rintro ⟨a,b,c,e,hd,hf,bs⟩ ⟨sc,ch,er,br⟩
 dsimp only at sc ch er br ⊢
 refine csp (λ q=>cd1 (er.resolve_left q) ⟨trivial,rfl⟩) (λ q=>?_)
 have hB:=br (Classical.not_not.1 q)
 have hd2:=dot_ok (bs:=bs) sc ch (modZ node 12).toNat
 have ld:=ch.ld
 rw [ungI_ints] at ld
 have tl:(taD 1 a b c (ungI bs) (ungI (intsL hd)) (ungI (intsL hf))).length=12:=taK_len _ _ _ _ _ _ _ _
 have hse:=sens (n:=1) (a:=a) (b:=b) (c:=c) (ds:=hd) (fs:=hf) grd1 sc (gD_b (by decide) hB.bb) ld (k:=(modZ node 12).toNat) (show _ < 12 by omega)
 have til:=ints_len (taD 1 a b c (ungI bs) (ungI (intsL hd)) (ungI (intsL hf)))
 have ub:-4611686018427387904≤(taD 1 a b c (ungI bs) hd hf).getD (modZ node 12).toNat 0∧(taD 1 a b c (ungI bs) hd hf).getD (modZ node 12).toNat 0≤4611686018427387904:=by
  have h3:=ch.bd
  have h4:=ch.bf
  rw [ungI_ints] at h3 h4
  have:=taK_b (B:=39) (bs:=ungI bs) grd1 (by decide) sc (gD_b (by decide) h3) (gD_b (by decide) h4) (edgG nrm 1).length (modZ node 12).toNat
  have e30:=edg30
  rw [e30] at this
  unfold taD
  rw [e30]
  omega
 refine ⟨trivial,⟨⟨sc,grd1,hB⟩,hk⟩,⟨sc,ch.mono (by decide),hB⟩,hd2,sc,cd0 (by omega) (cd1 (by omega) ⟨_,by rw [ints_at (by omega)]; rfl,cd1 (by omega) ⟨_,by rw [ints_at (by omega)]; rfl,?_⟩⟩)⟩
 rw [ungI_ints,ungI_ints,ungI_ints,ungI_ints]
 rw [hse]
 generalize (taD 1 a b c (ungI bs) hd hf).getD (modZ node 12).toNat 0=u at ub
 rw [decide_eq_true (show wH u=u / 9223372036854775808 by unfold wH; omega),decide_eq_true (show wL u=IntKind.u64.wrap u by unfold wL; rw [wrap_u])]
 simp only [Bool.and_self,Bool.not_true,cond_false]
 clear hse til tl ld hd2 q br er ub u hk
 refine ⟨⟨(a,b,c,bs,0),⟨sc,hB,Int.le_refl _,by dsimp only; omega⟩,by repeat' first|exact trivial|exact rfl|assumption|apply And.intro,by repeat' first|exact trivial|exact rfl|assumption|apply And.intro,?_,?_,trivial⟩,?_⟩
 ·show _=intsL (mk (suD a b c bs 0) 12)
  have e:mk (suD a b c bs 0) 12=List.replicate 12 0:=mk_const λ j _=>rfl
  rw [e]; rfl
 ·show _=intsL (mk (suG a b c bs 0) 30)
  have e:mk (suG a b c bs 0) 30=List.replicate 30 0:=mk_const λ j _=>rfl
  rw [e]; rfl
 clear sc ch hB
 clear a b c e hd hf bs
 rintro ⟨a,b,c,bs,x⟩ ⟨sc,hB,x0,x1⟩
 dsimp only at sc hB x0 x1 ⊢
 have lD:=ajD_len 1 a b c (ungI bs) (unV 1 x.toNat) (zeV 1)
 have lG:=ajG_len 1 a b c (ungI bs) (unV 1 x.toNat) (zeV 1)
 rw [edg30] at lG
 rw [show ndN 1=12 from rfl] at lD
 have liD:=ints_len (ajD 1 a b c (ungI bs) (unV 1 x.toNat) (zeV 1))
 have liG:=ints_len (ajG 1 a b c (ungI bs) (unV 1 x.toNat) (zeV 1))
 refine csp (λ qx=>?_) (λ qx=>?_)
 ·refine ⟨⟨⟨sc,grd1,hB⟩,x0,qx⟩,cd0 (by omega) (cd0 (by omega) ⟨⟨(a,b,c,bs,0),⟨sc,hB,x0,qx,Int.le_refl _,by dsimp only; omega⟩,by repeat' (first | exact trivial | exact rfl | apply And.intro | omega),by repeat' first|exact trivial|exact rfl|assumption|apply And.intro,by repeat' first|exact trivial|exact rfl|assumption|apply And.intro,by rw [paD_0],by repeat' first|exact trivial|exact rfl|assumption|apply And.intro⟩,?_⟩)⟩
  clear sc hB lD lG liD liG
  rintro ⟨a,b,c,bs,y⟩ ⟨sc,hB,_,_,y0,y1⟩
  dsimp only at sc hB y0 y1 ⊢
  have lD:=ajD_len 1 a b c (ungI bs) (unV 1 x.toNat) (zeV 1)
  have lG:=ajG_len 1 a b c (ungI bs) (unV 1 x.toNat) (zeV 1)
  rw [edg30] at lG
  rw [show ndN 1=12 from rfl] at lD
  have liD:=ints_len (ajD 1 a b c (ungI bs) (unV 1 x.toNat) (zeV 1))
  have liG:=ints_len (ajG 1 a b c (ungI bs) (unV 1 x.toNat) (zeV 1))
  have lm:=ints_len (mk (paD a b c bs x y) 12)
  rw [mk_len] at lm
  refine csp (λ qy=>?_) (λ qy=>?_)
  ·have hy:y.toNat < 12:=by omega
   have s1:=suD_b (bs:=bs) sc ⟨x0,x1⟩ y.toNat
   have s2:=aj_bd (bs:=ungI bs) frq1 sc x.toNat y.toNat
   have c2:12=(intsL (mk (paD a b c bs x y) 12)).length∧y.toNat < (intsL (mk (paD a b c bs x y) 12)).length:=by omega
   refine cd1 ⟨y0,qy⟩ (cd1 c2 ⟨suD a b c bs x y.toNat,?_,cd1 ⟨y0,by omega⟩ ⟨snD a b c bs x.toNat y.toNat,?_,cdI ?_ (cd1 ⟨y0,qy⟩ (cd1 c2 (cdI (by omega) ⟨(a,b,c,bs,y+1),⟨sc,hB,x0,qx,by dsimp only; omega,by dsimp only; omega⟩,by show (_:Nat) < _; simp only [sen25]; omega,by repeat' first|exact trivial|exact rfl|assumption|apply And.intro,by repeat' first|exact trivial|exact rfl|assumption|apply And.intro,by repeat' first|exact trivial|exact rfl|assumption|apply And.intro,paD_set a b c bs x0 y0 hy,by repeat' first|exact trivial|exact rfl|assumption|apply And.intro⟩)))⟩⟩)
   ·rw [List.drop_zero,ints_at (by rw [mk_len]; exact hy),mk_getD _ hy,paD_at a b c bs x y y0]; rfl
   ·rw [ints_at (by omega)]; rfl
   ·unfold snD; omega
  ·obtain rfl:y=12:=by omega
   refine ⟨⟨(a,b,c,bs,0),⟨sc,hB,x0,qx,Int.le_refl _,by dsimp only; omega⟩,by repeat' (first | exact trivial | exact rfl | apply And.intro | omega),by repeat' first|exact trivial|exact rfl|assumption|apply And.intro,by repeat' first|exact trivial|exact rfl|assumption|apply And.intro,?_,by rw [paG_0],trivial⟩,?_⟩
   ·exact congrArg intsL (paD_N a b c bs x 12)
   clear sc hB lD lG liD liG lm y0 y1 qy
   rintro ⟨a,b,c,bs,y⟩ ⟨sc,hB,_,_,y0,y1⟩
   dsimp only at sc hB y0 y1 ⊢
   have lG:=ajG_len 1 a b c (ungI bs) (unV 1 x.toNat) (zeV 1)
   rw [edg30] at lG
   have liG:=ints_len (ajG 1 a b c (ungI bs) (unV 1 x.toNat) (zeV 1))
   have lm:=ints_len (mk (paG a b c bs x y) 30)
   rw [mk_len] at lm
   refine csp (λ qy=>?_) (λ qy=>?_)
   ·have hy:y.toNat < 30:=by omega
    have s1:=suG_b (bs:=bs) sc ⟨x0,x1⟩ y.toNat
    have s2:=ag_bd (n:=1) (bs:=ungI bs) sc x.toNat y.toNat
    have c2:30=(intsL (mk (paG a b c bs x y) 30)).length∧y.toNat < (intsL (mk (paG a b c bs x y) 30)).length:=by omega
    refine cd1 ⟨y0,qy⟩ (cd1 c2 ⟨suG a b c bs x y.toNat,?_,cd1 ⟨y0,by omega⟩ ⟨snG a b c bs x.toNat y.toNat,?_,cdI ?_ (cd1 ⟨y0,qy⟩ (cd1 c2 (cdI (by omega) ⟨(a,b,c,bs,y+1),⟨sc,hB,x0,qx,by dsimp only; omega,by dsimp only; omega⟩,by show (_:Nat) < _; simp only [sen30]; omega,by repeat' first|exact trivial|exact rfl|assumption|apply And.intro,by repeat' first|exact trivial|exact rfl|assumption|apply And.intro,by repeat' first|exact trivial|exact rfl|assumption|apply And.intro,by repeat' first|exact trivial|exact rfl|assumption|apply And.intro,paG_set a b c bs x0 y0 hy,trivial⟩)))⟩⟩)
    ·rw [List.drop_zero,ints_at (by rw [mk_len]; exact hy),mk_getD _ hy,paG_at a b c bs x y y0]; rfl
    ·rw [ints_at (by omega)]; rfl
    ·unfold snG; omega
   ·obtain rfl:y=30:=by omega
    exact cdI (by omega) ⟨(a,b,c,bs,x+1),⟨sc,hB,by dsimp only; omega,by dsimp only; omega⟩,by show (_:Nat) < _; simp only [sen19]; omega,by repeat' first|exact trivial|exact rfl|assumption|apply And.intro,by repeat' first|exact trivial|exact rfl|assumption|apply And.intro,by repeat' first|exact trivial|exact rfl|assumption|apply And.intro,congrArg intsL (paG_N a b c bs x 30),trivial⟩
 ·obtain rfl:x=12:=by omega
  refine ⟨⟨(scZ a b c,0),⟨Int.le_refl _,by dsimp only; omega⟩,by repeat' first|exact trivial|exact rfl|assumption|apply And.intro,congrArg intsL (suD_12 sc hB),congrArg intsL (suG_12 sc hB),trivial⟩,?_⟩
  clear sc hB lD lG liD liG x0 x1 qx
  clear a b c bs
  rintro ⟨z,y⟩ ⟨y0,y1⟩
  dsimp only at y0 y1 ⊢
  refine csp (λ qy=>?_) (λ qy=>?_)
  ·refine cd1 ⟨y0,qy⟩ (cd1 ⟨by repeat' first|exact trivial|exact rfl|assumption|apply And.intro,by show y.toNat < 12; omega⟩ ⟨z,?_,cd0 (λ q=>q rfl) (cdI (by omega) ⟨(z,y+1),⟨by dsimp only; omega,by dsimp only; omega⟩,by show (_:Nat) < _; simp only [sen36]; omega,by repeat' first|exact trivial|exact rfl|assumption|apply And.intro⟩)⟩)
   rw [List.drop_zero,ints_at (by simp; omega),rep_getD,if_pos (by omega)]; rfl
  ·refine ⟨⟨(z,0),⟨Int.le_refl _,by dsimp only; omega⟩,by repeat' first|exact trivial|exact rfl|assumption|apply And.intro⟩,?_⟩
   clear y0 y1 qy
   rintro ⟨z,y⟩ ⟨y0,y1⟩
   dsimp only at y0 y1 ⊢
   refine csp (λ qy=>?_) (λ qy=>by repeat' first|exact trivial|exact rfl|assumption|apply And.intro)
   refine cd1 ⟨y0,qy⟩ (cd1 ⟨by repeat' first|exact trivial|exact rfl|assumption|apply And.intro,by omega⟩ ⟨0,?_,cd0 (λ q=>q rfl) (cdI (by omega) ⟨(z,y+1),⟨by dsimp only; omega,by dsimp only; omega⟩,by show (_:Nat) < _; simp only [sen42]; omega,by repeat' first|exact trivial|exact rfl|assumption|apply And.intro⟩)⟩)
   rw [List.drop_zero,ints_at (by simp; omega),rep_getD,if_pos (by omega)]; rfl
theorem ltsen_e (nxV:LL->Int->Int->Int) (nxA:LL->Int->Int->Int) (wH:Int->Int) (wL:Int->Int) (adZ:Int->Int->Int->Int->Int):ltsen_T nxV nxA wH wL adZ=(∀ (node:Int) (xs:LL),BytL xs->fnK Tryz.prog { glob:=glb,spec:=lk [(22,mod_s),(20,mstep_s),(21,aw33_s),(23,asen_s),(24,tcom_s),(25,(tdot_s wH wL adZ)),(26,tscl_s)],specH:=lk [(16,cnew_s),(17,cstate_s),(18,(cschm_s nxV nxA)),(19,cchg_s)],shape:=[109,115,160,165,178,183,193,203],nowf:=true } { nt:=208,drop:=drp [(1,25769803776),(2,515396075520),(3,1649267441664),(4,279275953455616),(5,281474976710656),(6,34902897112121344),(7,108086391056891904),(8,432345564227567616),(9,73210515542534782976),(10,9370945989444452220928),(11,595018176841575296925696),(12,18738350204026752207945728),(13,10141185459012721377906830344192),(15,332286716536625316555527817818800128),(17,1993841993677373809355710590420516864),(18,2658455991569831745807614120560689152),(20,42535295865117307932921825928971026432),(21,10803965149739796214962143785958640713728),(22,1427236803670218411027455141462057319799980032),(24,8563486156235759286349715816696970818296479744),(26,91343852333181432387730302044767688728495783936),(27,373961731452044784195367856571278917654461739433984),(28,374144419156711147060143317175368453031918731001856),(29,2244866514940266882360859903052210718191512386011136),(31,23945242826029513411849172299223580994042798784118784),(32,98031824129764827908110511393021340589611218222182301696),(33,98079714615416886934934209737619787751599303819750539264),(34,196159429230833773869868419475239575503198607639501078528),(37,18831305206160042291507368269622999248307066333392103538688),(38,75325220824640169166029473078491996993228265333568414154752),(40,200867255532373784442745261542645325315275374222849104412672),(43,19283256531107883306503545108093951230266435925393514023616512),(44,25711008708143844408671393477458601640355247900524685364822016),(46,102844034832575377634685573909834406561420991602098741459288064),(47,205688069665150755269371147819668813122841983204197482918576128)],tys:=[69] } (λ id st=>match invsN [(25,123,sen25),(30,123,sen30)] id st with | some L=>some L | none=>invs [(100005,sen5 node),(19,sen19),(36,sen36),(42,sen42)] id st) 6 Tryz.f4 [.sl 1 false xs,.int .i64 node] (.bool true)):=by kernel_rfl
def ltsen_v:=Eq.mp (ltsen_e ..) (ltsen_P)
theorem ltsen_ok:SOK Tryz.prog glb 4 ltsen_s:=by
 refine ⟨fok Tryz.func4 (by kernel_rfl) (by kernel_rfl),?_⟩
 intro xs pre r h hp
 unfold ltsen_s at h
 split at h
 ·cases h
  exact fnK_sound (tyOf (by kernel_rfl)) (by exact specOK rfl rfl ⟨(mod_ok glb),(mstep_ok),(aw33_ok),(asen_ok),(tcom_ok),(tdot_ok glb),(tscl_ok glb),trivial⟩ ⟨(cnew_ok glb),(cstate_ok glb),(cschm_ok glb),(cchg_ok glb),trivial⟩) (by kernel_rfl) Tryz.func4 rfl (ltsen_v  _ _ hp)
 ·cases h
open Go.ChangeShapes Go.WideShapes
open Go.RowKit (Below)
def pinAll (w:World):Pin:=λ b o=>match w.cell? ⟨b,o,none⟩ with | some v=>cond v.oneCell' (some v) none | none=>none
theorem pinAll_some {w:World} {b o:Nat} {v:Value} (h:w.cell? ⟨b,o,none⟩=some v) (k:v.oneCell'=true):pinAll w b o=some v:=by simp [pinAll,h,k]
theorem agree_all (w:World):Agree (pinAll w) w:=by
 intro b o v h
 unfold pinAll at h
 split at h
 ·next u e =>
  cases hk:u.oneCell' with
  | true=>rw [hk] at h; simp only [cond_true,Option.some.injEq] at h; subst h; exact ⟨e,hk⟩
  | false=>rw [hk] at h; cases h
 ·cases h
def tiles (P:Program):List Field->Nat->Nat->Bool
 | [],o,n=>Nat.beq o n
 | f::fs,o,n=>Nat.beq f.offset o&&tiles P fs (o+P.cellsOf f.type) n
def supp (P:Program):Nat->TypeId->Bool
 | 0,_=>false
 | n+1,t=>match P.underlying t with
  | some .bool=>true
  | some (.int _)=>true
  | some .string=>true
  | some (.slice e)=>Nat.blt 0 (P.cellsOf e)&&supp P n e
  | some (.struct fs)=>tiles P fs.toList 0 (P.cellsOf t)&&fs.toList.all λ f=>supp P n f.type
  | some (.array m e)=>Nat.beq (m*P.cellsOf e) (P.cellsOf t)&&supp P n e
  | _=>false
def ShF (P:Program) (sh:TypeId->List AV->Prop):List Field->List AV->Prop
 | [],cs=>cs=[]
 | f::fs,cs=>∃ ys zs,sh f.type ys∧ShF P sh fs zs∧cs=ys++zs
def ShE (sh:List AV->Prop):Nat->List AV->Prop
 | 0,cs=>cs=[]
 | n+1,cs=>∃ ys zs,sh ys∧ShE sh n zs∧cs=ys++zs
def Sh (P:Program):Nat->TypeId->List AV->Prop
 | 0,_,_=>False
 | n+1,t,cs=>match P.underlying t with
  | some .bool=>∃ b,cs=[.bool b]
  | some (.int k)=>∃ z,rng k z∧cs=[.int k z]
  | some .string=>∃ s:ByteArray,s.size≤9223372036854775807∧cs=[.str s]
  | some (.slice e)=>∃ xs:LL,xs.length≤9223372036854775807∧(∀ x ∈ xs,Sh P n e x)∧cs=[.sl (P.cellsOf e) false xs]
  | some (.struct fs)=>ShF P (Sh P n) fs.toList cs
  | some (.array m e)=>ShE (Sh P n e) m cs
  | _=>False
theorem shF_of {P:Program} {S:Pin} {sh:TypeId->List AV->Prop} {vs:List Value}:∀ (fs:List Field) (o tot:Nat),tiles P fs o tot=true->vs.length=tot ->
  (∀ f ∈ fs,∃ ys,sh f.type ys∧allOne ys=true∧CVl S ys noNm ((vs.drop f.offset).take (P.cellsOf f.type)))->∃ cs,ShF P sh fs cs∧allOne cs=true∧CVl S cs noNm (vs.drop o)
 | [],o,tot,ht,hl,_=>by
  simp only [tiles] at ht
  have:=Nat.eq_of_beq_eq_true ht
  exact ⟨[],rfl,rfl,by simp only [CVl]; exact List.drop_eq_nil_of_le (by omega)⟩
 | f::fs,o,tot,ht,hl,h=>by
  simp only [tiles,Bool.and_eq_true] at ht
  obtain ⟨ho,ht⟩:=ht
  have ho:=Nat.eq_of_beq_eq_true ho
  obtain ⟨ys,h1,h2,h3⟩:=h f (List.mem_cons_self ..)
  obtain ⟨zs,k1,k2,k3⟩:=shF_of fs _ tot ht hl (λ g hg=>h g (List.mem_cons_of_mem _ hg))
  refine ⟨ys++zs,⟨ys,zs,h1,k1,rfl⟩,allOne_append h2 k2,?_⟩
  rw [ho] at h3
  have e:vs.drop o=(vs.drop o).take (P.cellsOf f.type)++vs.drop (o+P.cellsOf f.type):=by
   rw [← List.drop_drop]; exact (List.take_append_drop _ _).symm
  rw [e]
  exact CVl.append h3 k3
where allOne_append:∀ {xs ys:List AV},allOne xs=true->allOne ys=true->allOne (xs++ys)=true
 | [],ys,_,h=>h
 | x::xs,ys,h,k=>by
  simp only [allOne,Bool.and_eq_true,List.cons_append] at h ⊢
  exact ⟨h.1,allOne_append h.2 k⟩
theorem shE_of {S:Pin} {sh:List AV->Prop} {s:Nat}:∀ (n:Nat) (vs:List Value),vs.length=n*s->(∀ i,i < n->∃ ys,sh ys∧allOne ys=true∧CVl S ys noNm ((vs.drop (i*s)).take s)) ->
  ∃ cs,ShE sh n cs∧allOne cs=true∧CVl S cs noNm vs
 | 0,vs,hl,_=>⟨[],rfl,rfl,by simp only [CVl]; exact List.eq_nil_of_length_eq_zero (by omega)⟩
 | n+1,vs,hl,h=>by
  obtain ⟨ys,h1,h2,h3⟩:=h 0 (by omega)
  have hl':vs.length=n*s+s:=by rw [hl,Nat.succ_mul]
  obtain ⟨zs,k1,k2,k3⟩:=shE_of n (vs.drop s) (by rw [List.length_drop,hl',Nat.add_sub_cancel]) (λ i hi=>by
   obtain ⟨q,q1,q2,q3⟩:=h (i+1) (by omega)
   refine ⟨q,q1,q2,?_⟩
   rw [List.drop_drop,show s+i*s=(i+1)*s by rw [Nat.succ_mul]; omega]
   exact q3)
  refine ⟨ys++zs,⟨ys,zs,h1,k1,rfl⟩,shF_of.allOne_append h2 k2,?_⟩
  rw [Nat.zero_mul,List.drop_zero] at h3
  have e:vs=vs.take s++vs.drop s:=(List.take_append_drop _ _).symm
  rw [e]
  exact CVl.append h3 k3
theorem list_of {α:Type} {p:Nat->α->Prop}:∀ (n:Nat),(∀ i,i < n->∃ x,p i x)->∃ xs:List α,xs.length=n∧∀ i x,xs[i]?=some x->p i x
 | 0,_=>⟨[],rfl,by simp⟩
 | n+1,h=>by
  obtain ⟨xs,h1,h2⟩:=list_of n (λ i hi=>h i (by omega))
  obtain ⟨x,hx⟩:=h n (by omega)
  refine ⟨xs++[x],by simp [h1],λ i y hy=>?_⟩
  rcases Nat.lt_or_ge i xs.length with hi | hi
  ·rw [List.getElem?_append_left hi] at hy; exact h2 i y hy
  ·rw [List.getElem?_append_right hi] at hy
   rcases Nat.eq_zero_or_pos (i - xs.length) with h0 | h0
   ·rw [h0] at hy
    simp only [List.getElem?_cons_zero,Option.some.injEq] at hy
    rw [← hy,show i=n by omega]; exact hx
   ·rw [List.getElem?_eq_none (by simp; omega)] at hy; cases hy
section
variable {H:Type} {enc:TypeId × Value->H} {P:Program} {w:World} {base:Nat} {held:Bool}
theorem rng_wf {k:IntKind} {z:Int} (h:(Lit.int k z).wf=true):rng k z:=by
 rw [rng_iff]
 simp only [Lit.wf,Bool.and_eq_true,decide_eq_true_eq] at h
 exact h
theorem in_of_trod:∀ (n:Nat) (t:TypeId) (fuel:Nat) (vs:List Value) (x:DataW H × List MemPlace),supp P n t=true->DataW.trod enc P w base (λ _=>true) held fuel t vs=some x ->
  ∃ cs,Sh P n t cs∧allOne cs=true∧CVl (pinAll w) cs noNm vs
 | 0,t,_,_,_,hs,_=>by simp [supp] at hs
 | n+1,t,fuel,vs,x,hs,h=>by
  unfold supp at hs
  unfold Sh
  split at hs
  ·next ht =>
   obtain ⟨b,rfl,_⟩:=DataW.trod_bool ht h
   exact ⟨[.bool b],⟨b,rfl⟩,rfl,_,_,rfl,rfl,rfl⟩
  ·next k ht =>
   obtain ⟨z,rfl,_,hw⟩:=DataW.trod_int ht h
   exact ⟨[.int k z],⟨z,rng_wf hw,rfl⟩,rfl,_,_,rfl,⟨rfl,rng_wf hw⟩,rfl⟩
  ·next ht =>
   obtain ⟨s,rfl,_,hw⟩:=DataW.trod_string ht h
   exact ⟨[.str s],⟨s,hw,rfl⟩,rfl,_,_,rfl,⟨rfl,hw⟩,rfl⟩
  ·next e ht =>
   simp only [Bool.and_eq_true] at hs
   have hs0:0 < P.cellsOf e:=by have:=hs.1; simp [Nat.blt] at this; omega
   rcases DataW.trod_slice ht h with ⟨rfl,_⟩ | ⟨a,len,cap,elems,rest,m,_,rfl,_,hb,hl,hc,hlen,hel,hsp,hns⟩
   ·refine ⟨[.sl (P.cellsOf e) false []],⟨[],by simp,by simp,rfl⟩,rfl,_,_,rfl,⟨none,0,rfl,by simp,by simp,(λ h=>by cases h),(λ _=>rfl),(λ a ha=>by cases ha)⟩,rfl⟩
   ·have each:∀ i,i < len->∃ x,(Sh P n e x)∧∃ cs',w.cells? base (a.add (i*P.cellsOf e)) (P.cellsOf e)=some cs'∧allOne x=true∧CVl (pinAll w) x noNm cs':=by
     intro i hi
     have h1:=hel i hi
     have hx:elems[i]?=some (elems[i]'(by omega)):=List.getElem?_eq_getElem (by omega)
     rw [hx,Option.bind_eq_some_iff] at h1
     obtain ⟨cs',h2,h3⟩:=h1
     obtain ⟨y,k1,k2,k3⟩:=in_of_trod n e m cs' _ hs.2 h3
     exact ⟨y,k1,cs',h2,k2,k3⟩
    obtain ⟨xs,hx1,hx2⟩:=list_of len each
    have hmem:∀ x ∈ xs,Sh P n e x:=by
     intro x hx
     obtain ⟨i,hi⟩:=List.getElem?_of_mem hx
     exact (hx2 i x hi).1
    refine ⟨[.sl (P.cellsOf e) false xs],⟨xs,by unfold maxLen at hc; omega,hmem,rfl⟩,rfl,_,_,rfl,⟨some a,cap,by rw [hx1],by omega,hc,(λ h=>by cases h),(λ h=>by cases h),λ a' ha=>?_⟩,rfl⟩
    cases ha
    have key:∀ (j:Nat) (x:List AV),xs[j]?=some x->∃ cs':List Value,cs'.length=P.cellsOf e∧CVl (pinAll w) x noNm cs'∧allOne x=true∧∀ i,i < P.cellsOf e->w.cell? ((a.add (j*P.cellsOf e)).add i)=cs'[i]?:=by
     intro j x hj
     obtain ⟨_,cs',h2,h3,h4⟩:=hx2 j x hj
     obtain ⟨_,q1,q2⟩:=World.cells?_some h2
     exact ⟨cs',q1,h4,h3,q2⟩
    have spot:cap≠0->a.spot=none:=by
     intro h0
     have h1:∃ cs',w.cells? base (a.add (0*P.cellsOf e)) (P.cellsOf e)=some cs':=by
      rcases Nat.eq_zero_or_pos len with hl0 | hl0
      ·obtain ⟨hr,hr2⟩:=hsp rfl
       have h1:=hr2 0 (by omega)
       have hx:rest[0]?=some (rest[0]'(by omega)):=List.getElem?_eq_getElem (by omega)
       rw [hx,Option.bind_eq_some_iff] at h1
       obtain ⟨cs',h2,_⟩:=h1
       exact ⟨cs',by rw [← h2,hl0]⟩
      ·have h1:=hel 0 hl0
       have hx:elems[0]?=some (elems[0]'(by omega)):=List.getElem?_eq_getElem (by omega)
       rw [hx,Option.bind_eq_some_iff] at h1
       obtain ⟨cs',h2,_⟩:=h1
       exact ⟨cs',h2⟩
     obtain ⟨cs',h2⟩:=h1
     obtain ⟨_,q1,q2⟩:=World.cells?_some h2
     have h3:=q2 0 hs0
     rw [List.getElem?_eq_getElem (by omega)] at h3
     have h4:=World.cell?_spot h3
     simpa [Addr.add] using h4
    refine ⟨spot,CE.mk λ j x hj=>?_⟩
    obtain ⟨cs',k1,k2,k3,k4⟩:=key j x hj
    have hxl:x.length=P.cellsOf e:=by rw [← k1]; exact (CVl.len k2).symm
    refine ⟨hxl,CC.mk λ i y hy=>?_⟩
    obtain ⟨u,hu,hcv⟩:=CVl.get k2 hy
    have hi:i < P.cellsOf e:=by have:=(List.getElem?_eq_some_iff.1 hy).1; omega
    have hj':j < len:=by have:=(List.getElem?_eq_some_iff.1 hj).1; omega
    have hsp:=spot (by omega)
    obtain ⟨b,o,sp⟩:=a
    simp only at hsp
    subst hsp
    have h5:=k4 i hi
    rw [add_none,add_none,hu] at h5
    exact ⟨u,pinAll_some h5 (allOne_cv k2 k3 u (List.mem_of_getElem? hu)),hcv⟩
  ·next fs ht =>
   simp only [Bool.and_eq_true,List.all_eq_true] at hs
   obtain ⟨xs,m,_,_,hl,hxl,hf⟩:=DataW.trod_struct ht h
   obtain ⟨cs,k1,k2,k3⟩:=shF_of (S:=pinAll w) (sh:=Sh P n) (vs:=vs) fs.toList 0 _ hs.1 hl (λ f hfm=>by
    obtain ⟨i,hi⟩:=List.getElem?_of_mem hfm
    have h1:=hf i f (by simpa using hi)
    have hi':i < fs.size:=by have:=(List.getElem?_eq_some_iff.1 hi).1; simpa using this
    rw [List.getElem?_eq_getElem (by omega:i < xs.length)] at h1
    exact in_of_trod n f.type m _ _ (hs.2 f hfm) h1)
   exact ⟨cs,k1,k2,by simpa using k3⟩
  ·next m e ht =>
   simp only [Bool.and_eq_true] at hs
   obtain ⟨xs,q,_,_,hl,hxl,hf⟩:=DataW.trod_array ht h
   have hsz:=Nat.eq_of_beq_eq_true hs.1
   exact shE_of (S:=pinAll w) (sh:=Sh P n e) (s:=P.cellsOf e) m vs (by omega) (λ i hi=>by
    have h1:=hf i hi
    rw [List.getElem?_eq_getElem (by omega:i < xs.length)] at h1
    exact in_of_trod n e q _ _ hs.2 h1)
  ·cases hs
def mkA (P:Program) (t:TypeId) (cs:List AV):AV:=cond (isAg P t) (.agg cs) (match cs with | [x]=>x | _=>.dead)
def ShAll (P:Program):List TypeId->(List AV->Prop)->Prop
 | [],K=>K []
 | t::ts,K=>∀ cs,Sh P 50 t cs->ShAll P ts λ xs=>K (mkA P t cs::xs)
theorem in_one {r:Reach} {b0 n:Nat} {t:TypeId} {v:Value} {fuel:Nat} {x:DataW H × List MemPlace} (hs:supp P n t=true) (hv:Value.okWide P w r b0 t v) (h:DataW.trod enc P w base (λ _=>true) held fuel t v.cells.toList=some x) :
  ∃ cs,Sh P n t cs∧CV (pinAll w) (mkA P t cs) noNm v:=by
 obtain ⟨cs,h1,h2,h3⟩:=in_of_trod n t fuel _ x hs h
 refine ⟨cs,h1,?_⟩
 have one:isAg P t=false->v.cells=#[v]->CV (pinAll w) (mkA P t cs) noNm v:=by
  intro ha hc
  rw [hc] at h3
  unfold mkA
  rw [ha]
  match cs,h3 with
  | [y],h3 =>
   simp only [CVl] at h3
   obtain ⟨u,us,e,hy,hn⟩:=h3
   simp at e
   rw [e.1]; exact hy
  | [],h3=>simp [CVl] at h3
  | _::_::_,h3 =>
   simp [CVl] at h3
   obtain ⟨u,us,⟨_,e⟩,_,u',us',e',_⟩:=h3
   rw [e] at e'; cases e'
 have agg:isAg P t=true->∀ us,v=.agg us->CV (pinAll w) (mkA P t cs) noNm v:=by
  intro ha us e
  subst e
  unfold mkA
  rw [ha]
  exact ⟨us,rfl,h3⟩
 unfold Value.okWide at hv
 cases n with
 | zero=>simp [supp] at hs
 | succ n =>
  unfold supp at hs
  split at hs
  ·next ht =>
   rw [ht] at hv
   simp only [Cell.okWide,Cell.ok,ht] at hv
   refine one (by unfold isAg; rw [ht]) ?_
   split at hv <;> first | rfl | (split at hv <;> first | rfl | cases hv) | cases hv
  ·next k ht =>
   rw [ht] at hv
   simp only [Cell.okWide,Cell.ok,ht] at hv
   refine one (by unfold isAg; rw [ht]) ?_
   split at hv <;> first | rfl | (split at hv <;> first | rfl | cases hv) | cases hv
  ·next ht =>
   rw [ht] at hv
   simp only [Cell.okWide,Cell.ok,ht] at hv
   refine one (by unfold isAg; rw [ht]) ?_
   split at hv <;> first | rfl | (split at hv <;> first | rfl | cases hv) | cases hv
  ·next e ht =>
   rw [ht] at hv
   simp only [Cell.okWide,Cell.ok,ht] at hv
   refine one (by unfold isAg; rw [ht]) ?_
   split at hv <;> first | rfl | (split at hv <;> first | rfl | cases hv) | cases hv
  ·next fs ht =>
   rw [ht] at hv
   obtain ⟨us,e,_⟩:=hv
   exact agg (by unfold isAg; rw [ht]) us e
  ·next m e ht =>
   rw [ht] at hv
   obtain ⟨us,e,_⟩:=hv
   exact agg (by unfold isAg; rw [ht]) us e
  ·cases hs
theorem in_all {r:Reach} {b0:Nat}:∀ (ts:List TypeId) (vs:List Value) (ds:List (DataW H)) (ps:List MemPlace) (K:List AV->Prop),(ts.all λ t=>supp P 50 t)=true->DataW.TrodAll enc P w base (λ _=>true) held ts vs ds ps ->
  (∀ (j:Nat) t v,ts[j]?=some t->vs[j]?=some v->Value.okWide P w r b0 t v)->ShAll P ts K->∃ xs,K xs∧CVl (pinAll w) xs noNm vs
 | [],[],[],ps,K,_,h,_,hK=>⟨[],hK,by simp only [CVl]⟩
 | t::ts,v::vs,d::ds,ps,K,hs,h,hv,hK=>by
  simp only [List.all_cons,Bool.and_eq_true] at hs
  obtain ⟨p,q,⟨fuel,h1⟩,h2,_⟩:=h
  obtain ⟨cs,k1,k2⟩:=in_one hs.1 (hv 0 t v rfl rfl) h1
  obtain ⟨xs,q1,q2⟩:=in_all ts vs ds q (λ xs=>K (mkA P t cs::xs)) hs.2 h2 (λ j t v ht hv'=>hv (j+1) t v (by simpa using ht) (by simpa using hv')) (hK cs k1)
  exact ⟨_,q1,by simp only [CVl]; exact ⟨v,vs,rfl,k2,q2⟩⟩
 | [],v::vs,ds,ps,K,_,h,_,_=>by cases ds <;> simp [DataW.TrodAll] at h
 | [],[],d::ds,ps,K,_,h,_,_=>by simp [DataW.TrodAll] at h
 | t::ts,[],ds,ps,K,_,h,_,_=>by cases ds <;> simp [DataW.TrodAll] at h
 | t::ts,v::vs,[],ps,K,_,h,_,_=>by simp [DataW.TrodAll] at h
theorem law_calls {gl:Glob} {f:FuncId} {r:Reach} {b0:Nat} {ts:List TypeId} {args:Array Value} {ds:List (DataW H)} {ps:List MemPlace} (hs:(ts.all λ t=>supp P 50 t)=true) (hg:GOKg gl (pinAll w))
  (h:ShAll P ts λ xs=>PureC P gl f xs (.bool true)) (hA:DataW.TrodAll enc P w base (λ _=>true) held ts args.toList ds ps)
  (hv:∀ (j:Nat) t v,ts[j]?=some t->args.toList[j]?=some v->Value.okWide P w r b0 t v) :
  Calls P f args w λ e w'=>e=.returned (.bool true)∧Below w.heap.size w w':=by
 obtain ⟨xs,h1,h2⟩:=in_all ts _ ds ps _ hs hA hv h
 refine (h1 w (pinAll w) args hg (agree_all w) h2).mono λ e w' h=>?_
 obtain ⟨u,S',h3,h4,_,_,_,h5⟩:=h
 simp only [CV] at h5
 exact ⟨by rw [h3,h5],h4⟩
theorem trodAll_stay (hl:laidOutB P=true) {w':World} (hb:Below w.heap.size w w'):∀ (ts:List TypeId) (vs:List Value) (ds:List (DataW H)) (ps:List MemPlace),(ts.all λ t=>P.readableRec t&&decide (t < P.types.size))=true ->
  DataW.TrodAll enc P w 0 (λ _=>true) true ts vs ds ps->DataW.TrodAll enc P w' 0 (λ b=>decide (b < w.heap.size)) true ts vs ds ps
 | [],[],[],ps,_,h=>h
 | t::ts,v::vs,d::ds,ps,hs,h=>by
  simp only [List.all_cons,Bool.and_eq_true,decide_eq_true_eq] at hs
  obtain ⟨p,q,h1,h2,h3⟩:=h
  have hlt:∀ x ∈ p,x.block < w.heap.size:=by obtain ⟨m,hm⟩:=h1; exact DataW.trod_lt m _ _ _ hm
  exact ⟨p,q,Below.trod hl hs.1.1 hs.1.2 h1 hb hlt,trodAll_stay hl hb ts vs ds q hs.2 h2,h3⟩
 | [],v::vs,ds,ps,_,h=>by cases ds <;> simp [DataW.TrodAll] at h
 | [],[],d::ds,ps,_,h=>by simp [DataW.TrodAll] at h
 | t::ts,[],ds,ps,_,h=>by cases ds <;> simp [DataW.TrodAll] at h
 | t::ts,v::vs,[],ps,_,h=>by simp [DataW.TrodAll] at h
def suppG (P:Program):Nat->TypeId->Bool
 | 0,_=>false
 | n+1,t=>match P.underlying t with
  | some .bool=>true
  | some (.int _)=>true
  | some .string=>true
  | some (.struct fs)=>tiles P fs.toList 0 (P.cellsOf t)&&fs.toList.all λ f=>suppG P n f.type
  | some (.array m e)=>Nat.beq (m*P.cellsOf e) (P.cellsOf t)&&suppG P n e
  | _=>false
mutual
def flatD:DataW H->List AV
 | .lit (.bool b)=>[.bool b]
 | .lit (.int k z)=>[.int k z]
 | .lit (.string l)=>[.str ⟨l.toArray⟩]
 | .agg ds=>flatDs ds
 | _=>[.dead]
def flatDs:List (DataW H)->List AV
 | []=>[]
 | d::ds=>flatD d++flatDs ds
end
theorem flatF {S:Pin} {vs:List Value}:∀ (fs:List Field) (ds:List (DataW H)) (o tot:Nat),tiles P fs o tot=true->vs.length=tot->ds.length=fs.length ->
  (∀ (i:Nat) (f:Field) (d:DataW H),fs[i]?=some f->ds[i]?=some d->CVl S (flatD d) noNm ((vs.drop f.offset).take (P.cellsOf f.type)))->CVl S (flatDs ds) noNm (vs.drop o)
 | [],[],o,tot,ht,hl,_,_=>by
  simp only [tiles] at ht
  have:=Nat.eq_of_beq_eq_true ht
  simp only [flatDs,CVl]; exact List.drop_eq_nil_of_le (by omega)
 | f::fs,d::ds,o,tot,ht,hl,hd,h=>by
  simp only [tiles,Bool.and_eq_true] at ht
  obtain ⟨ho,ht⟩:=ht
  have ho:=Nat.eq_of_beq_eq_true ho
  have h1:=h 0 f d rfl rfl
  have h2:=flatF fs ds _ tot ht hl (by simpa using hd) (λ i g d' hg hd'=>h (i+1) g d' (by simpa using hg) (by simpa using hd'))
  rw [ho] at h1
  have e:vs.drop o=(vs.drop o).take (P.cellsOf f.type)++vs.drop (o+P.cellsOf f.type):=by
   rw [← List.drop_drop]; exact (List.take_append_drop _ _).symm
  rw [e]
  simp only [flatDs]
  exact CVl.append h1 h2
 | [],_::_,_,_,_,_,hd,_=>by simp at hd
 | _::_,[],_,_,_,_,hd,_=>by simp at hd
theorem flatE {S:Pin} {s:Nat}:∀ (ds:List (DataW H)) (vs:List Value),vs.length=ds.length*s->(∀ (i:Nat) (d:DataW H),ds[i]?=some d->CVl S (flatD d) noNm ((vs.drop (i*s)).take s))->CVl S (flatDs ds) noNm vs
 | [],vs,hl,_=>by simp only [flatDs,CVl]; exact List.eq_nil_of_length_eq_zero (by simpa using hl)
 | d::ds,vs,hl,h=>by
  have h1:=h 0 d rfl
  have hl':vs.length=ds.length*s+s:=by rw [hl,List.length_cons,Nat.succ_mul]
  have h2:=flatE (S:=S) (s:=s) ds (vs.drop s) (by rw [List.length_drop]; omega) (λ i d' hd=>by
   have:=h (i+1) d' (by simpa using hd)
   rw [List.drop_drop,show s+i*s=(i+1)*s by rw [Nat.succ_mul]; omega]
   exact this)
  rw [Nat.zero_mul,List.drop_zero] at h1
  have e:vs=vs.take s++vs.drop s:=(List.take_append_drop _ _).symm
  rw [e]
  simp only [flatDs]
  exact CVl.append h1 h2
theorem flat_of_trod {S:Pin} {spare:Nat->Bool}:∀ (n:Nat) (t:TypeId) (fuel:Nat) (vs:List Value) (x:DataW H × List MemPlace),suppG P n t=true->DataW.trod enc P w base spare held fuel t vs=some x->CVl S (flatD x.1) noNm vs
 | 0,t,_,_,_,hs,_=>by simp [suppG] at hs
 | n+1,t,fuel,vs,x,hs,h=>by
  unfold suppG at hs
  split at hs
  ·next ht =>
   obtain ⟨b,rfl,rfl⟩:=DataW.trod_bool ht h
   exact ⟨_,_,rfl,rfl,rfl⟩
  ·next k ht =>
   obtain ⟨z,rfl,rfl,hw⟩:=DataW.trod_int ht h
   exact ⟨_,_,rfl,⟨rfl,rng_wf hw⟩,rfl⟩
  ·next ht =>
   obtain ⟨s,rfl,rfl,hw⟩:=DataW.trod_string ht h
   exact ⟨_,_,rfl,⟨by simp,by simpa using hw⟩,rfl⟩
  ·next fs ht =>
   simp only [Bool.and_eq_true,List.all_eq_true] at hs
   obtain ⟨xs,m,_,rfl,hl,hxl,hf⟩:=DataW.trod_struct ht h
   have:=flatF (S:=S) (vs:=vs) fs.toList (xs.map (·.1)) 0 _ hs.1 hl (by simpa using hxl) (λ i f d hi hd=>by
    have h1:=hf i f (by simpa using hi)
    rw [List.getElem?_map] at hd
    cases hx:xs[i]? with
    | none=>rw [hx] at hd; cases hd
    | some y =>
     rw [hx] at hd h1
     simp only [Option.map_some,Option.some.injEq] at hd
     subst hd
     exact flat_of_trod n f.type m _ _ (hs.2 f (List.mem_of_getElem? hi)) h1)
   simpa [flatD] using this
  ·next m e ht =>
   simp only [Bool.and_eq_true] at hs
   obtain ⟨xs,q,_,rfl,hl,hxl,hf⟩:=DataW.trod_array ht h
   have hsz:=Nat.eq_of_beq_eq_true hs.1
   have:=flatE (S:=S) (s:=P.cellsOf e) (xs.map (·.1)) vs (by simp only [List.length_map]; rw [hxl]; omega) (λ i d hd=>by
    rw [List.getElem?_map] at hd
    cases hx:xs[i]? with
    | none=>rw [hx] at hd; cases hd
    | some y =>
     have hi:i < m:=by have:=(List.getElem?_eq_some_iff.1 hx).1; omega
     have h1:=hf i hi
     rw [hx] at hd h1
     simp only [Option.map_some,Option.some.injEq] at hd
     subst hd
     exact flat_of_trod n e q _ _ hs.2 h1)
   simpa [flatD] using this
  ·cases hs
end
theorem glob_cells {W:World} {g:Nat} {cs:Array Value} {az:List AV} (hc:∀ i,W.cell? ⟨g,i,none⟩=cs[i]?) (h:CVl (pinAll W) az noNm cs.toList) (h1:allOne az=true):CC (pinAll W) az g 0:=by
 refine CC.mk λ j x hx=>?_
 obtain ⟨u,hu,hcv⟩:=CVl.get h hx
 have h2:=hc j
 rw [show cs[j]?=some u by simpa using hu] at h2
 rw [Nat.zero_add]
 exact ⟨u,pinAll_some h2 (allOne_cv h h1 u (List.mem_of_getElem? hu)),hcv⟩
end Go.Proofs.YtgbbmadjdaphnaaGreatDoor
