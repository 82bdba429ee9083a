import Derived.Test.YtldiagnbagpliaaDoorRCg
import Derived.Test.YtldiagnbagpliaaDoorRCd
import Derived.ProofKit
import Derived.OpenShut
import Derived.ShutString
import Derived.ChangeOld
import Derived.Carry
import Derived.Deep.Slices
import Derived.WideShapes
import Derived.LaidMore
set_option maxRecDepth 100000
namespace Go.Proofs.YtldiagnbagpliaaDoor
open Go
set_option linter.unusedVariables false
set_option linter.unusedSimpArgs false
def cS (nm:ByteArray) (r:List AV):Bool:=decide (sNm r=nm)
def fiI (l:LLR) (nm:ByteArray):Int:=idxP (cS nm) l
def fiB (l:LLR) (nm:ByteArray):Bool:=decide (0≤fiI l nm)
def fiK (l:LLR) (nm:ByteArray):Int:=if fiB l nm=true then rE (l.getD (fiI l nm).toNat []) else 0
def fiN (l:LLR) (nm:ByteArray):ByteArray:=if fiB l nm=true then nm else ⟨#[]⟩
def fiP (l:LLR) (nm:ByteArray):LLR:=if fiB l nm=true then sPs (l.getD (fiI l nm).toNat []) else []
structure FfP (l:LLR) (nm:ByteArray) (i:Int):Prop where
 flo:0≤i
 fhi:i≤l.length
 fno:∀ j:Nat,(j:Int) < i→cS nm (l.getD j [])=false
def ff2 (l:LLR) (g:Bool) (nm:ByteArray):LInv:=⟨Int,fun i=>⟨[(1,.str nm),(2,.ptr 2 0),(4,.ptr 4 0),(6,.int .i64 i)],[(2,.cells [.sl 3 g l]),(4,.cells [.int .i64 0,.str ⟨#[]⟩,.nils])]⟩,FfP l nm,fun i=>(l.length - i).toNat,none⟩
def rfindF_s (fiK:LLR→ByteArray→Int) (fiN:LLR→ByteArray→ByteArray) (fiP:LLR→ByteArray→LLR) (fiB:LLR→ByteArray→Bool):Sp
 | [.agg [.sl 3 g l],.str nm]=>some (StsP l,.tup [.agg [.int .i64 (fiK l nm),.str (fiN l nm),.sl 7 false (fiP l nm)],.bool (fiB l nm)])
 | _=>none
def rfindF_T (fiK:LLR→ByteArray→Int) (fiN:LLR→ByteArray→ByteArray) (fiP:LLR→ByteArray→LLR) (fiB:LLR→ByteArray→Bool):Prop :=
  ∀ (gl:Glob) (l:List (List AV)) (g:Bool) (nm:ByteArray),StsP l→True∧True→nm.size.le (9223372036854775807:Nat)→(∃ x,FfP l nm x∧(nm=nm∧(0:Nat)=0∧(0:Nat)=0∧(0:Int)=x∧True)∧(((bif g then g=true else True)∧l=l)∧True)∧((0:Int)=0∧(⟨#[]⟩:ByteArray)=(⟨#[]⟩:ByteArray)∧True∧True)∧True)∧∀ (x:Int),FfP l nm x→bif decide (x < (↑l.length:Int)) then bif decide (0≤x∧x < (↑l.length:Int)) then ∃
 s,List.take [AV.str s].length (List.drop (1:Nat) (l.getD x.toNat []))=[AV.str s]∧bif decide (s=nm) then bif decide (0≤x∧x < (↑l.length:Int)) then ∃ n s xs,List.take [AV.int .i64 n,.str s,.sl (7:Nat) false xs].length (l.getD x.toNat [])=[AV.int .i64 n,.str s,.sl (7:Nat) false xs]∧(n=fiK l nm∧s=fiN l nm∧(True∧xs=fiP l nm)∧True)∧true=fiB l nm∧True else False else bif decide (rng .i64 (x +
 (1:Int))) then ∃ y,FfP l nm y∧(ff2 l g nm).m y < (ff2 l g nm).m x∧(nm=nm∧(0:Nat)=0∧(0:Nat)=0∧x+(1:Int)=y∧True)∧(((bif g then g=true else True)∧l=l)∧True)∧((0:Int)=0∧(⟨#[]⟩:ByteArray)=(⟨#[]⟩:ByteArray)∧True∧True)∧True else False else False else ((0:Int)=fiK l nm∧(⟨#[]⟩:ByteArray)=fiN l nm∧fiP l nm=[]∧True)∧false=fiB l nm∧True
theorem rfindF_P:rfindF_T fiK fiN fiP fiB:=by
 unfold rfindF_T
 intro gl l g nm hl _ _
 have ll:=hl.fs
 have bg:cond g (g=true) True:=by cases g <;> trivial
 refine ⟨⟨0,⟨by decide,by omega,fun j h=>by omega⟩,by (repeat' (first | exact trivial | exact rfl | assumption | apply And.intro))⟩,?_⟩
 rintro i ⟨i0,i1,hn⟩
 refine csx (fun hi=>cd1 (by omega) ?_) (fun hi=>?_)
 ·obtain ⟨k,n,ps,hr,hp⟩:=hl.fr i.toNat (by omega)
  have hc:cS nm (l.getD i.toNat [])=decide (n=nm):=by rw [hr]; rfl
  refine ⟨n,by rw [hr]; rfl,csplit (fun q=>cd1 (by omega) ⟨k,n,ps,by rw [hr]; rfl,?_⟩) (fun q=>cdI (by omega) ⟨i+1,⟨by omega,by omega,fun j hj=>?_⟩,by simp only [ff2]; omega,by (repeat' (first | exact trivial | exact rfl | assumption | apply And.intro))⟩)⟩
  ·have q:=of_decide_eq_true q
   subst q
   have e1:fiI l n=i.toNat:=(idx_some (p:=cS n) (by omega) (by rw [hc]; exact decide_eq_true rfl) (fun j hj=>hn j (by omega))).symm
   have e2:fiB l n=true:=by unfold fiB; rw [e1]; exact decide_eq_true (by omega)
   unfold fiK fiN fiP
   rw [e2,e1,if_pos rfl,if_pos rfl,if_pos rfl,Int.toNat_natCast,hr]
   exact ⟨⟨rfl,rfl,⟨trivial,rfl⟩,trivial⟩,rfl,trivial⟩
  ·rcases Nat.lt_or_ge j i.toNat with z | z
   ·exact hn j (by omega)
   ·rw [show j=i.toNat by omega,hc]; exact q
 ·have e1:fiI l nm=-1:=(idx_none fun j hj=>hn j (by omega)).symm
  have e2:fiB l nm=false:=by unfold fiB; rw [e1]; rfl
  unfold fiK fiN fiP
  rw [e2,if_neg (by decide),if_neg (by decide),if_neg (by decide)]
  exact ⟨⟨rfl,rfl,rfl,trivial⟩,rfl,trivial⟩
def rfindF_S (fiK:LLR→ByteArray→Int) (fiN:LLR→ByteArray→ByteArray) (fiP:LLR→ByteArray→LLR) (fiB:LLR→ByteArray→Bool):Prop:=∀ (gl:Glob) (l:List (List AV)) (g:Bool) (nm:ByteArray),StsP l→fnK Tryd.prog { glob:=gl,spec:=lk [],specH:=lk [],shape:=[19,26],slz:=[(19,[7]),(26,[7])],nowf:=true } { nt:=28,drop:=drp [(2,1920),(3,12288),(4,2080768),(5,130023424),(6,134217728)] } (invs [(2,ff2 l g nm)]) 6 Tryd.f65 [.agg [.sl 3 g l],.str nm] (.tup [.agg [.int .i64 (fiK l nm),.str (fiN l nm),.sl 7 false (fiP l nm)],.bool (fiB l nm)])
theorem rfindF_e (fiK:LLR→ByteArray→Int) (fiN:LLR→ByteArray→ByteArray) (fiP:LLR→ByteArray→LLR) (fiB:LLR→ByteArray→Bool):rfindF_T fiK fiN fiP fiB=rfindF_S fiK fiN fiP fiB:=by kernel_rfl
theorem rfindF_v:rfindF_S fiK fiN fiP fiB:=Eq.mp (rfindF_e ..) (rfindF_P)
theorem rfindF_ok (gl:Glob):SOK Tryd.prog gl 65 (rfindF_s fiK fiN fiP fiB):=by
 refine ⟨fok Tryd.func65 (by kernel_rfl) (by kernel_rfl),?_⟩
 intro xs pre r h hp
 unfold rfindF_s at h
 split at h
 ·simp only [Option.some.injEq,Prod.mk.injEq] at h
  obtain ⟨h1,h2⟩:=h
  subst h1 h2
  exact fnK_sound tyNil (by exact specOK rfl rfl trivial trivial) (by kernel_rfl) Tryd.func65 rfl (rfindF_v gl _ _ _ hp)
 ·cases h
def genL (ge ne:List AV→Bool) (s:List AV):Bool→LLR→LLR
 | d,[]=>if d=true then [] else [s]
 | d,x::l=>(if (!d&&ge x)=true then [s] else [])++((if ne x=true then [x] else [])++genL ge ne s (d||ge x) l)
def geS (nm:ByteArray) (x:List AV):Bool:=Op.bytesLess nm.toList (sNm x).toList||decide (nm=sNm x)
def neS (nm:ByteArray) (x:List AV):Bool:=!(decide (sNm x=nm))
def wiL (l:LLR) (k:Int) (nm:ByteArray) (ps:LLR):LLR:=genL (geS nm) (neS nm) (stA k nm ps) (decide ((ps.length:Int)=0)) l
structure WfI (ge ne:List AV→Bool) (s:List AV) (l R:LLR) (x:Int × Bool × LLR):Prop where
 flo:0≤x.1
 fhi:x.1≤l.length
 fl:(x.2.2.length:Int)≤2*x.1
 fe:x.2.2++genL ge ne s x.2.1 (l.drop x.1.toNat)=R
theorem genL_step {ge ne:List AV→Bool} {s:List AV} {d:Bool} {l:LLR} {i:Int} (h0:0≤i) (hi:i < l.length):genL ge ne s d (l.drop i.toNat)=(if (!d&&ge (l.getD i.toNat []))=true then [s] else [])++((if ne (l.getD i.toNat [])=true then [l.getD i.toNat []] else [])++genL ge ne s (d||ge (l.getD i.toNat [])) (l.drop (i+1).toNat)):=by
 have h:i.toNat < l.length:=by omega
 rw [gD_lt h,List.drop_eq_getElem_cons h,show (i+1).toNat=i.toNat+1 by omega]
 rfl
theorem wf_next {ge ne:List AV→Bool} {s:List AV} {l R:LLR} {i:Int} {d:Bool} {out:LLR} (h:WfI ge ne s l R (i,d,out)) (hi:i < l.length) {x:List AV} (hx:l.getD i.toNat []=x) {d':Bool} (hd:d'=(d||ge x)) {out':LLR}
  (ho:out'=out++((if (!d&&ge x)=true then [s] else [])++(if ne x=true then [x] else []))):WfI ge ne s l R (i+1,d',out'):=by
 obtain ⟨h0,h1,h2,h3⟩:=h
 simp only at h0 h1 h2 h3
 refine ⟨by simp only; omega,by simp only; omega,?_,?_⟩
 ·subst ho
  simp only [List.length_append]
  have a1:(if (!d&&ge x)=true then [s] else []).length≤1:=by split <;> simp
  have a2:(if ne x=true then [x] else []).length≤1:=by split <;> simp
  omega
 ·rw [← h3,genL_step h0 hi,hx]
  subst ho hd
  simp only [List.append_assoc]
theorem wf_end {ge ne:List AV→Bool} {s:List AV} {l R:LLR} {i:Int} {d:Bool} {out:LLR} (h:WfI ge ne s l R (i,d,out)) (hi:¬ i < l.length):(if d=true then out else out++[s])=R:=by
 have h3:=h.fe
 have h1:=h.fhi
 simp only at h3 h1
 rw [← h3,List.drop_eq_nil_of_le (by omega)]
 cases d <;> simp [genL]
def wf4 (l:LLR) (g h:Bool) (k:Int) (nm:ByteArray) (ps:LLR):LInv:=⟨Int × Bool × LLR,fun x=>⟨[(2,.ptr 2 0),(3,.ptr 3 0),(4,.ptr 4 0),(5,.ptr 5 0),(6,.bool x.2.1),(14,.sl 3 g l),(15,.int .i64 l.length),(16,.int .i64 x.1)],[(2,.cells [.sl 3 g l]),(3,.cells [.int .i64 k,.str nm,.sl 7 h ps]),(4,.cells [.nils]),(5,.cells [.rw 1501 3 x.2.2.length]),(1501,.row 66 3 x.2.2)]⟩,WfI (geS nm) (neS nm) (stA k nm ps) l (wiL l k nm ps),fun x=>(l.length - x.1).toNat,none⟩
def rwithF_s (wiL:LLR→Int→ByteArray→LLR→LLR):Sp
 | [.agg [.sl 3 g l],.agg [.int .i64 k,.str nm,.sl 7 false ps]]=>some (StsP l,.agg [.sl 3 false (wiL l k nm ps)])
 | _=>none
def rwithF_T (wiL:LLR→Int→ByteArray→LLR→LLR):Prop :=
  ∀ (gl:Glob) (l ps:List (List AV)) (g:Bool) (k:Int) (nm:ByteArray),StsP l→True∧True→(IR9 k)∧nm.size.le (9223372036854775807:Nat)∧True∧True→(∃ x,WfI (geS nm) (neS nm) (stA k nm ps) l (YtldiagnbagpliaaDoor.wiL l k nm ps) x∧((0:Nat)=0∧(0:Nat)=0∧(0:Nat)=0∧(0:Nat)=0∧decide ((↑ps.length:Int)=(0:Int))=x.snd.fst∧((bif g then g=true else
 True)∧l=l)∧(↑l.length:Int)=(↑l.length:Int)∧(0:Int)=x.fst∧True)∧(((bif g then g=true else True)∧l=l)∧True)∧(k=k∧nm=nm∧(True∧ps=ps)∧True)∧(True∧True)∧((0:Nat)=List.length x.snd.snd∧True)∧[]=x.snd.snd∧True)∧∀ (x:Int × Bool × LLR),WfI (geS nm) (neS nm) (stA k nm ps) l (YtldiagnbagpliaaDoor.wiL l k nm ps) x→bif decide (x.fst < (↑l.length:Int)) then bif decide (0≤x.fst∧x.fst < (↑l.length:Int))
 then ∃ n s xs,List.take [AV.int .i64 n,.str s,.sl (7:Nat) false xs].length (l.getD x.fst.toNat [])=[AV.int .i64 n,.str s,.sl (7:Nat) false xs]∧bif !x.snd.fst then bif Op.bytesLess nm.toList s.toList||decide (nm=s) then bif decide (List.length x.snd.snd=List.length x.snd.snd∧List.length x.snd.snd+[[AV.int .i64 k,.str nm,.sl (7:Nat) false ps]].length≤(9223372036854775807:Nat)∧(List.length
 x.snd.snd+[[AV.int .i64 k,.str nm,.sl (7:Nat) false ps]].length)*(48:Nat)≤(140737488355328:Nat)) then bif !decide (s=nm) then bif decide ((x.snd.snd++[[AV.int .i64 k,.str nm,.sl (7:Nat) false ps]]).length=(x.snd.snd++[[AV.int .i64 k,.str nm,.sl (7:Nat) false ps]]).length∧(x.snd.snd++[[AV.int .i64 k,.str nm,.sl (7:Nat) false ps]]).length+[[AV.int .i64 n,.str s,.sl (7:Nat) false
 xs]].length≤(9223372036854775807:Nat)∧((x.snd.snd++[[AV.int .i64 k,.str nm,.sl (7:Nat) false ps]]).length+[[AV.int .i64 n,.str s,.sl (7:Nat) false xs]].length)*(48:Nat)≤(140737488355328:Nat)) then bif decide (rng .i64 (x.fst+(1:Int))) then ∃ y,WfI (geS nm) (neS nm) (stA k nm ps) l (YtldiagnbagpliaaDoor.wiL l k nm ps) y∧(wf4 l g false k nm ps).m y < (wf4 l g false k nm ps).m
 x∧((0:Nat)=0∧(0:Nat)=0∧(0:Nat)=0∧(0:Nat)=0∧true=y.snd.fst∧((bif g then g=true else True)∧l=l)∧(↑l.length:Int)=(↑l.length:Int)∧x.fst+(1:Int)=y.fst∧True)∧(((bif g then g=true else True)∧l=l)∧True)∧(k=k∧nm=nm∧(True∧ps=ps)∧True)∧(True∧True)∧((x.snd.snd++[[AV.int .i64 k,.str nm,.sl (7:Nat) false ps]]++[[AV.int .i64 n,.str s,.sl (7:Nat) false xs]]).length=List.length y.snd.snd∧True)∧x.snd.snd ++
 [[AV.int .i64 k,.str nm,.sl (7:Nat) false ps]]++[[AV.int .i64 n,.str s,.sl (7:Nat) false xs]]=y.snd.snd∧True else False else False else bif decide (rng .i64 (x.fst+(1:Int))) then ∃ y,WfI (geS nm) (neS nm) (stA k nm ps) l (YtldiagnbagpliaaDoor.wiL l k nm ps) y∧(wf4 l g false k nm ps).m y < (wf4 l g false k nm ps).m x∧((0:Nat)=0∧(0:Nat)=0∧(0:Nat)=0∧(0:Nat)=0∧true=y.snd.fst∧((bif g then g=true
 else True)∧l=l)∧(↑l.length:Int)=(↑l.length:Int)∧x.fst+(1:Int)=y.fst∧True)∧(((bif g then g=true else True)∧l=l)∧True)∧(k=k∧nm=nm∧(True∧ps=ps)∧True)∧(True∧True)∧((x.snd.snd++[[AV.int .i64 k,.str nm,.sl (7:Nat) false ps]]).length=List.length y.snd.snd∧True)∧x.snd.snd++[[AV.int .i64 k,.str nm,.sl (7:Nat) false ps]]=y.snd.snd∧True else False else False else bif !decide (s=nm) then bif decide
 (List.length x.snd.snd=List.length x.snd.snd∧List.length x.snd.snd+[[AV.int .i64 n,.str s,.sl (7:Nat) false xs]].length≤(9223372036854775807:Nat)∧(List.length x.snd.snd+[[AV.int .i64 n,.str s,.sl (7:Nat) false xs]].length)*(48:Nat)≤(140737488355328:Nat)) then bif decide (rng .i64 (x.fst+(1:Int))) then ∃ y,WfI (geS nm) (neS nm) (stA k nm ps) l (YtldiagnbagpliaaDoor.wiL l k nm ps) y∧(wf4
 l g false k nm ps).m y < (wf4 l g false k nm ps).m x∧((0:Nat)=0∧(0:Nat)=0∧(0:Nat)=0∧(0:Nat)=0∧x.snd.fst=y.snd.fst∧((bif g then g=true else True)∧l=l)∧(↑l.length:Int)=(↑l.length:Int)∧x.fst+(1:Int)=y.fst∧True)∧(((bif g then g=true else True)∧l=l)∧True)∧(k=k∧nm=nm∧(True∧ps=ps)∧True)∧(True∧True)∧((x.snd.snd++[[AV.int .i64 n,.str s,.sl (7:Nat) false xs]]).length=List.length y.snd.snd∧True)∧x.snd.snd
++[[AV.int .i64 n,.str s,.sl (7:Nat) false xs]]=y.snd.snd∧True else False else False else bif decide (rng .i64 (x.fst+(1:Int))) then ∃ y,WfI (geS nm) (neS nm) (stA k nm ps) l (YtldiagnbagpliaaDoor.wiL l k nm ps) y∧(wf4 l g false k nm ps).m y < (wf4 l g false k nm ps).m x∧((0:Nat)=0∧(0:Nat)=0∧(0:Nat)=0∧(0:Nat)=0∧x.snd.fst=y.snd.fst∧((bif g then g=true else
 True)∧l=l)∧(↑l.length:Int)=(↑l.length:Int)∧x.fst+(1:Int)=y.fst∧True)∧(((bif g then g=true else True)∧l=l)∧True)∧(k=k∧nm=nm∧(True∧ps=ps)∧True)∧(True∧True)∧(List.length x.snd.snd=List.length y.snd.snd∧True)∧x.snd.snd=y.snd.snd∧True else False else bif !decide (s=nm) then bif decide (List.length x.snd.snd=List.length x.snd.snd∧List.length x.snd.snd+[[AV.int .i64 n,.str s,.sl (7:Nat) false
 xs]].length≤(9223372036854775807:Nat)∧(List.length x.snd.snd+[[AV.int .i64 n,.str s,.sl (7:Nat) false xs]].length)*(48:Nat)≤(140737488355328:Nat)) then bif decide (rng .i64 (x.fst+(1:Int))) then ∃ y,WfI (geS nm) (neS nm) (stA k nm ps) l (YtldiagnbagpliaaDoor.wiL l k nm ps) y∧(wf4 l g false k nm ps).m y < (wf4 l g false k nm ps).m
 x∧((0:Nat)=0∧(0:Nat)=0∧(0:Nat)=0∧(0:Nat)=0∧x.snd.fst=y.snd.fst∧((bif g then g=true else True)∧l=l)∧(↑l.length:Int)=(↑l.length:Int)∧x.fst+(1:Int)=y.fst∧True)∧(((bif g then g=true else True)∧l=l)∧True)∧(k=k∧nm=nm∧(True∧ps=ps)∧True)∧(True∧True)∧((x.snd.snd++[[AV.int .i64 n,.str s,.sl (7:Nat) false xs]]).length=List.length y.snd.snd∧True)∧x.snd.snd++[[AV.int .i64 n,.str s,.sl (7:Nat) false
 xs]]=y.snd.snd∧True else False else False else bif decide (rng .i64 (x.fst+(1:Int))) then ∃ y,WfI (geS nm) (neS nm) (stA k nm ps) l (YtldiagnbagpliaaDoor.wiL l k nm ps) y∧(wf4 l g false k nm ps).m y < (wf4 l g false k nm ps).m x∧((0:Nat)=0∧(0:Nat)=0∧(0:Nat)=0∧(0:Nat)=0∧x.snd.fst=y.snd.fst∧((bif g then g=true else True)∧l=l)∧(↑l.length:Int)=(↑l.length:Int)∧x.fst+(1:Int)=y.fst∧True)∧(((bif g then
 g=true else True)∧l=l)∧True)∧(k=k∧nm=nm∧(True∧ps=ps)∧True)∧(True∧True)∧(List.length x.snd.snd=List.length y.snd.snd∧True)∧x.snd.snd=y.snd.snd∧True else False else False else bif !x.snd.fst then bif decide (List.length x.snd.snd=List.length x.snd.snd∧List.length x.snd.snd+[[AV.int .i64 k,.str nm,.sl (7:Nat) false ps]].length≤(9223372036854775807:Nat)∧(List.length x.snd.snd+[[AV.int .i64 k,.str
 nm,.sl (7:Nat) false ps]].length)*(48:Nat)≤(140737488355328:Nat)) then bif decide ((x.snd.snd++[[AV.int .i64 k,.str nm,.sl (7:Nat) false ps]]).length=(x.snd.snd++[[AV.int .i64 k,.str nm,.sl (7:Nat) false ps]]).length) then (True∧x.snd.snd++[[AV.int .i64 k,.str nm,.sl (7:Nat) false ps]]=wiL l k nm ps)∧True else False else False else bif decide (List.length x.snd.snd=List.length x.snd.snd)
 then (True∧x.snd.snd=wiL l k nm ps)∧True else False
theorem rwithF_P:rwithF_T wiL:=by
 unfold rwithF_T
 intro gl l ps g k nm hl _ _
 have ll:=hl.fs
 have bg:cond g (g=true) True:=by cases g <;> trivial
 refine ⟨⟨(0,decide ((ps.length:Int)=0),[]),⟨by simp,by simp,by simp,by simp [wiL]⟩,by (repeat' (first | exact trivial | exact rfl | assumption | apply And.intro))⟩,?_⟩
 rintro ⟨i,d,out⟩ hw
 have i0:=hw.flo
 have ol:=hw.fl
 simp only at i0 ol
 dsimp only
 refine csx (fun hi=>cd1 (by omega) ?_) (fun hi=>?_)
 ·obtain ⟨k2,nm2,ps2,hr,hp2⟩:=hl.fr i.toNat (by omega)
  have nx:=@wf_next _ _ _ _ _ _ _ _ hw hi _ hr
  have i1:i+1≤l.length:=by omega
  refine ⟨k2,nm2,ps2,by rw [hr]; rfl,csplit (fun hd=>?_) (fun hd=>?_)⟩
  ·have hd:d=false:=by simpa using hd
   subst hd
   refine csplit (fun q=>?_) (fun q=>?_)
   ·have q':geS nm (stA k2 nm2 ps2)=true:=q
    refine cd1 ⟨rfl,by simp; omega,by simp; omega⟩ (csplit (fun q2=>?_) (fun q2=>?_))
    ·have q2':neS nm (stA k2 nm2 ps2)=true:=q2
     exact cd1 ⟨rfl,by simp; omega,by simp; omega⟩ (cdI (by omega) ⟨(i+1,true,out++[stA k nm ps]++[stA k2 nm2 ps2]),nx (by rw [q']; rfl) (by simp [q',q2']),by simp only [wf4]; omega,by (repeat' (first | exact trivial | exact rfl | assumption | apply And.intro))⟩)
    ·have q2':neS nm (stA k2 nm2 ps2)=false:=q2
     exact cdI (by omega) ⟨(i+1,true,out++[stA k nm ps]),nx (by rw [q']; rfl) (by simp [q',q2']),by simp only [wf4]; omega,by (repeat' (first | exact trivial | exact rfl | assumption | apply And.intro))⟩
   ·have q':geS nm (stA k2 nm2 ps2)=false:=q
    refine csplit (fun q2=>?_) (fun q2=>?_)
    ·have q2':neS nm (stA k2 nm2 ps2)=true:=q2
     exact cd1 ⟨rfl,by simp; omega,by simp; omega⟩ (cdI (by omega) ⟨(i+1,false,out++[stA k2 nm2 ps2]),nx (by rw [q']; rfl) (by simp [q',q2']),by simp only [wf4]; omega,by (repeat' (first | exact trivial | exact rfl | assumption | apply And.intro))⟩)
    ·have q2':neS nm (stA k2 nm2 ps2)=false:=q2
     exact cdI (by omega) ⟨(i+1,false,out),nx (by rw [q']; rfl) (by simp [q',q2']),by simp only [wf4]; omega,by (repeat' (first | exact trivial | exact rfl | assumption | apply And.intro))⟩
  ·have hd:d=true:=by simpa using hd
   subst hd
   refine csplit (fun q2=>?_) (fun q2=>?_)
   ·have q2':neS nm (stA k2 nm2 ps2)=true:=q2
    exact cd1 ⟨rfl,by simp; omega,by simp; omega⟩ (cdI (by omega) ⟨(i+1,true,out++[stA k2 nm2 ps2]),nx (by rfl) (by simp [q2']),by simp only [wf4]; omega,by (repeat' (first | exact trivial | exact rfl | assumption | apply And.intro))⟩)
   ·have q2':neS nm (stA k2 nm2 ps2)=false:=q2
    exact cdI (by omega) ⟨(i+1,true,out),nx (by rfl) (by simp [q2']),by simp only [wf4]; omega,by (repeat' (first | exact trivial | exact rfl | assumption | apply And.intro))⟩
 ·have he:=wf_end hw hi
  have i1:=hw.fhi
  simp only at i1
  refine csplit (fun hd=>?_) (fun hd=>?_)
  ·have hd:d=false:=by simpa using hd
   subst hd
   exact cd1 ⟨rfl,by simp; omega,by simp; omega⟩ (cd1 rfl ⟨⟨trivial,he⟩,trivial⟩)
  ·have hd:d=true:=by simpa using hd
   subst hd
   exact cd1 rfl ⟨⟨trivial,he⟩,trivial⟩
def rwithF_S (wiL:LLR→Int→ByteArray→LLR→LLR):Prop:=∀ (gl:Glob) (l ps:List (List AV)) (g:Bool) (k:Int) (nm:ByteArray),StsP l→fnK Tryd.prog { glob:=gl,spec:=lk [],specH:=lk [],shape:=[19],slz:=[(19,[7])],nowf:=true } { nt:=56,drop:=drp [(2,7680),(3,8192),(5,786432),(6,267386880),(7,33822867456),(9,515396075520),(10,69269232549888),(11,70368744177664),(12,140737488355328),(13,35465847065542656),(14,36028797018963968)],emp:=fun id=>cond (Nat.beq id 3) [(1000500,1501,66,3)] [] } (invs [(4,wf4 l g false k nm ps)]) 6 Tryd.f66 [.agg [.sl 3 g l],.agg [.int .i64 k,.str nm,.sl 7 false ps]] (.agg [.sl 3 false (wiL l k nm ps)])
theorem rwithF_e (wiL:LLR→Int→ByteArray→LLR→LLR):rwithF_T wiL=rwithF_S wiL:=by kernel_rfl
theorem rwithF_v:rwithF_S wiL:=Eq.mp (rwithF_e ..) (rwithF_P)
theorem rwithF_ok (gl:Glob):SOK Tryd.prog gl 66 (rwithF_s wiL):=by
 refine ⟨fok Tryd.func66 (by kernel_rfl) (by kernel_rfl),?_⟩
 intro xs pre r h hp
 unfold rwithF_s at h
 split at h
 ·simp only [Option.some.injEq,Prod.mk.injEq] at h
  obtain ⟨h1,h2⟩:=h
  subst h1 h2
  exact fnK_sound tyNil (by exact specOK rfl rfl trivial trivial) (by kernel_rfl) Tryd.func66 rfl (rwithF_v gl _ _ _ _ _ hp)
 ·cases h
def geP (fr:Int) (x:List AV):Bool:=decide (fr≤rE x)
def neP (fr:Int) (x:List AV):Bool:=decide (¬ rE x=fr)
def puL (ps:LLR) (fr:Int) (p:List AV):LLR:=genL (geP fr) (neP fr) p false ps
def reP (l:LLR) (nm:ByteArray) (fr:Int) (p:List AV):LLR:=puL (fiP l nm) fr p
def reL (l:LLR) (k:Int) (nm:ByteArray) (fr:Int) (p:List AV):LLR:=wiL l k nm (reP l nm fr p)
def reE (l:LLR) (k:Int) (nm:ByteArray) (fr:Int) (cl:Bool) (f a b c:Int) (bs:LLR):Int :=
 if rgV l≠0 then rgV l else if exK k=false then 4 else if nmOk nm=false then 3 else if pdV k fr cl f a b c bs=false then 1 else
 if fiB l nm=true∧fiK l nm≠k then 7 else if 60 < ((reL l k nm fr (pdA fr cl f a b c bs)).length:Int) then 2 else if 8 < ((reP l nm fr (pdA fr cl f a b c bs)).length:Int) then 2 else 0
def reO (l:LLR) (k:Int) (nm:ByteArray) (fr:Int) (cl:Bool) (f a b c:Int) (bs:LLR):LLR:=if reE l k nm fr cl f a b c bs=0 then reL l k nm fr (pdA fr cl f a b c bs) else []
def sf16 (l:LLR) (g:Bool) (k:Int) (nm:ByteArray) (fr:Int) (p:List AV) (ps0:LLR):LInv:=⟨Int × Bool × LLR,fun x=>⟨[(1,.int .i64 k),(2,.str nm),(4,.ptr 4 0),(7,.ptr 7 0),(8,.ptr 8 0),(13,.ptr 13 0),(14,.bool x.2.1),(55,.sl 7 false ps0),(56,.int .i64 ps0.length),(57,.int .i64 x.1)],[(4,.cells [.sl 3 g l]),(7,.cells p),(8,.cells [.nils]),(13,.cells [.int .i64 k,.str nm,.rw 1502 7 x.2.2.length]),(1502,.row 38 7 x.2.2)]⟩,WfI (geP fr) (neP fr) p ps0 (puL ps0 fr p),fun x=>(ps0.length - x.1).toNat,none⟩
theorem fiP_p {l:LLR} (hl:StsP l) (nm:ByteArray):PdsP (fiP l nm):=by
 unfold fiP
 split
 ·rename_i h
  rcases Nat.lt_or_ge (fiI l nm).toNat l.length with z | z
  ·obtain ⟨k,n,ps,hr,hp⟩:=hl.fr _ z
   rw [hr]; exact hp
  ·rw [List.getD_eq_getElem?_getD,List.getElem?_eq_none z]; exact pds_nil
 ·exact pds_nil
theorem re_err {l:LLR} {k:Int} {nm:ByteArray} {fr:Int} {cl:Bool} {f a b c:Int} {bs:LLR} {e:Int} (h:reE l k nm fr cl f a b c bs=e) (he:e≠0):(reO l k nm fr cl f a b c bs=[]∧True)∧e=reE l k nm fr cl f a b c bs∧True :=
 ⟨⟨if_neg (by rw [h]; exact he),trivial⟩,h.symm,trivial⟩
structure RsC (l:LLR) (k:Int) (nm:ByteArray) (fr:Int) (cl:Bool) (f a b c:Int) (bs:LLR) (x:Unit):Prop where
 h0:rgV l=0
 hE:reE l k nm fr cl f a b c bs=if 60 < ((reL l k nm fr (pdA fr cl f a b c bs)).length:Int) then 2 else if 8 < ((reP l nm fr (pdA fr cl f a b c bs)).length:Int) then 2 else 0
def sf13 (l:LLR) (g:Bool) (k:Int) (nm:ByteArray) (fr:Int) (cl:Bool) (f a b c:Int) (bs:LLR) (q:List AV):LInv:=⟨Unit,fun _=>⟨[(1,.int .i64 k),(2,.str nm),(4,.ptr 4 0),(7,.ptr 7 0),(8,.ptr 8 0),(11,.ptr 11 0)],[(4,.cells [.sl 3 g l]),(7,.cells (pdA fr cl f a b c bs)),(8,.cells [.nils]),(11,.cells q)]⟩,RsC l k nm fr cl f a b c bs,fun _=>0,none⟩
def sfJ (l:LLR) (g:Bool) (k:Int) (nm:ByteArray) (fr:Int) (cl:Bool) (f a b c:Int) (bs:LLR) (id:Nat) (st:St):Option LInv:=cond (Nat.beq id 16) (match lk st.tmps 55 with
 | some (.sl _ _ ps0)=>some (sf16 l g k nm fr (pdA fr cl f a b c bs) ps0)
 | _=>none) (cond (Nat.beq id 100013) (match lk st.heap 11 with
 | some (.cells q)=>some (sf13 l g k nm fr cl f a b c bs q)
 | _=>none) none)
def rsetF_s (pdV:Int→Int→Bool→Int→Int→Int→Int→LLR→Bool) (nmOk:ByteArray→Bool) (rgV:LLR→Int) (reE:LLR→Int→ByteArray→Int→Bool→Int→Int→Int→Int→LLR→Int) (reO:LLR→Int→ByteArray→Int→Bool→Int→Int→Int→Int→LLR→LLR) (wiL:LLR→Int→ByteArray→LLR→LLR) (fiK:LLR→ByteArray→Int) (fiN:LLR→ByteArray→ByteArray) (fiP:LLR→ByteArray→LLR) (fiB:LLR→ByteArray→Bool):Sp
 | [.agg [.sl 3 g l],.int .i64 k,.str nm,.agg [.int .i64 fr,.bool cl,.int .i64 f,.int .i64 a,.int .i64 b,.int .i64 c,.sl 2 false bs]]=>some (StsP l∧RdsP bs,.tup [.agg [.sl 3 false (reO l k nm fr cl f a b c bs)],.int .i64 (reE l k nm fr cl f a b c bs)])
 | _=>none
def rsetF_T (pdV:Int→Int→Bool→Int→Int→Int→Int→LLR→Bool) (nmOk:ByteArray→Bool) (rgV:LLR→Int) (reE:LLR→Int→ByteArray→Int→Bool→Int→Int→Int→Int→LLR→Int) (reO:LLR→Int→ByteArray→Int→Bool→Int→Int→Int→Int→LLR→LLR) (wiL:LLR→Int→ByteArray→LLR→LLR) (fiK:LLR→ByteArray→Int) (fiN:LLR→ByteArray→ByteArray) (fiP:LLR→ByteArray→LLR) (fiB:LLR→ByteArray→Bool) (nrm:Int→Int→Int→Int→Int × Int × Int × Int) (vld:Int→Int→Int→Int→Bool) (isN:Int→Int→Int→Int→Bool) (inB:Int→Bool) (bsOk:LLR→Bool):Prop :=
  ∀ (gl:Glob) (l bs:List (List AV)) (g cl:Bool) (k fr f a b c:Int) (nm:ByteArray),StsP l∧RdsP bs→True∧True→IR9 k→nm.size.le (9223372036854775807:Nat)→(IR9 fr)∧True∧(IR9 f)∧((-9223372036854775808:Int)≤a∧a ≤
 (9223372036854775807:Int))∧(IR9 b)∧(IR9 c)∧True∧True→StsP l∧bif decide ¬rgV l=(0:Int) then (reO l k nm fr cl f a b c bs=[]∧True)∧rgV l=reE l k nm fr cl f a b c bs∧True else True∧bif !decide (1≤k∧k≤(3:Int)) then (reO l k nm fr cl f a b c bs=[]∧True)∧(4:Int)=reE l k nm fr cl f a b c
 bs∧True else True∧bif !nmOk nm then (reO l k nm fr cl f a b c bs=[]∧True)∧(3:Int)=reE l k nm fr cl f a b c bs∧True else RdsP bs∧bif !pdV k fr cl f a b c bs then (reO l k nm fr cl f a b c bs=[]∧True)∧(1:Int)=reE l k nm fr cl f a b c bs∧True else StsP l∧(bif fiB l nm then bif decide ¬fiK l nm=k then (reO l k nm fr cl f a b c bs=[]∧True)∧(7:Int)=reE l k nm fr cl f a b c bs∧True else ∃ x,RsC l k nm fr
 cl f a b c bs x∧(k=k∧nm=nm∧(0:Nat)=0∧(0:Nat)=0∧(0:Nat)=0∧(0:Nat)=0∧True)∧(((bif g then g=true else True)∧l=l)∧True)∧(fr=fr∧cl=cl∧f=f∧a=a∧b=b∧c=c∧(True∧bs=bs)∧True)∧(True∧True)∧(fiK l nm=fiK l nm∧fiN l nm=fiN l nm∧(True∧fiP l nm=fiP l nm)∧True)∧True else ∃ x,RsC l k nm fr cl f a b c bs x∧(k=k∧nm=nm∧(0:Nat)=0∧(0:Nat)=0∧(0:Nat)=0∧(0:Nat)=0∧True)∧(((bif g then g=true else
 True)∧l=l)∧True)∧(fr=fr∧cl=cl∧f=f∧a=a∧b=b∧c=c∧(True∧bs=bs)∧True)∧(True∧True)∧(fiK l nm=fiK l nm∧fiN l nm=fiN l nm∧(True∧fiP l nm=fiP l nm)∧True)∧True)∧∀ (x:PUnit),RsC l k nm fr cl f a b c bs x→(∃ x,WfI (geP fr) (neP fr) (pdA fr cl f a b c bs) (fiP l nm) (puL (fiP l nm) fr (pdA fr cl f a b c bs)) x∧(k=k∧nm=nm∧(0:Nat)=0∧(0:Nat)=0∧(0:Nat)=0∧(0:Nat)=0∧false=x.snd.fst∧(True∧fiP l nm=fiP l
 nm)∧(↑(List.length (fiP l nm)):Int)=(↑(List.length (fiP l nm)):Int)∧(0:Int)=x.fst∧True)∧(((bif g then g=true else True)∧l=l)∧True)∧(fr=fr∧cl=cl∧f=f∧a=a∧b=b∧c=c∧(True∧bs=bs)∧True)∧(True∧True)∧(k=k∧nm=nm∧(0:Nat)=List.length x.snd.snd∧True)∧[]=x.snd.snd∧True)∧∀ (x:Int × Bool × LLR),WfI (geP fr) (neP fr) (pdA fr cl f a b c bs) (fiP l nm) (puL (fiP l nm) fr (pdA fr cl f a b c bs)) x→bif decide (x.fst
 < (↑(List.length (fiP l nm)):Int)) then bif decide (0≤x.fst∧x.fst < (↑(List.length (fiP l nm)):Int)) then ∃ n b_1 n_1 n_2 n_3 n_4 xs,List.take [AV.int .i64 n,.bool b_1,.int .i64 n_1,.int .i64 n_2,.int .i64 n_3,.int .i64 n_4,.sl (2:Nat) false xs].length (List.getD (fiP l nm) x.fst.toNat [])=[AV.int .i64 n,.bool b_1,.int .i64 n_1,.int .i64 n_2,.int .i64 n_3,.int .i64 n_4,.sl (2:Nat) false
 xs]∧bif !x.snd.fst then bif decide (fr≤n) then bif decide (List.length x.snd.snd=List.length x.snd.snd∧List.length x.snd.snd+[[AV.int .i64 fr,.bool cl,.int .i64 f,.int .i64 a,.int .i64 b,.int .i64 c,.sl (2:Nat) false bs]].length≤(9223372036854775807:Nat)∧(List.length x.snd.snd+[[AV.int .i64 fr,.bool cl,.int .i64 f,.int .i64 a,.int .i64 b,.int .i64 c,.sl (2:Nat) false bs]].length)*(72:Nat)
≤(140737488355328:Nat)) then bif decide ¬n=fr then bif decide ((x.snd.snd++[[AV.int .i64 fr,.bool cl,.int .i64 f,.int .i64 a,.int .i64 b,.int .i64 c,.sl (2:Nat) false bs]]).length=(x.snd.snd++[[AV.int .i64 fr,.bool cl,.int .i64 f,.int .i64 a,.int .i64 b,.int .i64 c,.sl (2:Nat) false bs]]).length∧(x.snd.snd++[[AV.int .i64 fr,.bool cl,.int .i64 f,.int .i64 a,.int .i64 b,.int .i64 c,.sl (2:Nat)
 false bs]]).length+[[AV.int .i64 n,.bool b_1,.int .i64 n_1,.int .i64 n_2,.int .i64 n_3,.int .i64 n_4,.sl (2:Nat) false xs]].length≤(9223372036854775807:Nat)∧((x.snd.snd++[[AV.int .i64 fr,.bool cl,.int .i64 f,.int .i64 a,.int .i64 b,.int .i64 c,.sl (2:Nat) false bs]]).length+[[AV.int .i64 n,.bool b_1,.int .i64 n_1,.int .i64 n_2,.int .i64 n_3,.int .i64 n_4,.sl (2:Nat) false xs]].length) *
 (72:Nat)≤(140737488355328:Nat)) then bif decide (rng .i64 (x.fst+(1:Int))) then ∃ y,WfI (geP fr) (neP fr) (pdA fr cl f a b c bs) (fiP l nm) (puL (fiP l nm) fr (pdA fr cl f a b c bs)) y∧(sf16 l g k nm fr (pdA fr cl f a b c bs) (fiP l nm)).m y < (sf16 l g k nm fr (pdA fr cl f a b c bs) (fiP l nm)).m x∧(k=k∧nm=nm∧(0:Nat)=0∧(0:Nat)=0∧(0:Nat)=0∧(0:Nat)=0∧true=y.snd.fst∧(True∧fiP l nm=fiP l
 nm)∧(↑(List.length (fiP l nm)):Int)=(↑(List.length (fiP l nm)):Int)∧x.fst+(1:Int)=y.fst∧True)∧(((bif g then g=true else True)∧l=l)∧True)∧(fr=fr∧cl=cl∧f=f∧a=a∧b=b∧c=c∧(True∧bs=bs)∧True)∧(True∧True)∧(k=k∧nm=nm∧(x.snd.snd++[[AV.int .i64 fr,.bool cl,.int .i64 f,.int .i64 a,.int .i64 b,.int .i64 c,.sl (2:Nat) false bs]]++[[AV.int .i64 n,.bool b_1,.int .i64 n_1,.int .i64 n_2,.int .i64 n_3,.int .i64
 n_4,.sl (2:Nat) false xs]]).length=List.length y.snd.snd∧True)∧x.snd.snd++[[AV.int .i64 fr,.bool cl,.int .i64 f,.int .i64 a,.int .i64 b,.int .i64 c,.sl (2:Nat) false bs]]++[[AV.int .i64 n,.bool b_1,.int .i64 n_1,.int .i64 n_2,.int .i64 n_3,.int .i64 n_4,.sl (2:Nat) false xs]]=y.snd.snd∧True else False else False else bif decide (rng .i64 (x.fst+(1:Int))) then ∃ y,WfI (geP fr) (neP fr) (pdA fr
 cl f a b c bs) (fiP l nm) (puL (fiP l nm) fr (pdA fr cl f a b c bs)) y∧(sf16 l g k nm fr (pdA fr cl f a b c bs) (fiP l nm)).m y < (sf16 l g k nm fr (pdA fr cl f a b c bs) (fiP l nm)).m x∧(k=k∧nm=nm∧(0:Nat)=0∧(0:Nat)=0∧(0:Nat)=0∧(0:Nat)=0∧true=y.snd.fst∧(True∧fiP l nm=fiP l nm)∧(↑(List.length (fiP l nm)):Int)=(↑(List.length (fiP l nm)):Int)∧x.fst+(1:Int)=y.fst∧True)∧(((bif g then g=true else
 True)∧l=l)∧True)∧(fr=fr∧cl=cl∧f=f∧a=a∧b=b∧c=c∧(True∧bs=bs)∧True)∧(True∧True)∧(k=k∧nm=nm∧(x.snd.snd++[[AV.int .i64 fr,.bool cl,.int .i64 f,.int .i64 a,.int .i64 b,.int .i64 c,.sl (2:Nat) false bs]]).length=List.length y.snd.snd∧True)∧x.snd.snd++[[AV.int .i64 fr,.bool cl,.int .i64 f,.int .i64 a,.int .i64 b,.int .i64 c,.sl (2:Nat) false bs]]=y.snd.snd∧True else False else False else bif decide
 ¬n=fr then bif decide (List.length x.snd.snd=List.length x.snd.snd∧List.length x.snd.snd+[[AV.int .i64 n,.bool b_1,.int .i64 n_1,.int .i64 n_2,.int .i64 n_3,.int .i64 n_4,.sl (2:Nat) false xs]].length≤(9223372036854775807:Nat)∧(List.length x.snd.snd+[[AV.int .i64 n,.bool b_1,.int .i64 n_1,.int .i64 n_2,.int .i64 n_3,.int .i64 n_4,.sl (2:Nat) false xs]].length)*(72:Nat) ≤
 (140737488355328:Nat)) then bif decide (rng .i64 (x.fst+(1:Int))) then ∃ y,WfI (geP fr) (neP fr) (pdA fr cl f a b c bs) (fiP l nm) (puL (fiP l nm) fr (pdA fr cl f a b c bs)) y∧(sf16 l g k nm fr (pdA fr cl f a b c bs) (fiP l nm)).m y < (sf16 l g k nm fr (pdA fr cl f a b c bs) (fiP l nm)).m x∧(k=k∧nm=nm∧(0:Nat)=0∧(0:Nat)=0∧(0:Nat)=0∧(0:Nat)=0∧x.snd.fst=y.snd.fst∧(True∧fiP l nm=fiP l
 nm)∧(↑(List.length (fiP l nm)):Int)=(↑(List.length (fiP l nm)):Int)∧x.fst+(1:Int)=y.fst∧True)∧(((bif g then g=true else True)∧l=l)∧True)∧(fr=fr∧cl=cl∧f=f∧a=a∧b=b∧c=c∧(True∧bs=bs)∧True)∧(True∧True)∧(k=k∧nm=nm∧(x.snd.snd++[[AV.int .i64 n,.bool b_1,.int .i64 n_1,.int .i64 n_2,.int .i64 n_3,.int .i64 n_4,.sl (2:Nat) false xs]]).length=List.length y.snd.snd∧True)∧x.snd.snd++[[AV.int .i64 n,.bool
 b_1,.int .i64 n_1,.int .i64 n_2,.int .i64 n_3,.int .i64 n_4,.sl (2:Nat) false xs]]=y.snd.snd∧True else False else False else bif decide (rng .i64 (x.fst+(1:Int))) then ∃ y,WfI (geP fr) (neP fr) (pdA fr cl f a b c bs) (fiP l nm) (puL (fiP l nm) fr (pdA fr cl f a b c bs)) y∧(sf16 l g k nm fr (pdA fr cl f a b c bs) (fiP l nm)).m y < (sf16 l g k nm fr (pdA fr cl f a b c bs) (fiP l nm)).m
 x∧(k=k∧nm=nm∧(0:Nat)=0∧(0:Nat)=0∧(0:Nat)=0∧(0:Nat)=0∧x.snd.fst=y.snd.fst∧(True∧fiP l nm=fiP l nm)∧(↑(List.length (fiP l nm)):Int)=(↑(List.length (fiP l nm)):Int)∧x.fst+(1:Int)=y.fst∧True)∧(((bif g then g=true else True)∧l=l)∧True)∧(fr=fr∧cl=cl∧f=f∧a=a∧b=b∧c=c∧(True∧bs=bs)∧True)∧(True∧True)∧(k=k∧nm=nm∧List.length x.snd.snd=List.length y.snd.snd∧True)∧x.snd.snd=y.snd.snd∧True else False else bif
 decide ¬n=fr then bif decide (List.length x.snd.snd=List.length x.snd.snd∧List.length x.snd.snd+[[AV.int .i64 n,.bool b_1,.int .i64 n_1,.int .i64 n_2,.int .i64 n_3,.int .i64 n_4,.sl (2:Nat) false xs]].length≤(9223372036854775807:Nat)∧(List.length x.snd.snd+[[AV.int .i64 n,.bool b_1,.int .i64 n_1,.int .i64 n_2,.int .i64 n_3,.int .i64 n_4,.sl (2:Nat) false xs]].length)*(72:Nat) ≤
 (140737488355328:Nat)) then bif decide (rng .i64 (x.fst+(1:Int))) then ∃ y,WfI (geP fr) (neP fr) (pdA fr cl f a b c bs) (fiP l nm) (puL (fiP l nm) fr (pdA fr cl f a b c bs)) y∧(sf16 l g k nm fr (pdA fr cl f a b c bs) (fiP l nm)).m y < (sf16 l g k nm fr (pdA fr cl f a b c bs) (fiP l nm)).m x∧(k=k∧nm=nm∧(0:Nat)=0∧(0:Nat)=0∧(0:Nat)=0∧(0:Nat)=0∧x.snd.fst=y.snd.fst∧(True∧fiP l nm=fiP l
 nm)∧(↑(List.length (fiP l nm)):Int)=(↑(List.length (fiP l nm)):Int)∧x.fst+(1:Int)=y.fst∧True)∧(((bif g then g=true else True)∧l=l)∧True)∧(fr=fr∧cl=cl∧f=f∧a=a∧b=b∧c=c∧(True∧bs=bs)∧True)∧(True∧True)∧(k=k∧nm=nm∧(x.snd.snd++[[AV.int .i64 n,.bool b_1,.int .i64 n_1,.int .i64 n_2,.int .i64 n_3,.int .i64 n_4,.sl (2:Nat) false xs]]).length=List.length y.snd.snd∧True)∧x.snd.snd++[[AV.int .i64 n,.bool
 b_1,.int .i64 n_1,.int .i64 n_2,.int .i64 n_3,.int .i64 n_4,.sl (2:Nat) false xs]]=y.snd.snd∧True else False else False else bif decide (rng .i64 (x.fst+(1:Int))) then ∃ y,WfI (geP fr) (neP fr) (pdA fr cl f a b c bs) (fiP l nm) (puL (fiP l nm) fr (pdA fr cl f a b c bs)) y∧(sf16 l g k nm fr (pdA fr cl f a b c bs) (fiP l nm)).m y < (sf16 l g k nm fr (pdA fr cl f a b c bs) (fiP l nm)).m
 x∧(k=k∧nm=nm∧(0:Nat)=0∧(0:Nat)=0∧(0:Nat)=0∧(0:Nat)=0∧x.snd.fst=y.snd.fst∧(True∧fiP l nm=fiP l nm)∧(↑(List.length (fiP l nm)):Int)=(↑(List.length (fiP l nm)):Int)∧x.fst+(1:Int)=y.fst∧True)∧(((bif g then g=true else True)∧l=l)∧True)∧(fr=fr∧cl=cl∧f=f∧a=a∧b=b∧c=c∧(True∧bs=bs)∧True)∧(True∧True)∧(k=k∧nm=nm∧List.length x.snd.snd=List.length y.snd.snd∧True)∧x.snd.snd=y.snd.snd∧True else False else False
 else bif !x.snd.fst then bif decide (List.length x.snd.snd=List.length x.snd.snd∧List.length x.snd.snd+[[AV.int .i64 fr,.bool cl,.int .i64 f,.int .i64 a,.int .i64 b,.int .i64 c,.sl (2:Nat) false bs]].length≤(9223372036854775807:Nat)∧(List.length x.snd.snd+[[AV.int .i64 fr,.bool cl,.int .i64 f,.int .i64 a,.int .i64 b,.int .i64 c,.sl (2:Nat) false bs]].length)*(72:Nat) ≤
 (140737488355328:Nat)) then bif decide ((x.snd.snd++[[AV.int .i64 fr,.bool cl,.int .i64 f,.int .i64 a,.int .i64 b,.int .i64 c,.sl (2:Nat) false bs]]).length=(x.snd.snd++[[AV.int .i64 fr,.bool cl,.int .i64 f,.int .i64 a,.int .i64 b,.int .i64 c,.sl (2:Nat) false bs]]).length) then StsP l∧bif decide ((60:Int) < (↑(List.length (wiL l k nm (x.snd.snd++[[AV.int .i64 fr,.bool cl,.int .i64 f,.int
 .i64 a,.int .i64 b,.int .i64 c,.sl (2:Nat) false bs]]))):Int)) then (reO l k nm fr cl f a b c bs=[]∧True)∧(2:Int)=reE l k nm fr cl f a b c bs∧True else bif decide ((x.snd.snd++[[AV.int .i64 fr,.bool cl,.int .i64 f,.int .i64 a,.int .i64 b,.int .i64 c,.sl (2:Nat) false bs]]).length=(x.snd.snd++[[AV.int .i64 fr,.bool cl,.int .i64 f,.int .i64 a,.int .i64 b,.int .i64 c,.sl (2:Nat) false
 bs]]).length) then bif decide ((8:Int) < (↑(x.snd.snd++[[AV.int .i64 fr,.bool cl,.int .i64 f,.int .i64 a,.int .i64 b,.int .i64 c,.sl (2:Nat) false bs]]).length:Int)) then (reO l k nm fr cl f a b c bs=[]∧True)∧(2:Int)=reE l k nm fr cl f a b c bs∧True else ((True∧wiL l k nm (x.snd.snd++[[AV.int .i64 fr,.bool cl,.int .i64 f,.int .i64 a,.int .i64 b,.int .i64 c,.sl (2:Nat) false bs]])=reO l k nm fr
 cl f a b c bs)∧True)∧(0:Int)=reE l k nm fr cl f a b c bs∧True else False else False else False else bif decide (List.length x.snd.snd=List.length x.snd.snd) then StsP l∧bif decide ((60:Int) < (↑(List.length (wiL l k nm x.snd.snd)):Int)) then (reO l k nm fr cl f a b c bs=[]∧True)∧(2:Int)=reE l k nm fr cl f a b c bs∧True else bif decide (List.length x.snd.snd=List.length x.snd.snd) then bif decide
 ((8:Int) < (↑(List.length x.snd.snd):Int)) then (reO l k nm fr cl f a b c bs=[]∧True)∧(2:Int)=reE l k nm fr cl f a b c bs∧True else ((True∧wiL l k nm x.snd.snd=reO l k nm fr cl f a b c bs)∧True)∧(0:Int)=reE l k nm fr cl f a b c bs∧True else False else False
theorem rsetF_P:rsetF_T pdV nmOk rgV reE reO wiL fiK fiN fiP fiB nrm vld isN inB bsOk:=by
 unfold rsetF_T
 intro gl l bs g cl k fr f a b c nm ⟨hl,hb⟩ _
 intros
 have bg:cond g (g=true) True:=by cases g <;> trivial
 have ll:=hl.fs
 have hE:reE l k nm fr cl f a b c bs=reE l k nm fr cl f a b c bs:=rfl
 conv at hE=>rhs; unfold reE
 refine ⟨hl,csx (fun q=>re_err (hE.trans (if_pos q)) q) (fun q=>?_)⟩
 rw [if_neg q] at hE
 have h0:=Decidable.not_not.1 q
 refine ⟨trivial,csplit (fun q2=>re_err (hE.trans (if_pos ((Bool.not_eq_true' _).mp q2))) (by decide)) (fun q2=>?_)⟩
 have q2:exK k=true:=(Bool.not_eq_false' _).mp q2
 rw [if_neg (by rw [q2]; decide)] at hE
 refine ⟨trivial,csplit (fun q3=>re_err (hE.trans (if_pos (by simpa using q3))) (by decide)) (fun q3=>?_)⟩
 rw [if_neg (by simpa using q3)] at hE
 refine ⟨hb,csplit (fun q4=>re_err (hE.trans (if_pos (by simpa using q4))) (by decide)) (fun q4=>?_)⟩
 rw [if_neg (by simpa using q4)] at hE
 refine ⟨hl,csplit (fun q5=>csx (fun q6=>re_err (hE.trans (if_pos ⟨q5,q6⟩)) (by decide)) (fun q6=>?_)) (fun q5=>?_),?_⟩
 ·rw [if_neg (fun z=>q6 z.2)] at hE
  exact ⟨(),⟨h0,hE⟩,by (repeat' (first | exact trivial | exact rfl | assumption | apply And.intro))⟩
 ·rw [if_neg (fun z=>by rw [q5] at z; cases z.1)] at hE
  exact ⟨(),⟨h0,hE⟩,by (repeat' (first | exact trivial | exact rfl | assumption | apply And.intro))⟩
 clear hE q q2 q3 q4
 rintro _ ⟨h0,hE⟩
 have hps:=fiP_p hl nm
 have lp:=hps.fs
 refine ⟨⟨(0,false,[]),⟨by simp,by simp,by simp,by simp [puL]⟩,by (repeat' (first | exact trivial | exact rfl | assumption | apply And.intro))⟩,?_⟩
 rintro ⟨i,d,out⟩ hw
 have i0:=hw.flo
 have ol:=hw.fl
 have i1:=hw.fhi
 simp only at i0 ol i1
 dsimp only
 have fin:∀ o:LLR,o=reP l nm fr (pdA fr cl f a b c bs)→cond (decide (o.length=o.length)) (StsP l∧cond (decide (60 < ((wiL l k nm o).length:Int))) ((reO l k nm fr cl f a b c bs=[]∧True)∧2=reE l k nm fr cl f a b c bs∧True) (cond (decide (o.length=o.length)) (cond (decide (8 < (o.length:Int))) ((reO l k nm fr cl f a b c bs=[]∧True)∧2=reE l k nm fr cl f a b c bs∧True) (((True∧wiL l k nm o=reO l k nm fr cl f a b c bs)∧True)∧0=reE l k nm fr cl f a b c bs∧True)) False)) False:=by
  intro o ho
  subst ho
  refine cd1 rfl ⟨hl,csx (fun z=>re_err (hE.trans (if_pos z)) (by decide)) (fun z=>cd1 rfl (csx (fun z2=>re_err (hE.trans ((if_neg z).trans (if_pos z2))) (by decide)) (fun z2=>?_)))⟩
  have h:=hE.trans ((if_neg z).trans (if_neg z2))
  exact ⟨⟨⟨trivial,by unfold reO; rw [if_pos h]; rfl⟩,trivial⟩,h.symm,trivial⟩
 refine csx (fun hi=>cd1 (by omega) ?_) (fun hi=>?_)
 ·obtain ⟨fr2,cl2,f2,a2,b2,c2,bs2,hr,hb2,hbl2⟩:=hps.fr i.toNat (by omega)
  have nx:=@wf_next _ _ _ _ _ _ _ _ hw hi _ hr
  refine ⟨fr2,cl2,f2,a2,b2,c2,bs2,by rw [hr]; rfl,csplit (fun hd=>?_) (fun hd=>?_)⟩
  ·have hd:d=false:=by simpa using hd
   subst hd
   refine csx (fun q=>?_) (fun q=>?_)
   ·have q':geP fr (pdA fr2 cl2 f2 a2 b2 c2 bs2)=true:=decide_eq_true q
    refine cd1 ⟨rfl,by simp; omega,by simp; omega⟩ (csx (fun q2=>?_) (fun q2=>?_))
    ·have q2':neP fr (pdA fr2 cl2 f2 a2 b2 c2 bs2)=true:=decide_eq_true q2
     exact cd1 ⟨rfl,by simp; omega,by simp; omega⟩ (cdI (by omega) ⟨(i+1,true,out++[pdA fr cl f a b c bs]++[pdA fr2 cl2 f2 a2 b2 c2 bs2]),nx (by rw [q']; rfl) (by simp [q',q2']),by simp only [sf16]; omega,by (repeat' (first | exact trivial | exact rfl | assumption | apply And.intro))⟩)
    ·have q2':neP fr (pdA fr2 cl2 f2 a2 b2 c2 bs2)=false:=decide_eq_false q2
     exact cdI (by omega) ⟨(i+1,true,out++[pdA fr cl f a b c bs]),nx (by rw [q']; rfl) (by simp [q',q2']),by simp only [sf16]; omega,by (repeat' (first | exact trivial | exact rfl | assumption | apply And.intro))⟩
   ·have q':geP fr (pdA fr2 cl2 f2 a2 b2 c2 bs2)=false:=decide_eq_false q
    refine csx (fun q2=>?_) (fun q2=>?_)
    ·have q2':neP fr (pdA fr2 cl2 f2 a2 b2 c2 bs2)=true:=decide_eq_true q2
     exact cd1 ⟨rfl,by simp; omega,by simp; omega⟩ (cdI (by omega) ⟨(i+1,false,out++[pdA fr2 cl2 f2 a2 b2 c2 bs2]),nx (by rw [q']; rfl) (by simp [q',q2']),by simp only [sf16]; omega,by (repeat' (first | exact trivial | exact rfl | assumption | apply And.intro))⟩)
    ·have q2':neP fr (pdA fr2 cl2 f2 a2 b2 c2 bs2)=false:=decide_eq_false q2
     exact cdI (by omega) ⟨(i+1,false,out),nx (by rw [q']; rfl) (by simp [q',q2']),by simp only [sf16]; omega,by (repeat' (first | exact trivial | exact rfl | assumption | apply And.intro))⟩
  ·have hd:d=true:=by simpa using hd
   subst hd
   refine csx (fun q2=>?_) (fun q2=>?_)
   ·have q2':neP fr (pdA fr2 cl2 f2 a2 b2 c2 bs2)=true:=decide_eq_true q2
    exact cd1 ⟨rfl,by simp; omega,by simp; omega⟩ (cdI (by omega) ⟨(i+1,true,out++[pdA fr2 cl2 f2 a2 b2 c2 bs2]),nx (by rfl) (by simp [q2']),by simp only [sf16]; omega,by (repeat' (first | exact trivial | exact rfl | assumption | apply And.intro))⟩)
   ·have q2':neP fr (pdA fr2 cl2 f2 a2 b2 c2 bs2)=false:=decide_eq_false q2
    exact cdI (by omega) ⟨(i+1,true,out),nx (by rfl) (by simp [q2']),by simp only [sf16]; omega,by (repeat' (first | exact trivial | exact rfl | assumption | apply And.intro))⟩
 ·have he:=wf_end hw hi
  refine csplit (fun hd=>?_) (fun hd=>?_)
  ·have hd:d=false:=by simpa using hd
   subst hd
   exact cd1 ⟨rfl,by simp; omega,by simp; omega⟩ (fin _ he)
  ·have hd:d=true:=by simpa using hd
   subst hd
   exact fin _ he
def rsetF_S (pdV:Int→Int→Bool→Int→Int→Int→Int→LLR→Bool) (nmOk:ByteArray→Bool) (rgV:LLR→Int) (reE:LLR→Int→ByteArray→Int→Bool→Int→Int→Int→Int→LLR→Int) (reO:LLR→Int→ByteArray→Int→Bool→Int→Int→Int→Int→LLR→LLR) (wiL:LLR→Int→ByteArray→LLR→LLR) (fiK:LLR→ByteArray→Int) (fiN:LLR→ByteArray→ByteArray) (fiP:LLR→ByteArray→LLR) (fiB:LLR→ByteArray→Bool) (nrm:Int→Int→Int→Int→Int × Int × Int × Int) (vld:Int→Int→Int→Int→Bool) (isN:Int→Int→Int→Int→Bool) (inB:Int→Bool) (bsOk:LLR→Bool):Prop:=∀ (gl:Glob) (l bs:List (List AV)) (g cl:Bool) (k fr f a b c:Int) (nm:ByteArray),StsP l∧RdsP bs→fnK Tryd.prog { glob:=gl,spec:=lk [(61,(rvalidF_s pdV nmOk rgV)),(62,rkind_s),(63,(rname_s nmOk)),(64,(rperiod_s nrm vld isN pdV inB bsOk)),(65,(rfindF_s fiK fiN fiP fiB)),(66,(rwithF_s wiL))],specH:=lk [],shape:=[60],slz:=[(60,[2])],nowf:=true } { nt:=111,drop:=drp [(1,786432),(2,1048576),(3,12582912),(4,50331648),(5,134217728),(6,805306368),(7,2147483648),(8,30064771072),(9,68719476736),(10,8658654068736),(11,554153860399104),(12,1125899906842624),(13,15762598695796736),(15,18014398509481984),(17,1729382256910270464),(18,587989967349491957760),(19,74377272105196912115712),(21,1133367955888714851287040),(22,152324653271443276012978176),(23,154742504910672534362390528),(24,309485009821345068724781056),(25,77990222474978957318644826112),(26,554597137599850363154807652352),(27,323884728358312612082407668973568),(28,649037107316853453566312041152512),(29,1298074214633706907132624082305024)],frz:=fun id=>cond (Nat.beq id 26) [1001502] [],emp:=fun id=>cond (Nat.beq id 15) [(1001302,1502,38,7)] [] } (sfJ l g k nm fr cl f a b c bs) 6 Tryd.f29 [.agg [.sl 3 g l],.int .i64 k,.str nm,.agg [.int .i64 fr,.bool cl,.int .i64 f,.int .i64 a,.int .i64 b,.int .i64 c,.sl 2 false bs]] (.tup [.agg [.sl 3 false (reO l k nm fr cl f a b c bs)],.int .i64 (reE l k nm fr cl f a b c bs)])
theorem rsetF_e (pdV:Int→Int→Bool→Int→Int→Int→Int→LLR→Bool) (nmOk:ByteArray→Bool) (rgV:LLR→Int) (reE:LLR→Int→ByteArray→Int→Bool→Int→Int→Int→Int→LLR→Int) (reO:LLR→Int→ByteArray→Int→Bool→Int→Int→Int→Int→LLR→LLR) (wiL:LLR→Int→ByteArray→LLR→LLR) (fiK:LLR→ByteArray→Int) (fiN:LLR→ByteArray→ByteArray) (fiP:LLR→ByteArray→LLR) (fiB:LLR→ByteArray→Bool) (nrm:Int→Int→Int→Int→Int × Int × Int × Int) (vld:Int→Int→Int→Int→Bool) (isN:Int→Int→Int→Int→Bool) (inB:Int→Bool) (bsOk:LLR→Bool):rsetF_T pdV nmOk rgV reE reO wiL fiK fiN fiP fiB nrm vld isN inB bsOk=rsetF_S pdV nmOk rgV reE reO wiL fiK fiN fiP fiB nrm vld isN inB bsOk:=by kernel_rfl
theorem rsetF_v:rsetF_S pdV nmOk rgV reE reO wiL fiK fiN fiP fiB nrm vld isN inB bsOk:=Eq.mp (rsetF_e ..) (rsetF_P)
theorem rsetF_ok (gl:Glob):SOK Tryd.prog gl 29 (rsetF_s pdV nmOk rgV reE reO wiL fiK fiN fiP fiB):=by
 refine ⟨fok Tryd.func29 (by kernel_rfl) (by kernel_rfl),?_⟩
 intro xs pre r h hp
 unfold rsetF_s at h
 split at h
 ·simp only [Option.some.injEq,Prod.mk.injEq] at h
  obtain ⟨h1,h2⟩:=h
  subst h1 h2
  exact fnK_sound tyNil (by exact specOK rfl rfl ⟨(rvalidF_ok gl),(rkind_ok gl),(rname_ok gl),(rperiod_ok gl),(rfindF_ok gl),(rwithF_ok gl),trivial⟩ trivial) (by kernel_rfl) Tryd.func29 rfl (rsetF_v gl _ _ _ _ _ _ _ _ _ _ _ hp)
 ·cases h
end Go.Proofs.YtldiagnbagpliaaDoor
namespace Go.Proofs.YtldiagnbagpliaaDoor
open Go
set_option linter.unusedVariables false
set_option linter.unusedSimpArgs false
def SrtQ (q:List AV→Int) (l:LLR):Prop:=l.Pairwise fun a b=>0≤q a→0 < q b
def genQ (q:List AV→Int) (s:List AV) (d:Bool) (l:LLR):LLR:=genL (fun x=>decide (0≤q x)) (fun x=>decide (q x≠0)) s d l
def insQ (q:List AV→Int) (l:LLR) (s:List AV):LLR:=l.take (fpI q l)++([s]++l.drop (fpI q l+cond (fpB q l) 1 0))
theorem fpI_nil (q:List AV→Int):fpI q []=0:=rfl
theorem fpI_lt {q:List AV→Int} {x:List AV} {l:LLR} (h:q x < 0):fpI q (x::l)=fpI q l+1:=by
 unfold fpI; rw [List.findIdx_cons,decide_eq_false (by omega)]; rfl
theorem fpI_ge {q:List AV→Int} {x:List AV} {l:LLR} (h:¬ q x < 0):fpI q (x::l)=0:=by
 unfold fpI; rw [List.findIdx_cons,decide_eq_true (by omega)]; rfl
theorem fpB_lt {q:List AV→Int} {x:List AV} {l:LLR} (h:q x < 0):fpB q (x::l)=fpB q l:=by
 unfold fpB
 rw [fpI_lt h,List.length_cons]
 congr 1
 rw [Bool.eq_iff_iff]; simp
theorem fpB_ge {q:List AV→Int} {x:List AV} {l:LLR} (h:¬ q x < 0):fpB q (x::l)=decide (q x=0):=by
 unfold fpB
 rw [fpI_ge h,List.length_cons]
 simp
theorem genQ_pos {q:List AV→Int} {s:List AV}:∀ {l:LLR},(∀ y ∈ l,0 < q y)→genQ q s true l=l
 | [],_=>rfl
 | x::l,h=>by
  have hx:=h x (by simp)
  have ih:=genQ_pos (q:=q) (s:=s) (l:=l) (fun y hy=>h y (by simp [hy]))
  unfold genQ at ih ⊢
  unfold genL
  rw [decide_eq_true (show 0≤q x by omega),decide_eq_true (show q x≠0 by omega)]
  simp only [Bool.not_true,Bool.false_and,Bool.true_or,if_true,Bool.false_eq_true,if_false,List.nil_append]
  rw [ih]; rfl
theorem genQ_ins {q:List AV→Int} {s:List AV}:∀ {l:LLR},SrtQ q l→genQ q s false l=insQ q l s
 | [],_=>rfl
 | x::l,h=>by
  obtain ⟨h1,h2⟩:=List.pairwise_cons.1 h
  by_cases hx:q x < 0
  ·have ih:=genQ_ins (s:=s) h2
   unfold insQ at ih ⊢
   rw [fpI_lt hx,fpB_lt hx,List.take_succ_cons,show fpI q l+1+cond (fpB q l) 1 0=fpI q l+cond (fpB q l) 1 0+1 by omega,List.drop_succ_cons,List.cons_append,← ih]
   unfold genQ
   rw [genL,decide_eq_false (show ¬ 0≤q x by omega),decide_eq_true (show q x≠0 by omega)]
   rfl
  ·have ht:=genQ_pos (q:=q) (s:=s) (l:=l) (fun y hy=>h1 y hy (by omega))
   unfold insQ
   rw [fpI_ge hx,fpB_ge hx]
   unfold genQ at ht ⊢
   rw [genL,decide_eq_true (show 0≤q x by omega)]
   by_cases hz:q x=0
   ·rw [decide_eq_false (show ¬ q x≠0 by omega),decide_eq_true hz]
    simp only [Bool.not_false,Bool.true_and,Bool.or_true,Bool.false_or,if_true,Bool.false_eq_true,if_false,List.nil_append]
    rw [ht]; rfl
   ·rw [decide_eq_true hz,decide_eq_false hz]
    simp only [Bool.not_false,Bool.true_and,Bool.or_true,Bool.false_or,if_true,Bool.false_eq_true,if_false,List.nil_append]
    rw [ht]; rfl
theorem fp_parts {q:List AV→Int}:∀ {l:LLR},SrtQ q l→(∀ x ∈ l.take (fpI q l),q x < 0)∧(∀ x ∈ l.drop (fpI q l+cond (fpB q l) 1 0),0 < q x)∧(fpB q l=true→fpI q l < l.length∧q (l.getD (fpI q l) [])=0)
 | [],_=>⟨by simp,by simp,fun h=>by simp [fpB] at h⟩
 | x::l,h=>by
  obtain ⟨h1,h2⟩:=List.pairwise_cons.1 h
  refine ⟨?_,?_,fun hb=>?_⟩
  ·by_cases hx:q x < 0
   ·rw [fpI_lt hx,List.take_succ_cons]
    intro y hy
    rcases List.mem_cons.1 hy with rfl | hy
    ·exact hx
    ·exact (fp_parts h2).1 y hy
   ·rw [fpI_ge hx]; simp
  ·by_cases hx:q x < 0
   ·rw [fpI_lt hx,fpB_lt hx,show fpI q l+1+cond (fpB q l) 1 0=fpI q l+cond (fpB q l) 1 0+1 by omega,List.drop_succ_cons]
    exact (fp_parts h2).2.1
   ·rw [fpI_ge hx,fpB_ge hx]
    intro y hy
    by_cases hz:q x=0
    ·rw [decide_eq_true hz] at hy
     exact h1 y hy (by omega)
    ·rw [decide_eq_false hz] at hy
     rcases List.mem_cons.1 hy with rfl | hy
     ·omega
     ·exact h1 y hy (by omega)
  ·unfold fpB at hb
   rw [Bool.and_eq_true] at hb
   exact ⟨of_decide_eq_true hb.1,of_decide_eq_true hb.2⟩
theorem insQ_len (q:List AV→Int) (l:LLR) (s:List AV):(insQ q l s).length=l.length+1 - cond (fpB q l) 1 0:=by
 have h:=fp_le q l
 unfold insQ
 cases hb:fpB q l with
 | false=>simp; omega
 | true =>
  have:fpI q l < l.length:=by unfold fpB at hb; rw [Bool.and_eq_true] at hb; exact of_decide_eq_true hb.1
  simp; omega
theorem set_ins {q:List AV→Int} {l:LLR} {s:List AV} (hb:fpB q l=true):l.set (fpI q l) s=insQ q l s:=by
 have:fpI q l < l.length:=by unfold fpB at hb; rw [Bool.and_eq_true] at hb; exact of_decide_eq_true hb.1
 unfold insQ
 rw [hb,List.set_eq_take_append_cons_drop,if_pos this]
 rfl
abbrev SnP (l:LLR):Prop:=l.Pairwise fun a b=>cmpS (sNm a) (sNm b) < 0
theorem sn_pw {l:LLR}:snO l=true↔SnP l:=by
 constructor
 ·intro h
  rw [SnP,List.pairwise_iff_getElem]
  intro i j hi hj hij
  have st:∀ (d i:Nat),i+d+1 < l.length→cmpS (sNm (l.getD i [])) (sNm (l.getD (i+d+1) [])) < 0:=by
   intro d
   induction d with
   | zero =>
    intro i hi
    rcases of_decide_eq_true h (i+1) hi with q | q
    ·omega
    ·exact cmpS_lt.2 (by simpa using q)
   | succ d ih =>
    intro i hi
    have h1:=ih i (by omega)
    rcases of_decide_eq_true h (i+d+1+1) (by omega) with q | q
    ·omega
    ·simp only [Nat.add_sub_cancel] at q
     rw [show i+(d+1)+1=i+d+1+1 by omega]
     exact cmpS_tr h1 (cmpS_lt.2 q)
  have:=st (j - i - 1) i (by omega)
  rw [show i+(j - i - 1)+1=j by omega,gD_lt hi,gD_lt hj] at this
  exact this
 ·intro h
  rw [SnP,List.pairwise_iff_getElem] at h
  refine decide_eq_true fun j hj=>?_
  by_cases hz:j=0
  ·exact .inl hz
  ·refine .inr ?_
   rw [gD_lt hj,gD_lt (show j - 1 < l.length by omega)]
   exact cmpS_lt.1 (h (j - 1) j (by omega) hj (by omega))
theorem cmpS_an (s t:ByteArray):cmpS t s=- cmpS s t:=by
 rw [← lex_nm0,← lex_nm0]; exact lexI_an _ _
theorem cmpS_z {s t:ByteArray}:cmpS s t=0↔s=t:=by
 constructor
 ·intro h
  rw [← lex_nm0] at h
  have h:=lexI_zero h
  exact str_inj (nmK_inj (x:=[]) (y:=[]) (s:=s.toList) (t:=t.toList) (by rw [h])).1
 ·rintro rfl
  rw [← lex_nm0]; exact lexI_rfl _
theorem sn_srt {l:LLR} (h:SnP l) (nm:ByteArray):SrtQ (qS nm) l:=by
 refine List.Pairwise.imp (fun {a b} hab=>?_) h
 intro ha
 have ha:0≤cmpS (sNm a) nm:=ha
 show 0 < cmpS (sNm b) nm
 rcases Int.lt_or_le 0 (cmpS (sNm b) nm) with z | z
 ·exact z
 ·exfalso
  have hlt:cmpS (sNm a) nm < 0:=by
   by_cases e:cmpS (sNm b) nm=0
   ·rw [cmpS_z] at e; rw [← e]; exact hab
   ·exact cmpS_tr hab (by omega)
  omega
theorem asc_srt {ps:LLR} (h:AscP ps) (t:Int):SrtQ (qP t) ps:=by
 refine List.Pairwise.imp (fun {a b} hab=>?_) h
 intro ha
 have ha:0≤cmpI (rE a) t:=ha
 show 0 < cmpI (rE b) t
 have hab:rE a < rE b:=hab
 have h1:¬ rE a < t:=fun z=>by have:=cmpI_lt.2 z; omega
 unfold cmpI
 rw [if_neg (by omega),if_pos (by omega)]
 decide
end Go.Proofs.YtldiagnbagpliaaDoor
namespace Go.Proofs.YtldiagnbagpliaaDoor
open Go
set_option linter.unusedVariables false
set_option linter.unusedSimpArgs false
theorem geS_q (nm:ByteArray):geS nm=fun x=>decide (0≤qS nm x):=by
 funext x
 unfold geS
 rw [Bool.eq_iff_iff,Bool.or_eq_true,decide_eq_true_eq,decide_eq_true_eq,← cmpS_lt]
 show _↔0≤cmpS (sNm x) nm
 have h:=cmpS_an (sNm x) nm
 constructor
 ·rintro (z | z)
  ·omega
  ·have:=cmpS_z.2 z; omega
 ·intro z
  by_cases e:cmpS (sNm x) nm=0
  ·exact .inr (cmpS_z.1 e).symm
  ·exact .inl (by omega)
theorem neS_q (nm:ByteArray):neS nm=fun x=>decide (qS nm x≠0):=by
 funext x
 unfold neS
 rw [Bool.eq_iff_iff]
 simp only [Bool.not_eq_true',decide_eq_false_iff_not,decide_eq_true_eq]
 show _↔cmpS (sNm x) nm≠0
 rw [Ne,cmpS_z]
theorem geP_q (fr:Int):geP fr=fun x=>decide (0≤qP fr x):=by
 funext x
 unfold geP
 rw [decide_eq_decide]
 show _↔0≤cmpI (rE x) fr
 have:=@cmpI_lt (rE x) fr
 constructor
 ·intro z; exact Int.not_lt.1 (fun h=>by have:=this.1 h; omega)
 ·intro z; exact Int.not_lt.1 (fun h=>by have:=this.2 h; omega)
theorem neP_q (fr:Int):neP fr=fun x=>decide (qP fr x≠0):=by
 funext x
 unfold neP
 rw [decide_eq_decide]
 show _↔cmpI (rE x) fr≠0
 rw [Ne,cmpI_z]
theorem wiL_ins {l:LLR} (h:SnP l) {k:Int} {nm:ByteArray} {ps:LLR} (hp:ps≠[]):wiL l k nm ps=insQ (qS nm) l (stA k nm ps):=by
 unfold wiL
 have:¬ (ps.length:Int)=0:=fun e=>hp (List.eq_nil_of_length_eq_zero (by omega))
 rw [decide_eq_false this,geS_q,neS_q]
 exact genQ_ins (sn_srt h nm)
theorem puL_ins {ps:LLR} (h:AscP ps) (fr:Int) (p:List AV):puL ps fr p=insQ (qP fr) ps p:=by
 unfold puL
 rw [geP_q,neP_q]
 exact genQ_ins (asc_srt h fr)
theorem setEl_all {l:LLR} {i:Nat} {p:List AV} (h:(l.getD i []).length=p.length):setEl l i 0 p=l.set i p:=by
 unfold setEl spl
 rw [List.take_zero,List.nil_append,Nat.zero_add,List.drop_of_length_le (by omega),List.append_nil]
theorem putP_ins {ps:LLR} (hp:PdsP ps) (fr:Int) (cl:Bool) (f a b c:Int) (bs:LLR):putP ps fr (pdA fr cl f a b c bs)=insQ (qP fr) ps (pdA fr cl f a b c bs):=by
 unfold putP
 split
 ·rename_i h
  have h':fpB (qP fr) ps=true:=h
  rw [← set_ins h']
  refine setEl_all ?_
  have hlt:pdN ps fr < ps.length:=by
   unfold fpB at h'; rw [Bool.and_eq_true] at h'; exact of_decide_eq_true h'.1
  obtain ⟨fr2,cl2,f2,a2,b2,c2,bs2,hr,_⟩:=hp.fr _ hlt
  rw [hr]; rfl
 ·rename_i h
  have h':fpB (qP fr) ps=false:=by
   have h:¬ fpB (qP fr) ps=true:=h
   simpa using h
  unfold insQ
  rw [h',← List.append_assoc]
  rfl
theorem insQ_ne (q:List AV→Int) (l:LLR) (s:List AV):insQ q l s≠[]:=by
 unfold insQ; simp
theorem seD_at {l:LLR} {nm:ByteArray} (hl:StsP l) (h:stH l nm=true):∃ (k:Int),l.getD (stN l nm) []=stA k nm (seD l nm)∧stN l nm < l.length:=by
 have hlt:=stH_lt h
 obtain ⟨k,n,ps,hr,_⟩:=hl.fr _ hlt
 have h2:qS nm (l.getD (stN l nm) [])=0:=by
  have:=h
  unfold stH fpB at this
  rw [Bool.and_eq_true] at this
  exact of_decide_eq_true this.2
 rw [hr] at h2
 have hn:n=nm:=cmpS_z.1 h2
 subst hn
 refine ⟨k,?_,hlt⟩
 rw [hr]
 unfold seD hoP
 rw [hr]; rfl
theorem setL_ins {l:LLR} (hl:StsP l) {k:Int} {nm:ByteArray} {fr:Int} {p:List AV} (hk:stH l nm=true→rE (l.getD (stN l nm) [])=k) :
  setL l k nm fr p=insQ (qS nm) l (stA k nm (if stH l nm=true then putP (seD l nm) fr p else [p])):=by
 unfold setL
 split
 ·rename_i h
  obtain ⟨k2,hr,hlt⟩:=seD_at hl h
  have h':fpB (qS nm) l=true:=h
  have hk2:k2=k:=by rw [← hk h,hr]; rfl
  subst hk2
  rw [← set_ins h']
  unfold setEl
  rw [hr]
  rfl
 ·rename_i h
  have h':fpB (qS nm) l=false:=by
   have h:¬ fpB (qS nm) l=true:=h
   simpa using h
  unfold insQ
  rw [h',List.append_assoc]
  rfl
theorem fi_st {l:LLR} (h:SnP l) (nm:ByteArray):fiB l nm=stH l nm∧(stH l nm=true→fiI l nm=(stN l nm:Nat)):=by
 obtain ⟨p1,p2,p3⟩:=fp_parts (sn_srt h nm)
 have hc:∀ x:List AV,cS nm x=decide (qS nm x=0):=fun x=>by
  unfold cS
  rw [decide_eq_decide]
  show _↔cmpS (sNm x) nm=0
  rw [cmpS_z]
 cases hs:stH l nm with
 | true =>
  obtain ⟨h1,h2⟩:=p3 hs
  have e:fiI l nm=(stN l nm:Nat):=(idx_some (p:=cS nm) (i:=stN l nm) h1 (by rw [hc]; exact decide_eq_true h2) (fun j hj=>by
   rw [hc]
   have:=p1 (l.getD j []) (by
    have hj':j < fpI (qS nm) l:=hj
    have hjl:j < l.length:=Nat.lt_of_lt_of_le hj' (fp_le _ _)
    rw [gD_lt hjl]
    exact List.mem_iff_getElem.2 ⟨j,by rw [List.length_take]; omega,by rw [List.getElem_take]⟩)
   exact decide_eq_false (by omega))).symm
  exact ⟨by unfold fiB; rw [e]; exact decide_eq_true (by omega),fun _=>e⟩
 | false =>
  have hb:fpB (qS nm) l=false:=hs
  rw [hb] at p2
  have e:fiI l nm=-1:=(idx_none fun j hj=>by
   rw [hc]
   rcases Nat.lt_or_ge j (fpI (qS nm) l) with z | z
   ·have:=p1 (l.getD j []) (by rw [gD_lt hj]; exact List.mem_iff_getElem.2 ⟨j,by rw [List.length_take]; omega,by rw [List.getElem_take]⟩)
    exact decide_eq_false (by omega)
   ·have:=p2 (l.getD j []) (by
     rw [gD_lt hj]
     refine List.mem_iff_getElem.2 ⟨j - fpI (qS nm) l,by rw [List.length_drop]; simp only [cond_false]; omega,?_⟩
     rw [List.getElem_drop]
     congr 1
     simp only [cond_false]; omega)
    exact decide_eq_false (by omega)).symm
  exact ⟨by unfold fiB; rw [e]; rfl,fun h=>by cases h⟩
theorem fi_all {l:LLR} (h:SnP l) (nm:ByteArray):(fiP l nm=if stH l nm=true then seD l nm else [])∧(stH l nm=true→fiK l nm=rE (l.getD (stN l nm) [])):=by
 obtain ⟨h1,h2⟩:=fi_st h nm
 constructor
 ·unfold fiP
  rw [h1]
  split
  ·rename_i hs; rw [h2 hs,Int.toNat_natCast]; rfl
  ·rfl
 ·intro hs
  unfold fiK
  rw [h1,if_pos hs,h2 hs,Int.toNat_natCast]
theorem re_eq {l:LLR} (hl:StsP l) (k:Int) (nm:ByteArray) (fr:Int) (cl:Bool) (f a b c:Int) (bs:LLR) :
  reE l k nm fr cl f a b c bs=setE l k nm fr cl f a b c bs∧reO l k nm fr cl f a b c bs=setO l k nm fr cl f a b c bs:=by
 by_cases h0:rgV l=0
 ·have hz:=rg_zero hl h0
  obtain ⟨l60,p8⟩:=rg_len h0
  have hs:=sn_pw.1 hz.fs
  obtain ⟨f1,f2⟩:=fi_all hs nm
  obtain ⟨g1,g2⟩:=fi_st hs nm
  have hD:stH l nm=true→PdsP (seD l nm)∧AscP (seD l nm)∧(seD l nm).length≤8:=fun h=>by
   have hlt:=stH_lt h
   obtain ⟨k2,n2,ps2,hr,hp2⟩:=hl.fr _ hlt
   have e:seD l nm=ps2:=by unfold seD hoP; rw [hr]; rfl
   have ha:=hz.fa _ hlt
   rw [hr] at ha
   exact ⟨e ▸ hp2,e ▸ asc_pw.1 ha,p8 _ hlt⟩
  have eR:reP l nm fr (pdA fr cl f a b c bs)=if stH l nm=true then putP (seD l nm) fr (pdA fr cl f a b c bs) else [pdA fr cl f a b c bs]:=by
   unfold reP
   rw [f1]
   split
   ·rename_i h
    rw [puL_ins (hD h).2.1,putP_ins (hD h).1]
   ·rfl
  have eN:reP l nm fr (pdA fr cl f a b c bs)≠[]:=by
   rw [eR]
   split
   ·rename_i h
    rw [putP_ins (hD h).1]; exact insQ_ne _ _ _
   ·simp
  have eL:reL l k nm fr (pdA fr cl f a b c bs)=insQ (qS nm) l (stA k nm (reP l nm fr (pdA fr cl f a b c bs))):=wiL_ins hs eN
  have eE:reE l k nm fr cl f a b c bs=setE l k nm fr cl f a b c bs:=by
   unfold reE setE
   split
   ·rfl
   ·split
    ·rfl
    ·split
     ·rfl
     ·split
      ·rfl
      ·rw [eL,insQ_len,eR,g1]
       cases h:stH l nm with
       | true =>
        have h':fpB (qS nm) l=true:=h
        rw [h',f2 h]
        obtain ⟨d1,d2,d3⟩:=hD h
        simp only [if_true,true_and,cond_true]
        by_cases hk:rE (l.getD (stN l nm) [])=k
        ·have n7:¬ (rE (l.getD (stN l nm) [])≠k):=fun z=>z hk
         have n60:¬ 60 < ((l.length+1 - 1:Nat):Int):=by omega
         rw [if_neg n7,if_neg n7,if_neg n60,putP_ins d1,insQ_len]
         cases hh:pdH (seD l nm) fr with
         | true =>
          have hh':fpB (qP fr) (seD l nm)=true:=hh
          have n8:¬ 8 < (((seD l nm).length+1 - 1:Nat):Int):=by omega
          rw [hh']
          simp only [if_true,cond_true]
          rw [if_neg n8]
         | false =>
          have hh':fpB (qP fr) (seD l nm)=false:=hh
          rw [hh']
          simp only [Bool.false_eq_true,if_false,cond_false,Nat.sub_zero]
          by_cases z:8≤((seD l nm).length:Int)
          ·rw [if_pos z,if_pos (show 8 < (((seD l nm).length+1:Nat):Int) by omega)]
          ·rw [if_neg z,if_neg (show ¬ 8 < (((seD l nm).length+1:Nat):Int) by omega)]
        ·have y7:rE (l.getD (stN l nm) [])≠k:=hk
         rw [if_pos y7,if_pos y7]
       | false =>
        have h':fpB (qS nm) l=false:=h
        rw [h']
        simp only [Bool.false_eq_true,false_and,if_false,cond_false,Nat.sub_zero]
        by_cases z:60≤(l.length:Int)
        ·rw [if_pos z,if_pos (show 60 < ((l.length+1:Nat):Int) by omega)]
        ·rw [if_neg z,if_neg (show ¬ 60 < ((l.length+1:Nat):Int) by omega)]
         rfl
  refine ⟨eE,?_⟩
  unfold reO setO
  rw [eE]
  split
  ·rename_i he
   rw [eL,eR]
   refine (setL_ins hl fun h=>?_).symm
   unfold setE at he
   rw [if_neg (fun z=>z h0)] at he
   repeat' split at he
   all_goals first
    | (exact absurd he (by decide))
    | (rename_i q _ _ _ _ ; exact Decidable.not_not.1 (by assumption))
    | skip
   all_goals (first | exact Decidable.not_not.1 (by assumption) | (exfalso; rename_i q; exact q h) | skip)
  ·rfl
 ·have e1:reE l k nm fr cl f a b c bs=rgV l:=if_pos h0
  have e2:setE l k nm fr cl f a b c bs=rgV l:=if_pos h0
  refine ⟨e1.trans e2.symm,?_⟩
  unfold reO setO
  rw [e1,e2,if_neg h0,if_neg h0]
end Go.Proofs.YtldiagnbagpliaaDoor
namespace Go.Proofs.YtldiagnbagpliaaDoor
open Go
set_option linter.unusedVariables false
set_option linter.unusedSimpArgs false
structure GoodR (r:List AV):Prop where
 g1:p1R r=false
 g2:p2R r=false
 g3:p3R r=false
 g4:p4R r=false
 g5:p5R r=false
theorem rgV_iff {l:LLR}:rgV l=0↔l.length≤60∧(∀ r ∈ l,GoodR r)∧SnP l:=by
 have an:∀ (p:List AV→Bool),l.any p=false↔∀ r ∈ l,p r=false:=fun p=>by rw [List.any_eq_false]; simp
 constructor
 ·intro h
  have h60:=(rg_len h).1
  unfold rgV at h
  by_cases q1:60 < (l.length:Int)∨l.any p1R=true
  ·rw [if_pos q1] at h; cases h
  rw [if_neg q1] at h
  by_cases q2:l.any p2R=true
  ·rw [if_pos q2] at h; cases h
  rw [if_neg q2] at h
  by_cases q3:l.any p3R=true
  ·rw [if_pos q3] at h; cases h
  rw [if_neg q3] at h
  by_cases q4:l.any p4R=true
  ·rw [if_pos q4] at h; cases h
  rw [if_neg q4] at h
  by_cases q5:l.any p5R=true
  ·rw [if_pos q5] at h; cases h
  rw [if_neg q5] at h
  by_cases q6:snO l=true
  ·have q1':¬ l.any p1R=true:=fun z=>q1 (.inr z)
   exact ⟨h60,fun r hr=>⟨(an p1R).1 (by simpa using q1') r hr,(an p2R).1 (by simpa using q2) r hr,(an p3R).1 (by simpa using q3) r hr,(an p4R).1 (by simpa using q4) r hr,(an p5R).1 (by simpa using q5) r hr⟩,sn_pw.1 q6⟩
  ·rw [if_neg q6] at h; cases h
 ·rintro ⟨h60,hg,hs⟩
  have a1:=(an p1R).2 fun r hr=>(hg r hr).g1
  have a2:=(an p2R).2 fun r hr=>(hg r hr).g2
  have a3:=(an p3R).2 fun r hr=>(hg r hr).g3
  have a4:=(an p4R).2 fun r hr=>(hg r hr).g4
  have a5:=(an p5R).2 fun r hr=>(hg r hr).g5
  unfold rgV
  rw [a1,a2,a3,a4,a5,sn_pw.2 hs,if_neg (by simp; omega)]
  rfl
theorem insQ_mem {q:List AV→Int} {l:LLR} {s r:List AV} (h:r ∈ insQ q l s):r=s∨r ∈ l:=by
 unfold insQ at h
 rcases List.mem_append.1 h with h | h
 ·exact .inr (List.mem_of_mem_take h)
 ·rcases List.mem_append.1 h with h | h
  ·exact .inl (List.mem_singleton.1 h)
  ·exact .inr (List.mem_of_mem_drop h)
theorem ins_pw {R:List AV→List AV→Prop} {q:List AV→Int} {l:LLR} {s:List AV} (hR:l.Pairwise R) (hs:SrtQ q l) (h1:∀ x,q x < 0→R x s) (h2:∀ x,0 < q x→R s x) (tr:∀ x y,q x < 0→0 < q y→R x y):(insQ q l s).Pairwise R:=by
 obtain ⟨p1,p2,_⟩:=fp_parts hs
 unfold insQ
 rw [List.pairwise_append,List.pairwise_append]
 refine ⟨hR.sublist (List.take_sublist _ _),⟨List.pairwise_singleton _ _,hR.sublist (List.drop_sublist _ _),fun a ha b hb=>?_⟩,fun a ha b hb=>?_⟩
 ·rw [List.mem_singleton.1 ha]; exact h2 b (p2 b hb)
 ·rcases List.mem_append.1 hb with hb | hb
  ·rw [List.mem_singleton.1 hb]; exact h1 a (p1 a ha)
  ·exact tr a b (p1 a ha) (p2 b hb)
theorem ins_sn {l:LLR} (h:SnP l) {nm:ByteArray} {s:List AV} (hs:sNm s=nm):SnP (insQ (qS nm) l s):=by
 refine ins_pw h (sn_srt h nm) (fun x hx=>?_) (fun x hx=>?_) (fun x y hx hy=>?_)
 ·show cmpS (sNm x) (sNm s) < 0
  rw [hs]; exact hx
 ·show cmpS (sNm s) (sNm x) < 0
  rw [hs,cmpS_an]
  have:0 < cmpS (sNm x) nm:=hx
  omega
 ·have h2:0 < cmpS (sNm y) nm:=hy
  exact cmpS_tr (show cmpS (sNm x) nm < 0 from hx) (by rw [cmpS_an]; omega)
theorem qP_lt {t:Int} {x:List AV}:qP t x < 0↔rE x < t:=cmpI_lt
theorem qP_gt {t:Int} {x:List AV}:0 < qP t x↔t < rE x:=by
 have h1:=@cmpI_lt (rE x) t
 have h2:=@cmpI_z (rE x) t
 show 0 < cmpI (rE x) t↔_
 constructor
 ·intro h
  rcases Int.lt_or_le t (rE x) with z | z
  ·exact z
  ·rcases Int.lt_or_le (rE x) t with w | w
   ·have:=h1.2 w; omega
   ·have:=h2.2 (by omega); omega
 ·intro h
  rcases Int.lt_or_le 0 (cmpI (rE x) t) with z | z
  ·exact z
  ·by_cases e:cmpI (rE x) t=0
   ·have:=h2.1 e; omega
   ·have:=h1.1 (by omega); omega
theorem qP_z {t:Int} {x:List AV}:qP t x=0↔rE x=t:=cmpI_z
theorem ins_asc {ps:LLR} (h:AscP ps) {fr:Int} {p:List AV} (hp:rE p=fr):AscP (insQ (qP fr) ps p):=by
 refine ins_pw h (asc_srt h fr) (fun x hx=>?_) (fun x hx=>?_) (fun x y hx hy=>?_)
 ·show rE x < rE p; rw [hp]; exact qP_lt.1 hx
 ·show rE p < rE x; rw [hp]; exact qP_gt.1 hx
 ·show rE x < rE y
  have:=qP_lt.1 hx
  have:=qP_gt.1 hy
  omega
theorem mem_gD {l:LLR} {r:List AV} (h:r ∈ l):∃ i,i < l.length∧l.getD i []=r:=by
 obtain ⟨i,hi,e⟩:=List.mem_iff_getElem.1 h
 exact ⟨i,hi,by rw [gD_lt hi]; exact e⟩
theorem gD_mem {l:LLR} {i:Nat} (h:i < l.length):l.getD i [] ∈ l:=by rw [gD_lt h]; exact List.getElem_mem h
def newP (l:LLR) (nm:ByteArray) (fr:Int) (p:List AV):LLR:=if stH l nm=true then putP (seD l nm) fr p else [p]
theorem pds_mem {ps:LLR} (h:∀ r ∈ ps,∃ (fr:Int) (cl:Bool) (f a b c:Int) (bs:LLR),r=pdA fr cl f a b c bs∧RdsP bs∧bs.length≤1000) (hl:ps.length≤1000000):PdsP ps :=
 ⟨fun i hi=>h _ (gD_mem hi),hl⟩
theorem sts_mem {l:LLR} (h:∀ r ∈ l,∃ (k:Int) (nm:ByteArray) (ps:LLR),r=stA k nm ps∧PdsP ps) (hl:l.length≤1000000):StsP l :=
 ⟨fun i hi=>h _ (gD_mem hi),hl⟩
theorem mem_pds {ps:LLR} (h:PdsP ps) {r:List AV} (hr:r ∈ ps):∃ (fr:Int) (cl:Bool) (f a b c:Int) (bs:LLR),r=pdA fr cl f a b c bs∧RdsP bs∧bs.length≤1000:=by
 obtain ⟨i,hi,e⟩:=mem_gD hr
 rw [← e]; exact h.fr i hi
theorem mem_sts {l:LLR} (h:StsP l) {r:List AV} (hr:r ∈ l):∃ (k:Int) (nm:ByteArray) (ps:LLR),r=stA k nm ps∧PdsP ps:=by
 obtain ⟨i,hi,e⟩:=mem_gD hr
 rw [← e]; exact h.fr i hi
structure SetOk (l:LLR) (k:Int) (nm:ByteArray) (fr:Int) (cl:Bool) (f a b c:Int) (bs:LLR):Prop where
 h0:rgV l=0
 hk:exK k=true
 hn:nmOk nm=true
 hp:pdV k fr cl f a b c bs=true
 hs:stH l nm=true→rE (l.getD (stN l nm) [])=k∧(pdH (seD l nm) fr=true∨(seD l nm).length < 8)
 hf:stH l nm=false→l.length < 60
theorem set_ok {l:LLR} {k:Int} {nm:ByteArray} {fr:Int} {cl:Bool} {f a b c:Int} {bs:LLR} (he:setE l k nm fr cl f a b c bs=0):SetOk l k nm fr cl f a b c bs:=by
 unfold setE at he
 by_cases q1:rgV l≠0
 ·rw [if_pos q1] at he; exact absurd he q1
 rw [if_neg q1] at he
 by_cases q2:exK k=false
 ·rw [if_pos q2] at he; cases he
 rw [if_neg q2] at he
 by_cases q3:nmOk nm=false
 ·rw [if_pos q3] at he; cases he
 rw [if_neg q3] at he
 by_cases q4:pdV k fr cl f a b c bs=false
 ·rw [if_pos q4] at he; cases he
 rw [if_neg q4] at he
 refine ⟨Decidable.not_not.1 q1,by simpa using q2,by simpa using q3,by simpa using q4,fun h=>?_,fun h=>?_⟩
 ·rw [if_pos h] at he
  by_cases q5:rE (l.getD (stN l nm) [])≠k
  ·rw [if_pos q5] at he; cases he
  rw [if_neg q5] at he
  refine ⟨Decidable.not_not.1 q5,?_⟩
  by_cases q6:pdH (seD l nm) fr=true
  ·exact .inl q6
  ·rw [if_neg q6] at he
   by_cases q7:8≤((seD l nm).length:Int)
   ·rw [if_pos q7] at he; cases he
   ·exact .inr (by omega)
 ·rw [if_neg (by rw [h]; decide)] at he
  by_cases q5:60≤(l.length:Int)
  ·rw [if_pos q5] at he; cases he
  ·omega
theorem SetOk.lim {l:LLR} {k:Int} {nm:ByteArray} {fr:Int} {cl:Bool} {f a b c:Int} {bs:LLR} (h0:rgV l=0) (hk:exK k=true) (hn:nmOk nm=true) (hp:pdV k fr cl f a b c bs=true)
  (hs:stH l nm=true→rE (l.getD (stN l nm) [])=k):setE l k nm fr cl f a b c bs=0∨setE l k nm fr cl f a b c bs=2:=by
 unfold setE
 rw [if_neg (fun z=>z h0),hk,hn,hp,if_neg (by decide),if_neg (by decide),if_neg (by decide)]
 split
 ·rename_i h
  rw [if_neg (fun z=>z (hs h))]
  split
  ·exact .inl rfl
  ·split
   ·exact .inr rfl
   ·exact .inl rfl
 ·split
  ·exact .inr rfl
  ·exact .inl rfl
structure SetR (l q:LLR) (k:Int) (nm:ByteArray) (fr:Int) (p:List AV):Prop where
 fp:StsP q
 f0:rgV q=0
 fe:q=insQ (qS nm) l (stA k nm (newP l nm fr p))
 fn:newP l nm fr p=(if stH l nm=true then insQ (qP fr) (seD l nm) p else [p])
 fa:AscP (newP l nm fr p)
 fd:PdsP (newP l nm fr p)
theorem set_valid {l:LLR} (hl:StsP l) {k:Int} {nm:ByteArray} {fr:Int} {cl:Bool} {f a b c:Int} {bs:LLR} (hb:RdsP bs) (hbl:bs.length≤1000) (he:setE l k nm fr cl f a b c bs=0) :
  SetR l (setO l k nm fr cl f a b c bs) k nm fr (pdA fr cl f a b c bs):=by
 have ok:=set_ok he
 obtain ⟨l60,hg,hs⟩:=rgV_iff.1 ok.h0
 have hz:=rg_zero hl ok.h0
 have hD:stH l nm=true→PdsP (seD l nm)∧AscP (seD l nm)∧(seD l nm).length≤8∧stA k nm (seD l nm) ∈ l:=fun h=>by
  obtain ⟨k2,hr,hlt⟩:=seD_at hl h
  obtain ⟨k3,n3,ps3,hr3,hp3⟩:=hl.fr _ hlt
  have e:seD l nm=ps3:=by unfold seD hoP; rw [hr3]; rfl
  have ha:=hz.fa _ hlt
  rw [hr3] at ha
  have hk2:k2=k:=by rw [← (ok.hs h).1,hr]; rfl
  exact ⟨e ▸ hp3,e ▸ asc_pw.1 ha,(rg_len ok.h0).2 _ hlt,by rw [← hk2,← hr]; exact gD_mem hlt⟩
 have eN:newP l nm fr (pdA fr cl f a b c bs)=if stH l nm=true then insQ (qP fr) (seD l nm) (pdA fr cl f a b c bs) else [pdA fr cl f a b c bs]:=by
  unfold newP
  split
  ·rename_i h; exact putP_ins (hD h).1 _ _ _ _ _ _ _
  ·rfl
 have fa:AscP (newP l nm fr (pdA fr cl f a b c bs)):=by
  rw [eN]
  split
  ·rename_i h; exact ins_asc (hD h).2.1 rfl
  ·exact List.pairwise_singleton _ _
 have mm:∀ r ∈ newP l nm fr (pdA fr cl f a b c bs),r=pdA fr cl f a b c bs∨(stH l nm=true∧r ∈ seD l nm):=by
  rw [eN]
  intro r hr
  split at hr
  ·rename_i h
   rcases insQ_mem hr with e | e
   ·exact .inl e
   ·exact .inr ⟨h,e⟩
  ·exact .inl (List.mem_singleton.1 hr)
 have ln:(newP l nm fr (pdA fr cl f a b c bs)).length≤8∧(newP l nm fr (pdA fr cl f a b c bs)).length≠0:=by
  rw [eN]
  split
  ·rename_i h
   refine ⟨?_,fun z=>insQ_ne _ _ _ (List.eq_nil_of_length_eq_zero z)⟩
   rw [insQ_len]
   have:=(hD h).2.2.1
   rcases (ok.hs h).2 with z | z
   ·have z:fpB (qP fr) (seD l nm)=true:=z
    rw [z]; simp only [cond_true]; omega
   ·omega
  ·simp
 have fd:PdsP (newP l nm fr (pdA fr cl f a b c bs)):=by
  refine pds_mem (fun r hr=>?_) (by omega)
  rcases mm r hr with e | ⟨h,e⟩
  ·exact ⟨_,_,_,_,_,_,_,e,hb,hbl⟩
  ·exact mem_pds (hD h).1 e
 have fe:setO l k nm fr cl f a b c bs=insQ (qS nm) l (stA k nm (newP l nm fr (pdA fr cl f a b c bs))):=by
  unfold setO
  rw [if_pos he]
  exact setL_ins hl fun h=>(ok.hs h).1
 have good:GoodR (stA k nm (newP l nm fr (pdA fr cl f a b c bs))):=by
  refine ⟨?_,?_,?_,?_,?_⟩
  ·show s1B (newP l nm fr (pdA fr cl f a b c bs))=false
   unfold s1B
   rw [decide_eq_false ln.2,decide_eq_false (by omega)]; rfl
  ·show (!(exK k))=false
   rw [ok.hk]; rfl
  ·show (!(nmOk nm))=false
   rw [ok.hn]; rfl
  ·show (newP l nm fr (pdA fr cl f a b c bs)).any (bdP k)=false
   rw [List.any_eq_false]
   intro r hr z
   rcases mm r hr with e | ⟨h,e⟩
   ·subst e
    have:bdP k (pdA fr cl f a b c bs)=!(pdV k fr cl f a b c bs):=rfl
    rw [this,ok.hp] at z; cases z
   ·have hb4:=(hg _ (hD h).2.2.2).g4
    have hb4:(seD l nm).any (bdP k)=false:=hb4
    exact absurd z (by rw [List.any_eq_false] at hb4; exact hb4 r e)
  ·show (!(ascB (newP l nm fr (pdA fr cl f a b c bs))))=false
   rw [asc_pw.2 fa]; rfl
 have hlen:(setO l k nm fr cl f a b c bs).length≤60:=by
  rw [fe,insQ_len]
  cases h:stH l nm with
  | true =>
   have h':fpB (qS nm) l=true:=h
   rw [h']; simp only [cond_true]; omega
  | false=>have:=ok.hf h; omega
 refine ⟨?_,?_,fe,eN,fa,fd⟩
 ·refine sts_mem (fun r hr=>?_) (by omega)
  rw [fe] at hr
  rcases insQ_mem hr with e | e
  ·exact ⟨_,_,_,e,fd⟩
  ·exact mem_sts hl e
 ·refine rgV_iff.2 ⟨hlen,fun r hr=>?_,?_⟩
  ·rw [fe] at hr
   rcases insQ_mem hr with e | e
   ·rw [e]; exact good
   ·exact hg r e
  ·rw [fe]; exact ins_sn hs rfl
end Go.Proofs.YtldiagnbagpliaaDoor
namespace Go.Proofs.YtldiagnbagpliaaDoor
open Go
set_option linter.unusedVariables false
set_option linter.unusedSimpArgs false
def begT (t:Int) (r:List AV):Bool:=decide (rE r≤t)
def lst (ps:LLR) (t:Int):Option (List AV):=(ps.filter (begT t)).getLast?
theorem fil_all {p:List AV→Bool} {l:LLR} (h:∀ x ∈ l,p x=true):l.filter p=l:=List.filter_eq_self.2 h
theorem fil_no {p:List AV→Bool} {l:LLR} (h:∀ x ∈ l,p x=false):l.filter p=[]:=by
 rw [List.filter_eq_nil_iff]
 intro x hx z
 rw [h x hx] at z; cases z
theorem parts_eq (q:List AV→Int) (l:LLR) (hb:fpB q l=true) (hi:fpI q l < l.length):l=l.take (fpI q l)++([l.getD (fpI q l) []]++l.drop (fpI q l+1)):=by
 conv=>lhs; rw [← List.take_append_drop (fpI q l) l]
 rw [List.drop_eq_getElem_cons hi,gD_lt hi]
 rfl
theorem fil_ps {ps:LLR} (h:AscP ps) (t:Int):ps.filter (begT t)=ps.take (fpI (qP t) ps+cond (fpB (qP t) ps) 1 0):=by
 obtain ⟨p1,p2,p3⟩:=fp_parts (asc_srt h t)
 have f1:(ps.take (fpI (qP t) ps)).filter (begT t)=ps.take (fpI (qP t) ps):=fil_all fun x hx=>decide_eq_true (by have:=qP_lt.1 (p1 x hx); omega)
 have f2:(ps.drop (fpI (qP t) ps+cond (fpB (qP t) ps) 1 0)).filter (begT t)=[]:=fil_no fun x hx=>decide_eq_false (by have:=qP_gt.1 (p2 x hx); omega)
 cases hb:fpB (qP t) ps with
 | false =>
  rw [hb] at f2
  conv=>lhs; rw [← List.take_append_drop (fpI (qP t) ps) ps]
  rw [List.filter_append,f1]
  have e:fpI (qP t) ps+cond false 1 0=fpI (qP t) ps:=rfl
  rw [e] at f2 ⊢
  rw [f2,List.append_nil]
 | true =>
  rw [hb] at f2
  obtain ⟨h1,h2⟩:=p3 hb
  have e:fpI (qP t) ps+cond true 1 0=fpI (qP t) ps+1:=rfl
  rw [e] at f2 ⊢
  have hx:begT t (ps.getD (fpI (qP t) ps) [])=true:=decide_eq_true (by have:=qP_z.1 h2; omega)
  conv=>lhs; rw [parts_eq _ ps hb h1]
  rw [List.filter_append,List.filter_append,f1,f2,List.append_nil,List.filter_cons_of_pos hx,List.filter_nil,List.take_add_one,List.getElem?_eq_getElem h1,gD_lt h1]
  rfl
theorem at_lst {ps:LLR} (h:AscP ps) (t:Int):atB ps t=(lst ps t).isSome∧atR ps t=(lst ps t).getD pzR:=by
 have hle:=fp_le (qP t) ps
 have p3:=(fp_parts (asc_srt h t)).2.2
 have hK:atK ps t=((fpI (qP t) ps+cond (fpB (qP t) ps) 1 0:Nat):Int) - 1:=by
  unfold atK pdH pdN
  cases fpB (qP t) ps with
  | true=>simp
  | false=>simp
 have hm:fpI (qP t) ps+cond (fpB (qP t) ps) 1 0≤ps.length:=by
  cases hb:fpB (qP t) ps with
  | true=>have:=(p3 hb).1; show fpI (qP t) ps+1≤ps.length; omega
  | false=>exact hle
 have hL:lst ps t=(ps.take (fpI (qP t) ps+cond (fpB (qP t) ps) 1 0)).getLast?:=by unfold lst; rw [fil_ps h]
 generalize fpI (qP t) ps+cond (fpB (qP t) ps) 1 0=M at *
 have hB:atB ps t=decide (1≤M):=by unfold atB; rw [hK,decide_eq_decide]; omega
 by_cases hM:1≤M
 ·have e:lst ps t=some (ps.getD (M - 1) []):=by
   rw [hL,List.getLast?_eq_getElem?,List.length_take,Nat.min_eq_left hm,List.getElem?_take,if_pos (by omega),gD_lt (by omega),List.getElem?_eq_getElem]
  refine ⟨by rw [hB,e,decide_eq_true hM]; rfl,?_⟩
  unfold atR
  rw [hB,if_pos (decide_eq_true hM),e,hK,show ((M:Nat):Int) - 1=((M - 1:Nat):Int) by omega,Int.toNat_natCast]
  rfl
 ·have e:lst ps t=none:=by
   rw [hL,show M=0 by omega]; rfl
  refine ⟨by rw [hB,e,decide_eq_false hM]; rfl,?_⟩
  unfold atR
  rw [hB,if_neg (by rw [decide_eq_false hM]; decide),e]
  rfl
theorem lst_ins {ps:LLR} (h:AscP ps) {fr:Int} {p:List AV} (hp:rE p=fr) (t:Int):(t < fr→lst (insQ (qP fr) ps p) t=lst ps t)∧(t=fr→lst (insQ (qP fr) ps p) t=some p):=by
 obtain ⟨p1,p2,p3⟩:=fp_parts (asc_srt h fr)
 have fM:t≤fr→(ps.drop (fpI (qP fr) ps+cond (fpB (qP fr) ps) 1 0)).filter (begT t)=[]:=fun ht=>fil_no fun x hx=>decide_eq_false (by have:=qP_gt.1 (p2 x hx); omega)
 constructor
 ·intro ht
  have hs:begT t p=false:=decide_eq_false (by omega)
  unfold lst insQ
  rw [List.filter_append,List.filter_append,fM (by omega),List.filter_cons_of_neg (by rw [hs]; decide),List.filter_nil,List.append_nil,List.append_nil]
  congr 1
  cases hb:fpB (qP fr) ps with
  | false =>
   have f2:=fM (by omega)
   rw [hb] at f2
   conv=>rhs; rw [← List.take_append_drop (fpI (qP fr) ps) ps]
   have e:fpI (qP fr) ps+cond false 1 0=fpI (qP fr) ps:=rfl
   rw [e] at f2
   rw [List.filter_append,f2,List.append_nil]
  | true =>
   have f2:=fM (by omega)
   rw [hb] at f2
   obtain ⟨h1,h2⟩:=p3 hb
   have e:fpI (qP fr) ps+cond true 1 0=fpI (qP fr) ps+1:=rfl
   rw [e] at f2
   have hx:begT t (ps.getD (fpI (qP fr) ps) [])=false:=decide_eq_false (by have:=qP_z.1 h2; omega)
   conv=>rhs; rw [parts_eq _ ps hb h1]
   rw [List.filter_append,List.filter_append,f2,List.filter_cons_of_neg (by rw [hx]; decide),List.filter_nil,List.append_nil,List.append_nil]
 ·intro ht
  have hs:begT t p=true:=decide_eq_true (by omega)
  unfold lst insQ
  rw [List.filter_append,List.filter_append,fM (by omega),List.filter_cons_of_pos hs,List.filter_nil,List.append_nil,List.getLast?_append]
  rfl
theorem st_mem {q:LLR} (h:SnP q) {r:List AV} (hr:r ∈ q):stH q (sNm r)=true∧q.getD (stN q (sNm r)) []=r:=by
 obtain ⟨i,hi,e⟩:=mem_gD hr
 have hz:qS (sNm r) (q.getD i [])=0:=by rw [e]; exact cmpS_z.2 rfl
 have hp:=h
 rw [SnP,List.pairwise_iff_getElem] at hp
 have hN:stN q (sNm r)=i:=fp_uniq (q:=qS (sNm r)) (Nat.le_of_lt hi) (fun j hj=>by
  have:=hp j i (by omega) hi hj
  rw [gD_lt (by omega)]
  show cmpS (sNm q[j]) (sNm r) < 0
  rw [← e,gD_lt hi]; exact this) (fun _=>by rw [hz]; decide)
 refine ⟨?_,by rw [hN]; exact e⟩
 unfold stH fpB
 rw [show fpI (qS (sNm r)) q=i from hN,decide_eq_true hi,decide_eq_true hz]; rfl
theorem st_no {q:LLR} {n:ByteArray} (hq:StsP q) (h:∀ r ∈ q,sNm r≠n):stH q n=false:=by
 cases hs:stH q n with
 | false=>rfl
 | true =>
  obtain ⟨k,hr,hlt⟩:=seD_at hq hs
  exact absurd (by rw [hr]; rfl) (h _ (gD_mem hlt))
theorem ap_row {q:LLR} (h:SnP q) {k:Int} {n:ByteArray} {ps:LLR} (hr:stA k n ps ∈ q) (t:Int):apI q n t=atB ps t∧apP q n t=atR ps t∧stH q n=true∧q.getD (stN q n) []=stA k n ps:=by
 obtain ⟨h1,h2⟩:=st_mem h hr
 have h1:stH q n=true:=h1
 have h2:q.getD (stN q n) []=stA k n ps:=h2
 refine ⟨?_,?_,h1,h2⟩
 ·unfold apI; rw [h1,h2]; rfl
 ·unfold apP; rw [if_pos h1,h2]; rfl
theorem ap_none {q:LLR} {n:ByteArray} (h:stH q n=false) (t:Int):apI q n t=false∧apP q n t=pzR :=
 ⟨by unfold apI; rw [h]; rfl,by unfold apP; rw [if_neg (by rw [h]; decide)]⟩
theorem self_insQ (q:List AV→Int) (l:LLR) (s:List AV):s ∈ insQ q l s:=by
 unfold insQ; simp
theorem SetR.same {l q:LLR} {k:Int} {nm:ByteArray} {fr:Int} {p:List AV} (h:SetR l q k nm fr p) (t:Int):apI q nm t=atB (newP l nm fr p) t∧apP q nm t=atR (newP l nm fr p) t∧stH q nm=true∧q.getD (stN q nm) []=stA k nm (newP l nm fr p) :=
 ap_row (rgV_iff.1 h.f0).2.2 (by rw [h.fe]; exact self_insQ _ _ _) t
theorem SetR.at {l q:LLR} {k:Int} {nm:ByteArray} {fr:Int} {p:List AV} (h:SetR l q k nm fr p) (hl:StsP l) (h0:rgV l=0) (hp:rE p=fr) (t:Int):(t < fr→apI q nm t=apI l nm t∧apP q nm t=apP l nm t)∧(t=fr→apI q nm t=true∧apP q nm t=p):=by
 obtain ⟨s1,s2,_⟩:=h.same t
 have hs:=(rgV_iff.1 h0).2.2
 obtain ⟨n1,n2⟩:=at_lst h.fa t
 rw [s1,s2,n1,n2,h.fn]
 cases e:stH l nm with
 | true =>
  obtain ⟨k2,hr,hlt⟩:=seD_at hl e
  have ha:=(rg_zero hl h0).fa _ hlt
  rw [hr] at ha
  have ha:AscP (seD l nm):=asc_pw.1 ha
  obtain ⟨a1,a2,_⟩:=ap_row hs (show stA k2 nm (seD l nm) ∈ l by rw [← hr]; exact gD_mem hlt) t
  obtain ⟨m1,m2⟩:=at_lst ha t
  obtain ⟨l1,l2⟩:=lst_ins ha hp t
  rw [if_pos rfl,a1,a2,m1,m2]
  exact ⟨fun ht=>by rw [l1 ht]; exact ⟨rfl,rfl⟩,fun ht=>by rw [l2 ht]; exact ⟨rfl,rfl⟩⟩
 | false =>
  obtain ⟨a1,a2⟩:=ap_none e t
  rw [if_neg (by decide),a1,a2]
  constructor
  ·intro ht
   have:lst [p] t=none:=by
    unfold lst
    rw [List.filter_cons_of_neg (by unfold begT; rw [decide_eq_false (by omega)]; decide)]; rfl
   rw [this]; exact ⟨rfl,rfl⟩
  ·intro ht
   have:lst [p] t=some p:=by
    unfold lst
    rw [List.filter_cons_of_pos (by unfold begT; rw [decide_eq_true (by omega)])]; rfl
   rw [this]; exact ⟨rfl,rfl⟩
end Go.Proofs.YtldiagnbagpliaaDoor
namespace Go.Proofs.YtldiagnbagpliaaDoor
open Go
set_option linter.unusedVariables false
set_option linter.unusedSimpArgs false
structure BisP (bs:LLR) (n:Int):Prop where
 fr:∀ i,i < bs.length→∃ e v:Int,bs.getD i []=[.int .i64 e,.int .i64 v]∧(1≤e∧e < n)∧-1000≤v∧v≤1000
 fa:∀ i j:Nat,i < j→j < bs.length→rE (bs.getD i []) < rE (bs.getD j [])
 fl:(bs.length:Int) < n
theorem bis_nil {n:Int} (h:0 < n):BisP [] n:=⟨fun i h=>by simp at h,fun i j _ h=>by simp at h,by simpa using h⟩
theorem bis_up {bs:LLR} {n:Int} (h:BisP bs n):BisP bs (n+1):=⟨fun i hi=>by obtain ⟨e,v,h1,h2,h3⟩:=h.fr i hi; exact ⟨e,v,h1,by omega,h3⟩,h.fa,by have:=h.fl; omega⟩
theorem bis_add {bs:LLR} {n v:Int} (h:BisP bs n) (hn:1≤n) (hv:-1000≤v∧v≤1000):BisP (bs++[[.int .i64 n,.int .i64 v]]) (n+1):=by
 refine ⟨fun i hi=>?_,fun i j hij hj=>?_,by have:=h.fl; simp; omega⟩
 ·rw [List.length_append,List.length_singleton] at hi
  rw [gD_app]
  by_cases q:i < bs.length
  ·rw [if_pos q]; obtain ⟨e,w,h1,h2,h3⟩:=h.fr i q; exact ⟨e,w,h1,by omega,h3⟩
  ·rw [if_neg q,show i - bs.length=0 by omega]; exact ⟨n,v,rfl,by omega,hv⟩
 ·rw [List.length_append,List.length_singleton] at hj
  rw [gD_app,gD_app,if_pos (show i < bs.length by omega)]
  by_cases q:j < bs.length
  ·rw [if_pos q]; exact h.fa i j hij q
  ·rw [if_neg q,show j - bs.length=0 by omega]
   obtain ⟨e,w,h1,h2,_⟩:=h.fr i (by omega)
   rw [h1]; exact h2.2
theorem BisP.p {bs:LLR} {n:Int} (h:BisP bs n) (hn:n≤12):RdsP bs∧bs.length≤11∧bsOk bs=true:=by
 have hl:=h.fl
 refine ⟨⟨fun i hi=>?_,by omega⟩,by omega,decide_eq_true fun i hi=>?_⟩
 ·obtain ⟨e,v,h1,h2,h3⟩:=h.fr i hi
  refine ⟨e,v,h1,?_,?_⟩ <;> (show _∧_; omega)
 ·obtain ⟨e,v,h1,h2,h3⟩:=h.fr i hi
  unfold bsX
  have e1:rE (bs.getD i [])=e:=by rw [h1]; rfl
  have e2:rV (bs.getD i [])=v:=by rw [h1]; rfl
  rw [e1,e2,decide_eq_false (show ¬ 1000 < v by omega),decide_eq_false (show ¬ v < -1000 by omega)]
  have hok:okC e=true:=by unfold okC; exact decide_eq_true (by omega)
  rw [hok]
  by_cases hz:0 < i
  ·have:=h.fa (i - 1) i (by omega) hi
   rw [e1] at this
   rw [decide_eq_false (show ¬ e≤rE (bs.getD (i - 1) []) by omega)]; simp
  ·rw [decide_eq_false hz]; rfl
structure PrvQ (k fr:Int) (cl:Bool) (f a b c:Int) (bs:LLR) (j:Int):Prop where
 fv:pdV k fr cl f a b c bs=true
 fr:RdsP bs
 fl:bs.length≤11
 fj:0≤j
def plOk (k f a b c:Int):Bool:=if k=1 then isN f a b c else nonP f a b c
structure PrvP (k:Int) (x:Int × Int × Int × Int × Int × Int × Int × LLR):Prop where
 fc:1≤x.2.2.2.2.2.1∧x.2.2.2.2.2.1≤12
 fj:0≤x.2.2.2.2.2.2.1
 fb:BisP x.2.2.2.2.2.2.2 x.2.2.2.2.2.1
 ft:0≤x.1∧x.1≤52595999
 fp:plOk k x.2.1 x.2.2.1 x.2.2.2.1 x.2.2.2.2.1=true
def prvI (xs:List (List AV)) (k:Int):LInv:=⟨Int × Int × Int × Int × Int × Int × Int × LLR,fun x=>⟨[(0,.ptr 0 0),(6,.ptr 1006 0),(7,.ptr 1007 0),(8,.int .i64 x.2.2.2.2.2.1)],[(0,.cells [.sl 1 false xs,.int .i64 x.2.2.2.2.2.2.1]),(1006,.cells [.int .i64 0,.bool false,.int .i64 0,.int .i64 0,.int .i64 0,.int .i64 0,.nils]),(1007,.cells [.int .i64 x.1,.bool false,.int .i64 x.2.1,.int .i64 x.2.2.1,.int .i64 x.2.2.2.1,.int .i64 x.2.2.2.2.1,.rw 1501 2 x.2.2.2.2.2.2.2.length]),(1501,.row 60 2 x.2.2.2.2.2.2.2)]⟩,PrvP k,fun x=>(12 - x.2.2.2.2.2.1).toNat,none⟩
theorem pick_bnd {v j:Int} (h:PickQ [[.int .i64 0],[.int .i64 3],[.int .i64 (-5)],[.int .i64 20],[.int .i64 1000],[.int .i64 (-1000)]] (.int .i64 v) j):-1000≤v∧v≤1000:=by
 have:=pick_of [0,3,-5,20,1000,-1000] h
 simp only [List.mem_cons,List.not_mem_nil,or_false] at this
 omega
theorem pdV_cl {k fr:Int} (h:0≤fr∧fr≤52595999):pdV k fr true 0 0 0 0 []=true:=by
 unfold pdV; rw [if_neg (by omega),if_pos rfl]; rfl
theorem pdV_op {k fr f a b c:Int} {bs:LLR} (h:0≤fr∧fr≤52595999) (hb:bsOk bs=true) (hp:plOk k f a b c=true):pdV k fr false f a b c bs=true:=by
 unfold pdV; rw [if_neg (by omega),if_neg (by decide),hb,if_pos rfl]; exact hp
def qperiodV_s:SpQ
 | [.ptr 0 0,.int .i64 k,.int .i64 near],[.cells [.sl 1 false xs,.int .i64 i]]=>some (fun K=>(SrcQ xs i∧0≤near∧near≤52595999)∧(∀ (fr:Int) (cl:Bool) (f a b c:Int) (bs:List (List AV)) (j:Int),(PrvQ k fr cl f a b c bs j)→K (.agg [.int .i64 fr,.bool cl,.int .i64 f,.int .i64 a,.int .i64 b,.int .i64 c,.sl 2 false bs]) [.cells [.sl 1 false xs,.int .i64 j]]))
 | _,_=>none
def qperiodV_T:Prop :=
  ∀ (gl:Glob) (xs:List (List AV)) (i k near:Int),SrcQ xs i∧0≤near∧near≤(52595999:Int)→(SrcQ xs i∧(-200:Int)≤(200:Int)∧(-1000000000:Int)≤(-200:Int)∧(200:Int)≤(1000000000:Int))∧∀ (v j:Int),((-200:Int)≤v∧v≤(200:Int))∧0≤j→bif decide (rng .i64 ((0:Int) - near)) then (SrcQ xs j∧((4:Nat)=[[AV.int .i64 (-100000:Int)],[AV.int .i64 (-1000:Int)],[AV.int .i64 v],[AV.int .i64
 ((0:Int) - near)]].length∧(1:Nat)≤(4:Nat)∧(4:Nat)≤(1000:Nat))∧IntsB [[AV.int .i64 (-100000:Int)],[AV.int .i64 (-1000:Int)],[AV.int .i64 v],[AV.int .i64 ((0:Int) - near)]])∧∀ (v_1 j:Int),PickQ [[AV.int .i64 (-100000:Int)],[AV.int .i64 (-1000:Int)],[AV.int .i64 v],[AV.int .i64 ((0:Int) - near)]] (AV.int .i64 v_1) j→bif decide (rng .i64 (near+v_1)) then SrcQ xs j∧∀ (v j:Int),NumQ (7:Int) v j→bif
 decide (v=(6:Int)) then ∃ fr cl f a b c bs j_1,PrvQ k fr cl f a b c bs j_1∧(max (0:Int) (min (52595999:Int) (near+v_1))=fr∧true=cl∧(0:Int)=f∧(0:Int)=a∧(0:Int)=b∧(0:Int)=c∧bs=[]∧True)∧((True∧xs=xs)∧j=j_1∧True)∧True else bif decide (k=(1:Int)) then SrcQ xs j∧∀ (f a b c j:Int),PlaQ f a b c j→(∃ x,PrvP k
 x∧((0:Nat)=0∧(0:Nat)=0∧(0:Nat)=0∧(1:Int)=x.snd.snd.snd.snd.snd.fst∧True)∧((True∧xs=xs)∧j=x.snd.snd.snd.snd.snd.snd.fst∧True)∧((0:Int)=0∧false=false∧(0:Int)=0∧(0:Int)=0∧(0:Int)=0∧(0:Int)=0∧True∧True)∧(max (0:Int) (min (52595999:Int) (near+v_1))=x.fst∧false=false∧f=x.snd.fst∧a=x.snd.snd.fst∧b=x.snd.snd.snd.fst∧c=x.snd.snd.snd.snd.fst∧(0:Nat)=List.length
 x.snd.snd.snd.snd.snd.snd.snd∧True)∧[]=x.snd.snd.snd.snd.snd.snd.snd∧True)∧∀ (x:Int × Int × Int × Int × Int × Int × Int × LLR),PrvP k x→bif decide (x.snd.snd.snd.snd.snd.fst≤(11:Int)) then SrcQ xs x.snd.snd.snd.snd.snd.snd.fst∧∀ (v j:Int),NumQ (7:Int) v j→bif decide (v=(6:Int)) then (SrcQ xs j∧((6:Nat)=6∧(1:Nat)≤(6:Nat)∧(6:Nat)≤(1000:Nat))∧IntsB [[AV.int .i64 (0:Int)],[AV.int .i64
 (3:Int)],[AV.int .i64 (-5:Int)],[AV.int .i64 (20:Int)],[AV.int .i64 (1000:Int)],[AV.int .i64 (-1000:Int)]])∧∀ (v j:Int),PickQ [[AV.int .i64 (0:Int)],[AV.int .i64 (3:Int)],[AV.int .i64 (-5:Int)],[AV.int .i64 (20:Int)],[AV.int .i64 (1000:Int)],[AV.int .i64 (-1000:Int)]] (AV.int .i64 v) j→bif decide (List.length x.snd.snd.snd.snd.snd.snd.snd=List.length x.snd.snd.snd.snd.snd.snd.snd∧List.length
 x.snd.snd.snd.snd.snd.snd.snd+[[AV.int .i64 x.snd.snd.snd.snd.snd.fst,.int .i64 v]].length≤(9223372036854775807:Nat)∧(List.length x.snd.snd.snd.snd.snd.snd.snd+[[AV.int .i64 x.snd.snd.snd.snd.snd.fst,.int .i64 v]].length)*(16:Nat)≤(140737488355328:Nat)) then bif decide (rng .i64 (x.snd.snd.snd.snd.snd.fst+(1:Int))) then ∃ y,PrvP k y∧(prvI xs k).m y < (prvI xs k).m
 x∧((0:Nat)=0∧(0:Nat)=0∧(0:Nat)=0∧x.snd.snd.snd.snd.snd.fst +
 (1:Int)=y.snd.snd.snd.snd.snd.fst∧True)∧((True∧xs=xs)∧j=y.snd.snd.snd.snd.snd.snd.fst∧True)∧((0:Int)=0∧false=false∧(0:Int)=0∧(0:Int)=0∧(0:Int)=0∧(0:Int)=0∧True∧True)∧(x.fst=y.fst∧false=false∧x.snd.fst=y.snd.fst∧x.snd.snd.fst=y.snd.snd.fst∧x.snd.snd.snd.fst=y.snd.snd.snd.fst∧x.snd.snd.snd.snd.fst=y.snd.snd.snd.snd.fst∧(x.snd.snd.snd.snd.snd.snd.snd++[[AV.int .i64 x.snd.snd.snd.snd.snd.fst,.int
 .i64 v]]).length=List.length y.snd.snd.snd.snd.snd.snd.snd∧True)∧x.snd.snd.snd.snd.snd.snd.snd++[[AV.int .i64 x.snd.snd.snd.snd.snd.fst,.int .i64 v]]=y.snd.snd.snd.snd.snd.snd.snd∧True else False else False else bif decide (rng .i64 (x.snd.snd.snd.snd.snd.fst+(1:Int))) then ∃ y,PrvP k y∧(prvI xs k).m y < (prvI xs k).m x∧((0:Nat)=0∧(0:Nat)=0∧(0:Nat)=0∧x.snd.snd.snd.snd.snd.fst +
 (1:Int)=y.snd.snd.snd.snd.snd.fst∧True)∧((True∧xs=xs)∧j=y.snd.snd.snd.snd.snd.snd.fst∧True)∧((0:Int)=0∧false=false∧(0:Int)=0∧(0:Int)=0∧(0:Int)=0∧(0:Int)=0∧True∧True)∧(x.fst=y.fst∧false=false∧x.snd.fst=y.snd.fst∧x.snd.snd.fst=y.snd.snd.fst∧x.snd.snd.snd.fst=y.snd.snd.snd.fst∧x.snd.snd.snd.snd.fst=y.snd.snd.snd.snd.fst∧List.length x.snd.snd.snd.snd.snd.snd.snd=List.length
 y.snd.snd.snd.snd.snd.snd.snd∧True)∧x.snd.snd.snd.snd.snd.snd.snd=y.snd.snd.snd.snd.snd.snd.snd∧True else False else bif decide (List.length x.snd.snd.snd.snd.snd.snd.snd=List.length x.snd.snd.snd.snd.snd.snd.snd) then ∃ fr cl f a b c bs j,PrvQ k fr cl f a b c bs
 j∧(x.fst=fr∧false=cl∧x.snd.fst=f∧x.snd.snd.fst=a∧x.snd.snd.snd.fst=b∧x.snd.snd.snd.snd.fst=c∧(True∧x.snd.snd.snd.snd.snd.snd.snd=bs)∧True)∧((True∧xs=xs)∧x.snd.snd.snd.snd.snd.snd.fst=j∧True)∧True else False else (∃ x,PrvP k
 x∧((0:Nat)=0∧(0:Nat)=0∧(0:Nat)=0∧(1:Int)=x.snd.snd.snd.snd.snd.fst∧True)∧((True∧xs=xs)∧j=x.snd.snd.snd.snd.snd.snd.fst∧True)∧((0:Int)=0∧false=false∧(0:Int)=0∧(0:Int)=0∧(0:Int)=0∧(0:Int)=0∧True∧True)∧(max (0:Int) (min (52595999:Int) (near+v_1))=x.fst∧false=false∧(0:Int)=x.snd.fst∧(0:Int)=x.snd.snd.fst∧(0:Int)=x.snd.snd.snd.fst∧(0:Int)=x.snd.snd.snd.snd.fst∧(0:Nat)=List.length
 x.snd.snd.snd.snd.snd.snd.snd∧True)∧[]=x.snd.snd.snd.snd.snd.snd.snd∧True)∧∀ (x:Int × Int × Int × Int × Int × Int × Int × LLR),PrvP k x→bif decide (x.snd.snd.snd.snd.snd.fst≤(11:Int)) then SrcQ xs x.snd.snd.snd.snd.snd.snd.fst∧∀ (v j:Int),NumQ (7:Int) v j→bif decide (v=(6:Int)) then (SrcQ xs j∧((6:Nat)=6∧(1:Nat)≤(6:Nat)∧(6:Nat)≤(1000:Nat))∧IntsB [[AV.int .i64 (0:Int)],[AV.int .i64
 (3:Int)],[AV.int .i64 (-5:Int)],[AV.int .i64 (20:Int)],[AV.int .i64 (1000:Int)],[AV.int .i64 (-1000:Int)]])∧∀ (v j:Int),PickQ [[AV.int .i64 (0:Int)],[AV.int .i64 (3:Int)],[AV.int .i64 (-5:Int)],[AV.int .i64 (20:Int)],[AV.int .i64 (1000:Int)],[AV.int .i64 (-1000:Int)]] (AV.int .i64 v) j→bif decide (List.length x.snd.snd.snd.snd.snd.snd.snd=List.length x.snd.snd.snd.snd.snd.snd.snd∧List.length
 x.snd.snd.snd.snd.snd.snd.snd+[[AV.int .i64 x.snd.snd.snd.snd.snd.fst,.int .i64 v]].length≤(9223372036854775807:Nat)∧(List.length x.snd.snd.snd.snd.snd.snd.snd+[[AV.int .i64 x.snd.snd.snd.snd.snd.fst,.int .i64 v]].length)*(16:Nat)≤(140737488355328:Nat)) then bif decide (rng .i64 (x.snd.snd.snd.snd.snd.fst+(1:Int))) then ∃ y,PrvP k y∧(prvI xs k).m y < (prvI xs k).m
 x∧((0:Nat)=0∧(0:Nat)=0∧(0:Nat)=0∧x.snd.snd.snd.snd.snd.fst +
 (1:Int)=y.snd.snd.snd.snd.snd.fst∧True)∧((True∧xs=xs)∧j=y.snd.snd.snd.snd.snd.snd.fst∧True)∧((0:Int)=0∧false=false∧(0:Int)=0∧(0:Int)=0∧(0:Int)=0∧(0:Int)=0∧True∧True)∧(x.fst=y.fst∧false=false∧x.snd.fst=y.snd.fst∧x.snd.snd.fst=y.snd.snd.fst∧x.snd.snd.snd.fst=y.snd.snd.snd.fst∧x.snd.snd.snd.snd.fst=y.snd.snd.snd.snd.fst∧(x.snd.snd.snd.snd.snd.snd.snd++[[AV.int .i64 x.snd.snd.snd.snd.snd.fst,.int
 .i64 v]]).length=List.length y.snd.snd.snd.snd.snd.snd.snd∧True)∧x.snd.snd.snd.snd.snd.snd.snd++[[AV.int .i64 x.snd.snd.snd.snd.snd.fst,.int .i64 v]]=y.snd.snd.snd.snd.snd.snd.snd∧True else False else False else bif decide (rng .i64 (x.snd.snd.snd.snd.snd.fst+(1:Int))) then ∃ y,PrvP k y∧(prvI xs k).m y < (prvI xs k).m x∧((0:Nat)=0∧(0:Nat)=0∧(0:Nat)=0∧x.snd.snd.snd.snd.snd.fst +
 (1:Int)=y.snd.snd.snd.snd.snd.fst∧True)∧((True∧xs=xs)∧j=y.snd.snd.snd.snd.snd.snd.fst∧True)∧((0:Int)=0∧false=false∧(0:Int)=0∧(0:Int)=0∧(0:Int)=0∧(0:Int)=0∧True∧True)∧(x.fst=y.fst∧false=false∧x.snd.fst=y.snd.fst∧x.snd.snd.fst=y.snd.snd.fst∧x.snd.snd.snd.fst=y.snd.snd.snd.fst∧x.snd.snd.snd.snd.fst=y.snd.snd.snd.snd.fst∧List.length x.snd.snd.snd.snd.snd.snd.snd=List.length
 y.snd.snd.snd.snd.snd.snd.snd∧True)∧x.snd.snd.snd.snd.snd.snd.snd=y.snd.snd.snd.snd.snd.snd.snd∧True else False else bif decide (List.length x.snd.snd.snd.snd.snd.snd.snd=List.length x.snd.snd.snd.snd.snd.snd.snd) then ∃ fr cl f a b c bs j,PrvQ k fr cl f a b c bs
 j∧(x.fst=fr∧false=cl∧x.snd.fst=f∧x.snd.snd.fst=a∧x.snd.snd.snd.fst=b∧x.snd.snd.snd.snd.fst=c∧(True∧x.snd.snd.snd.snd.snd.snd.snd=bs)∧True)∧((True∧xs=xs)∧x.snd.snd.snd.snd.snd.snd.fst=j∧True)∧True else False else False else False
theorem qperiodV_P:qperiodV_T:=by
 unfold qperiodV_T
 intro gl xs i k near ⟨hs,h1,h2⟩
 have s:=hs.s
 refine ⟨⟨hs,by decide,by decide,by decide⟩,fun v j q1=>cdI (by omega) ⟨⟨⟨s,q1.2⟩,⟨rfl,by decide,by decide⟩,ints_of [-100000,-1000,v,0 - near] ?_⟩,fun w j q2=>?_⟩⟩
 ·intro n hn
  simp only [List.mem_cons,List.not_mem_nil,or_false] at hn
  show _∧_
  omega
 have hw:=pick_of [-100000,-1000,v,0 - near] q2
 simp only [List.mem_cons,List.not_mem_nil,or_false] at hw
 have ht:0≤max 0 (min 52595999 (near+w))∧max 0 (min 52595999 (near+w))≤52595999:=by omega
 refine cdI (by omega) ⟨⟨s,q2.fj⟩,fun v j q3=>csx (fun _=>⟨_,_,_,_,_,_,_,_,⟨pdV_cl ht,rdsP_nil,by simp,q3.fj⟩,⟨rfl,rfl,rfl,rfl,rfl,rfl,rfl,trivial⟩,⟨⟨trivial,rfl⟩,rfl,trivial⟩,trivial⟩) (fun _=>csx (fun hk=>⟨⟨s,q3.fj⟩,fun f a b c j q4=>⟨⟨(max 0 (min 52595999 (near+w)),f,a,b,c,1,j,[]),⟨by simp,q4.fj,bis_nil (by simp),ht,by simp only [plOk]; rw [if_pos hk]; exact q4.fn⟩,by (repeat' (first | exact trivial | exact rfl | assumption | apply And.intro))⟩,?_⟩⟩) (fun hk=>⟨⟨(max 0 (min 52595999 (near+w)),0,0,0,0,1,j,[]),⟨by simp,q3.fj,bis_nil (by simp),ht,by simp only [plOk]; rw [if_neg hk]; rfl⟩,by (repeat' (first | exact trivial | exact rfl | assumption | apply And.intro))⟩,?_⟩))⟩
 all_goals
  rintro ⟨fr,f,a,b,c,n,j,bs⟩ ⟨hc,hj,hb,hft,hfp⟩
  have hl:=hb.fl
  simp only at hc hj hb hl hft hfp
  dsimp only
  refine csx (fun h=>⟨⟨s,hj⟩,fun v j q5=>csx (fun _=>⟨⟨⟨s,q5.fj⟩,⟨rfl,by decide,by decide⟩,ints_of [0,3,-5,20,1000,-1000] ?_⟩,fun v j q6=>cd1 ⟨rfl,by simp; omega,by simp; omega⟩ (cdI (by omega) ⟨(fr,f,a,b,c,n+1,j,bs++[[.int .i64 n,.int .i64 v]]),⟨by simp only; omega,q6.fj,bis_add hb hc.1 (pick_bnd q6),hft,hfp⟩,by simp only [prvI]; omega,by (repeat' (first | exact trivial | exact rfl | assumption | apply And.intro))⟩)⟩) (fun _=>cdI (by omega) ⟨(fr,f,a,b,c,n+1,j,bs),⟨by simp only; omega,q5.fj,bis_up hb,hft,hfp⟩,by simp only [prvI]; omega,by (repeat' (first | exact trivial | exact rfl | assumption | apply And.intro))⟩)⟩) (fun h=>cd1 rfl ?_)
  ·intro n hn
   simp only [List.mem_cons,List.not_mem_nil,or_false] at hn
   show _∧_
   omega
  ·obtain ⟨b1,b2,b3⟩:=hb.p hc.2
   exact ⟨fr,false,f,a,b,c,bs,j,⟨pdV_op hft b3 hfp,b1,b2,hj⟩,by (repeat' (first | exact trivial | exact rfl | assumption | apply And.intro))⟩
def qperiodV_S:Prop:=∀ (gl:Glob) (xs:List (List AV)) (i k near:Int),SrcQ xs i∧0≤near∧near≤52595999→fnQ Tryd.prog { glob:=gl,spec:=lk [],specH:=lk [],specQ:=lk [(5,qn_s),(28,qrange_s),(67,qpick_s),(6,qplace_s)],nowf:=true } { nt:=49,drop:=drp [(1,2096640),(2,6291456),(3,16777216),(4,33554432),(5,67108864),(6,1879048192),(8,2147483648),(9,25769803776),(10,103079215104),(11,281200098803712),(12,281474976710656)],fr:=1000,kp:=[0],emp:=fun id=>cond (Nat.beq id 7) [(1100706,1501,60,2)] [] } (invs [(8,prvI xs k)]) 6 Tryd.f30 [.ptr 0 0,.int .i64 k,.int .i64 near] [.cells [.sl 1 false xs,.int .i64 i]] (fun r2 bs2=>∃ (fr:Int) (cl:Bool) (f a b c:Int) (bs:List (List AV)) (j:Int),(PrvQ k fr cl f a b c bs j)∧le r2 (.agg [.int .i64 fr,.bool cl,.int .i64 f,.int .i64 a,.int .i64 b,.int .i64 c,.sl 2 false bs])∧leBs bs2 [.cells [.sl 1 false xs,.int .i64 j]])
theorem qperiodV_e:qperiodV_T=qperiodV_S:=by kernel_rfl
theorem qperiodV_v:qperiodV_S:=Eq.mp (qperiodV_e ..) (qperiodV_P)
theorem qperiodV_ok (gl:Glob):QOK Tryd.prog gl 30 qperiodV_s:=by
 refine ⟨fok Tryd.func30 (by kernel_rfl) (by kernel_rfl),?_⟩
 intro xs bs T h K hT
 unfold qperiodV_s at h
 split at h
 ·simp only [Option.some.injEq] at h
  subst h
  obtain ⟨hp,hK⟩:=hT
  obtain ⟨r,bs2,⟨o0,o1,o2,o3,o4,o5,o6,o7,hq,hl,hb⟩,hC⟩:=fnQ_sound tyNil (by exact specOK rfl rfl trivial trivial (d:=qsOf rfl ⟨(qn_ok gl),(qrange_ok gl),(qpick_ok gl),(qplace_ok gl),trivial⟩)) (by kernel_rfl) Tryd.func30 (qperiodV_v gl _ _ _ _ hp)
  exact ⟨_,_,hK o0 o1 o2 o3 o4 o5 o6 o7 hq,hC.le hl hb⟩
 ·cases h
structure RegV (l:LLR):Prop where
 fp:StsP l
 f0:rgV l=0
 fn:∀ r ∈ l,sNm r ∈ nam6
structure RegvQ (l:LLR) (j:Int):Prop where
 fr:RegV l
 fj:0≤j
structure RegvI (x:Int × Int × LLR):Prop where
 fn:x.1≤12
 fj:0≤x.2.1
 fr:RegV x.2.2
def rgv3 (xs:List (List AV)) (near:Int):LInv:=⟨Int × Int × LLR,fun x=>⟨[(0,.ptr 0 0),(1,.int .i64 near),(4,.ptr 1004 0),(5,.ptr 1005 0),(6,.int .i64 x.1)],[(0,.cells [.sl 1 false xs,.int .i64 x.2.1]),(1004,.cells [.nils]),(1005,.cells [.sl 3 false x.2.2])]⟩,RegvI,fun x=>(x.1).toNat,none⟩
theorem regv_nil:RegV []:=⟨sts_nil,by kernel_rfl,fun r h=>by simp at h⟩
theorem regv_set {l:LLR} (h:RegV l) {k:Int} {nm:ByteArray} (hn:nm ∈ nam6) {fr:Int} {cl:Bool} {f a b c:Int} {bs:LLR} (hb:RdsP bs) (hbl:bs.length≤1000) (he:reE l k nm fr cl f a b c bs=0):RegV (reO l k nm fr cl f a b c bs):=by
 obtain ⟨e1,e2⟩:=re_eq h.fp k nm fr cl f a b c bs
 rw [e1] at he
 rw [e2]
 have hs:=set_valid h.fp hb hbl he
 refine ⟨hs.fp,hs.f0,fun r hr=>?_⟩
 rw [hs.fe] at hr
 rcases insQ_mem hr with z | z
 ·rw [z]; exact hn
 ·exact h.fn r z
def qregistryV_s:SpQ
 | [.ptr 0 0,.int .i64 near],[.cells [.sl 1 false xs,.int .i64 i]]=>some (fun K=>(SrcQ xs i∧0≤near∧near≤52595999)∧(∀ (l:List (List AV)) (j:Int),(RegvQ l j)→K (.agg [.sl 3 false l]) [.cells [.sl 1 false xs,.int .i64 j]]))
 | _,_=>none
def qregistryV_T (pdV:Int→Int→Bool→Int→Int→Int→Int→LLR→Bool) (nmOk:ByteArray→Bool) (rgV:LLR→Int) (reE:LLR→Int→ByteArray→Int→Bool→Int→Int→Int→Int→LLR→Int) (reO:LLR→Int→ByteArray→Int→Bool→Int→Int→Int→Int→LLR→LLR) (wiL:LLR→Int→ByteArray→LLR→LLR) (fiK:LLR→ByteArray→Int) (fiN:LLR→ByteArray→ByteArray) (fiP:LLR→ByteArray→LLR) (fiB:LLR→ByteArray→Bool):Prop :=
  ∀ (gl:Glob) (xs:List (List AV)) (i near:Int),SrcQ xs i∧0≤near∧near≤(52595999:Int)→SrcQ xs i∧∀ (v j:Int),NumQ (12:Int) v j→(∃ x,RegvI x∧((0:Nat)=0∧near=near∧(0:Nat)=0∧(0:Nat)=0∧v=x.fst∧True)∧((True∧xs=xs)∧j=x.snd.fst∧True)∧(True∧True)∧(x.snd.snd=[]∧True)∧True)∧∀ (x:Int × Int × LLR),RegvI x→bif decide (0 < x.fst) then SrcQ xs x.snd.fst∧∀ (s:ByteArray) (j:Int),NamQ s
 j→List.Mem s nam6∧SrcQ xs j∧∀ (v j:Int),NumQ (6:Int) v j→bif decide (v=(0:Int)) then (SrcQ xs j∧(1:Int)≤(3:Int)∧(-1000000000:Int)≤(1:Int)∧(3:Int)≤(1000000000:Int))∧∀ (v j:Int),(1≤v∧v≤(3:Int))∧0≤j→(SrcQ xs j∧0≤near∧near≤(52595999:Int))∧∀ (fr:Int) (cl:Bool) (f a b c:Int) (bs:List (List AV)) (j:Int),PrvQ v fr cl f a b c bs j→(StsP x.snd.snd∧RdsP bs)∧bif decide
 (reE x.snd.snd v s fr cl f a b c bs=(0:Int)) then bif decide (rng .i64 (x.fst - (1:Int))) then ∃ y,RegvI y∧(rgv3 xs near).m y < (rgv3 xs near).m x∧((0:Nat)=0∧near=near∧(0:Nat)=0∧(0:Nat)=0∧x.fst - (1:Int)=y.fst∧True)∧((True∧xs=xs)∧j=y.snd.fst∧True)∧(True∧True)∧((True∧reO x.snd.snd v s fr cl f a b c bs=y.snd.snd)∧True)∧True else False else bif decide (rng .i64 (x.fst - (1:Int))) then ∃ y,RegvI
 y∧(rgv3 xs near).m y < (rgv3 xs near).m x∧((0:Nat)=0∧near=near∧(0:Nat)=0∧(0:Nat)=0∧x.fst - (1:Int)=y.fst∧True)∧((True∧xs=xs)∧j=y.snd.fst∧True)∧(True∧True)∧((True∧x.snd.snd=y.snd.snd)∧True)∧True else False else (SrcQ xs j∧0≤near∧near≤(52595999:Int))∧∀ (fr:Int) (cl:Bool) (f a b c:Int) (bs:List (List AV)) (j:Int),PrvQ (byteI s (0:Nat) % (3:Int)+(1:Int)) fr cl f a b c bs j→(StsP
 x.snd.snd∧RdsP bs)∧bif decide (reE x.snd.snd (byteI s (0:Nat) % (3:Int)+(1:Int)) s fr cl f a b c bs=(0:Int)) then bif decide (rng .i64 (x.fst - (1:Int))) then ∃ y,RegvI y∧(rgv3 xs near).m y < (rgv3 xs near).m x∧((0:Nat)=0∧near=near∧(0:Nat)=0∧(0:Nat)=0∧x.fst - (1:Int)=y.fst∧True)∧((True∧xs=xs)∧j=y.snd.fst∧True)∧(True∧True)∧((True∧reO x.snd.snd (byteI s (0:Nat) % (3:Int)+(1:Int)) s fr cl f a b c
 bs=y.snd.snd)∧True)∧True else False else bif decide (rng .i64 (x.fst - (1:Int))) then ∃ y,RegvI y∧(rgv3 xs near).m y < (rgv3 xs near).m x∧((0:Nat)=0∧near=near∧(0:Nat)=0∧(0:Nat)=0∧x.fst - (1:Int)=y.fst∧True)∧((True∧xs=xs)∧j=y.snd.fst∧True)∧(True∧True)∧((True∧x.snd.snd=y.snd.snd)∧True)∧True else False else ∃ l j,RegvQ l j∧((True∧x.snd.snd=l)∧True)∧((True∧xs=xs)∧x.snd.fst=j∧True)∧True
theorem qregistryV_P:qregistryV_T pdV nmOk rgV reE reO wiL fiK fiN fiP fiB:=by
 unfold qregistryV_T
 intro gl xs i near ⟨hs,h1,h2⟩
 have s:=hs.s
 refine ⟨hs,fun v j q1=>⟨⟨(v,j,[]),⟨Int.le_of_lt (q1.fv (by decide)).2,q1.fj,regv_nil⟩,by (repeat' (first | exact trivial | exact rfl | assumption | apply And.intro))⟩,?_⟩⟩
 rintro ⟨n,j,l⟩ ⟨n1,j0,hl⟩
 simp only at n1 j0 hl
 dsimp only
 refine csx (fun hn=>⟨⟨s,j0⟩,fun nm j q2=>⟨q2.fs,⟨s,q2.fj⟩,fun v j q3=>csx (fun _=>⟨⟨⟨s,q3.fj⟩,by decide,by decide,by decide⟩,fun w j q4=>⟨⟨⟨s,q4.2⟩,h1,h2⟩,fun fr cl f a b c bs j q5=>⟨⟨hl.fp,q5.fr⟩,?_⟩⟩⟩) (fun _=>⟨⟨⟨s,q3.fj⟩,h1,h2⟩,fun fr cl f a b c bs j q5=>⟨⟨hl.fp,q5.fr⟩,?_⟩⟩)⟩⟩) (fun hn=>⟨l,j,⟨hl,j0⟩,by (repeat' (first | exact trivial | exact rfl | assumption | apply And.intro))⟩)
 all_goals exact csx (fun he=>cdI (by omega) ⟨(n - 1,_,reO l _ nm fr cl f a b c bs),⟨by simp only; omega,q5.fj,regv_set hl q2.fs q5.fr (Nat.le_trans q5.fl (by decide)) he⟩,by simp only [rgv3]; omega,by (repeat' (first | exact trivial | exact rfl | assumption | apply And.intro))⟩) (fun _=>cdI (by omega) ⟨(n - 1,_,l),⟨by simp only; omega,q5.fj,hl⟩,by simp only [rgv3]; omega,by (repeat' (first | exact trivial | exact rfl | assumption | apply And.intro))⟩)
def qregistryV_S (pdV:Int→Int→Bool→Int→Int→Int→Int→LLR→Bool) (nmOk:ByteArray→Bool) (rgV:LLR→Int) (reE:LLR→Int→ByteArray→Int→Bool→Int→Int→Int→Int→LLR→Int) (reO:LLR→Int→ByteArray→Int→Bool→Int→Int→Int→Int→LLR→LLR) (wiL:LLR→Int→ByteArray→LLR→LLR) (fiK:LLR→ByteArray→Int) (fiN:LLR→ByteArray→ByteArray) (fiP:LLR→ByteArray→LLR) (fiB:LLR→ByteArray→Bool):Prop:=∀ (gl:Glob) (xs:List (List AV)) (i near:Int),SrcQ xs i∧0≤near∧near≤52595999→fnQ Tryd.prog { glob:=gl,spec:=lk [(27,qkinds_s),(29,(rsetF_s pdV nmOk rgV reE reO wiL fiK fiN fiP fiB))],specH:=lk [],specQ:=lk [(5,qn_s),(28,qrange_s),(26,qname_s),(30,qperiodV_s)],nowf:=true } { nt:=41,drop:=drp [(2,6144),(3,8192),(4,98304),(5,393216),(6,1572864),(7,6291456),(8,50331648),(9,137371844608),(10,137438953472),(11,549755813888),(12,1099511627776)],fr:=1000,kp:=[0] } (invs [(3,rgv3 xs near)]) 6 Tryd.f8 [.ptr 0 0,.int .i64 near] [.cells [.sl 1 false xs,.int .i64 i]] (fun r2 bs2=>∃ (l:List (List AV)) (j:Int),(RegvQ l j)∧le r2 (.agg [.sl 3 false l])∧leBs bs2 [.cells [.sl 1 false xs,.int .i64 j]])
theorem qregistryV_e (pdV:Int→Int→Bool→Int→Int→Int→Int→LLR→Bool) (nmOk:ByteArray→Bool) (rgV:LLR→Int) (reE:LLR→Int→ByteArray→Int→Bool→Int→Int→Int→Int→LLR→Int) (reO:LLR→Int→ByteArray→Int→Bool→Int→Int→Int→Int→LLR→LLR) (wiL:LLR→Int→ByteArray→LLR→LLR) (fiK:LLR→ByteArray→Int) (fiN:LLR→ByteArray→ByteArray) (fiP:LLR→ByteArray→LLR) (fiB:LLR→ByteArray→Bool):qregistryV_T pdV nmOk rgV reE reO wiL fiK fiN fiP fiB=qregistryV_S pdV nmOk rgV reE reO wiL fiK fiN fiP fiB:=by kernel_rfl
theorem qregistryV_v:qregistryV_S pdV nmOk rgV reE reO wiL fiK fiN fiP fiB:=Eq.mp (qregistryV_e ..) (qregistryV_P)
theorem qregistryV_ok (gl:Glob):QOK Tryd.prog gl 8 qregistryV_s:=by
 refine ⟨fok Tryd.func8 (by kernel_rfl) (by kernel_rfl),?_⟩
 intro xs bs T h K hT
 unfold qregistryV_s at h
 split at h
 ·simp only [Option.some.injEq] at h
  subst h
  obtain ⟨hp,hK⟩:=hT
  obtain ⟨r,bs2,⟨o0,o1,hq,hl,hb⟩,hC⟩:=fnQ_sound tyNil (by exact specOK rfl rfl ⟨(qkinds_ok gl),(rsetF_ok gl),trivial⟩ trivial (d:=qsOf rfl ⟨(qn_ok gl),(qrange_ok gl),(qname_ok gl),(qperiodV_ok gl),trivial⟩)) (by kernel_rfl) Tryd.func8 (qregistryV_v gl _ _ _ hp)
  exact ⟨_,_,hK o0 o1 hq,hC.le hl hb⟩
 ·cases h
end Go.Proofs.YtldiagnbagpliaaDoor
namespace Go.Proofs.YtldiagnbagpliaaDoor
open Go
set_option linter.unusedVariables false
set_option linter.unusedSimpArgs false
def eqRd (xs ys:LLR):Bool:=decide (xs.length=ys.length∧∀ i,i < xs.length→rE (xs.getD i [])=rE (ys.getD i [])∧rV (xs.getD i [])=rV (ys.getD i []))
theorem eqRd_rfl (xs:LLR):eqRd xs xs=true:=decide_eq_true ⟨rfl,fun i _=>⟨rfl,rfl⟩⟩
structure EqI (xs ys:LLR) (p:List AV→List AV→Prop) (i:Int):Prop where
 flo:0≤i
 fhi:i≤xs.length
 fl:xs.length=ys.length
 fe:∀ j:Nat,(j:Int) < i→p (xs.getD j []) (ys.getD j [])
theorem EqI.next {xs ys:LLR} {p:List AV→List AV→Prop} {i:Int} (h:EqI xs ys p i) (hi:i < xs.length) (hp:p (xs.getD i.toNat []) (ys.getD i.toNat [])):EqI xs ys p (i+1):=by
 obtain ⟨a,b,c,d⟩:=h
 refine ⟨by omega,by omega,c,fun j hj=>?_⟩
 rcases Nat.lt_or_ge j i.toNat with k | k
 ·exact d j (by omega)
 ·rw [show j=i.toNat by omega]; exact hp
def eqPr (a b:List AV):Prop:=rE a=rE b∧rV a=rV b
def eq3 (xs ys:LLR) (f g:Bool):LInv:=⟨Int,fun i=>⟨[(0,.sl 2 f xs),(1,.sl 2 g ys),(5,.int .i64 i)],[]⟩,EqI xs ys eqPr,fun i=>(xs.length - i).toNat,none⟩
def rsmRd_s (eqRd:LLR→LLR→Bool):Sp
 | [.sl 2 f xs,.sl 2 g ys]=>some (RdsP xs∧RdsP ys,.bool (eqRd xs ys))
 | _=>none
def rsmRd_T (eqRd:LLR→LLR→Bool):Prop :=
  ∀ (gl:Glob) (f g:Bool) (xs ys:List (List AV)),RdsP xs∧RdsP ys→True→True→bif decide ¬(↑xs.length:Int)=(↑ys.length:Int) then false=eqRd xs ys else (∃ x,EqI xs ys eqPr x∧(((bif f then f=true else True)∧xs=xs)∧((bif g then g=true else True)∧ys=ys)∧(0:Int)=x∧True)∧True)∧∀ (x:Int),EqI xs ys eqPr x→bif decide (x < (↑xs.length:Int)) then bif decide (0≤x∧x < (↑xs.length:Int)) then ∃ n
 n_1,List.take [AV.int .i64 n,.int .i64 n_1].length (xs.getD x.toNat [])=[AV.int .i64 n,.int .i64 n_1]∧bif decide (0≤x∧x < (↑ys.length:Int)) then ∃ n_2 n_3,List.take [AV.int .i64 n_2,.int .i64 n_3].length (ys.getD x.toNat [])=[AV.int .i64 n_2,.int .i64 n_3]∧bif !(decide (n=n_2)&&(decide (n_1=n_3)&&true)) then false=eqRd xs ys else bif decide (rng .i64 (x+(1:Int))) then ∃ y,EqI xs ys
 eqPr y∧(eq3 xs ys f g).m y < (eq3 xs ys f g).m x∧(((bif f then f=true else True)∧xs=xs)∧((bif g then g=true else True)∧ys=ys)∧x+(1:Int)=y∧True)∧True else False else False else False else true=eqRd xs ys
theorem rsmRd_P:rsmRd_T eqRd:=by
 unfold rsmRd_T
 intro gl f g xs ys ⟨hx,hy⟩ _ _
 have bf:cond f (f=true) True:=by cases f <;> trivial
 have bg:cond g (g=true) True:=by cases g <;> trivial
 have lx:=hx.sm
 refine csx (fun hl=>(decide_eq_false fun z=>hl (by rw [z.1])).symm) (fun hl=>?_)
 have hl:xs.length=ys.length:=by have:=Decidable.not_not.1 hl; omega
 refine ⟨⟨0,⟨by decide,by omega,hl,fun j h=>by omega⟩,⟨⟨bf,rfl⟩,⟨bg,rfl⟩,rfl,trivial⟩,trivial⟩,?_⟩
 rintro i ⟨h0,h1,h2,hn⟩
 refine csx (fun hi=>?_) (fun hi=>(decide_eq_true ⟨hl,fun j hj=>hn j (by omega)⟩).symm)
 obtain ⟨e,v,he,_⟩:=hx.row i.toNat (by omega)
 obtain ⟨e2,v2,he2,_⟩:=hy.row i.toNat (by omega)
 have r1:rE (xs.getD i.toNat [])=e∧rV (xs.getD i.toNat [])=v:=by rw [he]; exact ⟨rfl,rfl⟩
 have r2:rE (ys.getD i.toNat [])=e2∧rV (ys.getD i.toNat [])=v2:=by rw [he2]; exact ⟨rfl,rfl⟩
 refine cd1 (by omega) ⟨e,v,by rw [he]; rfl,cd1 (by omega) ⟨e2,v2,by rw [he2]; rfl,csplit (fun z=>?_) (fun z=>?_)⟩⟩
 ·refine (decide_eq_false fun q=>?_).symm
  have:=q.2 i.toNat (by omega)
  rw [r1.1,r1.2,r2.1,r2.2] at this
  rw [decide_eq_true this.1,decide_eq_true this.2] at z
  cases z
 ·have hp:e=e2∧v=v2:=by simpa using z
  refine cdI (by omega) ⟨i+1,EqI.next ⟨h0,h1,h2,hn⟩ hi ⟨by rw [r1.1,r2.1]; exact hp.1,by rw [r1.2,r2.2]; exact hp.2⟩,by simp only [eq3]; omega,⟨⟨bf,rfl⟩,⟨bg,rfl⟩,rfl,trivial⟩,trivial⟩
def rsmRd_S (eqRd:LLR→LLR→Bool):Prop:=∀ (gl:Glob) (f g:Bool) (xs ys:List (List AV)),RdsP xs∧RdsP ys→fnK Tryd.prog { glob:=gl,spec:=lk [],specH:=lk [],shape:=[20,24],nowf:=true } { nt:=26,drop:=drp [(1,960),(4,14336),(5,98304),(6,33423360)],tys:=[60] } (invs [(4,eq3 xs ys f g)]) 6 Tryd.f12 [.sl 2 f xs,.sl 2 g ys] (.bool (eqRd xs ys))
theorem rsmRd_e (eqRd:LLR→LLR→Bool):rsmRd_T eqRd=rsmRd_S eqRd:=by kernel_rfl
theorem rsmRd_v:rsmRd_S eqRd:=Eq.mp (rsmRd_e ..) (rsmRd_P)
theorem rsmRd_ok (gl:Glob):SOK Tryd.prog gl 12 (rsmRd_s eqRd):=by
 refine ⟨fok Tryd.func12 (by kernel_rfl) (by kernel_rfl),?_⟩
 intro xs pre r h hp
 unfold rsmRd_s at h
 split at h
 ·simp only [Option.some.injEq,Prod.mk.injEq] at h
  obtain ⟨h1,h2⟩:=h
  subst h1 h2
  exact fnK_sound (tyOf (by kernel_rfl)) (by exact specOK rfl rfl trivial trivial) (by kernel_rfl) Tryd.func12 rfl (rsmRd_v gl _ _ _ _ hp)
 ·cases h
end Go.Proofs.YtldiagnbagpliaaDoor
namespace Go.Proofs.YtldiagnbagpliaaDoor
open Go
set_option linter.unusedVariables false
set_option linter.unusedSimpArgs false
theorem rdV_ok {rd:LLR} (h:RdV 12 rd):RdsP rd∧vdE rd=0:=by
 have hp:RdsP rd:=by
  refine ⟨fun i hi=>?_,by have:=h.flen; omega⟩
  obtain ⟨e,v,h1,h2,h3⟩:=h.frow i hi
  have b:=in_bd (c:=e) (by omega)
  exact ⟨e,v,h1,by show _∧_; omega,by show _∧_; omega⟩
 refine ⟨hp,vd_zero.2 ⟨fun r hr=>?_,?_⟩⟩
 ·obtain ⟨i,hi,rfl⟩:=mem_gD hr
  obtain ⟨e,v,h1,h2,h3⟩:=h.frow i hi
  rw [h1]
  show ck e v=0
  have ho:okC e=true:=decide_eq_true (by omega)
  unfold ck
  rw [ho,if_pos rfl,if_neg (by omega)]
 ·refine List.pairwise_iff_getElem.2 fun i j hi hj hij=>?_
  have:=h.fasc i j hij hj
  rw [gD_lt hi,gD_lt hj] at this
  exact this
theorem unb_nil {rd:LLR} (hp:RdsP rd) (h:vdE rd=0):unb rd []=rd:=by
 have fz:∀ c:Int,fdV [] c=0:=fun c=>by
  have hc:cdI' c ([]:LLR)=-1:=(idx_none fun j hj=>by simp at hj).symm
  have hb:fdB [] c=false:=by unfold fdB; rw [hc]; rfl
  unfold fdV; rw [hb]; rfl
 have e:rd.map (unR [])=rd:=by
  conv=>rhs; rw [← List.map_id rd]
  refine List.map_congr_left fun r hr=>?_
  obtain ⟨i,hi,rfl⟩:=mem_gD hr
  obtain ⟨a,b,h1,h2,h3⟩:=hp.row i hi
  rw [h1]
  show [AV.int .i64 a,AV.int .i64 (IntKind.i64.wrap (b - fdV [] a))]=[AV.int .i64 a,AV.int .i64 b]
  rw [fz,Int.sub_zero,wrap_eq h3]
 unfold unb
 rw [e]
 exact List.filter_eq_self.2 fun r hr=>decide_eq_true ((vd_zero.1 h).1 r hr)
theorem lst_two {m t:Int} {p q:List AV} (hp:rE p=m) (hq:rE q=m+500):(t < m→lst [p,q] t=none)∧(m≤t→t < m+500→lst [p,q] t=some p)∧(m+500≤t→lst [p,q] t=some q):=by
 unfold lst begT
 simp only [List.filter_cons,List.filter_nil,hp,hq]
 refine ⟨fun h=>?_,fun h1 h2=>?_,fun h=>?_⟩
 ·rw [decide_eq_false (show ¬ m≤t by omega),decide_eq_false (show ¬ m+500≤t by omega)]; rfl
 ·rw [decide_eq_true (show m≤t by omega),decide_eq_false (show ¬ m+500≤t by omega)]; rfl
 ·rw [decide_eq_true (show m≤t by omega),decide_eq_true (show m+500≤t by omega)]; rfl
def nwN:ByteArray:=⟨#[(78:UInt8),(69:UInt8),(87:UInt8),(48:UInt8),(49:UInt8)]⟩
theorem nw_no:nwN ∉ nam6:=by
 unfold nam6 nwN
 simp only [List.mem_cons,List.not_mem_nil,or_false,ByteArray.mk.injEq]
 decide
theorem nw_ok:nmOk nwN=true:=by kernel_rfl
theorem se_same {l q:LLR} {k:Int} {nm:ByteArray} {fr:Int} {p:List AV} (h:SetR l q k nm fr p):seD q nm=newP l nm fr p∧stH q nm=true∧rE (q.getD (stN q nm) [])=k:=by
 obtain ⟨_,_,g3,g4⟩:=h.same 0
 exact ⟨by unfold seD hoP; rw [g4]; rfl,g3,by rw [g4]; rfl⟩
theorem ins_two {m:Int} {p q:List AV} (hp:rE p=m):insQ (qP (m+500)) [p] q=[p,q]:=by
 have hlt:qP (m+500) p < 0:=qP_lt.2 (by omega)
 unfold insQ
 rw [fpI_lt hlt,fpB_lt hlt,fpI_nil]
 rfl
theorem ins_thr {m:Int} {p q r:List AV} (hp:rE p=m) (hq:rE q=m+500):insQ (qP (m+500)) [p,q] r=[p,r]:=by
 have hlt:qP (m+500) p < 0:=qP_lt.2 (by omega)
 have hz:qP (m+500) q=0:=qP_z.2 hq
 have hge:¬ qP (m+500) q < 0:=by omega
 unfold insQ
 rw [fpI_lt hlt,fpB_lt hlt,fpI_ge hge,fpB_ge hge,decide_eq_true hz]
 rfl
theorem ap_two {l q:LLR} {k:Int} {nm:ByteArray} {fr m t:Int} {p x y:List AV} (h:SetR l q k nm fr p) (e:newP l nm fr p=[x,y]) (hx:rE x=m) (hy:rE y=m+500) :
  (t < m→apI q nm t=false)∧(m≤t→t < m+500→apI q nm t=true∧apP q nm t=x)∧(m+500≤t→apI q nm t=true∧apP q nm t=y):=by
 obtain ⟨s1,s2,_⟩:=h.same t
 obtain ⟨n1,n2⟩:=at_lst h.fa t
 obtain ⟨a,b,c⟩:=lst_two (t:=t) hx hy
 rw [s1,s2,n1,n2,e]
 exact ⟨fun z=>by rw [a z]; rfl,fun z w=>by rw [b z w]; exact ⟨rfl,rfl⟩,fun z=>by rw [c z]; exact ⟨rfl,rfl⟩⟩
theorem ape_land {q:LLR} {nm:ByteArray} {t:Int} {rd:LLR} (h0:rgV q=0) (hs:stH q nm=true∧rE (q.getD (stN q nm) [])=1) (hv:vdE rd=0) :
  (apI q nm t=false→apE q 1 nm t 0 0 0 0 rd=6)∧(apI q nm t=true→pC (apP q nm t)=true→apE q 1 nm t 0 0 0 0 rd=7)∧(apI q nm t=true→pC (apP q nm t)=false→apE q 1 nm t 0 0 0 0 rd=0):=by
 unfold apE
 rw [h0,hv]
 have hk:exK 1=true:=by decide
 rw [hk]
 refine ⟨fun a=>?_,fun a b=>?_,fun a b=>?_⟩
 ·rw [if_neg (by decide),if_neg (by decide),if_neg (by decide),if_pos ⟨rfl,a⟩]
 ·rw [if_neg (by decide),if_neg (by decide),if_neg (by decide),if_neg (by simp [a]),if_pos (Or.inr ⟨a,b⟩)]
 ·rw [if_neg (by decide),if_neg (by decide),if_neg (by decide),if_neg (by simp [a]),if_neg (fun z=>by rcases z with ⟨_,z⟩ | ⟨_,z⟩; exact z hs.2; rw [b] at z; cases z),if_neg (by simp)]
end Go.Proofs.YtldiagnbagpliaaDoor
namespace Go.Proofs.YtldiagnbagpliaaDoor
open Go
set_option linter.unusedVariables false
set_option linter.unusedSimpArgs false
theorem sts_setO {l:LLR} (hl:StsP l) (k:Int) (nm:ByteArray) (fr:Int) (cl:Bool) (f a b c:Int):StsP (setO l k nm fr cl f a b c []):=by
 by_cases h:setE l k nm fr cl f a b c []=0
 ·exact (set_valid hl rdsP_nil (by decide) h).fp
 ·unfold setO; rw [if_neg h]; exact sts_nil
theorem bs_nil:bsOk []=true:=decide_eq_true fun i h=>by simp at h
theorem z_zero {x y:Int} (h:x=y):zI 0 x=y:=by rw [← h]; exact if_pos rfl
def lcloses_s (setE:LLR→Int→ByteArray→Int→Bool→Int→Int→Int→Int→LLR→Int) (setO:LLR→Int→ByteArray→Int→Bool→Int→Int→Int→Int→LLR→LLR) (apE:LLR→Int→ByteArray→Int→Int→Int→Int→Int→LLR→Int) (apX:Nat→LLR→Int→ByteArray→Int→Int→Int) (apP:LLR→ByteArray→Int→List AV) (zI:Int→Int→Int) (zN:Int→ByteArray→ByteArray) (zS:Int→LLR→LLR) (unb:LLR→LLR→LLR) (pB:List AV→LLR) (pI:Nat→List AV→Int) (pC:List AV→Bool):Sp
 | [.sl 1 false xs]=>some (IntsA xs,.bool true)
 | _=>none
def lcloses_T (setE:LLR→Int→ByteArray→Int→Bool→Int→Int→Int→Int→LLR→Int) (setO:LLR→Int→ByteArray→Int→Bool→Int→Int→Int→Int→LLR→LLR) (apE:LLR→Int→ByteArray→Int→Int→Int→Int→Int→LLR→Int) (apX:Nat→LLR→Int→ByteArray→Int→Int→Int) (apP:LLR→ByteArray→Int→List AV) (zI:Int→Int→Int) (zN:Int→ByteArray→ByteArray) (zS:Int→LLR→LLR) (unb:LLR→LLR→LLR) (pB:List AV→LLR) (pI:Nat→List AV→Int) (pC:List AV→Bool) (rgV:LLR→Int) (stN:LLR→ByteArray→Nat) (stH:LLR→ByteArray→Bool) (atR:LLR→Int→List AV) (atB:LLR→Int→Bool) (exK:Int→Bool) (vdE:LLR→Int) (isN:Int→Int→Int→Int→Bool) (eqRd:LLR→LLR→Bool):Prop :=
  ∀ (xs:List (List AV)),(∀ (x:List AV),List.Mem x xs→∃ n,x=[AV.int .i64 n]∧rng .i64 n)→True→True∧SrcQ (List.take (2000:Nat) xs) (0:Int)∧∀ (v j:Int),NumQ (100000:Int) v j→SrcQ (List.take (2000:Nat) xs) j∧∀ (f a b c j:Int),PlaQ f a b c j→(SrcQ (List.take (2000:Nat) xs) j∧0≤IntKind.i64.wrap ((14000000:Int)+v)∧IntKind.i64.wrap ((14000000:Int)+v)≤(52595999:Int))∧∀ (l:List (List AV))
 (j:Int),RegvQ l j→(StsP l∧RdsP []∧(0:Nat)≤(1000:Nat))∧(StsP (YtldiagnbagpliaaDoor.setO l (1:Int) { data:=#[(78:UInt8),(69:UInt8),(87:UInt8),(48:UInt8),(49:UInt8)] } (IntKind.i64.wrap ((14000000:Int)+v)) false f a b c [])∧RdsP []∧(0:Nat)≤(1000:Nat))∧bif decide (YtldiagnbagpliaaDoor.setE l (1:Int) { data:=#[(78:UInt8),(69:UInt8),(87:UInt8),(48:UInt8),(49:UInt8)] }
 (IntKind.i64.wrap ((14000000:Int)+v)) false f a b c []=(2:Int)) then True∧true=true else bif decide (YtldiagnbagpliaaDoor.setE (YtldiagnbagpliaaDoor.setO l (1:Int) { data:=#[(78:UInt8),(69:UInt8),(87:UInt8),(48:UInt8),(49:UInt8)] } (IntKind.i64.wrap ((14000000:Int)+v)) false f a b c []) (1:Int) { data:=#[(78:UInt8),(69:UInt8),(87:UInt8),(48:UInt8),(49:UInt8)] }
 (IntKind.i64.wrap (IntKind.i64.wrap ((14000000:Int)+v)+(500:Int))) true (0:Int) (0:Int) (0:Int) (0:Int) []=(2:Int)) then True∧true=true else SrcQ (List.take (2000:Nat) xs) j∧∀ (v_1 j:Int),NumQ (500:Int) v_1 j→SrcQ (List.take (2000:Nat) xs) j∧∀ (ys:List (List AV)) (j:Int),RdQ ys j→SrcQ (List.take (2000:Nat) xs) j∧∀ (v_2 j:Int),NumQ (1000:Int) v_2 j→SrcQ (List.take (2000:Nat) xs) j∧∀ (v_3
 j:Int),NumQ (1000:Int) v_3 j→(StsP (YtldiagnbagpliaaDoor.setO (YtldiagnbagpliaaDoor.setO l (1:Int) { data:=#[(78:UInt8),(69:UInt8),(87:UInt8),(48:UInt8),(49:UInt8)] } (IntKind.i64.wrap ((14000000:Int)+v)) false f a b c []) (1:Int) { data:=#[(78:UInt8),(69:UInt8),(87:UInt8),(48:UInt8),(49:UInt8)] } (IntKind.i64.wrap (IntKind.i64.wrap ((14000000:Int)+v)+(500:Int))) true
 (0:Int) (0:Int) (0:Int) (0:Int) [])∧RdsP ys∧ys.length≤(1000:Nat))∧(StsP (YtldiagnbagpliaaDoor.setO (YtldiagnbagpliaaDoor.setO l (1:Int) { data:=#[(78:UInt8),(69:UInt8),(87:UInt8),(48:UInt8),(49:UInt8)] } (IntKind.i64.wrap ((14000000:Int)+v)) false f a b c []) (1:Int) { data:=#[(78:UInt8),(69:UInt8),(87:UInt8),(48:UInt8),(49:UInt8)] } (IntKind.i64.wrap (IntKind.i64.wrap
 ((14000000:Int)+v)+(500:Int))) true (0:Int) (0:Int) (0:Int) (0:Int) [])∧RdsP ys∧ys.length≤(1000:Nat))∧(StsP (YtldiagnbagpliaaDoor.setO (YtldiagnbagpliaaDoor.setO l (1:Int) { data:=#[(78:UInt8),(69:UInt8),(87:UInt8),(48:UInt8),(49:UInt8)] } (IntKind.i64.wrap ((14000000:Int)+v)) false f a b c []) (1:Int) { data:=#[(78:UInt8),(69:UInt8),(87:UInt8),(48:UInt8),(49:UInt8)]
 } (IntKind.i64.wrap (IntKind.i64.wrap ((14000000:Int)+v)+(500:Int))) true (0:Int) (0:Int) (0:Int) (0:Int) [])∧RdsP ys∧ys.length≤(1000:Nat))∧(StsP (YtldiagnbagpliaaDoor.setO (YtldiagnbagpliaaDoor.setO l (1:Int) { data:=#[(78:UInt8),(69:UInt8),(87:UInt8),(48:UInt8),(49:UInt8)] } (IntKind.i64.wrap ((14000000:Int)+v)) false f a b c []) (1:Int) { data:=#[(78:UInt8),(69 :
 UInt8),(87:UInt8),(48:UInt8),(49:UInt8)] } (IntKind.i64.wrap (IntKind.i64.wrap ((14000000:Int)+v)+(500:Int))) true (0:Int) (0:Int) (0:Int) (0:Int) [])∧RdsP []∧(0:Nat)≤(1000:Nat))∧(StsP (YtldiagnbagpliaaDoor.setO (YtldiagnbagpliaaDoor.setO (YtldiagnbagpliaaDoor.setO l (1:Int) { data:=#[(78:UInt8),(69:UInt8),(87:UInt8),(48:UInt8),(49:UInt8)] } (IntKind.i64.wrap ((14000000:Int)
+v)) false f a b c []) (1:Int) { data:=#[(78:UInt8),(69:UInt8),(87:UInt8),(48:UInt8),(49:UInt8)] } (IntKind.i64.wrap (IntKind.i64.wrap ((14000000:Int)+v)+(500:Int))) true (0:Int) (0:Int) (0:Int) (0:Int) []) (1:Int) { data:=#[(78:UInt8),(69:UInt8),(87:UInt8),(48:UInt8),(49:UInt8)] } (IntKind.i64.wrap (IntKind.i64.wrap ((14000000:Int)+v)+(500:Int))) false f a b c
 [])∧RdsP ys∧ys.length≤(1000:Nat))∧bif decide (YtldiagnbagpliaaDoor.setE l (1:Int) { data:=#[(78:UInt8),(69:UInt8),(87:UInt8),(48:UInt8),(49:UInt8)] } (IntKind.i64.wrap ((14000000:Int)+v)) false f a b c []=(0:Int)) then bif decide (YtldiagnbagpliaaDoor.setE (YtldiagnbagpliaaDoor.setO l (1:Int) { data:=#[(78:UInt8),(69:UInt8),(87:UInt8),(48:UInt8),(49:UInt8)] }
 (IntKind.i64.wrap ((14000000:Int)+v)) false f a b c []) (1:Int) { data:=#[(78:UInt8),(69:UInt8),(87:UInt8),(48:UInt8),(49:UInt8)] } (IntKind.i64.wrap (IntKind.i64.wrap ((14000000:Int)+v)+(500:Int))) true (0:Int) (0:Int) (0:Int) (0:Int) []=(0:Int)) then bif decide (apE (YtldiagnbagpliaaDoor.setO (YtldiagnbagpliaaDoor.setO l (1:Int) { data:=#[(78:UInt8),(69:UInt8),(87 :
 UInt8),(48:UInt8),(49:UInt8)] } (IntKind.i64.wrap ((14000000:Int)+v)) false f a b c []) (1:Int) { data:=#[(78:UInt8),(69:UInt8),(87:UInt8),(48:UInt8),(49:UInt8)] } (IntKind.i64.wrap (IntKind.i64.wrap ((14000000:Int)+v)+(500:Int))) true (0:Int) (0:Int) (0:Int) (0:Int) []) (1:Int) { data:=#[(78:UInt8),(69:UInt8),(87:UInt8),(48:UInt8),(49:UInt8)] } (IntKind.i64.wrap
 (IntKind.i64.wrap ((14000000:Int)+v)+v_1)) (0:Int) (0:Int) (0:Int) (0:Int) ys=(0:Int)) then bif decide (zI (apE (YtldiagnbagpliaaDoor.setO (YtldiagnbagpliaaDoor.setO l (1:Int) { data:=#[(78:UInt8),(69:UInt8),(87:UInt8),(48:UInt8),(49:UInt8)] } (IntKind.i64.wrap ((14000000:Int)+v)) false f a b c []) (1:Int) { data:=#[(78:UInt8),(69:UInt8),(87:UInt8),(48:UInt8),(49 :
 UInt8)] } (IntKind.i64.wrap (IntKind.i64.wrap ((14000000:Int)+v)+(500:Int))) true (0:Int) (0:Int) (0:Int) (0:Int) []) (1:Int) { data:=#[(78:UInt8),(69:UInt8),(87:UInt8),(48:UInt8),(49:UInt8)] } (IntKind.i64.wrap (IntKind.i64.wrap ((14000000:Int)+v)+v_1)) (0:Int) (0:Int) (0:Int) (0:Int) ys) (apX (2:Nat) (YtldiagnbagpliaaDoor.setO (YtldiagnbagpliaaDoor.setO l (1:Int) { data :=
 #[(78:UInt8),(69:UInt8),(87:UInt8),(48:UInt8),(49:UInt8)] } (IntKind.i64.wrap ((14000000:Int)+v)) false f a b c []) (1:Int) { data:=#[(78:UInt8),(69:UInt8),(87:UInt8),(48:UInt8),(49:UInt8)] } (IntKind.i64.wrap (IntKind.i64.wrap ((14000000:Int)+v)+(500:Int))) true (0:Int) (0:Int) (0:Int) (0:Int) []) (1:Int) { data:=#[(78:UInt8),(69:UInt8),(87:UInt8),(48 :
 UInt8),(49:UInt8)] } (IntKind.i64.wrap (IntKind.i64.wrap ((14000000:Int)+v)+v_1)) (0:Int))=f)&&(decide (zI (apE (YtldiagnbagpliaaDoor.setO (YtldiagnbagpliaaDoor.setO l (1:Int) { data:=#[(78:UInt8),(69:UInt8),(87:UInt8),(48:UInt8),(49:UInt8)] } (IntKind.i64.wrap ((14000000:Int)+v)) false f a b c []) (1:Int) { data:=#[(78:UInt8),(69:UInt8),(87:UInt8),(48:UInt8),(49 :
 UInt8)] } (IntKind.i64.wrap (IntKind.i64.wrap ((14000000:Int)+v)+(500:Int))) true (0:Int) (0:Int) (0:Int) (0:Int) []) (1:Int) { data:=#[(78:UInt8),(69:UInt8),(87:UInt8),(48:UInt8),(49:UInt8)] } (IntKind.i64.wrap (IntKind.i64.wrap ((14000000:Int)+v)+v_1)) (0:Int) (0:Int) (0:Int) (0:Int) ys) (apX (3:Nat) (YtldiagnbagpliaaDoor.setO (YtldiagnbagpliaaDoor.setO l (1:Int) { data :=
 #[(78:UInt8),(69:UInt8),(87:UInt8),(48:UInt8),(49:UInt8)] } (IntKind.i64.wrap ((14000000:Int)+v)) false f a b c []) (1:Int) { data:=#[(78:UInt8),(69:UInt8),(87:UInt8),(48:UInt8),(49:UInt8)] } (IntKind.i64.wrap (IntKind.i64.wrap ((14000000:Int)+v)+(500:Int))) true (0:Int) (0:Int) (0:Int) (0:Int) []) (1:Int) { data:=#[(78:UInt8),(69:UInt8),(87:UInt8),(48 :
 UInt8),(49:UInt8)] } (IntKind.i64.wrap (IntKind.i64.wrap ((14000000:Int)+v)+v_1)) (0:Int))=a)&&(decide (zI (apE (YtldiagnbagpliaaDoor.setO (YtldiagnbagpliaaDoor.setO l (1:Int) { data:=#[(78:UInt8),(69:UInt8),(87:UInt8),(48:UInt8),(49:UInt8)] } (IntKind.i64.wrap ((14000000:Int)+v)) false f a b c []) (1:Int) { data:=#[(78:UInt8),(69:UInt8),(87:UInt8),(48:UInt8),(49 :
 UInt8)] } (IntKind.i64.wrap (IntKind.i64.wrap ((14000000:Int)+v)+(500:Int))) true (0:Int) (0:Int) (0:Int) (0:Int) []) (1:Int) { data:=#[(78:UInt8),(69:UInt8),(87:UInt8),(48:UInt8),(49:UInt8)] } (IntKind.i64.wrap (IntKind.i64.wrap ((14000000:Int)+v)+v_1)) (0:Int) (0:Int) (0:Int) (0:Int) ys) (apX (4:Nat) (YtldiagnbagpliaaDoor.setO (YtldiagnbagpliaaDoor.setO l (1:Int) { data :=
 #[(78:UInt8),(69:UInt8),(87:UInt8),(48:UInt8),(49:UInt8)] } (IntKind.i64.wrap ((14000000:Int)+v)) false f a b c []) (1:Int) { data:=#[(78:UInt8),(69:UInt8),(87:UInt8),(48:UInt8),(49:UInt8)] } (IntKind.i64.wrap (IntKind.i64.wrap ((14000000:Int)+v)+(500:Int))) true (0:Int) (0:Int) (0:Int) (0:Int) []) (1:Int) { data:=#[(78:UInt8),(69:UInt8),(87:UInt8),(48 :
 UInt8),(49:UInt8)] } (IntKind.i64.wrap (IntKind.i64.wrap ((14000000:Int)+v)+v_1)) (0:Int))=b)&&(decide (zI (apE (YtldiagnbagpliaaDoor.setO (YtldiagnbagpliaaDoor.setO l (1:Int) { data:=#[(78:UInt8),(69:UInt8),(87:UInt8),(48:UInt8),(49:UInt8)] } (IntKind.i64.wrap ((14000000:Int)+v)) false f a b c []) (1:Int) { data:=#[(78:UInt8),(69:UInt8),(87:UInt8),(48:UInt8),(49 :
 UInt8)] } (IntKind.i64.wrap (IntKind.i64.wrap ((14000000:Int)+v)+(500:Int))) true (0:Int) (0:Int) (0:Int) (0:Int) []) (1:Int) { data:=#[(78:UInt8),(69:UInt8),(87:UInt8),(48:UInt8),(49:UInt8)] } (IntKind.i64.wrap (IntKind.i64.wrap ((14000000:Int)+v)+v_1)) (0:Int) (0:Int) (0:Int) (0:Int) ys) (apX (5:Nat) (YtldiagnbagpliaaDoor.setO (YtldiagnbagpliaaDoor.setO l (1:Int) { data :=
 #[(78:UInt8),(69:UInt8),(87:UInt8),(48:UInt8),(49:UInt8)] } (IntKind.i64.wrap ((14000000:Int)+v)) false f a b c []) (1:Int) { data:=#[(78:UInt8),(69:UInt8),(87:UInt8),(48:UInt8),(49:UInt8)] } (IntKind.i64.wrap (IntKind.i64.wrap ((14000000:Int)+v)+(500:Int))) true (0:Int) (0:Int) (0:Int) (0:Int) []) (1:Int) { data:=#[(78:UInt8),(69:UInt8),(87:UInt8),(48 :
 UInt8),(49:UInt8)] } (IntKind.i64.wrap (IntKind.i64.wrap ((14000000:Int)+v)+v_1)) (0:Int))=c)&&true))) then (RdsP (zS (apE (YtldiagnbagpliaaDoor.setO (YtldiagnbagpliaaDoor.setO l (1:Int) { data:=#[(78:UInt8),(69:UInt8),(87:UInt8),(48:UInt8),(49:UInt8)] } (IntKind.i64.wrap ((14000000:Int)+v)) false f a b c []) (1:Int) { data:=#[(78:UInt8),(69:UInt8),(87:UInt8),(48 :
 UInt8),(49:UInt8)] } (IntKind.i64.wrap (IntKind.i64.wrap ((14000000:Int)+v)+(500:Int))) true (0:Int) (0:Int) (0:Int) (0:Int) []) (1:Int) { data:=#[(78:UInt8),(69:UInt8),(87:UInt8),(48:UInt8),(49:UInt8)] } (IntKind.i64.wrap (IntKind.i64.wrap ((14000000:Int)+v)+v_1)) (0:Int) (0:Int) (0:Int) (0:Int) ys) (unb ys (pB (apP (YtldiagnbagpliaaDoor.setO (YtldiagnbagpliaaDoor.setO l
 (1:Int) { data:=#[(78:UInt8),(69:UInt8),(87:UInt8),(48:UInt8),(49:UInt8)] } (IntKind.i64.wrap ((14000000:Int)+v)) false f a b c []) (1:Int) { data:=#[(78:UInt8),(69:UInt8),(87:UInt8),(48:UInt8),(49:UInt8)] } (IntKind.i64.wrap (IntKind.i64.wrap ((14000000:Int)+v)+(500:Int))) true (0:Int) (0:Int) (0:Int) (0:Int) []) { data:=#[(78:UInt8),(69:UInt8),(87:UInt8),(48
:UInt8),(49:UInt8)] } (IntKind.i64.wrap (IntKind.i64.wrap ((14000000:Int)+v)+v_1))))))∧RdsP ys)∧bif eqRd (zS (apE (YtldiagnbagpliaaDoor.setO (YtldiagnbagpliaaDoor.setO l (1:Int) { data:=#[(78:UInt8),(69:UInt8),(87:UInt8),(48:UInt8),(49:UInt8)] } (IntKind.i64.wrap ((14000000:Int)+v)) false f a b c []) (1:Int) { data:=#[(78:UInt8),(69:UInt8),(87:UInt8),(48:UInt8),(49 :
 UInt8)] } (IntKind.i64.wrap (IntKind.i64.wrap ((14000000:Int)+v)+(500:Int))) true (0:Int) (0:Int) (0:Int) (0:Int) []) (1:Int) { data:=#[(78:UInt8),(69:UInt8),(87:UInt8),(48:UInt8),(49:UInt8)] } (IntKind.i64.wrap (IntKind.i64.wrap ((14000000:Int)+v)+v_1)) (0:Int) (0:Int) (0:Int) (0:Int) ys) (unb ys (pB (apP (YtldiagnbagpliaaDoor.setO (YtldiagnbagpliaaDoor.setO l (1:Int) { data :=
 #[(78:UInt8),(69:UInt8),(87:UInt8),(48:UInt8),(49:UInt8)] } (IntKind.i64.wrap ((14000000:Int)+v)) false f a b c []) (1:Int) { data:=#[(78:UInt8),(69:UInt8),(87:UInt8),(48:UInt8),(49:UInt8)] } (IntKind.i64.wrap (IntKind.i64.wrap ((14000000:Int)+v)+(500:Int))) true (0:Int) (0:Int) (0:Int) (0:Int) []) { data:=#[(78:UInt8),(69:UInt8),(87:UInt8),(48:UInt8),(49 :
 UInt8)] } (IntKind.i64.wrap (IntKind.i64.wrap ((14000000:Int)+v)+v_1)))))) ys then bif decide (apE (YtldiagnbagpliaaDoor.setO (YtldiagnbagpliaaDoor.setO l (1:Int) { data:=#[(78:UInt8),(69:UInt8),(87:UInt8),(48:UInt8),(49:UInt8)] } (IntKind.i64.wrap ((14000000:Int)+v)) false f a b c []) (1:Int) { data:=#[(78:UInt8),(69:UInt8),(87:UInt8),(48:UInt8),(49:UInt8)] }
 (IntKind.i64.wrap (IntKind.i64.wrap ((14000000:Int)+v)+(500:Int))) true (0:Int) (0:Int) (0:Int) (0:Int) []) (1:Int) { data:=#[(78:UInt8),(69:UInt8),(87:UInt8),(48:UInt8),(49:UInt8)] } (IntKind.i64.wrap (IntKind.i64.wrap (IntKind.i64.wrap ((14000000:Int)+v)+(500:Int))+v_2)) (0:Int) (0:Int) (0:Int) (0:Int) ys=(7:Int)) then bif decide (apE (YtldiagnbagpliaaDoor.setO
 (YtldiagnbagpliaaDoor.setO l (1:Int) { data:=#[(78:UInt8),(69:UInt8),(87:UInt8),(48:UInt8),(49:UInt8)] } (IntKind.i64.wrap ((14000000:Int)+v)) false f a b c []) (1:Int) { data:=#[(78:UInt8),(69:UInt8),(87:UInt8),(48:UInt8),(49:UInt8)] } (IntKind.i64.wrap (IntKind.i64.wrap ((14000000:Int)+v)+(500:Int))) true (0:Int) (0:Int) (0:Int) (0:Int) []) (1:Int) { data:=#[(78 :
 UInt8),(69:UInt8),(87:UInt8),(48:UInt8),(49:UInt8)] } (IntKind.i64.wrap (IntKind.i64.wrap (IntKind.i64.wrap ((14000000:Int)+v) - (1:Int)) - v_3)) (0:Int) (0:Int) (0:Int) (0:Int) ys=(6:Int)) then bif decide (YtldiagnbagpliaaDoor.setE (YtldiagnbagpliaaDoor.setO (YtldiagnbagpliaaDoor.setO l (1:Int) { data:=#[(78:UInt8),(69:UInt8),(87:UInt8),(48:UInt8),(49:UInt8)] }
 (IntKind.i64.wrap ((14000000:Int)+v)) false f a b c []) (1:Int) { data:=#[(78:UInt8),(69:UInt8),(87:UInt8),(48:UInt8),(49:UInt8)] } (IntKind.i64.wrap (IntKind.i64.wrap ((14000000:Int)+v)+(500:Int))) true (0:Int) (0:Int) (0:Int) (0:Int) []) (1:Int) { data:=#[(78:UInt8),(69:UInt8),(87:UInt8),(48:UInt8),(49:UInt8)] } (IntKind.i64.wrap (IntKind.i64.wrap ((14000000:Int) +
 v)+(500:Int))) false f a b c []=(0:Int)) then bif decide (apE (YtldiagnbagpliaaDoor.setO (YtldiagnbagpliaaDoor.setO (YtldiagnbagpliaaDoor.setO l (1:Int) { data:=#[(78:UInt8),(69:UInt8),(87:UInt8),(48:UInt8),(49:UInt8)] } (IntKind.i64.wrap ((14000000:Int)+v)) false f a b c []) (1:Int) { data:=#[(78:UInt8),(69:UInt8),(87:UInt8),(48:UInt8),(49:UInt8)] } (IntKind.i64.wrap
 (IntKind.i64.wrap ((14000000:Int)+v)+(500:Int))) true (0:Int) (0:Int) (0:Int) (0:Int) []) (1:Int) { data:=#[(78:UInt8),(69:UInt8),(87:UInt8),(48:UInt8),(49:UInt8)] } (IntKind.i64.wrap (IntKind.i64.wrap ((14000000:Int)+v)+(500:Int))) false f a b c []) (1:Int) { data:=#[(78:UInt8),(69:UInt8),(87:UInt8),(48:UInt8),(49:UInt8)] } (IntKind.i64.wrap (IntKind.i64.wrap
 (IntKind.i64.wrap ((14000000:Int)+v)+(500:Int))+v_2)) (0:Int) (0:Int) (0:Int) (0:Int) ys=(0:Int)) then bif decide (zI (apE (YtldiagnbagpliaaDoor.setO (YtldiagnbagpliaaDoor.setO (YtldiagnbagpliaaDoor.setO l (1:Int) { data:=#[(78:UInt8),(69:UInt8),(87:UInt8),(48:UInt8),(49:UInt8)] } (IntKind.i64.wrap ((14000000:Int)+v)) false f a b c []) (1:Int) { data:=#[(78:UInt8),(69 :
 UInt8),(87:UInt8),(48:UInt8),(49:UInt8)] } (IntKind.i64.wrap (IntKind.i64.wrap ((14000000:Int)+v)+(500:Int))) true (0:Int) (0:Int) (0:Int) (0:Int) []) (1:Int) { data:=#[(78:UInt8),(69:UInt8),(87:UInt8),(48:UInt8),(49:UInt8)] } (IntKind.i64.wrap (IntKind.i64.wrap ((14000000:Int)+v)+(500:Int))) false f a b c []) (1:Int) { data:=#[(78:UInt8),(69:UInt8),(87:UInt8),(48
:UInt8),(49:UInt8)] } (IntKind.i64.wrap (IntKind.i64.wrap (IntKind.i64.wrap ((14000000:Int)+v)+(500:Int))+v_2)) (0:Int) (0:Int) (0:Int) (0:Int) ys) (apX (2:Nat) (YtldiagnbagpliaaDoor.setO (YtldiagnbagpliaaDoor.setO (YtldiagnbagpliaaDoor.setO l (1:Int) { data:=#[(78:UInt8),(69:UInt8),(87:UInt8),(48:UInt8),(49:UInt8)] } (IntKind.i64.wrap ((14000000:Int)+v)) false f a b c [])
 (1:Int) { data:=#[(78:UInt8),(69:UInt8),(87:UInt8),(48:UInt8),(49:UInt8)] } (IntKind.i64.wrap (IntKind.i64.wrap ((14000000:Int)+v)+(500:Int))) true (0:Int) (0:Int) (0:Int) (0:Int) []) (1:Int) { data:=#[(78:UInt8),(69:UInt8),(87:UInt8),(48:UInt8),(49:UInt8)] } (IntKind.i64.wrap (IntKind.i64.wrap ((14000000:Int)+v)+(500:Int))) false f a b c []) (1:Int) { data:=#[(78
:UInt8),(69:UInt8),(87:UInt8),(48:UInt8),(49:UInt8)] } (IntKind.i64.wrap (IntKind.i64.wrap (IntKind.i64.wrap ((14000000:Int)+v)+(500:Int))+v_2)) (0:Int))=f)&&(decide (zI (apE (YtldiagnbagpliaaDoor.setO (YtldiagnbagpliaaDoor.setO (YtldiagnbagpliaaDoor.setO l (1:Int) { data:=#[(78:UInt8),(69:UInt8),(87:UInt8),(48:UInt8),(49:UInt8)] } (IntKind.i64.wrap ((14000000:Int) +
 v)) false f a b c []) (1:Int) { data:=#[(78:UInt8),(69:UInt8),(87:UInt8),(48:UInt8),(49:UInt8)] } (IntKind.i64.wrap (IntKind.i64.wrap ((14000000:Int)+v)+(500:Int))) true (0:Int) (0:Int) (0:Int) (0:Int) []) (1:Int) { data:=#[(78:UInt8),(69:UInt8),(87:UInt8),(48:UInt8),(49:UInt8)] } (IntKind.i64.wrap (IntKind.i64.wrap ((14000000:Int)+v)+(500:Int))) false f a b c [])
 (1:Int) { data:=#[(78:UInt8),(69:UInt8),(87:UInt8),(48:UInt8),(49:UInt8)] } (IntKind.i64.wrap (IntKind.i64.wrap (IntKind.i64.wrap ((14000000:Int)+v)+(500:Int))+v_2)) (0:Int) (0:Int) (0:Int) (0:Int) ys) (apX (3:Nat) (YtldiagnbagpliaaDoor.setO (YtldiagnbagpliaaDoor.setO (YtldiagnbagpliaaDoor.setO l (1:Int) { data:=#[(78:UInt8),(69:UInt8),(87:UInt8),(48:UInt8),(49:UInt8)]
 } (IntKind.i64.wrap ((14000000:Int)+v)) false f a b c []) (1:Int) { data:=#[(78:UInt8),(69:UInt8),(87:UInt8),(48:UInt8),(49:UInt8)] } (IntKind.i64.wrap (IntKind.i64.wrap ((14000000:Int)+v)+(500:Int))) true (0:Int) (0:Int) (0:Int) (0:Int) []) (1:Int) { data:=#[(78:UInt8),(69:UInt8),(87:UInt8),(48:UInt8),(49:UInt8)] } (IntKind.i64.wrap (IntKind.i64.wrap ((14000000:Int) +
 v)+(500:Int))) false f a b c []) (1:Int) { data:=#[(78:UInt8),(69:UInt8),(87:UInt8),(48:UInt8),(49:UInt8)] } (IntKind.i64.wrap (IntKind.i64.wrap (IntKind.i64.wrap ((14000000:Int)+v)+(500:Int))+v_2)) (0:Int))=a)&&(decide (zI (apE (YtldiagnbagpliaaDoor.setO (YtldiagnbagpliaaDoor.setO (YtldiagnbagpliaaDoor.setO l (1:Int) { data:=#[(78:UInt8),(69:UInt8),(87:UInt8),(48 :
 UInt8),(49:UInt8)] } (IntKind.i64.wrap ((14000000:Int)+v)) false f a b c []) (1:Int) { data:=#[(78:UInt8),(69:UInt8),(87:UInt8),(48:UInt8),(49:UInt8)] } (IntKind.i64.wrap (IntKind.i64.wrap ((14000000:Int)+v)+(500:Int))) true (0:Int) (0:Int) (0:Int) (0:Int) []) (1:Int) { data:=#[(78:UInt8),(69:UInt8),(87:UInt8),(48:UInt8),(49:UInt8)] } (IntKind.i64.wrap
 (IntKind.i64.wrap ((14000000:Int)+v)+(500:Int))) false f a b c []) (1:Int) { data:=#[(78:UInt8),(69:UInt8),(87:UInt8),(48:UInt8),(49:UInt8)] } (IntKind.i64.wrap (IntKind.i64.wrap (IntKind.i64.wrap ((14000000:Int)+v)+(500:Int))+v_2)) (0:Int) (0:Int) (0:Int) (0:Int) ys) (apX (4:Nat) (YtldiagnbagpliaaDoor.setO (YtldiagnbagpliaaDoor.setO (YtldiagnbagpliaaDoor.setO l (1:Int) { data
:=#[(78:UInt8),(69:UInt8),(87:UInt8),(48:UInt8),(49:UInt8)] } (IntKind.i64.wrap ((14000000:Int)+v)) false f a b c []) (1:Int) { data:=#[(78:UInt8),(69:UInt8),(87:UInt8),(48:UInt8),(49:UInt8)] } (IntKind.i64.wrap (IntKind.i64.wrap ((14000000:Int)+v)+(500:Int))) true (0:Int) (0:Int) (0:Int) (0:Int) []) (1:Int) { data:=#[(78:UInt8),(69:UInt8),(87:UInt8),(48 :
 UInt8),(49:UInt8)] } (IntKind.i64.wrap (IntKind.i64.wrap ((14000000:Int)+v)+(500:Int))) false f a b c []) (1:Int) { data:=#[(78:UInt8),(69:UInt8),(87:UInt8),(48:UInt8),(49:UInt8)] } (IntKind.i64.wrap (IntKind.i64.wrap (IntKind.i64.wrap ((14000000:Int)+v)+(500:Int))+v_2)) (0:Int))=b)&&(decide (zI (apE (YtldiagnbagpliaaDoor.setO (YtldiagnbagpliaaDoor.setO
 (YtldiagnbagpliaaDoor.setO l (1:Int) { data:=#[(78:UInt8),(69:UInt8),(87:UInt8),(48:UInt8),(49:UInt8)] } (IntKind.i64.wrap ((14000000:Int)+v)) false f a b c []) (1:Int) { data:=#[(78:UInt8),(69:UInt8),(87:UInt8),(48:UInt8),(49:UInt8)] } (IntKind.i64.wrap (IntKind.i64.wrap ((14000000:Int)+v)+(500:Int))) true (0:Int) (0:Int) (0:Int) (0:Int) []) (1:Int) { data:=#[(78 :
 UInt8),(69:UInt8),(87:UInt8),(48:UInt8),(49:UInt8)] } (IntKind.i64.wrap (IntKind.i64.wrap ((14000000:Int)+v)+(500:Int))) false f a b c []) (1:Int) { data:=#[(78:UInt8),(69:UInt8),(87:UInt8),(48:UInt8),(49:UInt8)] } (IntKind.i64.wrap (IntKind.i64.wrap (IntKind.i64.wrap ((14000000:Int)+v)+(500:Int))+v_2)) (0:Int) (0:Int) (0:Int) (0:Int) ys) (apX (5:Nat)
 (YtldiagnbagpliaaDoor.setO (YtldiagnbagpliaaDoor.setO (YtldiagnbagpliaaDoor.setO l (1:Int) { data:=#[(78:UInt8),(69:UInt8),(87:UInt8),(48:UInt8),(49:UInt8)] } (IntKind.i64.wrap ((14000000:Int)+v)) false f a b c []) (1:Int) { data:=#[(78:UInt8),(69:UInt8),(87:UInt8),(48:UInt8),(49:UInt8)] } (IntKind.i64.wrap (IntKind.i64.wrap ((14000000:Int)+v)+(500:Int))) true (0:Int)
 (0:Int) (0:Int) (0:Int) []) (1:Int) { data:=#[(78:UInt8),(69:UInt8),(87:UInt8),(48:UInt8),(49:UInt8)] } (IntKind.i64.wrap (IntKind.i64.wrap ((14000000:Int)+v)+(500:Int))) false f a b c []) (1:Int) { data:=#[(78:UInt8),(69:UInt8),(87:UInt8),(48:UInt8),(49:UInt8)] } (IntKind.i64.wrap (IntKind.i64.wrap (IntKind.i64.wrap ((14000000:Int)+v)+(500:Int))+v_2)) (0:Int))=c)
&&true))) then True∧true=true else false=true else false=true else false=true else false=true else false=true else false=true else false=true else false=true else false=true else false=true
theorem lcloses_P:lcloses_T setE setO apE apX apP zI zN zS unb pB pI pC rgV stN stH atR atB exK vdE isN eqRd:=by
 unfold lcloses_T
 intro xs hz _
 have hs:SrcI (List.take 2000 xs):=SrcI.take hz
 refine ⟨trivial,⟨hs,by decide⟩,fun v j q1=>⟨⟨hs,q1.fj⟩,fun f a b c j q2=>?_⟩⟩
 have hv:=q1.fv (by decide)
 have nwE:(⟨#[(78:UInt8),(69:UInt8),(87:UInt8),(48:UInt8),(49:UInt8)]⟩:ByteArray)=nwN:=rfl
 rw [nwE,wrap_eq (k:=.i64) (n:=14000000+v) (by show _∧_; omega)]
 obtain ⟨m,hm⟩:∃ m,m=14000000+v:=⟨_,rfl⟩
 rw [← hm]
 have m0:14000000≤m∧m < 14100000:=by omega
 rw [wrap_eq (k:=.i64) (n:=m+500) (by show _∧_; omega)]
 refine ⟨⟨⟨hs,q2.fj⟩,by omega,by omega⟩,fun l j q3=>?_⟩
 obtain ⟨hl,h0,hn⟩:=q3.fr
 have hH:stH l nwN=false:=st_no hl (fun r hr e=>nw_no (e ▸ hn r hr))
 have hp:plOk 1 f a b c=true:=by unfold plOk; rw [if_pos rfl]; exact q2.fn
 have L1:=SetOk.lim (bs:=[]) (nm:=nwN) h0 (show exK 1=true by decide) nw_ok (pdV_op (k:=1) (fr:=m) (f:=f) (a:=a) (b:=b) (c:=c) (by omega) bs_nil hp) (fun z=>by rw [hH] at z; cases z)
 refine ⟨⟨hl,rdsP_nil,by decide⟩,⟨sts_setO hl _ _ _ _ _ _ _ _,rdsP_nil,by decide⟩,csx (fun _=>⟨trivial,rfl⟩) (fun e1=>?_)⟩
 have z1:=L1.resolve_right e1
 have T1:=set_valid hl rdsP_nil (by decide) z1
 have N1:newP l nwN m (pdA m false f a b c [])=[pdA m false f a b c []]:=by rw [T1.fn,if_neg (by rw [hH]; decide)]
 generalize setO l 1 nwN m false f a b c []=R1 at T1 ⊢
 obtain ⟨g1,g2,g3⟩:=se_same T1
 have L2:=SetOk.lim (bs:=[]) (nm:=nwN) (f:=0) (a:=0) (b:=0) (c:=0) T1.f0 (show exK 1=true by decide) nw_ok (pdV_cl (k:=1) (fr:=m+500) (by omega)) (fun _=>g3)
 refine csx (fun _=>⟨trivial,rfl⟩) (fun e2=>?_)
 have z2:=L2.resolve_right e2
 have T2:=set_valid T1.fp rdsP_nil (by decide) z2
 have N2:newP R1 nwN (m+500) (pdA (m+500) true 0 0 0 0 [])=[pdA m false f a b c [],pdA (m+500) true 0 0 0 0 []]:=by rw [T2.fn,if_pos g2,g1,N1]; exact ins_two rfl
 generalize setO R1 1 nwN (m+500) true 0 0 0 0 []=R2 at T2 ⊢
 obtain ⟨k1,k2,k3⟩:=se_same T2
 have z3:setE R2 1 nwN (m+500) false f a b c []=0:=by
  have hd:pdH (seD R2 nwN) (m+500)=true:=by
   rw [k1,N2]; unfold pdH
   have hlt:qP (m+500) (pdA m false f a b c []) < 0:=qP_lt.2 (show m < m+500 by omega)
   have hz:qP (m+500) (pdA (m+500) true 0 0 0 0 [])=0:=qP_z.2 rfl
   rw [fpB_lt hlt,fpB_ge (by omega)]; exact decide_eq_true hz
  unfold setE
  rw [if_neg (fun z=>z T2.f0),if_neg (by decide),if_neg (by rw [nw_ok]; decide),if_neg (by rw [pdV_op (k:=1) (fr:=m+500) (f:=f) (a:=a) (b:=b) (c:=c) (by omega) bs_nil hp]; decide),if_pos k2,if_neg (fun z=>z k3),if_pos hd]
 have T3:=set_valid T2.fp rdsP_nil (by decide) z3
 have N3:newP R2 nwN (m+500) (pdA (m+500) false f a b c [])=[pdA m false f a b c [],pdA (m+500) false f a b c []]:=by rw [T3.fn,if_pos k2,k1,N2]; exact ins_thr rfl rfl
 generalize setO R2 1 nwN (m+500) false f a b c []=R3 at T3 ⊢
 obtain ⟨_,u2,u3⟩:=se_same T3
 refine ⟨⟨hs,q3.fj⟩,fun v1 j q4=>⟨⟨hs,q4.fj⟩,fun ys j q5=>⟨⟨hs,q5.fj⟩,fun v2 j q6=>⟨⟨hs,q6.fj⟩,fun v3 j q7=>?_⟩⟩⟩⟩
 have hv1:=q4.fv (by decide)
 have hv2:=q6.fv (by decide)
 have hv3:=q7.fv (by decide)
 obtain ⟨yp,yv⟩:=rdV_ok q5.fr
 have yl:ys.length≤1000:=by have:=q5.fr.flen; omega
 rw [wrap_eq (k:=.i64) (n:=m+v1) (by show _∧_; omega),wrap_eq (k:=.i64) (n:=m+500+v2) (by show _∧_; omega),wrap_eq (k:=.i64) (n:=m - 1) (by show _∧_; omega),wrap_eq (k:=.i64) (n:=m - 1 - v3) (by show _∧_; omega)]
 obtain ⟨_,X1,_⟩:=ap_two (t:=m+v1) T2 N2 (m:=m) rfl rfl
 obtain ⟨_,_,Y1⟩:=ap_two (t:=m+500+v2) T2 N2 (m:=m) rfl rfl
 obtain ⟨Z1,_,_⟩:=ap_two (t:=m - 1 - v3) T2 N2 (m:=m) rfl rfl
 obtain ⟨_,_,W1⟩:=ap_two (t:=m+500+v2) T3 N3 (m:=m) rfl rfl
 obtain ⟨X1,X2⟩:=X1 (by omega) (by omega)
 obtain ⟨Y1,Y2⟩:=Y1 (by omega)
 have Z1:=Z1 (by omega)
 obtain ⟨W1,W2⟩:=W1 (by omega)
 have A1:=(ape_land T2.f0 ⟨k2,k3⟩ yv (t:=m+v1)).2.2 X1 (by rw [X2]; rfl)
 have A2:=(ape_land T2.f0 ⟨k2,k3⟩ yv (t:=m+500+v2)).2.1 Y1 (by rw [Y2]; rfl)
 have A3:=(ape_land T2.f0 ⟨k2,k3⟩ yv (t:=m - 1 - v3)).1 Z1
 have A4:=(ape_land T3.f0 ⟨u2,u3⟩ yv (t:=m+500+v2)).2.2 W1 (by rw [W2]; rfl)
 have P1:∀ i x,apX i R2 1 nwN (m+v1) x=pI i (pdA m false f a b c []):=fun i x=>by unfold apX; rw [if_pos rfl,X2]
 have P4:∀ i x,apX i R3 1 nwN (m+500+v2) x=pI i (pdA (m+500) false f a b c []):=fun i x=>by unfold apX; rw [if_pos rfl,W2]
 have B1:pB (apP R2 nwN (m+v1))=[]:=by rw [X2]; rfl
 have S1:zS 0 (unb ys [])=ys:=by unfold zS; rw [if_pos rfl]; exact unb_nil yp yv
 rw [A1,A2,A3,A4,B1,S1,P1,P1,P1,P1,P4,P4,P4,P4,eqRd_rfl,z1,z2,z3]
 refine ⟨⟨T2.fp,yp,yl⟩,⟨T2.fp,yp,yl⟩,⟨T2.fp,yp,yl⟩,⟨T2.fp,rdsP_nil,by decide⟩,⟨T3.fp,yp,yl⟩,?_⟩
 have e2:zI 0 (pI 2 (pdA m false f a b c []))=f:=z_zero rfl
 have e3:zI 0 (pI 3 (pdA m false f a b c []))=a:=z_zero rfl
 have e4:zI 0 (pI 4 (pdA m false f a b c []))=b:=z_zero rfl
 have e5:zI 0 (pI 5 (pdA m false f a b c []))=c:=z_zero rfl
 have f2:zI 0 (pI 2 (pdA (m+500) false f a b c []))=f:=z_zero rfl
 have f3:zI 0 (pI 3 (pdA (m+500) false f a b c []))=a:=z_zero rfl
 have f4:zI 0 (pI 4 (pdA (m+500) false f a b c []))=b:=z_zero rfl
 have f5:zI 0 (pI 5 (pdA (m+500) false f a b c []))=c:=z_zero rfl
 rw [e2,e3,e4,e5,f2,f3,f4,f5]
 simp only [decide_true,Bool.and_true,cond_true]
 exact ⟨⟨yp,yp⟩,trivial,trivial⟩
def lcloses_S (setE:LLR→Int→ByteArray→Int→Bool→Int→Int→Int→Int→LLR→Int) (setO:LLR→Int→ByteArray→Int→Bool→Int→Int→Int→Int→LLR→LLR) (apE:LLR→Int→ByteArray→Int→Int→Int→Int→Int→LLR→Int) (apX:Nat→LLR→Int→ByteArray→Int→Int→Int) (apP:LLR→ByteArray→Int→List AV) (zI:Int→Int→Int) (zN:Int→ByteArray→ByteArray) (zS:Int→LLR→LLR) (unb:LLR→LLR→LLR) (pB:List AV→LLR) (pI:Nat→List AV→Int) (pC:List AV→Bool) (rgV:LLR→Int) (stN:LLR→ByteArray→Nat) (stH:LLR→ByteArray→Bool) (atR:LLR→Int→List AV) (atB:LLR→Int→Bool) (exK:Int→Bool) (vdE:LLR→Int) (isN:Int→Int→Int→Int→Bool) (eqRd:LLR→LLR→Bool):Prop:=∀ (xs:List (List AV)),IntsA xs→fnK Tryd.prog { glob:=glb,spec:=lk [(7,gset_s),(11,(gApply_s rgV stN stH pI pC pB atR atB exK vdE isN unb zI zN zS apE apX apP)),(12,(rsmRd_s eqRd)),(9,(lawake_s apE apX apP zI zS unb pB))],specH:=lk [(4,newsrc_s)],specQ:=lk [(5,qn_s),(6,qplace_s),(8,qregistryV_s),(10,qlist_s)],nowf:=true,wrap:=true,nls:=[(42,7,2),(38,6,2)] } { nt:=156,drop:=drp [(1,12582912),(2,117440512),(3,402653184),(4,549218942976),(5,140187732541440),(6,4362862139015168),(7,9007199254740992),(8,2287828610704211968),(9,6917529027641081856),(10,37769708490920306933760),(11,2380072707366301187702784),(12,152324653271443276012994560),(13,9748777809372369664830668800),(14,5060698880598634563787619827712),(15,319447951257513809177169207754752),(16,91343852333181107869176643618040905572475207680)],tys:=[27] } (fun _ _=>none) 6 Tryd.f3 [.sl 1 false xs] (.bool true)
theorem lcloses_e (setE:LLR→Int→ByteArray→Int→Bool→Int→Int→Int→Int→LLR→Int) (setO:LLR→Int→ByteArray→Int→Bool→Int→Int→Int→Int→LLR→LLR) (apE:LLR→Int→ByteArray→Int→Int→Int→Int→Int→LLR→Int) (apX:Nat→LLR→Int→ByteArray→Int→Int→Int) (apP:LLR→ByteArray→Int→List AV) (zI:Int→Int→Int) (zN:Int→ByteArray→ByteArray) (zS:Int→LLR→LLR) (unb:LLR→LLR→LLR) (pB:List AV→LLR) (pI:Nat→List AV→Int) (pC:List AV→Bool) (rgV:LLR→Int) (stN:LLR→ByteArray→Nat) (stH:LLR→ByteArray→Bool) (atR:LLR→Int→List AV) (atB:LLR→Int→Bool) (exK:Int→Bool) (vdE:LLR→Int) (isN:Int→Int→Int→Int→Bool) (eqRd:LLR→LLR→Bool):lcloses_T setE setO apE apX apP zI zN zS unb pB pI pC rgV stN stH atR atB exK vdE isN eqRd=lcloses_S setE setO apE apX apP zI zN zS unb pB pI pC rgV stN stH atR atB exK vdE isN eqRd:=by kernel_rfl
theorem lcloses_v:lcloses_S setE setO apE apX apP zI zN zS unb pB pI pC rgV stN stH atR atB exK vdE isN eqRd:=Eq.mp (lcloses_e ..) (lcloses_P)
theorem lcloses_ok:SOK Tryd.prog glb 3 (lcloses_s setE setO apE apX apP zI zN zS unb pB pI pC):=by
 refine ⟨fok Tryd.func3 (by kernel_rfl) (by kernel_rfl),?_⟩
 intro xs pre r h hp
 unfold lcloses_s at h
 split at h
 ·simp only [Option.some.injEq,Prod.mk.injEq] at h
  obtain ⟨h1,h2⟩:=h
  subst h1 h2
  exact fnK_sound (tyOf (by kernel_rfl)) (by exact specOK rfl rfl ⟨(gset_ok),(gApply_ok),(rsmRd_ok glb),(lawake_ok),trivial⟩ ⟨(newsrc_ok glb),trivial⟩ (d:=qsOf rfl ⟨(qn_ok glb),(qplace_ok glb),(qregistryV_ok glb),(qlist_ok glb),trivial⟩)) (by kernel_rfl) Tryd.func3 rfl (lcloses_v  _ hp)
 ·cases h
end Go.Proofs.YtldiagnbagpliaaDoor
namespace Go.Proofs.YtldiagnbagpliaaDoor
open Go
open Go.ChangeShapes Go.WideShapes
open Go.RowKit (Below)
set_option linter.unusedVariables false
set_option linter.unusedSimpArgs false
def pinAll (w:World):Pin:=fun b o=>match w.cell? ⟨b,o,none⟩ with | some v=>cond v.oneCell' (some v) none | none=>none
theorem pinAll_some {w:World} {b o:Nat} {v:Value} (h:w.cell? ⟨b,o,none⟩=some v) (k:v.oneCell'=true):pinAll w b o=some v:=by simp [pinAll,h,k]
theorem agree_all (w:World):Agree (pinAll w) w:=by
 intro b o v h
 unfold pinAll at h
 split at h
 ·next u e =>
  cases hk:u.oneCell' with
  | true=>rw [hk] at h; simp only [cond_true,Option.some.injEq] at h; subst h; exact ⟨e,hk⟩
  | false=>rw [hk] at h; cases h
 ·cases h
def tiles (P:Program):List Field→Nat→Nat→Bool
 | [],o,n=>Nat.beq o n
 | f::fs,o,n=>Nat.beq f.offset o&&tiles P fs (o+P.cellsOf f.type) n
def supp (P:Program):Nat→TypeId→Bool
 | 0,_=>false
 | n+1,t=>match P.underlying t with
  | some .bool=>true
  | some (.int _)=>true
  | some .string=>true
  | some (.slice e)=>Nat.blt 0 (P.cellsOf e)&&supp P n e
  | some (.struct fs)=>tiles P fs.toList 0 (P.cellsOf t)&&fs.toList.all fun f=>supp P n f.type
  | some (.array m e)=>Nat.beq (m*P.cellsOf e) (P.cellsOf t)&&supp P n e
  | _=>false
def ShF (P:Program) (sh:TypeId→List AV→Prop):List Field→List AV→Prop
 | [],cs=>cs=[]
 | f::fs,cs=>∃ ys zs,sh f.type ys∧ShF P sh fs zs∧cs=ys++zs
def ShE (sh:List AV→Prop):Nat→List AV→Prop
 | 0,cs=>cs=[]
 | n+1,cs=>∃ ys zs,sh ys∧ShE sh n zs∧cs=ys++zs
def Sh (P:Program):Nat→TypeId→List AV→Prop
 | 0,_,_=>False
 | n+1,t,cs=>match P.underlying t with
  | some .bool=>∃ b,cs=[.bool b]
  | some (.int k)=>∃ z,rng k z∧cs=[.int k z]
  | some .string=>∃ s:ByteArray,s.size≤9223372036854775807∧cs=[.str s]
  | some (.slice e)=>∃ xs:List (List AV),xs.length≤9223372036854775807∧(∀ x ∈ xs,Sh P n e x)∧cs=[.sl (P.cellsOf e) false xs]
  | some (.struct fs)=>ShF P (Sh P n) fs.toList cs
  | some (.array m e)=>ShE (Sh P n e) m cs
  | _=>False
theorem shF_of {P:Program} {S:Pin} {sh:TypeId→List AV→Prop} {vs:List Value}:∀ (fs:List Field) (o tot:Nat),tiles P fs o tot=true→vs.length=tot →
  (∀ f ∈ fs,∃ ys,sh f.type ys∧allOne ys=true∧CVl S ys noNm ((vs.drop f.offset).take (P.cellsOf f.type)))→∃ cs,ShF P sh fs cs∧allOne cs=true∧CVl S cs noNm (vs.drop o)
 | [],o,tot,ht,hl,_=>by
  simp only [tiles] at ht
  have:=Nat.eq_of_beq_eq_true ht
  exact ⟨[],rfl,rfl,by simp only [CVl]; exact List.drop_eq_nil_of_le (by omega)⟩
 | f::fs,o,tot,ht,hl,h=>by
  simp only [tiles,Bool.and_eq_true] at ht
  obtain ⟨ho,ht⟩:=ht
  have ho:=Nat.eq_of_beq_eq_true ho
  obtain ⟨ys,h1,h2,h3⟩:=h f (List.mem_cons_self ..)
  obtain ⟨zs,k1,k2,k3⟩:=shF_of fs _ tot ht hl (fun g hg=>h g (List.mem_cons_of_mem _ hg))
  refine ⟨ys++zs,⟨ys,zs,h1,k1,rfl⟩,allOne_append h2 k2,?_⟩
  rw [ho] at h3
  have e:vs.drop o=(vs.drop o).take (P.cellsOf f.type)++vs.drop (o+P.cellsOf f.type):=by
   rw [← List.drop_drop]; exact (List.take_append_drop _ _).symm
  rw [e]
  exact CVl.append h3 k3
where allOne_append:∀ {xs ys:List AV},allOne xs=true→allOne ys=true→allOne (xs++ys)=true
 | [],ys,_,h=>h
 | x::xs,ys,h,k=>by
  simp only [allOne,Bool.and_eq_true,List.cons_append] at h ⊢
  exact ⟨h.1,allOne_append h.2 k⟩
theorem shE_of {S:Pin} {sh:List AV→Prop} {s:Nat}:∀ (n:Nat) (vs:List Value),vs.length=n*s→(∀ i,i < n→∃ ys,sh ys∧allOne ys=true∧CVl S ys noNm ((vs.drop (i*s)).take s)) →
  ∃ cs,ShE sh n cs∧allOne cs=true∧CVl S cs noNm vs
 | 0,vs,hl,_=>⟨[],rfl,rfl,by simp only [CVl]; exact List.eq_nil_of_length_eq_zero (by omega)⟩
 | n+1,vs,hl,h=>by
  obtain ⟨ys,h1,h2,h3⟩:=h 0 (by omega)
  have hl':vs.length=n*s+s:=by rw [hl,Nat.succ_mul]
  obtain ⟨zs,k1,k2,k3⟩:=shE_of n (vs.drop s) (by rw [List.length_drop,hl',Nat.add_sub_cancel]) (fun i hi=>by
   obtain ⟨q,q1,q2,q3⟩:=h (i+1) (by omega)
   refine ⟨q,q1,q2,?_⟩
   rw [List.drop_drop,show s+i*s=(i+1)*s by rw [Nat.succ_mul]; omega]
   exact q3)
  refine ⟨ys++zs,⟨ys,zs,h1,k1,rfl⟩,shF_of.allOne_append h2 k2,?_⟩
  rw [Nat.zero_mul,List.drop_zero] at h3
  have e:vs=vs.take s++vs.drop s:=(List.take_append_drop _ _).symm
  rw [e]
  exact CVl.append h3 k3
theorem list_of {α:Type} {p:Nat→α→Prop}:∀ (n:Nat),(∀ i,i < n→∃ x,p i x)→∃ xs:List α,xs.length=n∧∀ i x,xs[i]?=some x→p i x
 | 0,_=>⟨[],rfl,by simp⟩
 | n+1,h=>by
  obtain ⟨xs,h1,h2⟩:=list_of n (fun i hi=>h i (by omega))
  obtain ⟨x,hx⟩:=h n (by omega)
  refine ⟨xs++[x],by simp [h1],fun i y hy=>?_⟩
  rcases Nat.lt_or_ge i xs.length with hi | hi
  ·rw [List.getElem?_append_left hi] at hy; exact h2 i y hy
  ·rw [List.getElem?_append_right hi] at hy
   rcases Nat.eq_zero_or_pos (i - xs.length) with h0 | h0
   ·rw [h0] at hy
    simp only [List.getElem?_cons_zero,Option.some.injEq] at hy
    rw [← hy,show i=n by omega]; exact hx
   ·rw [List.getElem?_eq_none (by simp; omega)] at hy; cases hy
section
variable {H:Type} {enc:TypeId × Value→H} {P:Program} {w:World} {base:Nat} {held:Bool}
theorem rng_wf {k:IntKind} {z:Int} (h:(Lit.int k z).wf=true):rng k z:=by
 rw [rng_iff]
 simp only [Lit.wf,Bool.and_eq_true,decide_eq_true_eq] at h
 exact h
theorem in_of_trod:∀ (n:Nat) (t:TypeId) (fuel:Nat) (vs:List Value) (x:DataW H × List MemPlace),supp P n t=true→DataW.trod enc P w base (fun _=>true) held fuel t vs=some x →
  ∃ cs,Sh P n t cs∧allOne cs=true∧CVl (pinAll w) cs noNm vs
 | 0,t,_,_,_,hs,_=>by simp [supp] at hs
 | n+1,t,fuel,vs,x,hs,h=>by
  unfold supp at hs
  unfold Sh
  split at hs
  ·next ht =>
   obtain ⟨b,rfl,_⟩:=DataW.trod_bool ht h
   exact ⟨[.bool b],⟨b,rfl⟩,rfl,_,_,rfl,rfl,rfl⟩
  ·next k ht =>
   obtain ⟨z,rfl,_,hw⟩:=DataW.trod_int ht h
   exact ⟨[.int k z],⟨z,rng_wf hw,rfl⟩,rfl,_,_,rfl,⟨rfl,rng_wf hw⟩,rfl⟩
  ·next ht =>
   obtain ⟨s,rfl,_,hw⟩:=DataW.trod_string ht h
   exact ⟨[.str s],⟨s,hw,rfl⟩,rfl,_,_,rfl,⟨rfl,hw⟩,rfl⟩
  ·next e ht =>
   simp only [Bool.and_eq_true] at hs
   have hs0:0 < P.cellsOf e:=by have:=hs.1; simp [Nat.blt] at this; omega
   rcases DataW.trod_slice ht h with ⟨rfl,_⟩ | ⟨a,len,cap,elems,rest,m,_,rfl,_,hb,hl,hc,hlen,hel,hsp,hns⟩
   ·refine ⟨[.sl (P.cellsOf e) false []],⟨[],by simp,by simp,rfl⟩,rfl,_,_,rfl,⟨none,0,rfl,by simp,by simp,(fun h=>by cases h),(fun _=>rfl),(fun a ha=>by cases ha)⟩,rfl⟩
   ·have each:∀ i,i < len→∃ x,(Sh P n e x)∧∃ cs',w.cells? base (a.add (i*P.cellsOf e)) (P.cellsOf e)=some cs'∧allOne x=true∧CVl (pinAll w) x noNm cs':=by
     intro i hi
     have h1:=hel i hi
     have hx:elems[i]?=some (elems[i]'(by omega)):=List.getElem?_eq_getElem (by omega)
     rw [hx,Option.bind_eq_some_iff] at h1
     obtain ⟨cs',h2,h3⟩:=h1
     obtain ⟨y,k1,k2,k3⟩:=in_of_trod n e m cs' _ hs.2 h3
     exact ⟨y,k1,cs',h2,k2,k3⟩
    obtain ⟨xs,hx1,hx2⟩:=list_of len each
    have hmem:∀ x ∈ xs,Sh P n e x:=by
     intro x hx
     obtain ⟨i,hi⟩:=List.getElem?_of_mem hx
     exact (hx2 i x hi).1
    refine ⟨[.sl (P.cellsOf e) false xs],⟨xs,by unfold maxLen at hc; omega,hmem,rfl⟩,rfl,_,_,rfl,⟨some a,cap,by rw [hx1],by omega,hc,(fun h=>by cases h),(fun h=>by cases h),fun a' ha=>?_⟩,rfl⟩
    cases ha
    have key:∀ (j:Nat) (x:List AV),xs[j]?=some x→∃ cs':List Value,cs'.length=P.cellsOf e∧CVl (pinAll w) x noNm cs'∧allOne x=true∧∀ i,i < P.cellsOf e→w.cell? ((a.add (j*P.cellsOf e)).add i)=cs'[i]?:=by
     intro j x hj
     obtain ⟨_,cs',h2,h3,h4⟩:=hx2 j x hj
     obtain ⟨_,q1,q2⟩:=World.cells?_some h2
     exact ⟨cs',q1,h4,h3,q2⟩
    have spot:cap≠0→a.spot=none:=by
     intro h0
     have h1:∃ cs',w.cells? base (a.add (0*P.cellsOf e)) (P.cellsOf e)=some cs':=by
      rcases Nat.eq_zero_or_pos len with hl0 | hl0
      ·obtain ⟨hr,hr2⟩:=hsp rfl
       have h1:=hr2 0 (by omega)
       have hx:rest[0]?=some (rest[0]'(by omega)):=List.getElem?_eq_getElem (by omega)
       rw [hx,Option.bind_eq_some_iff] at h1
       obtain ⟨cs',h2,_⟩:=h1
       exact ⟨cs',by rw [← h2,hl0]⟩
      ·have h1:=hel 0 hl0
       have hx:elems[0]?=some (elems[0]'(by omega)):=List.getElem?_eq_getElem (by omega)
       rw [hx,Option.bind_eq_some_iff] at h1
       obtain ⟨cs',h2,_⟩:=h1
       exact ⟨cs',h2⟩
     obtain ⟨cs',h2⟩:=h1
     obtain ⟨_,q1,q2⟩:=World.cells?_some h2
     have h3:=q2 0 hs0
     rw [List.getElem?_eq_getElem (by omega)] at h3
     have h4:=World.cell?_spot h3
     simpa [Addr.add] using h4
    refine ⟨spot,CE.mk fun j x hj=>?_⟩
    obtain ⟨cs',k1,k2,k3,k4⟩:=key j x hj
    have hxl:x.length=P.cellsOf e:=by rw [← k1]; exact (CVl.len k2).symm
    refine ⟨hxl,CC.mk fun i y hy=>?_⟩
    obtain ⟨u,hu,hcv⟩:=CVl.get k2 hy
    have hi:i < P.cellsOf e:=by have:=(List.getElem?_eq_some_iff.1 hy).1; omega
    have hj':j < len:=by have:=(List.getElem?_eq_some_iff.1 hj).1; omega
    have hsp:=spot (by omega)
    obtain ⟨b,o,sp⟩:=a
    simp only at hsp
    subst hsp
    have h5:=k4 i hi
    rw [add_none,add_none,hu] at h5
    exact ⟨u,pinAll_some h5 (allOne_cv k2 k3 u (List.mem_of_getElem? hu)),hcv⟩
  ·next fs ht =>
   simp only [Bool.and_eq_true,List.all_eq_true] at hs
   obtain ⟨xs,m,_,_,hl,hxl,hf⟩:=DataW.trod_struct ht h
   obtain ⟨cs,k1,k2,k3⟩:=shF_of (S:=pinAll w) (sh:=Sh P n) (vs:=vs) fs.toList 0 _ hs.1 hl (fun f hfm=>by
    obtain ⟨i,hi⟩:=List.getElem?_of_mem hfm
    have h1:=hf i f (by simpa using hi)
    have hi':i < fs.size:=by have:=(List.getElem?_eq_some_iff.1 hi).1; simpa using this
    rw [List.getElem?_eq_getElem (by omega:i < xs.length)] at h1
    exact in_of_trod n f.type m _ _ (hs.2 f hfm) h1)
   exact ⟨cs,k1,k2,by simpa using k3⟩
  ·next m e ht =>
   simp only [Bool.and_eq_true] at hs
   obtain ⟨xs,q,_,_,hl,hxl,hf⟩:=DataW.trod_array ht h
   have hsz:=Nat.eq_of_beq_eq_true hs.1
   exact shE_of (S:=pinAll w) (sh:=Sh P n e) (s:=P.cellsOf e) m vs (by omega) (fun i hi=>by
    have h1:=hf i hi
    rw [List.getElem?_eq_getElem (by omega:i < xs.length)] at h1
    exact in_of_trod n e q _ _ hs.2 h1)
  ·cases hs
def mkA (P:Program) (t:TypeId) (cs:List AV):AV:=cond (isAg P t) (.agg cs) (match cs with | [x]=>x | _=>.dead)
def ShAll (P:Program):List TypeId→(List AV→Prop)→Prop
 | [],K=>K []
 | t::ts,K=>∀ cs,Sh P 50 t cs→ShAll P ts fun xs=>K (mkA P t cs::xs)
theorem in_one {r:Reach} {b0 n:Nat} {t:TypeId} {v:Value} {fuel:Nat} {x:DataW H × List MemPlace} (hs:supp P n t=true) (hv:Value.okWide P w r b0 t v) (h:DataW.trod enc P w base (fun _=>true) held fuel t v.cells.toList=some x) :
  ∃ cs,Sh P n t cs∧CV (pinAll w) (mkA P t cs) noNm v:=by
 obtain ⟨cs,h1,h2,h3⟩:=in_of_trod n t fuel _ x hs h
 refine ⟨cs,h1,?_⟩
 have one:isAg P t=false→v.cells=#[v]→CV (pinAll w) (mkA P t cs) noNm v:=by
  intro ha hc
  rw [hc] at h3
  unfold mkA
  rw [ha]
  match cs,h3 with
  | [y],h3 =>
   simp only [CVl] at h3
   obtain ⟨u,us,e,hy,hn⟩:=h3
   simp at e
   rw [e.1]; exact hy
  | [],h3=>simp [CVl] at h3
  | _::_::_,h3 =>
   simp [CVl] at h3
   obtain ⟨u,us,⟨_,e⟩,_,u',us',e',_⟩:=h3
   rw [e] at e'; cases e'
 have agg:isAg P t=true→∀ us,v=.agg us→CV (pinAll w) (mkA P t cs) noNm v:=by
  intro ha us e
  subst e
  unfold mkA
  rw [ha]
  exact ⟨us,rfl,h3⟩
 unfold Value.okWide at hv
 cases n with
 | zero=>simp [supp] at hs
 | succ n =>
  unfold supp at hs
  split at hs
  ·next ht =>
   rw [ht] at hv
   simp only [Cell.okWide,Cell.ok,ht] at hv
   refine one (by unfold isAg; rw [ht]) ?_
   split at hv <;> first | rfl | (split at hv <;> first | rfl | cases hv) | cases hv
  ·next k ht =>
   rw [ht] at hv
   simp only [Cell.okWide,Cell.ok,ht] at hv
   refine one (by unfold isAg; rw [ht]) ?_
   split at hv <;> first | rfl | (split at hv <;> first | rfl | cases hv) | cases hv
  ·next ht =>
   rw [ht] at hv
   simp only [Cell.okWide,Cell.ok,ht] at hv
   refine one (by unfold isAg; rw [ht]) ?_
   split at hv <;> first | rfl | (split at hv <;> first | rfl | cases hv) | cases hv
  ·next e ht =>
   rw [ht] at hv
   simp only [Cell.okWide,Cell.ok,ht] at hv
   refine one (by unfold isAg; rw [ht]) ?_
   split at hv <;> first | rfl | (split at hv <;> first | rfl | cases hv) | cases hv
  ·next fs ht =>
   rw [ht] at hv
   obtain ⟨us,e,_⟩:=hv
   exact agg (by unfold isAg; rw [ht]) us e
  ·next m e ht =>
   rw [ht] at hv
   obtain ⟨us,e,_⟩:=hv
   exact agg (by unfold isAg; rw [ht]) us e
  ·cases hs
theorem in_all {r:Reach} {b0:Nat}:∀ (ts:List TypeId) (vs:List Value) (ds:List (DataW H)) (ps:List MemPlace) (K:List AV→Prop),(ts.all fun t=>supp P 50 t)=true→DataW.TrodAll enc P w base (fun _=>true) held ts vs ds ps →
  (∀ (j:Nat) t v,ts[j]?=some t→vs[j]?=some v→Value.okWide P w r b0 t v)→ShAll P ts K→∃ xs,K xs∧CVl (pinAll w) xs noNm vs
 | [],[],[],ps,K,_,h,_,hK=>⟨[],hK,by simp only [CVl]⟩
 | t::ts,v::vs,d::ds,ps,K,hs,h,hv,hK=>by
  simp only [List.all_cons,Bool.and_eq_true] at hs
  obtain ⟨p,q,⟨fuel,h1⟩,h2,_⟩:=h
  obtain ⟨cs,k1,k2⟩:=in_one hs.1 (hv 0 t v rfl rfl) h1
  obtain ⟨xs,q1,q2⟩:=in_all ts vs ds q (fun xs=>K (mkA P t cs::xs)) hs.2 h2 (fun j t v ht hv'=>hv (j+1) t v (by simpa using ht) (by simpa using hv')) (hK cs k1)
  exact ⟨_,q1,by simp only [CVl]; exact ⟨v,vs,rfl,k2,q2⟩⟩
 | [],v::vs,ds,ps,K,_,h,_,_=>by cases ds <;> simp [DataW.TrodAll] at h
 | [],[],d::ds,ps,K,_,h,_,_=>by simp [DataW.TrodAll] at h
 | t::ts,[],ds,ps,K,_,h,_,_=>by cases ds <;> simp [DataW.TrodAll] at h
 | t::ts,v::vs,[],ps,K,_,h,_,_=>by simp [DataW.TrodAll] at h
theorem law_calls {gl:Glob} {f:FuncId} {r:Reach} {b0:Nat} {ts:List TypeId} {args:Array Value} {ds:List (DataW H)} {ps:List MemPlace} (hs:(ts.all fun t=>supp P 50 t)=true) (hg:GOKg gl (pinAll w))
  (h:ShAll P ts fun xs=>PureC P gl f xs (.bool true)) (hA:DataW.TrodAll enc P w base (fun _=>true) held ts args.toList ds ps)
  (hv:∀ (j:Nat) t v,ts[j]?=some t→args.toList[j]?=some v→Value.okWide P w r b0 t v) :
  Calls P f args w fun e w'=>e=.returned (.bool true)∧Below w.heap.size w w':=by
 obtain ⟨xs,h1,h2⟩:=in_all ts _ ds ps _ hs hA hv h
 refine (h1 w (pinAll w) args hg (agree_all w) h2).mono fun e w' h=>?_
 obtain ⟨u,S',h3,h4,_,_,_,h5⟩:=h
 simp only [CV] at h5
 exact ⟨by rw [h3,h5],h4⟩
theorem trodAll_stay (hl:laidOutB P=true) {w':World} (hb:Below w.heap.size w w'):∀ (ts:List TypeId) (vs:List Value) (ds:List (DataW H)) (ps:List MemPlace),(ts.all fun t=>P.readableRec t&&decide (t < P.types.size))=true →
  DataW.TrodAll enc P w 0 (fun _=>true) true ts vs ds ps→DataW.TrodAll enc P w' 0 (fun b=>decide (b < w.heap.size)) true ts vs ds ps
 | [],[],[],ps,_,h=>h
 | t::ts,v::vs,d::ds,ps,hs,h=>by
  simp only [List.all_cons,Bool.and_eq_true,decide_eq_true_eq] at hs
  obtain ⟨p,q,h1,h2,h3⟩:=h
  have hlt:∀ x ∈ p,x.block < w.heap.size:=by obtain ⟨m,hm⟩:=h1; exact DataW.trod_lt m _ _ _ hm
  exact ⟨p,q,Below.trod hl hs.1.1 hs.1.2 h1 hb hlt,trodAll_stay hl hb ts vs ds q hs.2 h2,h3⟩
 | [],v::vs,ds,ps,_,h=>by cases ds <;> simp [DataW.TrodAll] at h
 | [],[],d::ds,ps,_,h=>by simp [DataW.TrodAll] at h
 | t::ts,[],ds,ps,_,h=>by cases ds <;> simp [DataW.TrodAll] at h
 | t::ts,v::vs,[],ps,_,h=>by simp [DataW.TrodAll] at h
def suppG (P:Program):Nat→TypeId→Bool
 | 0,_=>false
 | n+1,t=>match P.underlying t with
  | some .bool=>true
  | some (.int _)=>true
  | some .string=>true
  | some (.struct fs)=>tiles P fs.toList 0 (P.cellsOf t)&&fs.toList.all fun f=>suppG P n f.type
  | some (.array m e)=>Nat.beq (m*P.cellsOf e) (P.cellsOf t)&&suppG P n e
  | _=>false
mutual
def flatD:DataW H→List AV
 | .lit (.bool b)=>[.bool b]
 | .lit (.int k z)=>[.int k z]
 | .lit (.string l)=>[.str ⟨l.toArray⟩]
 | .agg ds=>flatDs ds
 | _=>[.dead]
def flatDs:List (DataW H)→List AV
 | []=>[]
 | d::ds=>flatD d++flatDs ds
end
theorem flatF {S:Pin} {vs:List Value}:∀ (fs:List Field) (ds:List (DataW H)) (o tot:Nat),tiles P fs o tot=true→vs.length=tot→ds.length=fs.length →
  (∀ (i:Nat) (f:Field) (d:DataW H),fs[i]?=some f→ds[i]?=some d→CVl S (flatD d) noNm ((vs.drop f.offset).take (P.cellsOf f.type)))→CVl S (flatDs ds) noNm (vs.drop o)
 | [],[],o,tot,ht,hl,_,_=>by
  simp only [tiles] at ht
  have:=Nat.eq_of_beq_eq_true ht
  simp only [flatDs,CVl]; exact List.drop_eq_nil_of_le (by omega)
 | f::fs,d::ds,o,tot,ht,hl,hd,h=>by
  simp only [tiles,Bool.and_eq_true] at ht
  obtain ⟨ho,ht⟩:=ht
  have ho:=Nat.eq_of_beq_eq_true ho
  have h1:=h 0 f d rfl rfl
  have h2:=flatF fs ds _ tot ht hl (by simpa using hd) (fun i g d' hg hd'=>h (i+1) g d' (by simpa using hg) (by simpa using hd'))
  rw [ho] at h1
  have e:vs.drop o=(vs.drop o).take (P.cellsOf f.type)++vs.drop (o+P.cellsOf f.type):=by
   rw [← List.drop_drop]; exact (List.take_append_drop _ _).symm
  rw [e]
  simp only [flatDs]
  exact CVl.append h1 h2
 | [],_::_,_,_,_,_,hd,_=>by simp at hd
 | _::_,[],_,_,_,_,hd,_=>by simp at hd
theorem flatE {S:Pin} {s:Nat}:∀ (ds:List (DataW H)) (vs:List Value),vs.length=ds.length*s→(∀ (i:Nat) (d:DataW H),ds[i]?=some d→CVl S (flatD d) noNm ((vs.drop (i*s)).take s))→CVl S (flatDs ds) noNm vs
 | [],vs,hl,_=>by simp only [flatDs,CVl]; exact List.eq_nil_of_length_eq_zero (by simpa using hl)
 | d::ds,vs,hl,h=>by
  have h1:=h 0 d rfl
  have hl':vs.length=ds.length*s+s:=by rw [hl,List.length_cons,Nat.succ_mul]
  have h2:=flatE (S:=S) (s:=s) ds (vs.drop s) (by rw [List.length_drop]; omega) (fun i d' hd=>by
   have:=h (i+1) d' (by simpa using hd)
   rw [List.drop_drop,show s+i*s=(i+1)*s by rw [Nat.succ_mul]; omega]
   exact this)
  rw [Nat.zero_mul,List.drop_zero] at h1
  have e:vs=vs.take s++vs.drop s:=(List.take_append_drop _ _).symm
  rw [e]
  simp only [flatDs]
  exact CVl.append h1 h2
theorem flat_of_trod {S:Pin} {spare:Nat→Bool}:∀ (n:Nat) (t:TypeId) (fuel:Nat) (vs:List Value) (x:DataW H × List MemPlace),suppG P n t=true→DataW.trod enc P w base spare held fuel t vs=some x→CVl S (flatD x.1) noNm vs
 | 0,t,_,_,_,hs,_=>by simp [suppG] at hs
 | n+1,t,fuel,vs,x,hs,h=>by
  unfold suppG at hs
  split at hs
  ·next ht =>
   obtain ⟨b,rfl,rfl⟩:=DataW.trod_bool ht h
   exact ⟨_,_,rfl,rfl,rfl⟩
  ·next k ht =>
   obtain ⟨z,rfl,rfl,hw⟩:=DataW.trod_int ht h
   exact ⟨_,_,rfl,⟨rfl,rng_wf hw⟩,rfl⟩
  ·next ht =>
   obtain ⟨s,rfl,rfl,hw⟩:=DataW.trod_string ht h
   exact ⟨_,_,rfl,⟨by simp,by simpa using hw⟩,rfl⟩
  ·next fs ht =>
   simp only [Bool.and_eq_true,List.all_eq_true] at hs
   obtain ⟨xs,m,_,rfl,hl,hxl,hf⟩:=DataW.trod_struct ht h
   have:=flatF (S:=S) (vs:=vs) fs.toList (xs.map (·.1)) 0 _ hs.1 hl (by simpa using hxl) (fun i f d hi hd=>by
    have h1:=hf i f (by simpa using hi)
    rw [List.getElem?_map] at hd
    cases hx:xs[i]? with
    | none=>rw [hx] at hd; cases hd
    | some y =>
     rw [hx] at hd h1
     simp only [Option.map_some,Option.some.injEq] at hd
     subst hd
     exact flat_of_trod n f.type m _ _ (hs.2 f (List.mem_of_getElem? hi)) h1)
   simpa [flatD] using this
  ·next m e ht =>
   simp only [Bool.and_eq_true] at hs
   obtain ⟨xs,q,_,rfl,hl,hxl,hf⟩:=DataW.trod_array ht h
   have hsz:=Nat.eq_of_beq_eq_true hs.1
   have:=flatE (S:=S) (s:=P.cellsOf e) (xs.map (·.1)) vs (by simp only [List.length_map]; rw [hxl]; omega) (fun i d hd=>by
    rw [List.getElem?_map] at hd
    cases hx:xs[i]? with
    | none=>rw [hx] at hd; cases hd
    | some y =>
     have hi:i < m:=by have:=(List.getElem?_eq_some_iff.1 hx).1; omega
     have h1:=hf i hi
     rw [hx] at hd h1
     simp only [Option.map_some,Option.some.injEq] at hd
     subst hd
     exact flat_of_trod n e q _ _ hs.2 h1)
   simpa [flatD] using this
  ·cases hs
end
theorem intsA_of {xs:List (List AV)} (h:∀ x ∈ xs,∃ z,rng .i64 z∧x=[.int .i64 z]):IntsA xs:=fun x hx=>by
 obtain ⟨z,h1,h2⟩:=h x hx
 exact ⟨z,h2,h1⟩
theorem glob_cells {W:World} {g:Nat} {cs:Array Value} {az:List AV} (hc:∀ i,W.cell? ⟨g,i,none⟩=cs[i]?) (h:CVl (pinAll W) az noNm cs.toList) (h1:allOne az=true):CC (pinAll W) az g 0:=by
 refine CC.mk fun j x hx=>?_
 obtain ⟨u,hu,hcv⟩:=CVl.get h hx
 have h2:=hc j
 rw [show cs[j]?=some u by simpa using hu] at h2
 rw [Nat.zero_add]
 exact ⟨u,pinAll_some h2 (allOne_cv h h1 u (List.mem_of_getElem? hu)),hcv⟩
end Go.Proofs.YtldiagnbagpliaaDoor
