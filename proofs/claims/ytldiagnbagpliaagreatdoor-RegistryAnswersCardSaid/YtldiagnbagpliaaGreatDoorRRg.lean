import Derived.Test.YtldiagnbagpliaaGreatDoorRRf
import Derived.Deep.RegionLaw
import Derived.Lib.SliceRun
import Derived.Deep.MidRow
set_option maxRecDepth 100000
namespace Go.Proofs.YtldiagnbagpliaaGreatDoor
open Go
set_option linter.unusedVariables false
set_option linter.unusedSimpArgs false
def cS (nm:ByteArray) (r:List AV):Bool:=decide (sNm r=nm)
def fiI (l:LLR) (nm:ByteArray):Int:=idxP (cS nm) l
def fiB (l:LLR) (nm:ByteArray):Bool:=decide (0≤fiI l nm)
def fiK (l:LLR) (nm:ByteArray):Int:=if fiB l nm=true then rE (l.getD (fiI l nm).toNat []) else 0
def fiN (l:LLR) (nm:ByteArray):ByteArray:=if fiB l nm=true then nm else ⟨#[]⟩
def fiP (l:LLR) (nm:ByteArray):LLR:=if fiB l nm=true then sPs (l.getD (fiI l nm).toNat []) else []
structure FfP (l:LLR) (nm:ByteArray) (i:Int):Prop where
 flo:0≤i
 fhi:i≤l.length
 fno:∀ j:Nat,(j:Int) < i→cS nm (l.getD j [])=false
def ff2 (l:LLR) (g:Bool) (nm:ByteArray):LInv:=⟨Int,fun i=>⟨[(1,.str nm),(2,.ptr 2 0),(4,.ptr 4 0),(6,.int .i64 i)],[(2,.cells [.sl 3 g l]),(4,.cells [.int .i64 0,.str ⟨#[]⟩,.nils])]⟩,FfP l nm,fun i=>(l.length - i).toNat,none⟩
def rfindF_s (fiK:LLR→ByteArray→Int) (fiN:LLR→ByteArray→ByteArray) (fiP:LLR→ByteArray→LLR) (fiB:LLR→ByteArray→Bool):Sp
 | [.agg [.sl 3 g l],.str nm]=>some (StsP l,.tup [.agg [.int .i64 (fiK l nm),.str (fiN l nm),.sl 7 false (fiP l nm)],.bool (fiB l nm)])
 | _=>none
def rfindF_T (fiK:LLR→ByteArray→Int) (fiN:LLR→ByteArray→ByteArray) (fiP:LLR→ByteArray→LLR) (fiB:LLR→ByteArray→Bool):Prop :=
  ∀ (gl:Glob) (l:List (List AV)) (g:Bool) (nm:ByteArray),StsP l→True∧True→nm.size.le (9223372036854775807:Nat)→(∃ x,FfP l nm x∧(nm=nm∧(0:Nat)=0∧(0:Nat)=0∧(0:Int)=x∧True)∧(((bif g then g=true else True)∧l=l)∧True)∧((0:Int)=0∧(⟨#[]⟩:ByteArray)=(⟨#[]⟩:ByteArray)∧True∧True)∧True)∧∀ (x:Int),FfP l nm x→bif decide (x < (↑l.length:Int)) then bif decide (0≤x∧x < (↑l.length:Int)) then ∃
 s,List.take [AV.str s].length (List.drop (1:Nat) (l.getD x.toNat []))=[AV.str s]∧bif decide (s=nm) then bif decide (0≤x∧x < (↑l.length:Int)) then ∃ n s xs,List.take [AV.int .i64 n,.str s,.sl (7:Nat) false xs].length (l.getD x.toNat [])=[AV.int .i64 n,.str s,.sl (7:Nat) false xs]∧(n=fiK l nm∧s=fiN l nm∧(True∧xs=fiP l nm)∧True)∧true=fiB l nm∧True else False else bif decide (rng .i64 (x +
 (1:Int))) then ∃ y,FfP l nm y∧(ff2 l g nm).m y < (ff2 l g nm).m x∧(nm=nm∧(0:Nat)=0∧(0:Nat)=0∧x+(1:Int)=y∧True)∧(((bif g then g=true else True)∧l=l)∧True)∧((0:Int)=0∧(⟨#[]⟩:ByteArray)=(⟨#[]⟩:ByteArray)∧True∧True)∧True else False else False else ((0:Int)=fiK l nm∧(⟨#[]⟩:ByteArray)=fiN l nm∧fiP l nm=[]∧True)∧false=fiB l nm∧True
theorem rfindF_P:rfindF_T fiK fiN fiP fiB:=by
 unfold rfindF_T
 intro gl l g nm hl _ _
 have ll:=hl.fs
 have bg:cond g (g=true) True:=by cases g <;> trivial
 refine ⟨⟨0,⟨by decide,by omega,fun j h=>by omega⟩,by (repeat' (first | exact trivial | exact rfl | assumption | apply And.intro))⟩,?_⟩
 rintro i ⟨i0,i1,hn⟩
 refine csx (fun hi=>cd1 (by omega) ?_) (fun hi=>?_)
 ·obtain ⟨k,n,ps,hr,hp⟩:=hl.fr i.toNat (by omega)
  have hc:cS nm (l.getD i.toNat [])=decide (n=nm):=by rw [hr]; rfl
  refine ⟨n,by rw [hr]; rfl,csplit (fun q=>cd1 (by omega) ⟨k,n,ps,by rw [hr]; rfl,?_⟩) (fun q=>cdI (by omega) ⟨i+1,⟨by omega,by omega,fun j hj=>?_⟩,by simp only [ff2]; omega,by (repeat' (first | exact trivial | exact rfl | assumption | apply And.intro))⟩)⟩
  ·have q:=of_decide_eq_true q
   subst q
   have e1:fiI l n=i.toNat:=(idx_some (p:=cS n) (by omega) (by rw [hc]; exact decide_eq_true rfl) (fun j hj=>hn j (by omega))).symm
   have e2:fiB l n=true:=by unfold fiB; rw [e1]; exact decide_eq_true (by omega)
   unfold fiK fiN fiP
   rw [e2,e1,if_pos rfl,if_pos rfl,if_pos rfl,Int.toNat_natCast,hr]
   exact ⟨⟨rfl,rfl,⟨trivial,rfl⟩,trivial⟩,rfl,trivial⟩
  ·rcases Nat.lt_or_ge j i.toNat with z | z
   ·exact hn j (by omega)
   ·rw [show j=i.toNat by omega,hc]; exact q
 ·have e1:fiI l nm=-1:=(idx_none fun j hj=>hn j (by omega)).symm
  have e2:fiB l nm=false:=by unfold fiB; rw [e1]; rfl
  unfold fiK fiN fiP
  rw [e2,if_neg (by decide),if_neg (by decide),if_neg (by decide)]
  exact ⟨⟨rfl,rfl,rfl,trivial⟩,rfl,trivial⟩
def rfindF_S (fiK:LLR→ByteArray→Int) (fiN:LLR→ByteArray→ByteArray) (fiP:LLR→ByteArray→LLR) (fiB:LLR→ByteArray→Bool):Prop:=∀ (gl:Glob) (l:List (List AV)) (g:Bool) (nm:ByteArray),StsP l→fnK Tryz.prog { glob:=gl,spec:=lk [],specH:=lk [],shape:=[19,26],slz:=[(19,[7]),(26,[7])],nowf:=true } { nt:=28,drop:=drp [(2,1920),(3,12288),(4,2080768),(5,130023424),(6,134217728)] } (invs [(2,ff2 l g nm)]) 6 Tryz.f23 [.agg [.sl 3 g l],.str nm] (.tup [.agg [.int .i64 (fiK l nm),.str (fiN l nm),.sl 7 false (fiP l nm)],.bool (fiB l nm)])
theorem rfindF_e (fiK:LLR→ByteArray→Int) (fiN:LLR→ByteArray→ByteArray) (fiP:LLR→ByteArray→LLR) (fiB:LLR→ByteArray→Bool):rfindF_T fiK fiN fiP fiB=rfindF_S fiK fiN fiP fiB:=by kernel_rfl
theorem rfindF_v:rfindF_S fiK fiN fiP fiB:=Eq.mp (rfindF_e ..) (rfindF_P)
theorem rfindF_ok (gl:Glob):SOK Tryz.prog gl 23 (rfindF_s fiK fiN fiP fiB):=by
 refine ⟨fok Tryz.func23 (by kernel_rfl) (by kernel_rfl),?_⟩
 intro xs pre r h hp
 unfold rfindF_s at h
 split at h
 ·simp only [Option.some.injEq,Prod.mk.injEq] at h
  obtain ⟨h1,h2⟩:=h
  subst h1 h2
  exact fnK_sound tyNil (by exact specOK rfl rfl trivial trivial) (by kernel_rfl) Tryz.func23 rfl (rfindF_v gl _ _ _ hp)
 ·cases h
def genL (ge ne:List AV→Bool) (s:List AV):Bool→LLR→LLR
 | d,[]=>if d=true then [] else [s]
 | d,x::l=>(if (!d&&ge x)=true then [s] else [])++((if ne x=true then [x] else [])++genL ge ne s (d||ge x) l)
def geS (nm:ByteArray) (x:List AV):Bool:=Op.bytesLess nm.toList (sNm x).toList||decide (nm=sNm x)
def neS (nm:ByteArray) (x:List AV):Bool:=!(decide (sNm x=nm))
def wiL (l:LLR) (k:Int) (nm:ByteArray) (ps:LLR):LLR:=genL (geS nm) (neS nm) (stA k nm ps) (decide ((ps.length:Int)=0)) l
structure WfI (ge ne:List AV→Bool) (s:List AV) (l R:LLR) (x:Int × Bool × LLR):Prop where
 flo:0≤x.1
 fhi:x.1≤l.length
 fl:(x.2.2.length:Int)≤2*x.1
 fe:x.2.2++genL ge ne s x.2.1 (l.drop x.1.toNat)=R
theorem genL_step {ge ne:List AV→Bool} {s:List AV} {d:Bool} {l:LLR} {i:Int} (h0:0≤i) (hi:i < l.length):genL ge ne s d (l.drop i.toNat)=(if (!d&&ge (l.getD i.toNat []))=true then [s] else [])++((if ne (l.getD i.toNat [])=true then [l.getD i.toNat []] else [])++genL ge ne s (d||ge (l.getD i.toNat [])) (l.drop (i+1).toNat)):=by
 have h:i.toNat < l.length:=by omega
 rw [gD_lt h,List.drop_eq_getElem_cons h,show (i+1).toNat=i.toNat+1 by omega]
 rfl
theorem wf_next {ge ne:List AV→Bool} {s:List AV} {l R:LLR} {i:Int} {d:Bool} {out:LLR} (h:WfI ge ne s l R (i,d,out)) (hi:i < l.length) {x:List AV} (hx:l.getD i.toNat []=x) {d':Bool} (hd:d'=(d||ge x)) {out':LLR}
  (ho:out'=out++((if (!d&&ge x)=true then [s] else [])++(if ne x=true then [x] else []))):WfI ge ne s l R (i+1,d',out'):=by
 obtain ⟨h0,h1,h2,h3⟩:=h
 simp only at h0 h1 h2 h3
 refine ⟨by simp only; omega,by simp only; omega,?_,?_⟩
 ·subst ho
  simp only [List.length_append]
  have a1:(if (!d&&ge x)=true then [s] else []).length≤1:=by split <;> simp
  have a2:(if ne x=true then [x] else []).length≤1:=by split <;> simp
  omega
 ·rw [← h3,genL_step h0 hi,hx]
  subst ho hd
  simp only [List.append_assoc]
theorem wf_end {ge ne:List AV→Bool} {s:List AV} {l R:LLR} {i:Int} {d:Bool} {out:LLR} (h:WfI ge ne s l R (i,d,out)) (hi:¬ i < l.length):(if d=true then out else out++[s])=R:=by
 have h3:=h.fe
 have h1:=h.fhi
 simp only at h3 h1
 rw [← h3,List.drop_eq_nil_of_le (by omega)]
 cases d <;> simp [genL]
def wf4 (l:LLR) (g h:Bool) (k:Int) (nm:ByteArray) (ps:LLR):LInv:=⟨Int × Bool × LLR,fun x=>⟨[(2,.ptr 2 0),(3,.ptr 3 0),(4,.ptr 4 0),(5,.ptr 5 0),(6,.bool x.2.1),(14,.sl 3 g l),(15,.int .i64 l.length),(16,.int .i64 x.1)],[(2,.cells [.sl 3 g l]),(3,.cells [.int .i64 k,.str nm,.sl 7 h ps]),(4,.cells [.nils]),(5,.cells [.rw 1501 3 x.2.2.length]),(1501,.row 59 3 x.2.2)]⟩,WfI (geS nm) (neS nm) (stA k nm ps) l (wiL l k nm ps),fun x=>(l.length - x.1).toNat,none⟩
def rwithF_s (wiL:LLR→Int→ByteArray→LLR→LLR):Sp
 | [.agg [.sl 3 g l],.agg [.int .i64 k,.str nm,.sl 7 false ps]]=>some (StsP l,.agg [.sl 3 false (wiL l k nm ps)])
 | _=>none
def rwithF_T (wiL':LLR→Int→ByteArray→LLR→LLR):Prop :=
  ∀ (gl:Glob) (l ps:List (List AV)) (g:Bool) (k:Int) (nm:ByteArray),StsP l→True∧True→(IR9 k)∧nm.size.le (9223372036854775807:Nat)∧True∧True→(∃ x,WfI (geS nm) (neS nm) (stA k nm ps) l (wiL l k nm ps) x∧((0:Nat)=0∧(0:Nat)=0∧(0:Nat)=0∧(0:Nat)=0∧decide ((↑ps.length:Int)=(0:Int))=x.snd.fst∧((bif g then g=true else
 True)∧l=l)∧(↑l.length:Int)=(↑l.length:Int)∧(0:Int)=x.fst∧True)∧(((bif g then g=true else True)∧l=l)∧True)∧(k=k∧nm=nm∧(True∧ps=ps)∧True)∧(True∧True)∧((0:Nat)=List.length x.snd.snd∧True)∧[]=x.snd.snd∧True)∧∀ (x:Int × Bool × LLR),WfI (geS nm) (neS nm) (stA k nm ps) l (wiL l k nm ps) x→bif decide (x.fst < (↑l.length:Int)) then bif decide (0≤x.fst∧x.fst <
 (↑l.length:Int)) then ∃ n s xs,List.take [AV.int .i64 n,.str s,.sl (7:Nat) false xs].length (l.getD x.fst.toNat [])=[AV.int .i64 n,.str s,.sl (7:Nat) false xs]∧bif !x.snd.fst then bif Op.bytesLess nm.toList s.toList||decide (nm=s) then bif decide (List.length x.snd.snd=List.length x.snd.snd∧List.length x.snd.snd+[[AV.int .i64 k,.str nm,.sl (7:Nat) false ps]].length ≤
 (9223372036854775807:Nat)∧(List.length x.snd.snd+[[AV.int .i64 k,.str nm,.sl (7:Nat) false ps]].length)*(48:Nat)≤(140737488355328:Nat)) then bif !decide (s=nm) then bif decide ((x.snd.snd++[[AV.int .i64 k,.str nm,.sl (7:Nat) false ps]]).length=(x.snd.snd++[[AV.int .i64 k,.str nm,.sl (7:Nat) false ps]]).length∧(x.snd.snd++[[AV.int .i64 k,.str nm,.sl (7:Nat) false ps]]).length+[[AV.int
 .i64 n,.str s,.sl (7:Nat) false xs]].length≤(9223372036854775807:Nat)∧((x.snd.snd++[[AV.int .i64 k,.str nm,.sl (7:Nat) false ps]]).length+[[AV.int .i64 n,.str s,.sl (7:Nat) false xs]].length)*(48:Nat)≤(140737488355328:Nat)) then bif decide (rng .i64 (x.fst+(1:Int))) then ∃ y,WfI (geS nm) (neS nm) (stA k nm ps) l (wiL l k nm ps) y∧(wf4 l g false k nm ps).m y <
 (wf4 l g false k nm ps).m x∧((0:Nat)=0∧(0:Nat)=0∧(0:Nat)=0∧(0:Nat)=0∧true=y.snd.fst∧((bif g then g=true else True)∧l=l)∧(↑l.length:Int)=(↑l.length:Int)∧x.fst+(1:Int)=y.fst∧True)∧(((bif g then g=true else True)∧l=l)∧True)∧(k=k∧nm=nm∧(True∧ps=ps)∧True)∧(True∧True)∧((x.snd.snd++[[AV.int .i64 k,.str nm,.sl (7:Nat) false ps]]++[[AV.int .i64 n,.str s,.sl (7:Nat) false xs]]).length=List.length
 y.snd.snd∧True)∧x.snd.snd++[[AV.int .i64 k,.str nm,.sl (7:Nat) false ps]]++[[AV.int .i64 n,.str s,.sl (7:Nat) false xs]]=y.snd.snd∧True else False else False else bif decide (rng .i64 (x.fst+(1:Int))) then ∃ y,WfI (geS nm) (neS nm) (stA k nm ps) l (wiL l k nm ps) y∧(wf4 l g false k nm ps).m y < (wf4 l g false k nm ps).m
 x∧((0:Nat)=0∧(0:Nat)=0∧(0:Nat)=0∧(0:Nat)=0∧true=y.snd.fst∧((bif g then g=true else True)∧l=l)∧(↑l.length:Int)=(↑l.length:Int)∧x.fst+(1:Int)=y.fst∧True)∧(((bif g then g=true else True)∧l=l)∧True)∧(k=k∧nm=nm∧(True∧ps=ps)∧True)∧(True∧True)∧((x.snd.snd++[[AV.int .i64 k,.str nm,.sl (7:Nat) false ps]]).length=List.length y.snd.snd∧True)∧x.snd.snd++[[AV.int .i64 k,.str nm,.sl (7:Nat) false
 ps]]=y.snd.snd∧True else False else False else bif !decide (s=nm) then bif decide (List.length x.snd.snd=List.length x.snd.snd∧List.length x.snd.snd+[[AV.int .i64 n,.str s,.sl (7:Nat) false xs]].length≤(9223372036854775807:Nat)∧(List.length x.snd.snd+[[AV.int .i64 n,.str s,.sl (7:Nat) false xs]].length)*(48:Nat)≤(140737488355328:Nat)) then bif decide (rng .i64 (x.fst+(1:Int))) then ∃
 y,WfI (geS nm) (neS nm) (stA k nm ps) l (wiL l k nm ps) y∧(wf4 l g false k nm ps).m y < (wf4 l g false k nm ps).m x∧((0:Nat)=0∧(0:Nat)=0∧(0:Nat)=0∧(0:Nat)=0∧x.snd.fst=y.snd.fst∧((bif g then g=true else True)∧l=l)∧(↑l.length:Int)=(↑l.length:Int)∧x.fst+(1:Int)=y.fst∧True)∧(((bif g then g=true else True)∧l=l)∧True)∧(k=k∧nm=nm∧(True∧ps=ps)∧True)∧(True∧True)∧((x.snd.snd ++
 [[AV.int .i64 n,.str s,.sl (7:Nat) false xs]]).length=List.length y.snd.snd∧True)∧x.snd.snd++[[AV.int .i64 n,.str s,.sl (7:Nat) false xs]]=y.snd.snd∧True else False else False else bif decide (rng .i64 (x.fst+(1:Int))) then ∃ y,WfI (geS nm) (neS nm) (stA k nm ps) l (wiL l k nm ps) y∧(wf4 l g false k nm ps).m y < (wf4 l g false k nm ps).m
 x∧((0:Nat)=0∧(0:Nat)=0∧(0:Nat)=0∧(0:Nat)=0∧x.snd.fst=y.snd.fst∧((bif g then g=true else True)∧l=l)∧(↑l.length:Int)=(↑l.length:Int)∧x.fst+(1:Int)=y.fst∧True)∧(((bif g then g=true else True)∧l=l)∧True)∧(k=k∧nm=nm∧(True∧ps=ps)∧True)∧(True∧True)∧(List.length x.snd.snd=List.length y.snd.snd∧True)∧x.snd.snd=y.snd.snd∧True else False else bif !decide (s=nm) then bif decide (List.length
 x.snd.snd=List.length x.snd.snd∧List.length x.snd.snd+[[AV.int .i64 n,.str s,.sl (7:Nat) false xs]].length≤(9223372036854775807:Nat)∧(List.length x.snd.snd+[[AV.int .i64 n,.str s,.sl (7:Nat) false xs]].length)*(48:Nat)≤(140737488355328:Nat)) then bif decide (rng .i64 (x.fst+(1:Int))) then ∃ y,WfI (geS nm) (neS nm) (stA k nm ps) l (wiL l k nm ps) y∧(wf4 l g
 false k nm ps).m y < (wf4 l g false k nm ps).m x∧((0:Nat)=0∧(0:Nat)=0∧(0:Nat)=0∧(0:Nat)=0∧x.snd.fst=y.snd.fst∧((bif g then g=true else True)∧l=l)∧(↑l.length:Int)=(↑l.length:Int)∧x.fst+(1:Int)=y.fst∧True)∧(((bif g then g=true else True)∧l=l)∧True)∧(k=k∧nm=nm∧(True∧ps=ps)∧True)∧(True∧True)∧((x.snd.snd++[[AV.int .i64 n,.str s,.sl (7:Nat) false xs]]).length=List.length y.snd.snd∧True)∧x.snd.snd ++
 [[AV.int .i64 n,.str s,.sl (7:Nat) false xs]]=y.snd.snd∧True else False else False else bif decide (rng .i64 (x.fst+(1:Int))) then ∃ y,WfI (geS nm) (neS nm) (stA k nm ps) l (wiL l k nm ps) y∧(wf4 l g false k nm ps).m y < (wf4 l g false k nm ps).m x∧((0:Nat)=0∧(0:Nat)=0∧(0:Nat)=0∧(0:Nat)=0∧x.snd.fst=y.snd.fst∧((bif g then g=true else
 True)∧l=l)∧(↑l.length:Int)=(↑l.length:Int)∧x.fst+(1:Int)=y.fst∧True)∧(((bif g then g=true else True)∧l=l)∧True)∧(k=k∧nm=nm∧(True∧ps=ps)∧True)∧(True∧True)∧(List.length x.snd.snd=List.length y.snd.snd∧True)∧x.snd.snd=y.snd.snd∧True else False else False else bif !x.snd.fst then bif decide (List.length x.snd.snd=List.length x.snd.snd∧List.length x.snd.snd+[[AV.int .i64 k,.str nm,.sl (7:Nat) false
 ps]].length≤(9223372036854775807:Nat)∧(List.length x.snd.snd+[[AV.int .i64 k,.str nm,.sl (7:Nat) false ps]].length)*(48:Nat)≤(140737488355328:Nat)) then bif decide ((x.snd.snd++[[AV.int .i64 k,.str nm,.sl (7:Nat) false ps]]).length=(x.snd.snd++[[AV.int .i64 k,.str nm,.sl (7:Nat) false ps]]).length) then (True∧x.snd.snd++[[AV.int .i64 k,.str nm,.sl (7:Nat) false ps]]=wiL' l k nm
 ps)∧True else False else False else bif decide (List.length x.snd.snd=List.length x.snd.snd) then (True∧x.snd.snd=wiL' l k nm ps)∧True else False
theorem rwithF_P:rwithF_T wiL:=by
 unfold rwithF_T
 intro gl l ps g k nm hl _ _
 have ll:=hl.fs
 have bg:cond g (g=true) True:=by cases g <;> trivial
 refine ⟨⟨(0,decide ((ps.length:Int)=0),[]),⟨by simp,by simp,by simp,by simp [wiL]⟩,by (repeat' (first | exact trivial | exact rfl | assumption | apply And.intro))⟩,?_⟩
 rintro ⟨i,d,out⟩ hw
 have i0:=hw.flo
 have ol:=hw.fl
 simp only at i0 ol
 dsimp only
 refine csx (fun hi=>cd1 (by omega) ?_) (fun hi=>?_)
 ·obtain ⟨k2,nm2,ps2,hr,hp2⟩:=hl.fr i.toNat (by omega)
  have nx:=@wf_next _ _ _ _ _ _ _ _ hw hi _ hr
  have i1:i+1≤l.length:=by omega
  refine ⟨k2,nm2,ps2,by rw [hr]; rfl,csplit (fun hd=>?_) (fun hd=>?_)⟩
  ·have hd:d=false:=by simpa using hd
   subst hd
   refine csplit (fun q=>?_) (fun q=>?_)
   ·have q':geS nm (stA k2 nm2 ps2)=true:=q
    refine cd1 ⟨rfl,by simp; omega,by simp; omega⟩ (csplit (fun q2=>?_) (fun q2=>?_))
    ·have q2':neS nm (stA k2 nm2 ps2)=true:=q2
     exact cd1 ⟨rfl,by simp; omega,by simp; omega⟩ (cdI (by omega) ⟨(i+1,true,out++[stA k nm ps]++[stA k2 nm2 ps2]),nx (by rw [q']; rfl) (by simp [q',q2']),by simp only [wf4]; omega,by (repeat' (first | exact trivial | exact rfl | assumption | apply And.intro))⟩)
    ·have q2':neS nm (stA k2 nm2 ps2)=false:=q2
     exact cdI (by omega) ⟨(i+1,true,out++[stA k nm ps]),nx (by rw [q']; rfl) (by simp [q',q2']),by simp only [wf4]; omega,by (repeat' (first | exact trivial | exact rfl | assumption | apply And.intro))⟩
   ·have q':geS nm (stA k2 nm2 ps2)=false:=q
    refine csplit (fun q2=>?_) (fun q2=>?_)
    ·have q2':neS nm (stA k2 nm2 ps2)=true:=q2
     exact cd1 ⟨rfl,by simp; omega,by simp; omega⟩ (cdI (by omega) ⟨(i+1,false,out++[stA k2 nm2 ps2]),nx (by rw [q']; rfl) (by simp [q',q2']),by simp only [wf4]; omega,by (repeat' (first | exact trivial | exact rfl | assumption | apply And.intro))⟩)
    ·have q2':neS nm (stA k2 nm2 ps2)=false:=q2
     exact cdI (by omega) ⟨(i+1,false,out),nx (by rw [q']; rfl) (by simp [q',q2']),by simp only [wf4]; omega,by (repeat' (first | exact trivial | exact rfl | assumption | apply And.intro))⟩
  ·have hd:d=true:=by simpa using hd
   subst hd
   refine csplit (fun q2=>?_) (fun q2=>?_)
   ·have q2':neS nm (stA k2 nm2 ps2)=true:=q2
    exact cd1 ⟨rfl,by simp; omega,by simp; omega⟩ (cdI (by omega) ⟨(i+1,true,out++[stA k2 nm2 ps2]),nx (by rfl) (by simp [q2']),by simp only [wf4]; omega,by (repeat' (first | exact trivial | exact rfl | assumption | apply And.intro))⟩)
   ·have q2':neS nm (stA k2 nm2 ps2)=false:=q2
    exact cdI (by omega) ⟨(i+1,true,out),nx (by rfl) (by simp [q2']),by simp only [wf4]; omega,by (repeat' (first | exact trivial | exact rfl | assumption | apply And.intro))⟩
 ·have he:=wf_end hw hi
  have i1:=hw.fhi
  simp only at i1
  refine csplit (fun hd=>?_) (fun hd=>?_)
  ·have hd:d=false:=by simpa using hd
   subst hd
   exact cd1 ⟨rfl,by simp; omega,by simp; omega⟩ (cd1 rfl ⟨⟨trivial,he⟩,trivial⟩)
  ·have hd:d=true:=by simpa using hd
   subst hd
   exact cd1 rfl ⟨⟨trivial,he⟩,trivial⟩
def rwithF_S (wiL:LLR→Int→ByteArray→LLR→LLR):Prop:=∀ (gl:Glob) (l ps:List (List AV)) (g:Bool) (k:Int) (nm:ByteArray),StsP l→fnK Tryz.prog { glob:=gl,spec:=lk [],specH:=lk [],shape:=[19],slz:=[(19,[7])],nowf:=true } { nt:=56,drop:=drp [(2,7680),(3,8192),(5,786432),(6,267386880),(7,33822867456),(9,515396075520),(10,69269232549888),(11,70368744177664),(12,140737488355328),(13,35465847065542656),(14,36028797018963968)],emp:=fun id=>cond (Nat.beq id 3) [(1000500,1501,59,3)] [] } (invs [(4,wf4 l g false k nm ps)]) 6 Tryz.f81 [.agg [.sl 3 g l],.agg [.int .i64 k,.str nm,.sl 7 false ps]] (.agg [.sl 3 false (wiL l k nm ps)])
theorem rwithF_e (wiL:LLR→Int→ByteArray→LLR→LLR):rwithF_T wiL=rwithF_S wiL:=by kernel_rfl
theorem rwithF_v:rwithF_S wiL:=Eq.mp (rwithF_e ..) (rwithF_P)
theorem rwithF_ok (gl:Glob):SOK Tryz.prog gl 81 (rwithF_s wiL):=by
 refine ⟨fok Tryz.func81 (by kernel_rfl) (by kernel_rfl),?_⟩
 intro xs pre r h hp
 unfold rwithF_s at h
 split at h
 ·simp only [Option.some.injEq,Prod.mk.injEq] at h
  obtain ⟨h1,h2⟩:=h
  subst h1 h2
  exact fnK_sound tyNil (by exact specOK rfl rfl trivial trivial) (by kernel_rfl) Tryz.func81 rfl (rwithF_v gl _ _ _ _ _ hp)
 ·cases h
def geP (fr:Int) (x:List AV):Bool:=decide (fr≤rE x)
def neP (fr:Int) (x:List AV):Bool:=decide (¬ rE x=fr)
def puL (ps:LLR) (fr:Int) (p:List AV):LLR:=genL (geP fr) (neP fr) p false ps
def reP (l:LLR) (nm:ByteArray) (fr:Int) (p:List AV):LLR:=puL (fiP l nm) fr p
def reL (l:LLR) (k:Int) (nm:ByteArray) (fr:Int) (p:List AV):LLR:=wiL l k nm (reP l nm fr p)
def reE (l:LLR) (k:Int) (nm:ByteArray) (fr:Int) (cl:Bool) (f a b c:Int) (bs:LLR):Int :=
 if rgV l≠0 then rgV l else if exK k=false then 4 else if nmOk nm=false then 3 else if pdV k fr cl f a b c bs=false then 1 else
 if fiB l nm=true∧fiK l nm≠k then 7 else if 60 < ((reL l k nm fr (pdA fr cl f a b c bs)).length:Int) then 2 else if 8 < ((reP l nm fr (pdA fr cl f a b c bs)).length:Int) then 2 else 0
def reO (l:LLR) (k:Int) (nm:ByteArray) (fr:Int) (cl:Bool) (f a b c:Int) (bs:LLR):LLR:=if reE l k nm fr cl f a b c bs=0 then reL l k nm fr (pdA fr cl f a b c bs) else []
def sf16 (l:LLR) (g:Bool) (k:Int) (nm:ByteArray) (fr:Int) (p:List AV) (ps0:LLR):LInv:=⟨Int × Bool × LLR,fun x=>⟨[(1,.int .i64 k),(2,.str nm),(4,.ptr 4 0),(7,.ptr 7 0),(8,.ptr 8 0),(13,.ptr 13 0),(14,.bool x.2.1),(55,.sl 7 false ps0),(56,.int .i64 ps0.length),(57,.int .i64 x.1)],[(4,.cells [.sl 3 g l]),(7,.cells p),(8,.cells [.nils]),(13,.cells [.int .i64 k,.str nm,.rw 1502 7 x.2.2.length]),(1502,.row 49 7 x.2.2)]⟩,WfI (geP fr) (neP fr) p ps0 (puL ps0 fr p),fun x=>(ps0.length - x.1).toNat,none⟩
theorem fiP_p {l:LLR} (hl:StsP l) (nm:ByteArray):PdsP (fiP l nm):=by
 unfold fiP
 split
 ·rename_i h
  rcases Nat.lt_or_ge (fiI l nm).toNat l.length with z | z
  ·obtain ⟨k,n,ps,hr,hp⟩:=hl.fr _ z
   rw [hr]; exact hp
  ·rw [List.getD_eq_getElem?_getD,List.getElem?_eq_none z]; exact pds_nil
 ·exact pds_nil
theorem re_err {l:LLR} {k:Int} {nm:ByteArray} {fr:Int} {cl:Bool} {f a b c:Int} {bs:LLR} {e:Int} (h:reE l k nm fr cl f a b c bs=e) (he:e≠0):(reO l k nm fr cl f a b c bs=[]∧True)∧e=reE l k nm fr cl f a b c bs∧True :=
 ⟨⟨if_neg (by rw [h]; exact he),trivial⟩,h.symm,trivial⟩
structure RsC (l:LLR) (k:Int) (nm:ByteArray) (fr:Int) (cl:Bool) (f a b c:Int) (bs:LLR) (x:Unit):Prop where
 h0:rgV l=0
 hE:reE l k nm fr cl f a b c bs=if 60 < ((reL l k nm fr (pdA fr cl f a b c bs)).length:Int) then 2 else if 8 < ((reP l nm fr (pdA fr cl f a b c bs)).length:Int) then 2 else 0
def sf13 (l:LLR) (g:Bool) (k:Int) (nm:ByteArray) (fr:Int) (cl:Bool) (f a b c:Int) (bs:LLR) (q:List AV):LInv:=⟨Unit,fun _=>⟨[(1,.int .i64 k),(2,.str nm),(4,.ptr 4 0),(7,.ptr 7 0),(8,.ptr 8 0),(11,.ptr 11 0)],[(4,.cells [.sl 3 g l]),(7,.cells (pdA fr cl f a b c bs)),(8,.cells [.nils]),(11,.cells q)]⟩,RsC l k nm fr cl f a b c bs,fun _=>0,none⟩
def sfJ (l:LLR) (g:Bool) (k:Int) (nm:ByteArray) (fr:Int) (cl:Bool) (f a b c:Int) (bs:LLR) (id:Nat) (st:St):Option LInv:=cond (Nat.beq id 16) (match lk st.tmps 55 with
 | some (.sl _ _ ps0)=>some (sf16 l g k nm fr (pdA fr cl f a b c bs) ps0)
 | _=>none) (cond (Nat.beq id 100013) (match lk st.heap 11 with
 | some (.cells q)=>some (sf13 l g k nm fr cl f a b c bs q)
 | _=>none) none)
def rsetF_s (pdV:Int→Int→Bool→Int→Int→Int→Int→LLR→Bool) (nmOk:ByteArray→Bool) (rgV:LLR→Int) (reE:LLR→Int→ByteArray→Int→Bool→Int→Int→Int→Int→LLR→Int) (reO:LLR→Int→ByteArray→Int→Bool→Int→Int→Int→Int→LLR→LLR) (wiL:LLR→Int→ByteArray→LLR→LLR) (fiK:LLR→ByteArray→Int) (fiN:LLR→ByteArray→ByteArray) (fiP:LLR→ByteArray→LLR) (fiB:LLR→ByteArray→Bool):Sp
 | [.agg [.sl 3 g l],.int .i64 k,.str nm,.agg [.int .i64 fr,.bool cl,.int .i64 f,.int .i64 a,.int .i64 b,.int .i64 c,.sl 2 false bs]]=>some (StsP l∧RdsP bs,.tup [.agg [.sl 3 false (reO l k nm fr cl f a b c bs)],.int .i64 (reE l k nm fr cl f a b c bs)])
 | _=>none
def rsetF_T (pdV:Int→Int→Bool→Int→Int→Int→Int→LLR→Bool) (nmOk:ByteArray→Bool) (rgV:LLR→Int) (reE:LLR→Int→ByteArray→Int→Bool→Int→Int→Int→Int→LLR→Int) (reO:LLR→Int→ByteArray→Int→Bool→Int→Int→Int→Int→LLR→LLR) (wiL:LLR→Int→ByteArray→LLR→LLR) (fiK:LLR→ByteArray→Int) (fiN:LLR→ByteArray→ByteArray) (fiP:LLR→ByteArray→LLR) (fiB:LLR→ByteArray→Bool) (nrm:Int→Int→Int→Int→Int × Int × Int × Int) (vld:Int→Int→Int→Int→Bool) (isN:Int→Int→Int→Int→Bool) (inB:Int→Bool) (bsOk:LLR→Bool):Prop :=
  ∀ (gl:Glob) (l bs:List (List AV)) (g cl:Bool) (k fr f a b c:Int) (nm:ByteArray),StsP l∧RdsP bs→True∧True→IR9 k→nm.size.le (9223372036854775807:Nat)→(IR9 fr)∧True∧(IR9 f)∧((-9223372036854775808:Int)≤a∧a ≤
 (9223372036854775807:Int))∧(IR9 b)∧(IR9 c)∧True∧True→StsP l∧bif decide ¬rgV l=(0:Int) then (reO l k nm fr cl f a b c bs=[]∧True)∧rgV l=reE l k nm fr cl f a b c bs∧True else True∧bif !decide (1≤k∧k≤(3:Int)) then (reO l k nm fr cl f a b c bs=[]∧True)∧(4:Int)=reE l k nm fr cl f a b c
 bs∧True else True∧bif !nmOk nm then (reO l k nm fr cl f a b c bs=[]∧True)∧(3:Int)=reE l k nm fr cl f a b c bs∧True else RdsP bs∧bif !pdV k fr cl f a b c bs then (reO l k nm fr cl f a b c bs=[]∧True)∧(1:Int)=reE l k nm fr cl f a b c bs∧True else StsP l∧(bif fiB l nm then bif decide ¬fiK l nm=k then (reO l k nm fr cl f a b c bs=[]∧True)∧(7:Int)=reE l k nm fr cl f a b c bs∧True else ∃ x,RsC l k nm fr
 cl f a b c bs x∧(k=k∧nm=nm∧(0:Nat)=0∧(0:Nat)=0∧(0:Nat)=0∧(0:Nat)=0∧True)∧(((bif g then g=true else True)∧l=l)∧True)∧(fr=fr∧cl=cl∧f=f∧a=a∧b=b∧c=c∧(True∧bs=bs)∧True)∧(True∧True)∧(fiK l nm=fiK l nm∧fiN l nm=fiN l nm∧(True∧fiP l nm=fiP l nm)∧True)∧True else ∃ x,RsC l k nm fr cl f a b c bs x∧(k=k∧nm=nm∧(0:Nat)=0∧(0:Nat)=0∧(0:Nat)=0∧(0:Nat)=0∧True)∧(((bif g then g=true else
 True)∧l=l)∧True)∧(fr=fr∧cl=cl∧f=f∧a=a∧b=b∧c=c∧(True∧bs=bs)∧True)∧(True∧True)∧(fiK l nm=fiK l nm∧fiN l nm=fiN l nm∧(True∧fiP l nm=fiP l nm)∧True)∧True)∧∀ (x:PUnit),RsC l k nm fr cl f a b c bs x→(∃ x,WfI (geP fr) (neP fr) (pdA fr cl f a b c bs) (fiP l nm) (puL (fiP l nm) fr (pdA fr cl f a b c bs)) x∧(k=k∧nm=nm∧(0:Nat)=0∧(0:Nat)=0∧(0:Nat)=0∧(0:Nat)=0∧false=x.snd.fst∧(True∧fiP l nm=fiP l
 nm)∧(↑(List.length (fiP l nm)):Int)=(↑(List.length (fiP l nm)):Int)∧(0:Int)=x.fst∧True)∧(((bif g then g=true else True)∧l=l)∧True)∧(fr=fr∧cl=cl∧f=f∧a=a∧b=b∧c=c∧(True∧bs=bs)∧True)∧(True∧True)∧(k=k∧nm=nm∧(0:Nat)=List.length x.snd.snd∧True)∧[]=x.snd.snd∧True)∧∀ (x:Int × Bool × LLR),WfI (geP fr) (neP fr) (pdA fr cl f a b c bs) (fiP l nm) (puL (fiP l nm) fr (pdA fr cl f a b c bs)) x→bif decide (x.fst
 < (↑(List.length (fiP l nm)):Int)) then bif decide (0≤x.fst∧x.fst < (↑(List.length (fiP l nm)):Int)) then ∃ n b_1 n_1 n_2 n_3 n_4 xs,List.take [AV.int .i64 n,.bool b_1,.int .i64 n_1,.int .i64 n_2,.int .i64 n_3,.int .i64 n_4,.sl (2:Nat) false xs].length (List.getD (fiP l nm) x.fst.toNat [])=[AV.int .i64 n,.bool b_1,.int .i64 n_1,.int .i64 n_2,.int .i64 n_3,.int .i64 n_4,.sl (2:Nat) false
 xs]∧bif !x.snd.fst then bif decide (fr≤n) then bif decide (List.length x.snd.snd=List.length x.snd.snd∧List.length x.snd.snd+[[AV.int .i64 fr,.bool cl,.int .i64 f,.int .i64 a,.int .i64 b,.int .i64 c,.sl (2:Nat) false bs]].length≤(9223372036854775807:Nat)∧(List.length x.snd.snd+[[AV.int .i64 fr,.bool cl,.int .i64 f,.int .i64 a,.int .i64 b,.int .i64 c,.sl (2:Nat) false bs]].length)*(72:Nat)
≤(140737488355328:Nat)) then bif decide ¬n=fr then bif decide ((x.snd.snd++[[AV.int .i64 fr,.bool cl,.int .i64 f,.int .i64 a,.int .i64 b,.int .i64 c,.sl (2:Nat) false bs]]).length=(x.snd.snd++[[AV.int .i64 fr,.bool cl,.int .i64 f,.int .i64 a,.int .i64 b,.int .i64 c,.sl (2:Nat) false bs]]).length∧(x.snd.snd++[[AV.int .i64 fr,.bool cl,.int .i64 f,.int .i64 a,.int .i64 b,.int .i64 c,.sl (2:Nat)
 false bs]]).length+[[AV.int .i64 n,.bool b_1,.int .i64 n_1,.int .i64 n_2,.int .i64 n_3,.int .i64 n_4,.sl (2:Nat) false xs]].length≤(9223372036854775807:Nat)∧((x.snd.snd++[[AV.int .i64 fr,.bool cl,.int .i64 f,.int .i64 a,.int .i64 b,.int .i64 c,.sl (2:Nat) false bs]]).length+[[AV.int .i64 n,.bool b_1,.int .i64 n_1,.int .i64 n_2,.int .i64 n_3,.int .i64 n_4,.sl (2:Nat) false xs]].length) *
 (72:Nat)≤(140737488355328:Nat)) then bif decide (rng .i64 (x.fst+(1:Int))) then ∃ y,WfI (geP fr) (neP fr) (pdA fr cl f a b c bs) (fiP l nm) (puL (fiP l nm) fr (pdA fr cl f a b c bs)) y∧(sf16 l g k nm fr (pdA fr cl f a b c bs) (fiP l nm)).m y < (sf16 l g k nm fr (pdA fr cl f a b c bs) (fiP l nm)).m x∧(k=k∧nm=nm∧(0:Nat)=0∧(0:Nat)=0∧(0:Nat)=0∧(0:Nat)=0∧true=y.snd.fst∧(True∧fiP l nm=fiP l
 nm)∧(↑(List.length (fiP l nm)):Int)=(↑(List.length (fiP l nm)):Int)∧x.fst+(1:Int)=y.fst∧True)∧(((bif g then g=true else True)∧l=l)∧True)∧(fr=fr∧cl=cl∧f=f∧a=a∧b=b∧c=c∧(True∧bs=bs)∧True)∧(True∧True)∧(k=k∧nm=nm∧(x.snd.snd++[[AV.int .i64 fr,.bool cl,.int .i64 f,.int .i64 a,.int .i64 b,.int .i64 c,.sl (2:Nat) false bs]]++[[AV.int .i64 n,.bool b_1,.int .i64 n_1,.int .i64 n_2,.int .i64 n_3,.int .i64
 n_4,.sl (2:Nat) false xs]]).length=List.length y.snd.snd∧True)∧x.snd.snd++[[AV.int .i64 fr,.bool cl,.int .i64 f,.int .i64 a,.int .i64 b,.int .i64 c,.sl (2:Nat) false bs]]++[[AV.int .i64 n,.bool b_1,.int .i64 n_1,.int .i64 n_2,.int .i64 n_3,.int .i64 n_4,.sl (2:Nat) false xs]]=y.snd.snd∧True else False else False else bif decide (rng .i64 (x.fst+(1:Int))) then ∃ y,WfI (geP fr) (neP fr) (pdA fr
 cl f a b c bs) (fiP l nm) (puL (fiP l nm) fr (pdA fr cl f a b c bs)) y∧(sf16 l g k nm fr (pdA fr cl f a b c bs) (fiP l nm)).m y < (sf16 l g k nm fr (pdA fr cl f a b c bs) (fiP l nm)).m x∧(k=k∧nm=nm∧(0:Nat)=0∧(0:Nat)=0∧(0:Nat)=0∧(0:Nat)=0∧true=y.snd.fst∧(True∧fiP l nm=fiP l nm)∧(↑(List.length (fiP l nm)):Int)=(↑(List.length (fiP l nm)):Int)∧x.fst+(1:Int)=y.fst∧True)∧(((bif g then g=true else
 True)∧l=l)∧True)∧(fr=fr∧cl=cl∧f=f∧a=a∧b=b∧c=c∧(True∧bs=bs)∧True)∧(True∧True)∧(k=k∧nm=nm∧(x.snd.snd++[[AV.int .i64 fr,.bool cl,.int .i64 f,.int .i64 a,.int .i64 b,.int .i64 c,.sl (2:Nat) false bs]]).length=List.length y.snd.snd∧True)∧x.snd.snd++[[AV.int .i64 fr,.bool cl,.int .i64 f,.int .i64 a,.int .i64 b,.int .i64 c,.sl (2:Nat) false bs]]=y.snd.snd∧True else False else False else bif decide
 ¬n=fr then bif decide (List.length x.snd.snd=List.length x.snd.snd∧List.length x.snd.snd+[[AV.int .i64 n,.bool b_1,.int .i64 n_1,.int .i64 n_2,.int .i64 n_3,.int .i64 n_4,.sl (2:Nat) false xs]].length≤(9223372036854775807:Nat)∧(List.length x.snd.snd+[[AV.int .i64 n,.bool b_1,.int .i64 n_1,.int .i64 n_2,.int .i64 n_3,.int .i64 n_4,.sl (2:Nat) false xs]].length)*(72:Nat) ≤
 (140737488355328:Nat)) then bif decide (rng .i64 (x.fst+(1:Int))) then ∃ y,WfI (geP fr) (neP fr) (pdA fr cl f a b c bs) (fiP l nm) (puL (fiP l nm) fr (pdA fr cl f a b c bs)) y∧(sf16 l g k nm fr (pdA fr cl f a b c bs) (fiP l nm)).m y < (sf16 l g k nm fr (pdA fr cl f a b c bs) (fiP l nm)).m x∧(k=k∧nm=nm∧(0:Nat)=0∧(0:Nat)=0∧(0:Nat)=0∧(0:Nat)=0∧x.snd.fst=y.snd.fst∧(True∧fiP l nm=fiP l
 nm)∧(↑(List.length (fiP l nm)):Int)=(↑(List.length (fiP l nm)):Int)∧x.fst+(1:Int)=y.fst∧True)∧(((bif g then g=true else True)∧l=l)∧True)∧(fr=fr∧cl=cl∧f=f∧a=a∧b=b∧c=c∧(True∧bs=bs)∧True)∧(True∧True)∧(k=k∧nm=nm∧(x.snd.snd++[[AV.int .i64 n,.bool b_1,.int .i64 n_1,.int .i64 n_2,.int .i64 n_3,.int .i64 n_4,.sl (2:Nat) false xs]]).length=List.length y.snd.snd∧True)∧x.snd.snd++[[AV.int .i64 n,.bool
 b_1,.int .i64 n_1,.int .i64 n_2,.int .i64 n_3,.int .i64 n_4,.sl (2:Nat) false xs]]=y.snd.snd∧True else False else False else bif decide (rng .i64 (x.fst+(1:Int))) then ∃ y,WfI (geP fr) (neP fr) (pdA fr cl f a b c bs) (fiP l nm) (puL (fiP l nm) fr (pdA fr cl f a b c bs)) y∧(sf16 l g k nm fr (pdA fr cl f a b c bs) (fiP l nm)).m y < (sf16 l g k nm fr (pdA fr cl f a b c bs) (fiP l nm)).m
 x∧(k=k∧nm=nm∧(0:Nat)=0∧(0:Nat)=0∧(0:Nat)=0∧(0:Nat)=0∧x.snd.fst=y.snd.fst∧(True∧fiP l nm=fiP l nm)∧(↑(List.length (fiP l nm)):Int)=(↑(List.length (fiP l nm)):Int)∧x.fst+(1:Int)=y.fst∧True)∧(((bif g then g=true else True)∧l=l)∧True)∧(fr=fr∧cl=cl∧f=f∧a=a∧b=b∧c=c∧(True∧bs=bs)∧True)∧(True∧True)∧(k=k∧nm=nm∧List.length x.snd.snd=List.length y.snd.snd∧True)∧x.snd.snd=y.snd.snd∧True else False else bif
 decide ¬n=fr then bif decide (List.length x.snd.snd=List.length x.snd.snd∧List.length x.snd.snd+[[AV.int .i64 n,.bool b_1,.int .i64 n_1,.int .i64 n_2,.int .i64 n_3,.int .i64 n_4,.sl (2:Nat) false xs]].length≤(9223372036854775807:Nat)∧(List.length x.snd.snd+[[AV.int .i64 n,.bool b_1,.int .i64 n_1,.int .i64 n_2,.int .i64 n_3,.int .i64 n_4,.sl (2:Nat) false xs]].length)*(72:Nat) ≤
 (140737488355328:Nat)) then bif decide (rng .i64 (x.fst+(1:Int))) then ∃ y,WfI (geP fr) (neP fr) (pdA fr cl f a b c bs) (fiP l nm) (puL (fiP l nm) fr (pdA fr cl f a b c bs)) y∧(sf16 l g k nm fr (pdA fr cl f a b c bs) (fiP l nm)).m y < (sf16 l g k nm fr (pdA fr cl f a b c bs) (fiP l nm)).m x∧(k=k∧nm=nm∧(0:Nat)=0∧(0:Nat)=0∧(0:Nat)=0∧(0:Nat)=0∧x.snd.fst=y.snd.fst∧(True∧fiP l nm=fiP l
 nm)∧(↑(List.length (fiP l nm)):Int)=(↑(List.length (fiP l nm)):Int)∧x.fst+(1:Int)=y.fst∧True)∧(((bif g then g=true else True)∧l=l)∧True)∧(fr=fr∧cl=cl∧f=f∧a=a∧b=b∧c=c∧(True∧bs=bs)∧True)∧(True∧True)∧(k=k∧nm=nm∧(x.snd.snd++[[AV.int .i64 n,.bool b_1,.int .i64 n_1,.int .i64 n_2,.int .i64 n_3,.int .i64 n_4,.sl (2:Nat) false xs]]).length=List.length y.snd.snd∧True)∧x.snd.snd++[[AV.int .i64 n,.bool
 b_1,.int .i64 n_1,.int .i64 n_2,.int .i64 n_3,.int .i64 n_4,.sl (2:Nat) false xs]]=y.snd.snd∧True else False else False else bif decide (rng .i64 (x.fst+(1:Int))) then ∃ y,WfI (geP fr) (neP fr) (pdA fr cl f a b c bs) (fiP l nm) (puL (fiP l nm) fr (pdA fr cl f a b c bs)) y∧(sf16 l g k nm fr (pdA fr cl f a b c bs) (fiP l nm)).m y < (sf16 l g k nm fr (pdA fr cl f a b c bs) (fiP l nm)).m
 x∧(k=k∧nm=nm∧(0:Nat)=0∧(0:Nat)=0∧(0:Nat)=0∧(0:Nat)=0∧x.snd.fst=y.snd.fst∧(True∧fiP l nm=fiP l nm)∧(↑(List.length (fiP l nm)):Int)=(↑(List.length (fiP l nm)):Int)∧x.fst+(1:Int)=y.fst∧True)∧(((bif g then g=true else True)∧l=l)∧True)∧(fr=fr∧cl=cl∧f=f∧a=a∧b=b∧c=c∧(True∧bs=bs)∧True)∧(True∧True)∧(k=k∧nm=nm∧List.length x.snd.snd=List.length y.snd.snd∧True)∧x.snd.snd=y.snd.snd∧True else False else False
 else bif !x.snd.fst then bif decide (List.length x.snd.snd=List.length x.snd.snd∧List.length x.snd.snd+[[AV.int .i64 fr,.bool cl,.int .i64 f,.int .i64 a,.int .i64 b,.int .i64 c,.sl (2:Nat) false bs]].length≤(9223372036854775807:Nat)∧(List.length x.snd.snd+[[AV.int .i64 fr,.bool cl,.int .i64 f,.int .i64 a,.int .i64 b,.int .i64 c,.sl (2:Nat) false bs]].length)*(72:Nat) ≤
 (140737488355328:Nat)) then bif decide ((x.snd.snd++[[AV.int .i64 fr,.bool cl,.int .i64 f,.int .i64 a,.int .i64 b,.int .i64 c,.sl (2:Nat) false bs]]).length=(x.snd.snd++[[AV.int .i64 fr,.bool cl,.int .i64 f,.int .i64 a,.int .i64 b,.int .i64 c,.sl (2:Nat) false bs]]).length) then StsP l∧bif decide ((60:Int) < (↑(List.length (wiL l k nm (x.snd.snd++[[AV.int .i64 fr,.bool cl,.int .i64 f,.int
 .i64 a,.int .i64 b,.int .i64 c,.sl (2:Nat) false bs]]))):Int)) then (reO l k nm fr cl f a b c bs=[]∧True)∧(2:Int)=reE l k nm fr cl f a b c bs∧True else bif decide ((x.snd.snd++[[AV.int .i64 fr,.bool cl,.int .i64 f,.int .i64 a,.int .i64 b,.int .i64 c,.sl (2:Nat) false bs]]).length=(x.snd.snd++[[AV.int .i64 fr,.bool cl,.int .i64 f,.int .i64 a,.int .i64 b,.int .i64 c,.sl (2:Nat) false
 bs]]).length) then bif decide ((8:Int) < (↑(x.snd.snd++[[AV.int .i64 fr,.bool cl,.int .i64 f,.int .i64 a,.int .i64 b,.int .i64 c,.sl (2:Nat) false bs]]).length:Int)) then (reO l k nm fr cl f a b c bs=[]∧True)∧(2:Int)=reE l k nm fr cl f a b c bs∧True else ((True∧wiL l k nm (x.snd.snd++[[AV.int .i64 fr,.bool cl,.int .i64 f,.int .i64 a,.int .i64 b,.int .i64 c,.sl (2:Nat) false bs]])=reO l k nm fr
 cl f a b c bs)∧True)∧(0:Int)=reE l k nm fr cl f a b c bs∧True else False else False else False else bif decide (List.length x.snd.snd=List.length x.snd.snd) then StsP l∧bif decide ((60:Int) < (↑(List.length (wiL l k nm x.snd.snd)):Int)) then (reO l k nm fr cl f a b c bs=[]∧True)∧(2:Int)=reE l k nm fr cl f a b c bs∧True else bif decide (List.length x.snd.snd=List.length x.snd.snd) then bif decide
 ((8:Int) < (↑(List.length x.snd.snd):Int)) then (reO l k nm fr cl f a b c bs=[]∧True)∧(2:Int)=reE l k nm fr cl f a b c bs∧True else ((True∧wiL l k nm x.snd.snd=reO l k nm fr cl f a b c bs)∧True)∧(0:Int)=reE l k nm fr cl f a b c bs∧True else False else False
theorem rsetF_P:rsetF_T pdV nmOk rgV reE reO wiL fiK fiN fiP fiB nrm vld isN inB bsOk:=by
 unfold rsetF_T
 intro gl l bs g cl k fr f a b c nm ⟨hl,hb⟩ _
 intros
 have bg:cond g (g=true) True:=by cases g <;> trivial
 have ll:=hl.fs
 have hE:reE l k nm fr cl f a b c bs=reE l k nm fr cl f a b c bs:=rfl
 conv at hE=>rhs; unfold reE
 refine ⟨hl,csx (fun q=>re_err (hE.trans (if_pos q)) q) (fun q=>?_)⟩
 rw [if_neg q] at hE
 have h0:=Decidable.not_not.1 q
 refine ⟨trivial,csplit (fun q2=>re_err (hE.trans (if_pos ((Bool.not_eq_true' _).mp q2))) (by decide)) (fun q2=>?_)⟩
 have q2:exK k=true:=(Bool.not_eq_false' _).mp q2
 rw [if_neg (by rw [q2]; decide)] at hE
 refine ⟨trivial,csplit (fun q3=>re_err (hE.trans (if_pos (by simpa using q3))) (by decide)) (fun q3=>?_)⟩
 rw [if_neg (by simpa using q3)] at hE
 refine ⟨hb,csplit (fun q4=>re_err (hE.trans (if_pos (by simpa using q4))) (by decide)) (fun q4=>?_)⟩
 rw [if_neg (by simpa using q4)] at hE
 refine ⟨hl,csplit (fun q5=>csx (fun q6=>re_err (hE.trans (if_pos ⟨q5,q6⟩)) (by decide)) (fun q6=>?_)) (fun q5=>?_),?_⟩
 ·rw [if_neg (fun z=>q6 z.2)] at hE
  exact ⟨(),⟨h0,hE⟩,by (repeat' (first | exact trivial | exact rfl | assumption | apply And.intro))⟩
 ·rw [if_neg (fun z=>by rw [q5] at z; cases z.1)] at hE
  exact ⟨(),⟨h0,hE⟩,by (repeat' (first | exact trivial | exact rfl | assumption | apply And.intro))⟩
 clear hE q q2 q3 q4
 rintro _ ⟨h0,hE⟩
 have hps:=fiP_p hl nm
 have lp:=hps.fs
 refine ⟨⟨(0,false,[]),⟨by simp,by simp,by simp,by simp [puL]⟩,by (repeat' (first | exact trivial | exact rfl | assumption | apply And.intro))⟩,?_⟩
 rintro ⟨i,d,out⟩ hw
 have i0:=hw.flo
 have ol:=hw.fl
 have i1:=hw.fhi
 simp only at i0 ol i1
 dsimp only
 have fin:∀ o:LLR,o=reP l nm fr (pdA fr cl f a b c bs)→cond (decide (o.length=o.length)) (StsP l∧cond (decide (60 < ((wiL l k nm o).length:Int))) ((reO l k nm fr cl f a b c bs=[]∧True)∧2=reE l k nm fr cl f a b c bs∧True) (cond (decide (o.length=o.length)) (cond (decide (8 < (o.length:Int))) ((reO l k nm fr cl f a b c bs=[]∧True)∧2=reE l k nm fr cl f a b c bs∧True) (((True∧wiL l k nm o=reO l k nm fr cl f a b c bs)∧True)∧0=reE l k nm fr cl f a b c bs∧True)) False)) False:=by
  intro o ho
  subst ho
  refine cd1 rfl ⟨hl,csx (fun z=>re_err (hE.trans (if_pos z)) (by decide)) (fun z=>cd1 rfl (csx (fun z2=>re_err (hE.trans ((if_neg z).trans (if_pos z2))) (by decide)) (fun z2=>?_)))⟩
  have h:=hE.trans ((if_neg z).trans (if_neg z2))
  exact ⟨⟨⟨trivial,by unfold reO; rw [if_pos h]; rfl⟩,trivial⟩,h.symm,trivial⟩
 refine csx (fun hi=>cd1 (by omega) ?_) (fun hi=>?_)
 ·obtain ⟨fr2,cl2,f2,a2,b2,c2,bs2,hr,hb2,hbl2⟩:=hps.fr i.toNat (by omega)
  have nx:=@wf_next _ _ _ _ _ _ _ _ hw hi _ hr
  refine ⟨fr2,cl2,f2,a2,b2,c2,bs2,by rw [hr]; rfl,csplit (fun hd=>?_) (fun hd=>?_)⟩
  ·have hd:d=false:=by simpa using hd
   subst hd
   refine csx (fun q=>?_) (fun q=>?_)
   ·have q':geP fr (pdA fr2 cl2 f2 a2 b2 c2 bs2)=true:=decide_eq_true q
    refine cd1 ⟨rfl,by simp; omega,by simp; omega⟩ (csx (fun q2=>?_) (fun q2=>?_))
    ·have q2':neP fr (pdA fr2 cl2 f2 a2 b2 c2 bs2)=true:=decide_eq_true q2
     exact cd1 ⟨rfl,by simp; omega,by simp; omega⟩ (cdI (by omega) ⟨(i+1,true,out++[pdA fr cl f a b c bs]++[pdA fr2 cl2 f2 a2 b2 c2 bs2]),nx (by rw [q']; rfl) (by simp [q',q2']),by simp only [sf16]; omega,by (repeat' (first | exact trivial | exact rfl | assumption | apply And.intro))⟩)
    ·have q2':neP fr (pdA fr2 cl2 f2 a2 b2 c2 bs2)=false:=decide_eq_false q2
     exact cdI (by omega) ⟨(i+1,true,out++[pdA fr cl f a b c bs]),nx (by rw [q']; rfl) (by simp [q',q2']),by simp only [sf16]; omega,by (repeat' (first | exact trivial | exact rfl | assumption | apply And.intro))⟩
   ·have q':geP fr (pdA fr2 cl2 f2 a2 b2 c2 bs2)=false:=decide_eq_false q
    refine csx (fun q2=>?_) (fun q2=>?_)
    ·have q2':neP fr (pdA fr2 cl2 f2 a2 b2 c2 bs2)=true:=decide_eq_true q2
     exact cd1 ⟨rfl,by simp; omega,by simp; omega⟩ (cdI (by omega) ⟨(i+1,false,out++[pdA fr2 cl2 f2 a2 b2 c2 bs2]),nx (by rw [q']; rfl) (by simp [q',q2']),by simp only [sf16]; omega,by (repeat' (first | exact trivial | exact rfl | assumption | apply And.intro))⟩)
    ·have q2':neP fr (pdA fr2 cl2 f2 a2 b2 c2 bs2)=false:=decide_eq_false q2
     exact cdI (by omega) ⟨(i+1,false,out),nx (by rw [q']; rfl) (by simp [q',q2']),by simp only [sf16]; omega,by (repeat' (first | exact trivial | exact rfl | assumption | apply And.intro))⟩
  ·have hd:d=true:=by simpa using hd
   subst hd
   refine csx (fun q2=>?_) (fun q2=>?_)
   ·have q2':neP fr (pdA fr2 cl2 f2 a2 b2 c2 bs2)=true:=decide_eq_true q2
    exact cd1 ⟨rfl,by simp; omega,by simp; omega⟩ (cdI (by omega) ⟨(i+1,true,out++[pdA fr2 cl2 f2 a2 b2 c2 bs2]),nx (by rfl) (by simp [q2']),by simp only [sf16]; omega,by (repeat' (first | exact trivial | exact rfl | assumption | apply And.intro))⟩)
   ·have q2':neP fr (pdA fr2 cl2 f2 a2 b2 c2 bs2)=false:=decide_eq_false q2
    exact cdI (by omega) ⟨(i+1,true,out),nx (by rfl) (by simp [q2']),by simp only [sf16]; omega,by (repeat' (first | exact trivial | exact rfl | assumption | apply And.intro))⟩
 ·have he:=wf_end hw hi
  refine csplit (fun hd=>?_) (fun hd=>?_)
  ·have hd:d=false:=by simpa using hd
   subst hd
   exact cd1 ⟨rfl,by simp; omega,by simp; omega⟩ (fin _ he)
  ·have hd:d=true:=by simpa using hd
   subst hd
   exact fin _ he
def rsetF_S (pdV:Int→Int→Bool→Int→Int→Int→Int→LLR→Bool) (nmOk:ByteArray→Bool) (rgV:LLR→Int) (reE:LLR→Int→ByteArray→Int→Bool→Int→Int→Int→Int→LLR→Int) (reO:LLR→Int→ByteArray→Int→Bool→Int→Int→Int→Int→LLR→LLR) (wiL:LLR→Int→ByteArray→LLR→LLR) (fiK:LLR→ByteArray→Int) (fiN:LLR→ByteArray→ByteArray) (fiP:LLR→ByteArray→LLR) (fiB:LLR→ByteArray→Bool) (nrm:Int→Int→Int→Int→Int × Int × Int × Int) (vld:Int→Int→Int→Int→Bool) (isN:Int→Int→Int→Int→Bool) (inB:Int→Bool) (bsOk:LLR→Bool):Prop:=∀ (gl:Glob) (l bs:List (List AV)) (g cl:Bool) (k fr f a b c:Int) (nm:ByteArray),StsP l∧RdsP bs→fnK Tryz.prog { glob:=gl,spec:=lk [(32,(rvalidF_s pdV nmOk rgV)),(51,rkind_s),(75,(rname_s nmOk)),(76,(rperiod_s nrm vld isN pdV inB bsOk)),(23,(rfindF_s fiK fiN fiP fiB)),(81,(rwithF_s wiL))],specH:=lk [],shape:=[60],slz:=[(60,[2])],nowf:=true } { nt:=111,drop:=drp [(1,786432),(2,1048576),(3,12582912),(4,50331648),(5,134217728),(6,805306368),(7,2147483648),(8,30064771072),(9,68719476736),(10,8658654068736),(11,554153860399104),(12,1125899906842624),(13,15762598695796736),(15,18014398509481984),(17,1729382256910270464),(18,587989967349491957760),(19,74377272105196912115712),(21,1133367955888714851287040),(22,152324653271443276012978176),(23,154742504910672534362390528),(24,309485009821345068724781056),(25,77990222474978957318644826112),(26,554597137599850363154807652352),(27,323884728358312612082407668973568),(28,649037107316853453566312041152512),(29,1298074214633706907132624082305024)],frz:=fun id=>cond (Nat.beq id 26) [1001502] [],emp:=fun id=>cond (Nat.beq id 15) [(1001302,1502,49,7)] [] } (sfJ l g k nm fr cl f a b c bs) 6 Tryz.f34 [.agg [.sl 3 g l],.int .i64 k,.str nm,.agg [.int .i64 fr,.bool cl,.int .i64 f,.int .i64 a,.int .i64 b,.int .i64 c,.sl 2 false bs]] (.tup [.agg [.sl 3 false (reO l k nm fr cl f a b c bs)],.int .i64 (reE l k nm fr cl f a b c bs)])
theorem rsetF_e (pdV:Int→Int→Bool→Int→Int→Int→Int→LLR→Bool) (nmOk:ByteArray→Bool) (rgV:LLR→Int) (reE:LLR→Int→ByteArray→Int→Bool→Int→Int→Int→Int→LLR→Int) (reO:LLR→Int→ByteArray→Int→Bool→Int→Int→Int→Int→LLR→LLR) (wiL:LLR→Int→ByteArray→LLR→LLR) (fiK:LLR→ByteArray→Int) (fiN:LLR→ByteArray→ByteArray) (fiP:LLR→ByteArray→LLR) (fiB:LLR→ByteArray→Bool) (nrm:Int→Int→Int→Int→Int × Int × Int × Int) (vld:Int→Int→Int→Int→Bool) (isN:Int→Int→Int→Int→Bool) (inB:Int→Bool) (bsOk:LLR→Bool):rsetF_T pdV nmOk rgV reE reO wiL fiK fiN fiP fiB nrm vld isN inB bsOk=rsetF_S pdV nmOk rgV reE reO wiL fiK fiN fiP fiB nrm vld isN inB bsOk:=by kernel_rfl
theorem rsetF_v:rsetF_S pdV nmOk rgV reE reO wiL fiK fiN fiP fiB nrm vld isN inB bsOk:=Eq.mp (rsetF_e ..) (rsetF_P)
theorem rsetF_ok (gl:Glob):SOK Tryz.prog gl 34 (rsetF_s pdV nmOk rgV reE reO wiL fiK fiN fiP fiB):=by
 refine ⟨fok Tryz.func34 (by kernel_rfl) (by kernel_rfl),?_⟩
 intro xs pre r h hp
 unfold rsetF_s at h
 split at h
 ·simp only [Option.some.injEq,Prod.mk.injEq] at h
  obtain ⟨h1,h2⟩:=h
  subst h1 h2
  exact fnK_sound tyNil (by exact specOK rfl rfl ⟨(rvalidF_ok gl),(rkind_ok gl),(rname_ok gl),(rperiod_ok gl),(rfindF_ok gl),(rwithF_ok gl),trivial⟩ trivial) (by kernel_rfl) Tryz.func34 rfl (rsetF_v gl _ _ _ _ _ _ _ _ _ _ _ hp)
 ·cases h
end Go.Proofs.YtldiagnbagpliaaGreatDoor
namespace Go.Proofs.YtldiagnbagpliaaGreatDoor
open Go
set_option linter.unusedVariables false
set_option linter.unusedSimpArgs false
def SrtQ (q:List AV→Int) (l:LLR):Prop:=l.Pairwise fun a b=>0≤q a→0 < q b
def genQ (q:List AV→Int) (s:List AV) (d:Bool) (l:LLR):LLR:=genL (fun x=>decide (0≤q x)) (fun x=>decide (q x≠0)) s d l
def insQ (q:List AV→Int) (l:LLR) (s:List AV):LLR:=l.take (fpI q l)++([s]++l.drop (fpI q l+cond (fpB q l) 1 0))
def outQ (q:List AV→Int) (l:LLR):LLR:=l.take (fpI q l)++l.drop (fpI q l+cond (fpB q l) 1 0)
theorem fpI_lt {q:List AV→Int} {x:List AV} {l:LLR} (h:q x < 0):fpI q (x::l)=fpI q l+1:=by
 unfold fpI; rw [List.findIdx_cons,decide_eq_false (by omega)]; rfl
theorem fpI_ge {q:List AV→Int} {x:List AV} {l:LLR} (h:¬ q x < 0):fpI q (x::l)=0:=by
 unfold fpI; rw [List.findIdx_cons,decide_eq_true (by omega)]; rfl
theorem fpB_lt {q:List AV→Int} {x:List AV} {l:LLR} (h:q x < 0):fpB q (x::l)=fpB q l:=by
 unfold fpB
 rw [fpI_lt h,List.length_cons]
 congr 1
 rw [Bool.eq_iff_iff]; simp
theorem fpB_ge {q:List AV→Int} {x:List AV} {l:LLR} (h:¬ q x < 0):fpB q (x::l)=decide (q x=0):=by
 unfold fpB
 rw [fpI_ge h,List.length_cons]
 simp
theorem genQ_pos {q:List AV→Int} {s:List AV}:∀ {l:LLR},(∀ y ∈ l,0 < q y)→genQ q s true l=l
 | [],_=>rfl
 | x::l,h=>by
  have hx:=h x (by simp)
  have ih:=genQ_pos (q:=q) (s:=s) (l:=l) (fun y hy=>h y (by simp [hy]))
  unfold genQ at ih ⊢
  unfold genL
  rw [decide_eq_true (show 0≤q x by omega),decide_eq_true (show q x≠0 by omega)]
  simp only [Bool.not_true,Bool.false_and,Bool.true_or,if_true,Bool.false_eq_true,if_false,List.nil_append]
  rw [ih]; rfl
theorem genQ_ins {q:List AV→Int} {s:List AV}:∀ {l:LLR},SrtQ q l→genQ q s false l=insQ q l s
 | [],_=>rfl
 | x::l,h=>by
  obtain ⟨h1,h2⟩:=List.pairwise_cons.1 h
  by_cases hx:q x < 0
  ·have ih:=genQ_ins (s:=s) h2
   unfold insQ at ih ⊢
   rw [fpI_lt hx,fpB_lt hx,List.take_succ_cons,show fpI q l+1+cond (fpB q l) 1 0=fpI q l+cond (fpB q l) 1 0+1 by omega,List.drop_succ_cons,List.cons_append,← ih]
   unfold genQ
   rw [genL,decide_eq_false (show ¬ 0≤q x by omega),decide_eq_true (show q x≠0 by omega)]
   rfl
  ·have ht:=genQ_pos (q:=q) (s:=s) (l:=l) (fun y hy=>h1 y hy (by omega))
   unfold insQ
   rw [fpI_ge hx,fpB_ge hx]
   unfold genQ at ht ⊢
   rw [genL,decide_eq_true (show 0≤q x by omega)]
   by_cases hz:q x=0
   ·rw [decide_eq_false (show ¬ q x≠0 by omega),decide_eq_true hz]
    simp only [Bool.not_false,Bool.true_and,Bool.or_true,Bool.false_or,if_true,Bool.false_eq_true,if_false,List.nil_append]
    rw [ht]; rfl
   ·rw [decide_eq_true hz,decide_eq_false hz]
    simp only [Bool.not_false,Bool.true_and,Bool.or_true,Bool.false_or,if_true,Bool.false_eq_true,if_false,List.nil_append]
    rw [ht]; rfl
theorem genQ_out {q:List AV→Int} {s:List AV}:∀ {l:LLR},SrtQ q l→genQ q s true l=outQ q l
 | [],_=>rfl
 | x::l,h=>by
  obtain ⟨h1,h2⟩:=List.pairwise_cons.1 h
  by_cases hx:q x < 0
  ·have ih:=genQ_out (s:=s) h2
   unfold outQ at ih ⊢
   rw [fpI_lt hx,fpB_lt hx,List.take_succ_cons,show fpI q l+1+cond (fpB q l) 1 0=fpI q l+cond (fpB q l) 1 0+1 by omega,List.drop_succ_cons,List.cons_append,← ih]
   unfold genQ
   rw [genL,decide_eq_true (show q x≠0 by omega)]
   simp
  ·have ht:=genQ_pos (q:=q) (s:=s) (l:=l) (fun y hy=>h1 y hy (by omega))
   unfold outQ
   rw [fpI_ge hx,fpB_ge hx]
   unfold genQ at ht ⊢
   rw [genL]
   by_cases hz:q x=0
   ·rw [decide_eq_false (show ¬ q x≠0 by omega),decide_eq_true hz]
    simp only [Bool.not_true,Bool.false_and,Bool.true_or,if_true,Bool.false_eq_true,if_false,List.nil_append]
    rw [ht]; rfl
   ·rw [decide_eq_true hz,decide_eq_false hz]
    simp only [Bool.not_true,Bool.false_and,Bool.true_or,if_true,Bool.false_eq_true,if_false,List.nil_append]
    rw [ht]; rfl
theorem fp_parts {q:List AV→Int}:∀ {l:LLR},SrtQ q l→(∀ x ∈ l.take (fpI q l),q x < 0)∧(∀ x ∈ l.drop (fpI q l+cond (fpB q l) 1 0),0 < q x)∧(fpB q l=true→fpI q l < l.length∧q (l.getD (fpI q l) [])=0)
 | [],_=>⟨by simp,by simp,fun h=>by simp [fpB] at h⟩
 | x::l,h=>by
  obtain ⟨h1,h2⟩:=List.pairwise_cons.1 h
  refine ⟨?_,?_,fun hb=>?_⟩
  ·by_cases hx:q x < 0
   ·rw [fpI_lt hx,List.take_succ_cons]
    intro y hy
    rcases List.mem_cons.1 hy with rfl | hy
    ·exact hx
    ·exact (fp_parts h2).1 y hy
   ·rw [fpI_ge hx]; simp
  ·by_cases hx:q x < 0
   ·rw [fpI_lt hx,fpB_lt hx,show fpI q l+1+cond (fpB q l) 1 0=fpI q l+cond (fpB q l) 1 0+1 by omega,List.drop_succ_cons]
    exact (fp_parts h2).2.1
   ·rw [fpI_ge hx,fpB_ge hx]
    intro y hy
    by_cases hz:q x=0
    ·rw [decide_eq_true hz] at hy
     exact h1 y hy (by omega)
    ·rw [decide_eq_false hz] at hy
     rcases List.mem_cons.1 hy with rfl | hy
     ·omega
     ·exact h1 y hy (by omega)
  ·unfold fpB at hb
   rw [Bool.and_eq_true] at hb
   exact ⟨of_decide_eq_true hb.1,of_decide_eq_true hb.2⟩
theorem insQ_len (q:List AV→Int) (l:LLR) (s:List AV):(insQ q l s).length=l.length+1 - cond (fpB q l) 1 0:=by
 have h:=fp_le q l
 unfold insQ
 cases hb:fpB q l with
 | false=>simp; omega
 | true =>
  have:fpI q l < l.length:=by unfold fpB at hb; rw [Bool.and_eq_true] at hb; exact of_decide_eq_true hb.1
  simp; omega
theorem set_ins {q:List AV→Int} {l:LLR} {s:List AV} (hb:fpB q l=true):l.set (fpI q l) s=insQ q l s:=by
 have:fpI q l < l.length:=by unfold fpB at hb; rw [Bool.and_eq_true] at hb; exact of_decide_eq_true hb.1
 unfold insQ
 rw [hb,List.set_eq_take_append_cons_drop,if_pos this]
 rfl
abbrev SnP (l:LLR):Prop:=l.Pairwise fun a b=>cmpS (sNm a) (sNm b) < 0
theorem sn_pw {l:LLR}:snO l=true↔SnP l:=by
 constructor
 ·intro h
  rw [SnP,List.pairwise_iff_getElem]
  intro i j hi hj hij
  have st:∀ (d i:Nat),i+d+1 < l.length→cmpS (sNm (l.getD i [])) (sNm (l.getD (i+d+1) [])) < 0:=by
   intro d
   induction d with
   | zero =>
    intro i hi
    rcases of_decide_eq_true h (i+1) hi with q | q
    ·omega
    ·exact cmpS_lt.2 (by simpa using q)
   | succ d ih =>
    intro i hi
    have h1:=ih i (by omega)
    rcases of_decide_eq_true h (i+d+1+1) (by omega) with q | q
    ·omega
    ·simp only [Nat.add_sub_cancel] at q
     rw [show i+(d+1)+1=i+d+1+1 by omega]
     exact cmpS_tr h1 (cmpS_lt.2 q)
  have:=st (j - i - 1) i (by omega)
  rw [show i+(j - i - 1)+1=j by omega,gD_lt hi,gD_lt hj] at this
  exact this
 ·intro h
  rw [SnP,List.pairwise_iff_getElem] at h
  refine decide_eq_true fun j hj=>?_
  by_cases hz:j=0
  ·exact .inl hz
  ·refine .inr ?_
   rw [gD_lt hj,gD_lt (show j - 1 < l.length by omega)]
   exact cmpS_lt.1 (h (j - 1) j (by omega) hj (by omega))
theorem cmpS_an (s t:ByteArray):cmpS t s=- cmpS s t:=by
 rw [← lex_nm0,← lex_nm0]; exact lexI_an _ _
theorem cmpS_z {s t:ByteArray}:cmpS s t=0↔s=t:=by
 constructor
 ·intro h
  rw [← lex_nm0] at h
  have h:=lexI_zero h
  exact str_inj (nmK_inj (x:=[]) (y:=[]) (s:=s.toList) (t:=t.toList) (by rw [h])).1
 ·rintro rfl
  rw [← lex_nm0]; exact lexI_rfl _
theorem sn_srt {l:LLR} (h:SnP l) (nm:ByteArray):SrtQ (qS nm) l:=by
 refine List.Pairwise.imp (fun {a b} hab=>?_) h
 intro ha
 have ha:0≤cmpS (sNm a) nm:=ha
 show 0 < cmpS (sNm b) nm
 rcases Int.lt_or_le 0 (cmpS (sNm b) nm) with z | z
 ·exact z
 ·exfalso
  have hlt:cmpS (sNm a) nm < 0:=by
   by_cases e:cmpS (sNm b) nm=0
   ·rw [cmpS_z] at e; rw [← e]; exact hab
   ·exact cmpS_tr hab (by omega)
  omega
theorem asc_srt {ps:LLR} (h:AscP ps) (t:Int):SrtQ (qP t) ps:=by
 refine List.Pairwise.imp (fun {a b} hab=>?_) h
 intro ha
 have ha:0≤cmpI (rE a) t:=ha
 show 0 < cmpI (rE b) t
 have hab:rE a < rE b:=hab
 have h1:¬ rE a < t:=fun z=>by have:=cmpI_lt.2 z; omega
 unfold cmpI
 rw [if_neg (by omega),if_pos (by omega)]
 decide
end Go.Proofs.YtldiagnbagpliaaGreatDoor
namespace Go.Proofs.YtldiagnbagpliaaGreatDoor
open Go
set_option linter.unusedVariables false
set_option linter.unusedSimpArgs false
theorem geS_q (nm:ByteArray):geS nm=fun x=>decide (0≤qS nm x):=by
 funext x
 unfold geS
 rw [Bool.eq_iff_iff,Bool.or_eq_true,decide_eq_true_eq,decide_eq_true_eq,← cmpS_lt]
 show _↔0≤cmpS (sNm x) nm
 have h:=cmpS_an (sNm x) nm
 constructor
 ·rintro (z | z)
  ·omega
  ·have:=cmpS_z.2 z; omega
 ·intro z
  by_cases e:cmpS (sNm x) nm=0
  ·exact .inr (cmpS_z.1 e).symm
  ·exact .inl (by omega)
theorem neS_q (nm:ByteArray):neS nm=fun x=>decide (qS nm x≠0):=by
 funext x
 unfold neS
 rw [Bool.eq_iff_iff]
 simp only [Bool.not_eq_true',decide_eq_false_iff_not,decide_eq_true_eq]
 show _↔cmpS (sNm x) nm≠0
 rw [Ne,cmpS_z]
theorem geP_q (fr:Int):geP fr=fun x=>decide (0≤qP fr x):=by
 funext x
 unfold geP
 rw [decide_eq_decide]
 show _↔0≤cmpI (rE x) fr
 have:=@cmpI_lt (rE x) fr
 constructor
 ·intro z; exact Int.not_lt.1 (fun h=>by have:=this.1 h; omega)
 ·intro z; exact Int.not_lt.1 (fun h=>by have:=this.2 h; omega)
theorem neP_q (fr:Int):neP fr=fun x=>decide (qP fr x≠0):=by
 funext x
 unfold neP
 rw [decide_eq_decide]
 show _↔cmpI (rE x) fr≠0
 rw [Ne,cmpI_z]
theorem wiL_ins {l:LLR} (h:SnP l) {k:Int} {nm:ByteArray} {ps:LLR} (hp:ps≠[]):wiL l k nm ps=insQ (qS nm) l (stA k nm ps):=by
 unfold wiL
 have:¬ (ps.length:Int)=0:=fun e=>hp (List.eq_nil_of_length_eq_zero (by omega))
 rw [decide_eq_false this,geS_q,neS_q]
 exact genQ_ins (sn_srt h nm)
theorem wiL_out {l:LLR} (h:SnP l) {k:Int} {nm:ByteArray}:wiL l k nm []=outQ (qS nm) l:=by
 unfold wiL
 rw [decide_eq_true (by rfl),geS_q,neS_q]
 exact genQ_out (sn_srt h nm)
theorem puL_ins {ps:LLR} (h:AscP ps) (fr:Int) (p:List AV):puL ps fr p=insQ (qP fr) ps p:=by
 unfold puL
 rw [geP_q,neP_q]
 exact genQ_ins (asc_srt h fr)
theorem setEl_all {l:LLR} {i:Nat} {p:List AV} (h:(l.getD i []).length=p.length):setEl l i 0 p=l.set i p:=by
 unfold setEl spl
 rw [List.take_zero,List.nil_append,Nat.zero_add,List.drop_of_length_le (by omega),List.append_nil]
theorem putP_ins {ps:LLR} (hp:PdsP ps) (fr:Int) (cl:Bool) (f a b c:Int) (bs:LLR):putP ps fr (pdA fr cl f a b c bs)=insQ (qP fr) ps (pdA fr cl f a b c bs):=by
 unfold putP
 split
 ·rename_i h
  have h':fpB (qP fr) ps=true:=h
  rw [← set_ins h']
  refine setEl_all ?_
  have hlt:pdN ps fr < ps.length:=by
   unfold fpB at h'; rw [Bool.and_eq_true] at h'; exact of_decide_eq_true h'.1
  obtain ⟨fr2,cl2,f2,a2,b2,c2,bs2,hr,_⟩:=hp.fr _ hlt
  rw [hr]; rfl
 ·rename_i h
  have h':fpB (qP fr) ps=false:=by
   have h:¬ fpB (qP fr) ps=true:=h
   simpa using h
  unfold insQ
  rw [h',← List.append_assoc]
  rfl
theorem insQ_ne (q:List AV→Int) (l:LLR) (s:List AV):insQ q l s≠[]:=by
 unfold insQ; simp
theorem seD_at {l:LLR} {nm:ByteArray} (hl:StsP l) (h:stH l nm=true):∃ (k:Int),l.getD (stN l nm) []=stA k nm (seD l nm)∧stN l nm < l.length:=by
 have hlt:=stH_lt h
 obtain ⟨k,n,ps,hr,_⟩:=hl.fr _ hlt
 have h2:qS nm (l.getD (stN l nm) [])=0:=by
  have:=h
  unfold stH fpB at this
  rw [Bool.and_eq_true] at this
  exact of_decide_eq_true this.2
 rw [hr] at h2
 have hn:n=nm:=cmpS_z.1 h2
 subst hn
 refine ⟨k,?_,hlt⟩
 rw [hr]
 unfold seD hoP
 rw [hr]; rfl
theorem setL_ins {l:LLR} (hl:StsP l) {k:Int} {nm:ByteArray} {fr:Int} {p:List AV} (hk:stH l nm=true→rE (l.getD (stN l nm) [])=k) :
  setL l k nm fr p=insQ (qS nm) l (stA k nm (if stH l nm=true then putP (seD l nm) fr p else [p])):=by
 unfold setL
 split
 ·rename_i h
  obtain ⟨k2,hr,hlt⟩:=seD_at hl h
  have h':fpB (qS nm) l=true:=h
  have hk2:k2=k:=by rw [← hk h,hr]; rfl
  subst hk2
  rw [← set_ins h']
  unfold setEl
  rw [hr]
  rfl
 ·rename_i h
  have h':fpB (qS nm) l=false:=by
   have h:¬ fpB (qS nm) l=true:=h
   simpa using h
  unfold insQ
  rw [h',List.append_assoc]
  rfl
theorem fi_st {l:LLR} (h:SnP l) (nm:ByteArray):fiB l nm=stH l nm∧(stH l nm=true→fiI l nm=(stN l nm:Nat)):=by
 obtain ⟨p1,p2,p3⟩:=fp_parts (sn_srt h nm)
 have hc:∀ x:List AV,cS nm x=decide (qS nm x=0):=fun x=>by
  unfold cS
  rw [decide_eq_decide]
  show _↔cmpS (sNm x) nm=0
  rw [cmpS_z]
 cases hs:stH l nm with
 | true =>
  obtain ⟨h1,h2⟩:=p3 hs
  have e:fiI l nm=(stN l nm:Nat):=(idx_some (p:=cS nm) (i:=stN l nm) h1 (by rw [hc]; exact decide_eq_true h2) (fun j hj=>by
   rw [hc]
   have:=p1 (l.getD j []) (by
    have hj':j < fpI (qS nm) l:=hj
    have hjl:j < l.length:=Nat.lt_of_lt_of_le hj' (fp_le _ _)
    rw [gD_lt hjl]
    exact List.mem_iff_getElem.2 ⟨j,by rw [List.length_take]; omega,by rw [List.getElem_take]⟩)
   exact decide_eq_false (by omega))).symm
  exact ⟨by unfold fiB; rw [e]; exact decide_eq_true (by omega),fun _=>e⟩
 | false =>
  have hb:fpB (qS nm) l=false:=hs
  rw [hb] at p2
  have e:fiI l nm=-1:=(idx_none fun j hj=>by
   rw [hc]
   rcases Nat.lt_or_ge j (fpI (qS nm) l) with z | z
   ·have:=p1 (l.getD j []) (by rw [gD_lt hj]; exact List.mem_iff_getElem.2 ⟨j,by rw [List.length_take]; omega,by rw [List.getElem_take]⟩)
    exact decide_eq_false (by omega)
   ·have:=p2 (l.getD j []) (by
     rw [gD_lt hj]
     refine List.mem_iff_getElem.2 ⟨j - fpI (qS nm) l,by rw [List.length_drop]; simp only [cond_false]; omega,?_⟩
     rw [List.getElem_drop]
     congr 1
     simp only [cond_false]; omega)
    exact decide_eq_false (by omega)).symm
  exact ⟨by unfold fiB; rw [e]; rfl,fun h=>by cases h⟩
theorem fi_all {l:LLR} (h:SnP l) (nm:ByteArray):(fiP l nm=if stH l nm=true then seD l nm else [])∧(stH l nm=true→fiK l nm=rE (l.getD (stN l nm) [])):=by
 obtain ⟨h1,h2⟩:=fi_st h nm
 constructor
 ·unfold fiP
  rw [h1]
  split
  ·rename_i hs; rw [h2 hs,Int.toNat_natCast]; rfl
  ·rfl
 ·intro hs
  unfold fiK
  rw [h1,if_pos hs,h2 hs,Int.toNat_natCast]
theorem re_eq {l:LLR} (hl:StsP l) (k:Int) (nm:ByteArray) (fr:Int) (cl:Bool) (f a b c:Int) (bs:LLR) :
  reE l k nm fr cl f a b c bs=setE l k nm fr cl f a b c bs∧reO l k nm fr cl f a b c bs=setO l k nm fr cl f a b c bs:=by
 by_cases h0:rgV l=0
 ·have hz:=rg_zero hl h0
  obtain ⟨l60,p8⟩:=rg_len h0
  have hs:=sn_pw.1 hz.fs
  obtain ⟨f1,f2⟩:=fi_all hs nm
  obtain ⟨g1,g2⟩:=fi_st hs nm
  have hD:stH l nm=true→PdsP (seD l nm)∧AscP (seD l nm)∧(seD l nm).length≤8:=fun h=>by
   have hlt:=stH_lt h
   obtain ⟨k2,n2,ps2,hr,hp2⟩:=hl.fr _ hlt
   have e:seD l nm=ps2:=by unfold seD hoP; rw [hr]; rfl
   have ha:=hz.fa _ hlt
   rw [hr] at ha
   exact ⟨e ▸ hp2,e ▸ asc_pw.1 ha,p8 _ hlt⟩
  have eR:reP l nm fr (pdA fr cl f a b c bs)=if stH l nm=true then putP (seD l nm) fr (pdA fr cl f a b c bs) else [pdA fr cl f a b c bs]:=by
   unfold reP
   rw [f1]
   split
   ·rename_i h
    rw [puL_ins (hD h).2.1,putP_ins (hD h).1]
   ·rfl
  have eN:reP l nm fr (pdA fr cl f a b c bs)≠[]:=by
   rw [eR]
   split
   ·rename_i h
    rw [putP_ins (hD h).1]; exact insQ_ne _ _ _
   ·simp
  have eL:reL l k nm fr (pdA fr cl f a b c bs)=insQ (qS nm) l (stA k nm (reP l nm fr (pdA fr cl f a b c bs))):=wiL_ins hs eN
  have eE:reE l k nm fr cl f a b c bs=setE l k nm fr cl f a b c bs:=by
   unfold reE setE
   split
   ·rfl
   ·split
    ·rfl
    ·split
     ·rfl
     ·split
      ·rfl
      ·rw [eL,insQ_len,eR,g1]
       cases h:stH l nm with
       | true =>
        have h':fpB (qS nm) l=true:=h
        rw [h',f2 h]
        obtain ⟨d1,d2,d3⟩:=hD h
        simp only [if_true,true_and,cond_true]
        by_cases hk:rE (l.getD (stN l nm) [])=k
        ·have n7:¬ (rE (l.getD (stN l nm) [])≠k):=fun z=>z hk
         have n60:¬ 60 < ((l.length+1 - 1:Nat):Int):=by omega
         rw [if_neg n7,if_neg n7,if_neg n60,putP_ins d1,insQ_len]
         cases hh:pdH (seD l nm) fr with
         | true =>
          have hh':fpB (qP fr) (seD l nm)=true:=hh
          have n8:¬ 8 < (((seD l nm).length+1 - 1:Nat):Int):=by omega
          rw [hh']
          simp only [if_true,cond_true]
          rw [if_neg n8]
         | false =>
          have hh':fpB (qP fr) (seD l nm)=false:=hh
          rw [hh']
          simp only [Bool.false_eq_true,if_false,cond_false,Nat.sub_zero]
          by_cases z:8≤((seD l nm).length:Int)
          ·rw [if_pos z,if_pos (show 8 < (((seD l nm).length+1:Nat):Int) by omega)]
          ·rw [if_neg z,if_neg (show ¬ 8 < (((seD l nm).length+1:Nat):Int) by omega)]
        ·have y7:rE (l.getD (stN l nm) [])≠k:=hk
         rw [if_pos y7,if_pos y7]
       | false =>
        have h':fpB (qS nm) l=false:=h
        rw [h']
        simp only [Bool.false_eq_true,false_and,if_false,cond_false,Nat.sub_zero]
        by_cases z:60≤(l.length:Int)
        ·rw [if_pos z,if_pos (show 60 < ((l.length+1:Nat):Int) by omega)]
        ·rw [if_neg z,if_neg (show ¬ 60 < ((l.length+1:Nat):Int) by omega)]
         rfl
  refine ⟨eE,?_⟩
  unfold reO setO
  rw [eE]
  split
  ·rename_i he
   rw [eL,eR]
   refine (setL_ins hl fun h=>?_).symm
   unfold setE at he
   rw [if_neg (fun z=>z h0)] at he
   repeat' split at he
   all_goals first
    | (exact absurd he (by decide))
    | (rename_i q _ _ _ _ ; exact Decidable.not_not.1 (by assumption))
    | skip
   all_goals (first | exact Decidable.not_not.1 (by assumption) | (exfalso; rename_i q; exact q h) | skip)
  ·rfl
 ·have e1:reE l k nm fr cl f a b c bs=rgV l:=if_pos h0
  have e2:setE l k nm fr cl f a b c bs=rgV l:=if_pos h0
  refine ⟨e1.trans e2.symm,?_⟩
  unfold reO setO
  rw [e1,e2,if_neg h0,if_neg h0]
end Go.Proofs.YtldiagnbagpliaaGreatDoor
namespace Go.Proofs.YtldiagnbagpliaaGreatDoor
open Go
set_option linter.unusedVariables false
set_option linter.unusedSimpArgs false
structure GoodR (r:List AV):Prop where
 g1:p1R r=false
 g2:p2R r=false
 g3:p3R r=false
 g4:p4R r=false
 g5:p5R r=false
theorem rgV_iff {l:LLR}:rgV l=0↔l.length≤60∧(∀ r ∈ l,GoodR r)∧SnP l:=by
 have an:∀ (p:List AV→Bool),l.any p=false↔∀ r ∈ l,p r=false:=fun p=>by rw [List.any_eq_false]; simp
 constructor
 ·intro h
  have h60:=(rg_len h).1
  unfold rgV at h
  by_cases q1:60 < (l.length:Int)∨l.any p1R=true
  ·rw [if_pos q1] at h; cases h
  rw [if_neg q1] at h
  by_cases q2:l.any p2R=true
  ·rw [if_pos q2] at h; cases h
  rw [if_neg q2] at h
  by_cases q3:l.any p3R=true
  ·rw [if_pos q3] at h; cases h
  rw [if_neg q3] at h
  by_cases q4:l.any p4R=true
  ·rw [if_pos q4] at h; cases h
  rw [if_neg q4] at h
  by_cases q5:l.any p5R=true
  ·rw [if_pos q5] at h; cases h
  rw [if_neg q5] at h
  by_cases q6:snO l=true
  ·have q1':¬ l.any p1R=true:=fun z=>q1 (.inr z)
   exact ⟨h60,fun r hr=>⟨(an p1R).1 (by simpa using q1') r hr,(an p2R).1 (by simpa using q2) r hr,(an p3R).1 (by simpa using q3) r hr,(an p4R).1 (by simpa using q4) r hr,(an p5R).1 (by simpa using q5) r hr⟩,sn_pw.1 q6⟩
  ·rw [if_neg q6] at h; cases h
 ·rintro ⟨h60,hg,hs⟩
  have a1:=(an p1R).2 fun r hr=>(hg r hr).g1
  have a2:=(an p2R).2 fun r hr=>(hg r hr).g2
  have a3:=(an p3R).2 fun r hr=>(hg r hr).g3
  have a4:=(an p4R).2 fun r hr=>(hg r hr).g4
  have a5:=(an p5R).2 fun r hr=>(hg r hr).g5
  unfold rgV
  rw [a1,a2,a3,a4,a5,sn_pw.2 hs,if_neg (by simp; omega)]
  rfl
theorem insQ_mem {q:List AV→Int} {l:LLR} {s r:List AV} (h:r ∈ insQ q l s):r=s∨r ∈ l:=by
 unfold insQ at h
 rcases List.mem_append.1 h with h | h
 ·exact .inr (List.mem_of_mem_take h)
 ·rcases List.mem_append.1 h with h | h
  ·exact .inl (List.mem_singleton.1 h)
  ·exact .inr (List.mem_of_mem_drop h)
theorem ins_pw {R:List AV→List AV→Prop} {q:List AV→Int} {l:LLR} {s:List AV} (hR:l.Pairwise R) (hs:SrtQ q l) (h1:∀ x,q x < 0→R x s) (h2:∀ x,0 < q x→R s x) (tr:∀ x y,q x < 0→0 < q y→R x y):(insQ q l s).Pairwise R:=by
 obtain ⟨p1,p2,_⟩:=fp_parts hs
 unfold insQ
 rw [List.pairwise_append,List.pairwise_append]
 refine ⟨hR.sublist (List.take_sublist _ _),⟨List.pairwise_singleton _ _,hR.sublist (List.drop_sublist _ _),fun a ha b hb=>?_⟩,fun a ha b hb=>?_⟩
 ·rw [List.mem_singleton.1 ha]; exact h2 b (p2 b hb)
 ·rcases List.mem_append.1 hb with hb | hb
  ·rw [List.mem_singleton.1 hb]; exact h1 a (p1 a ha)
  ·exact tr a b (p1 a ha) (p2 b hb)
theorem ins_sn {l:LLR} (h:SnP l) {nm:ByteArray} {s:List AV} (hs:sNm s=nm):SnP (insQ (qS nm) l s):=by
 refine ins_pw h (sn_srt h nm) (fun x hx=>?_) (fun x hx=>?_) (fun x y hx hy=>?_)
 ·show cmpS (sNm x) (sNm s) < 0
  rw [hs]; exact hx
 ·show cmpS (sNm s) (sNm x) < 0
  rw [hs,cmpS_an]
  have:0 < cmpS (sNm x) nm:=hx
  omega
 ·have h2:0 < cmpS (sNm y) nm:=hy
  exact cmpS_tr (show cmpS (sNm x) nm < 0 from hx) (by rw [cmpS_an]; omega)
theorem qP_lt {t:Int} {x:List AV}:qP t x < 0↔rE x < t:=cmpI_lt
theorem qP_gt {t:Int} {x:List AV}:0 < qP t x↔t < rE x:=by
 have h1:=@cmpI_lt (rE x) t
 have h2:=@cmpI_z (rE x) t
 show 0 < cmpI (rE x) t↔_
 constructor
 ·intro h
  rcases Int.lt_or_le t (rE x) with z | z
  ·exact z
  ·rcases Int.lt_or_le (rE x) t with w | w
   ·have:=h1.2 w; omega
   ·have:=h2.2 (by omega); omega
 ·intro h
  rcases Int.lt_or_le 0 (cmpI (rE x) t) with z | z
  ·exact z
  ·by_cases e:cmpI (rE x) t=0
   ·have:=h2.1 e; omega
   ·have:=h1.1 (by omega); omega
theorem qP_z {t:Int} {x:List AV}:qP t x=0↔rE x=t:=cmpI_z
theorem ins_asc {ps:LLR} (h:AscP ps) {fr:Int} {p:List AV} (hp:rE p=fr):AscP (insQ (qP fr) ps p):=by
 refine ins_pw h (asc_srt h fr) (fun x hx=>?_) (fun x hx=>?_) (fun x y hx hy=>?_)
 ·show rE x < rE p; rw [hp]; exact qP_lt.1 hx
 ·show rE p < rE x; rw [hp]; exact qP_gt.1 hx
 ·show rE x < rE y
  have:=qP_lt.1 hx
  have:=qP_gt.1 hy
  omega
theorem mem_gD {l:LLR} {r:List AV} (h:r ∈ l):∃ i,i < l.length∧l.getD i []=r:=by
 obtain ⟨i,hi,e⟩:=List.mem_iff_getElem.1 h
 exact ⟨i,hi,by rw [gD_lt hi]; exact e⟩
theorem gD_mem {l:LLR} {i:Nat} (h:i < l.length):l.getD i [] ∈ l:=by rw [gD_lt h]; exact List.getElem_mem h
def newP (l:LLR) (nm:ByteArray) (fr:Int) (p:List AV):LLR:=if stH l nm=true then putP (seD l nm) fr p else [p]
theorem pds_mem {ps:LLR} (h:∀ r ∈ ps,∃ (fr:Int) (cl:Bool) (f a b c:Int) (bs:LLR),r=pdA fr cl f a b c bs∧RdsP bs∧bs.length≤1000) (hl:ps.length≤1000000):PdsP ps :=
 ⟨fun i hi=>h _ (gD_mem hi),hl⟩
theorem sts_mem {l:LLR} (h:∀ r ∈ l,∃ (k:Int) (nm:ByteArray) (ps:LLR),r=stA k nm ps∧PdsP ps) (hl:l.length≤1000000):StsP l :=
 ⟨fun i hi=>h _ (gD_mem hi),hl⟩
theorem mem_pds {ps:LLR} (h:PdsP ps) {r:List AV} (hr:r ∈ ps):∃ (fr:Int) (cl:Bool) (f a b c:Int) (bs:LLR),r=pdA fr cl f a b c bs∧RdsP bs∧bs.length≤1000:=by
 obtain ⟨i,hi,e⟩:=mem_gD hr
 rw [← e]; exact h.fr i hi
theorem mem_sts {l:LLR} (h:StsP l) {r:List AV} (hr:r ∈ l):∃ (k:Int) (nm:ByteArray) (ps:LLR),r=stA k nm ps∧PdsP ps:=by
 obtain ⟨i,hi,e⟩:=mem_gD hr
 rw [← e]; exact h.fr i hi
structure SetOk (l:LLR) (k:Int) (nm:ByteArray) (fr:Int) (cl:Bool) (f a b c:Int) (bs:LLR):Prop where
 h0:rgV l=0
 hk:exK k=true
 hn:nmOk nm=true
 hp:pdV k fr cl f a b c bs=true
 hs:stH l nm=true→rE (l.getD (stN l nm) [])=k∧(pdH (seD l nm) fr=true∨(seD l nm).length < 8)
 hf:stH l nm=false→l.length < 60
theorem set_ok {l:LLR} {k:Int} {nm:ByteArray} {fr:Int} {cl:Bool} {f a b c:Int} {bs:LLR} (he:setE l k nm fr cl f a b c bs=0):SetOk l k nm fr cl f a b c bs:=by
 unfold setE at he
 by_cases q1:rgV l≠0
 ·rw [if_pos q1] at he; exact absurd he q1
 rw [if_neg q1] at he
 by_cases q2:exK k=false
 ·rw [if_pos q2] at he; cases he
 rw [if_neg q2] at he
 by_cases q3:nmOk nm=false
 ·rw [if_pos q3] at he; cases he
 rw [if_neg q3] at he
 by_cases q4:pdV k fr cl f a b c bs=false
 ·rw [if_pos q4] at he; cases he
 rw [if_neg q4] at he
 refine ⟨Decidable.not_not.1 q1,by simpa using q2,by simpa using q3,by simpa using q4,fun h=>?_,fun h=>?_⟩
 ·rw [if_pos h] at he
  by_cases q5:rE (l.getD (stN l nm) [])≠k
  ·rw [if_pos q5] at he; cases he
  rw [if_neg q5] at he
  refine ⟨Decidable.not_not.1 q5,?_⟩
  by_cases q6:pdH (seD l nm) fr=true
  ·exact .inl q6
  ·rw [if_neg q6] at he
   by_cases q7:8≤((seD l nm).length:Int)
   ·rw [if_pos q7] at he; cases he
   ·exact .inr (by omega)
 ·rw [if_neg (by rw [h]; decide)] at he
  by_cases q5:60≤(l.length:Int)
  ·rw [if_pos q5] at he; cases he
  ·omega
structure SetR (l q:LLR) (k:Int) (nm:ByteArray) (fr:Int) (p:List AV):Prop where
 fp:StsP q
 f0:rgV q=0
 fe:q=insQ (qS nm) l (stA k nm (newP l nm fr p))
 fn:newP l nm fr p=(if stH l nm=true then insQ (qP fr) (seD l nm) p else [p])
 fa:AscP (newP l nm fr p)
 fd:PdsP (newP l nm fr p)
theorem set_valid {l:LLR} (hl:StsP l) {k:Int} {nm:ByteArray} {fr:Int} {cl:Bool} {f a b c:Int} {bs:LLR} (hb:RdsP bs) (hbl:bs.length≤1000) (he:setE l k nm fr cl f a b c bs=0) :
  SetR l (setO l k nm fr cl f a b c bs) k nm fr (pdA fr cl f a b c bs):=by
 have ok:=set_ok he
 obtain ⟨l60,hg,hs⟩:=rgV_iff.1 ok.h0
 have hz:=rg_zero hl ok.h0
 have hD:stH l nm=true→PdsP (seD l nm)∧AscP (seD l nm)∧(seD l nm).length≤8∧stA k nm (seD l nm) ∈ l:=fun h=>by
  obtain ⟨k2,hr,hlt⟩:=seD_at hl h
  obtain ⟨k3,n3,ps3,hr3,hp3⟩:=hl.fr _ hlt
  have e:seD l nm=ps3:=by unfold seD hoP; rw [hr3]; rfl
  have ha:=hz.fa _ hlt
  rw [hr3] at ha
  have hk2:k2=k:=by rw [← (ok.hs h).1,hr]; rfl
  exact ⟨e ▸ hp3,e ▸ asc_pw.1 ha,(rg_len ok.h0).2 _ hlt,by rw [← hk2,← hr]; exact gD_mem hlt⟩
 have eN:newP l nm fr (pdA fr cl f a b c bs)=if stH l nm=true then insQ (qP fr) (seD l nm) (pdA fr cl f a b c bs) else [pdA fr cl f a b c bs]:=by
  unfold newP
  split
  ·rename_i h; exact putP_ins (hD h).1 _ _ _ _ _ _ _
  ·rfl
 have fa:AscP (newP l nm fr (pdA fr cl f a b c bs)):=by
  rw [eN]
  split
  ·rename_i h; exact ins_asc (hD h).2.1 rfl
  ·exact List.pairwise_singleton _ _
 have mm:∀ r ∈ newP l nm fr (pdA fr cl f a b c bs),r=pdA fr cl f a b c bs∨(stH l nm=true∧r ∈ seD l nm):=by
  rw [eN]
  intro r hr
  split at hr
  ·rename_i h
   rcases insQ_mem hr with e | e
   ·exact .inl e
   ·exact .inr ⟨h,e⟩
  ·exact .inl (List.mem_singleton.1 hr)
 have ln:(newP l nm fr (pdA fr cl f a b c bs)).length≤8∧(newP l nm fr (pdA fr cl f a b c bs)).length≠0:=by
  rw [eN]
  split
  ·rename_i h
   refine ⟨?_,fun z=>insQ_ne _ _ _ (List.eq_nil_of_length_eq_zero z)⟩
   rw [insQ_len]
   have:=(hD h).2.2.1
   rcases (ok.hs h).2 with z | z
   ·have z:fpB (qP fr) (seD l nm)=true:=z
    rw [z]; simp only [cond_true]; omega
   ·omega
  ·simp
 have fd:PdsP (newP l nm fr (pdA fr cl f a b c bs)):=by
  refine pds_mem (fun r hr=>?_) (by omega)
  rcases mm r hr with e | ⟨h,e⟩
  ·exact ⟨_,_,_,_,_,_,_,e,hb,hbl⟩
  ·exact mem_pds (hD h).1 e
 have fe:setO l k nm fr cl f a b c bs=insQ (qS nm) l (stA k nm (newP l nm fr (pdA fr cl f a b c bs))):=by
  unfold setO
  rw [if_pos he]
  exact setL_ins hl fun h=>(ok.hs h).1
 have good:GoodR (stA k nm (newP l nm fr (pdA fr cl f a b c bs))):=by
  refine ⟨?_,?_,?_,?_,?_⟩
  ·show s1B (newP l nm fr (pdA fr cl f a b c bs))=false
   unfold s1B
   rw [decide_eq_false ln.2,decide_eq_false (by omega)]; rfl
  ·show (!(exK k))=false
   rw [ok.hk]; rfl
  ·show (!(nmOk nm))=false
   rw [ok.hn]; rfl
  ·show (newP l nm fr (pdA fr cl f a b c bs)).any (bdP k)=false
   rw [List.any_eq_false]
   intro r hr z
   rcases mm r hr with e | ⟨h,e⟩
   ·subst e
    have:bdP k (pdA fr cl f a b c bs)=!(pdV k fr cl f a b c bs):=rfl
    rw [this,ok.hp] at z; cases z
   ·have hb4:=(hg _ (hD h).2.2.2).g4
    have hb4:(seD l nm).any (bdP k)=false:=hb4
    exact absurd z (by rw [List.any_eq_false] at hb4; exact hb4 r e)
  ·show (!(ascB (newP l nm fr (pdA fr cl f a b c bs))))=false
   rw [asc_pw.2 fa]; rfl
 have hlen:(setO l k nm fr cl f a b c bs).length≤60:=by
  rw [fe,insQ_len]
  cases h:stH l nm with
  | true =>
   have h':fpB (qS nm) l=true:=h
   rw [h']; simp only [cond_true]; omega
  | false=>have:=ok.hf h; omega
 refine ⟨?_,?_,fe,eN,fa,fd⟩
 ·refine sts_mem (fun r hr=>?_) (by omega)
  rw [fe] at hr
  rcases insQ_mem hr with e | e
  ·exact ⟨_,_,_,e,fd⟩
  ·exact mem_sts hl e
 ·refine rgV_iff.2 ⟨hlen,fun r hr=>?_,?_⟩
  ·rw [fe] at hr
   rcases insQ_mem hr with e | e
   ·rw [e]; exact good
   ·exact hg r e
  ·rw [fe]; exact ins_sn hs rfl
end Go.Proofs.YtldiagnbagpliaaGreatDoor
namespace Go.Proofs.YtldiagnbagpliaaGreatDoor
open Go
set_option linter.unusedVariables false
set_option linter.unusedSimpArgs false
def begT (t:Int) (r:List AV):Bool:=decide (rE r≤t)
def lst (ps:LLR) (t:Int):Option (List AV):=(ps.filter (begT t)).getLast?
theorem fil_all {p:List AV→Bool} {l:LLR} (h:∀ x ∈ l,p x=true):l.filter p=l:=List.filter_eq_self.2 h
theorem fil_no {p:List AV→Bool} {l:LLR} (h:∀ x ∈ l,p x=false):l.filter p=[]:=by
 rw [List.filter_eq_nil_iff]
 intro x hx z
 rw [h x hx] at z; cases z
theorem parts_eq (q:List AV→Int) (l:LLR) (hb:fpB q l=true) (hi:fpI q l < l.length):l=l.take (fpI q l)++([l.getD (fpI q l) []]++l.drop (fpI q l+1)):=by
 conv=>lhs; rw [← List.take_append_drop (fpI q l) l]
 rw [List.drop_eq_getElem_cons hi,gD_lt hi]
 rfl
theorem fil_ps {ps:LLR} (h:AscP ps) (t:Int):ps.filter (begT t)=ps.take (fpI (qP t) ps+cond (fpB (qP t) ps) 1 0):=by
 obtain ⟨p1,p2,p3⟩:=fp_parts (asc_srt h t)
 have f1:(ps.take (fpI (qP t) ps)).filter (begT t)=ps.take (fpI (qP t) ps):=fil_all fun x hx=>decide_eq_true (by have:=qP_lt.1 (p1 x hx); omega)
 have f2:(ps.drop (fpI (qP t) ps+cond (fpB (qP t) ps) 1 0)).filter (begT t)=[]:=fil_no fun x hx=>decide_eq_false (by have:=qP_gt.1 (p2 x hx); omega)
 cases hb:fpB (qP t) ps with
 | false =>
  rw [hb] at f2
  conv=>lhs; rw [← List.take_append_drop (fpI (qP t) ps) ps]
  rw [List.filter_append,f1]
  have e:fpI (qP t) ps+cond false 1 0=fpI (qP t) ps:=rfl
  rw [e] at f2 ⊢
  rw [f2,List.append_nil]
 | true =>
  rw [hb] at f2
  obtain ⟨h1,h2⟩:=p3 hb
  have e:fpI (qP t) ps+cond true 1 0=fpI (qP t) ps+1:=rfl
  rw [e] at f2 ⊢
  have hx:begT t (ps.getD (fpI (qP t) ps) [])=true:=decide_eq_true (by have:=qP_z.1 h2; omega)
  conv=>lhs; rw [parts_eq _ ps hb h1]
  rw [List.filter_append,List.filter_append,f1,f2,List.append_nil,List.filter_cons_of_pos hx,List.filter_nil,List.take_add_one,List.getElem?_eq_getElem h1,gD_lt h1]
  rfl
theorem at_lst {ps:LLR} (h:AscP ps) (t:Int):atB ps t=(lst ps t).isSome∧atR ps t=(lst ps t).getD pzR:=by
 have hle:=fp_le (qP t) ps
 have p3:=(fp_parts (asc_srt h t)).2.2
 have hK:atK ps t=((fpI (qP t) ps+cond (fpB (qP t) ps) 1 0:Nat):Int) - 1:=by
  unfold atK pdH pdN
  cases fpB (qP t) ps with
  | true=>simp
  | false=>simp
 have hm:fpI (qP t) ps+cond (fpB (qP t) ps) 1 0≤ps.length:=by
  cases hb:fpB (qP t) ps with
  | true=>have:=(p3 hb).1; show fpI (qP t) ps+1≤ps.length; omega
  | false=>exact hle
 have hL:lst ps t=(ps.take (fpI (qP t) ps+cond (fpB (qP t) ps) 1 0)).getLast?:=by unfold lst; rw [fil_ps h]
 generalize fpI (qP t) ps+cond (fpB (qP t) ps) 1 0=M at *
 have hB:atB ps t=decide (1≤M):=by unfold atB; rw [hK,decide_eq_decide]; omega
 by_cases hM:1≤M
 ·have e:lst ps t=some (ps.getD (M - 1) []):=by
   rw [hL,List.getLast?_eq_getElem?,List.length_take,Nat.min_eq_left hm,List.getElem?_take,if_pos (by omega),gD_lt (by omega),List.getElem?_eq_getElem]
  refine ⟨by rw [hB,e,decide_eq_true hM]; rfl,?_⟩
  unfold atR
  rw [hB,if_pos (decide_eq_true hM),e,hK,show ((M:Nat):Int) - 1=((M - 1:Nat):Int) by omega,Int.toNat_natCast]
  rfl
 ·have e:lst ps t=none:=by
   rw [hL,show M=0 by omega]; rfl
  refine ⟨by rw [hB,e,decide_eq_false hM]; rfl,?_⟩
  unfold atR
  rw [hB,if_neg (by rw [decide_eq_false hM]; decide),e]
  rfl
theorem lst_ins {ps:LLR} (h:AscP ps) {fr:Int} {p:List AV} (hp:rE p=fr) (t:Int):(t < fr→lst (insQ (qP fr) ps p) t=lst ps t)∧(t=fr→lst (insQ (qP fr) ps p) t=some p):=by
 obtain ⟨p1,p2,p3⟩:=fp_parts (asc_srt h fr)
 have fM:t≤fr→(ps.drop (fpI (qP fr) ps+cond (fpB (qP fr) ps) 1 0)).filter (begT t)=[]:=fun ht=>fil_no fun x hx=>decide_eq_false (by have:=qP_gt.1 (p2 x hx); omega)
 constructor
 ·intro ht
  have hs:begT t p=false:=decide_eq_false (by omega)
  unfold lst insQ
  rw [List.filter_append,List.filter_append,fM (by omega),List.filter_cons_of_neg (by rw [hs]; decide),List.filter_nil,List.append_nil,List.append_nil]
  congr 1
  cases hb:fpB (qP fr) ps with
  | false =>
   have f2:=fM (by omega)
   rw [hb] at f2
   conv=>rhs; rw [← List.take_append_drop (fpI (qP fr) ps) ps]
   have e:fpI (qP fr) ps+cond false 1 0=fpI (qP fr) ps:=rfl
   rw [e] at f2
   rw [List.filter_append,f2,List.append_nil]
  | true =>
   have f2:=fM (by omega)
   rw [hb] at f2
   obtain ⟨h1,h2⟩:=p3 hb
   have e:fpI (qP fr) ps+cond true 1 0=fpI (qP fr) ps+1:=rfl
   rw [e] at f2
   have hx:begT t (ps.getD (fpI (qP fr) ps) [])=false:=decide_eq_false (by have:=qP_z.1 h2; omega)
   conv=>rhs; rw [parts_eq _ ps hb h1]
   rw [List.filter_append,List.filter_append,f2,List.filter_cons_of_neg (by rw [hx]; decide),List.filter_nil,List.append_nil,List.append_nil]
 ·intro ht
  have hs:begT t p=true:=decide_eq_true (by omega)
  unfold lst insQ
  rw [List.filter_append,List.filter_append,fM (by omega),List.filter_cons_of_pos hs,List.filter_nil,List.append_nil,List.getLast?_append]
  rfl
theorem st_mem {q:LLR} (h:SnP q) {r:List AV} (hr:r ∈ q):stH q (sNm r)=true∧q.getD (stN q (sNm r)) []=r:=by
 obtain ⟨i,hi,e⟩:=mem_gD hr
 have hz:qS (sNm r) (q.getD i [])=0:=by rw [e]; exact cmpS_z.2 rfl
 have hp:=h
 rw [SnP,List.pairwise_iff_getElem] at hp
 have hN:stN q (sNm r)=i:=fp_uniq (q:=qS (sNm r)) (Nat.le_of_lt hi) (fun j hj=>by
  have:=hp j i (by omega) hi hj
  rw [gD_lt (by omega)]
  show cmpS (sNm q[j]) (sNm r) < 0
  rw [← e,gD_lt hi]; exact this) (fun _=>by rw [hz]; decide)
 refine ⟨?_,by rw [hN]; exact e⟩
 unfold stH fpB
 rw [show fpI (qS (sNm r)) q=i from hN,decide_eq_true hi,decide_eq_true hz]; rfl
theorem ap_row {q:LLR} (h:SnP q) {k:Int} {n:ByteArray} {ps:LLR} (hr:stA k n ps ∈ q) (t:Int):apI q n t=atB ps t∧apP q n t=atR ps t∧stH q n=true∧q.getD (stN q n) []=stA k n ps:=by
 obtain ⟨h1,h2⟩:=st_mem h hr
 have h1:stH q n=true:=h1
 have h2:q.getD (stN q n) []=stA k n ps:=h2
 refine ⟨?_,?_,h1,h2⟩
 ·unfold apI; rw [h1,h2]; rfl
 ·unfold apP; rw [if_pos h1,h2]; rfl
theorem ap_none {q:LLR} {n:ByteArray} (h:stH q n=false) (t:Int):apI q n t=false∧apP q n t=pzR :=
 ⟨by unfold apI; rw [h]; rfl,by unfold apP; rw [if_neg (by rw [h]; decide)]⟩
theorem self_insQ (q:List AV→Int) (l:LLR) (s:List AV):s ∈ insQ q l s:=by
 unfold insQ; simp
theorem SetR.same {l q:LLR} {k:Int} {nm:ByteArray} {fr:Int} {p:List AV} (h:SetR l q k nm fr p) (t:Int):apI q nm t=atB (newP l nm fr p) t∧apP q nm t=atR (newP l nm fr p) t∧stH q nm=true∧q.getD (stN q nm) []=stA k nm (newP l nm fr p) :=
 ap_row (rgV_iff.1 h.f0).2.2 (by rw [h.fe]; exact self_insQ _ _ _) t
theorem SetR.at {l q:LLR} {k:Int} {nm:ByteArray} {fr:Int} {p:List AV} (h:SetR l q k nm fr p) (hl:StsP l) (h0:rgV l=0) (hp:rE p=fr) (t:Int):(t < fr→apI q nm t=apI l nm t∧apP q nm t=apP l nm t)∧(t=fr→apI q nm t=true∧apP q nm t=p):=by
 obtain ⟨s1,s2,_⟩:=h.same t
 have hs:=(rgV_iff.1 h0).2.2
 obtain ⟨n1,n2⟩:=at_lst h.fa t
 rw [s1,s2,n1,n2,h.fn]
 cases e:stH l nm with
 | true =>
  obtain ⟨k2,hr,hlt⟩:=seD_at hl e
  have ha:=(rg_zero hl h0).fa _ hlt
  rw [hr] at ha
  have ha:AscP (seD l nm):=asc_pw.1 ha
  obtain ⟨a1,a2,_⟩:=ap_row hs (show stA k2 nm (seD l nm) ∈ l by rw [← hr]; exact gD_mem hlt) t
  obtain ⟨m1,m2⟩:=at_lst ha t
  obtain ⟨l1,l2⟩:=lst_ins ha hp t
  rw [if_pos rfl,a1,a2,m1,m2]
  exact ⟨fun ht=>by rw [l1 ht]; exact ⟨rfl,rfl⟩,fun ht=>by rw [l2 ht]; exact ⟨rfl,rfl⟩⟩
 | false =>
  obtain ⟨a1,a2⟩:=ap_none e t
  rw [if_neg (by decide),a1,a2]
  constructor
  ·intro ht
   have:lst [p] t=none:=by
    unfold lst
    rw [List.filter_cons_of_neg (by unfold begT; rw [decide_eq_false (by omega)]; decide)]; rfl
   rw [this]; exact ⟨rfl,rfl⟩
  ·intro ht
   have:lst [p] t=some p:=by
    unfold lst
    rw [List.filter_cons_of_pos (by unfold begT; rw [decide_eq_true (by omega)])]; rfl
   rw [this]; exact ⟨rfl,rfl⟩
end Go.Proofs.YtldiagnbagpliaaGreatDoor
namespace Go.Proofs.YtldiagnbagpliaaGreatDoor
open Go
set_option linter.unusedVariables false
set_option linter.unusedSimpArgs false
structure BisP (bs:LLR) (n:Int):Prop where
 fr:∀ i,i < bs.length→∃ e v:Int,bs.getD i []=[.int .i64 e,.int .i64 v]∧(1≤e∧e < n)∧-1000≤v∧v≤1000
 fa:∀ i j:Nat,i < j→j < bs.length→rE (bs.getD i []) < rE (bs.getD j [])
 fl:(bs.length:Int) < n
theorem bis_nil {n:Int} (h:0 < n):BisP [] n:=⟨fun i h=>by simp at h,fun i j _ h=>by simp at h,by simpa using h⟩
theorem bis_up {bs:LLR} {n:Int} (h:BisP bs n):BisP bs (n+1):=⟨fun i hi=>by obtain ⟨e,v,h1,h2,h3⟩:=h.fr i hi; exact ⟨e,v,h1,by omega,h3⟩,h.fa,by have:=h.fl; omega⟩
theorem bis_add {bs:LLR} {n v:Int} (h:BisP bs n) (hn:1≤n) (hv:-1000≤v∧v≤1000):BisP (bs++[[.int .i64 n,.int .i64 v]]) (n+1):=by
 refine ⟨fun i hi=>?_,fun i j hij hj=>?_,by have:=h.fl; simp; omega⟩
 ·rw [List.length_append,List.length_singleton] at hi
  rw [gD_app]
  by_cases q:i < bs.length
  ·rw [if_pos q]; obtain ⟨e,w,h1,h2,h3⟩:=h.fr i q; exact ⟨e,w,h1,by omega,h3⟩
  ·rw [if_neg q,show i - bs.length=0 by omega]; exact ⟨n,v,rfl,by omega,hv⟩
 ·rw [List.length_append,List.length_singleton] at hj
  rw [gD_app,gD_app,if_pos (show i < bs.length by omega)]
  by_cases q:j < bs.length
  ·rw [if_pos q]; exact h.fa i j hij q
  ·rw [if_neg q,show j - bs.length=0 by omega]
   obtain ⟨e,w,h1,h2,_⟩:=h.fr i (by omega)
   rw [h1]; exact h2.2
theorem BisP.p {bs:LLR} {n:Int} (h:BisP bs n) (hn:n≤12):RdsP bs∧bs.length≤11∧bsOk bs=true:=by
 have hl:=h.fl
 refine ⟨⟨fun i hi=>?_,by omega⟩,by omega,decide_eq_true fun i hi=>?_⟩
 ·obtain ⟨e,v,h1,h2,h3⟩:=h.fr i hi
  refine ⟨e,v,h1,?_,?_⟩ <;> (show _∧_; omega)
 ·obtain ⟨e,v,h1,h2,h3⟩:=h.fr i hi
  unfold bsX
  have e1:rE (bs.getD i [])=e:=by rw [h1]; rfl
  have e2:rV (bs.getD i [])=v:=by rw [h1]; rfl
  rw [e1,e2,decide_eq_false (show ¬ 1000 < v by omega),decide_eq_false (show ¬ v < -1000 by omega)]
  have hok:okC e=true:=by unfold okC; exact decide_eq_true (by omega)
  rw [hok]
  by_cases hz:0 < i
  ·have:=h.fa (i - 1) i (by omega) hi
   rw [e1] at this
   rw [decide_eq_false (show ¬ e≤rE (bs.getD (i - 1) []) by omega)]; simp
  ·rw [decide_eq_false hz]; rfl
structure PrvQ (k fr:Int) (cl:Bool) (f a b c:Int) (bs:LLR) (j:Int):Prop where
 fv:pdV k fr cl f a b c bs=true
 fr:RdsP bs
 fl:bs.length≤11
 fj:0≤j
def plOk (k f a b c:Int):Bool:=if k=1 then isN f a b c else nonP f a b c
structure PrvP (k:Int) (x:Int × Int × Int × Int × Int × Int × Int × LLR):Prop where
 fc:1≤x.2.2.2.2.2.1∧x.2.2.2.2.2.1≤12
 fj:0≤x.2.2.2.2.2.2.1
 fb:BisP x.2.2.2.2.2.2.2 x.2.2.2.2.2.1
 ft:0≤x.1∧x.1≤52595999
 fp:plOk k x.2.1 x.2.2.1 x.2.2.2.1 x.2.2.2.2.1=true
def prvI (xs:List (List AV)) (k:Int):LInv:=⟨Int × Int × Int × Int × Int × Int × Int × LLR,fun x=>⟨[(0,.ptr 0 0),(6,.ptr 1006 0),(7,.ptr 1007 0),(8,.int .i64 x.2.2.2.2.2.1)],[(0,.cells [.sl 1 false xs,.int .i64 x.2.2.2.2.2.2.1]),(1006,.cells [.int .i64 0,.bool false,.int .i64 0,.int .i64 0,.int .i64 0,.int .i64 0,.nils]),(1007,.cells [.int .i64 x.1,.bool false,.int .i64 x.2.1,.int .i64 x.2.2.1,.int .i64 x.2.2.2.1,.int .i64 x.2.2.2.2.1,.rw 1501 2 x.2.2.2.2.2.2.2.length]),(1501,.row 76 2 x.2.2.2.2.2.2.2)]⟩,PrvP k,fun x=>(12 - x.2.2.2.2.2.1).toNat,none⟩
theorem pick_bnd {v j:Int} (h:PickQ [[.int .i64 0],[.int .i64 3],[.int .i64 (-5)],[.int .i64 20],[.int .i64 1000],[.int .i64 (-1000)]] (.int .i64 v) j):-1000≤v∧v≤1000:=by
 have:=pick_of [0,3,-5,20,1000,-1000] h
 simp only [List.mem_cons,List.not_mem_nil,or_false] at this
 omega
theorem pdV_cl {k fr:Int} (h:0≤fr∧fr≤52595999):pdV k fr true 0 0 0 0 []=true:=by
 unfold pdV; rw [if_neg (by omega),if_pos rfl]; rfl
theorem pdV_op {k fr f a b c:Int} {bs:LLR} (h:0≤fr∧fr≤52595999) (hb:bsOk bs=true) (hp:plOk k f a b c=true):pdV k fr false f a b c bs=true:=by
 unfold pdV; rw [if_neg (by omega),if_neg (by decide),hb,if_pos rfl]; exact hp
def qperiodV_s:SpQ
 | [.ptr 0 0,.int .i64 k,.int .i64 near],[.cells [.sl 1 false xs,.int .i64 i]]=>some (fun K=>(SrcQ xs i∧0≤near∧near≤52595999)∧(∀ (fr:Int) (cl:Bool) (f a b c:Int) (bs:List (List AV)) (j:Int),(PrvQ k fr cl f a b c bs j)→K (.agg [.int .i64 fr,.bool cl,.int .i64 f,.int .i64 a,.int .i64 b,.int .i64 c,.sl 2 false bs]) [.cells [.sl 1 false xs,.int .i64 j]]))
 | _,_=>none
def qperiodV_T:Prop :=
  ∀ (gl:Glob) (xs:List (List AV)) (i k near:Int),SrcQ xs i∧0≤near∧near≤(52595999:Int)→(SrcQ xs i∧(-200:Int)≤(200:Int)∧(-1000000000:Int)≤(-200:Int)∧(200:Int)≤(1000000000:Int))∧∀ (v j:Int),((-200:Int)≤v∧v≤(200:Int))∧0≤j→bif decide (rng .i64 ((0:Int) - near)) then (SrcQ xs j∧((4:Nat)=[[AV.int .i64 (-100000:Int)],[AV.int .i64 (-1000:Int)],[AV.int .i64 v],[AV.int .i64
 ((0:Int) - near)]].length∧(1:Nat)≤(4:Nat)∧(4:Nat)≤(1000:Nat))∧IntsB [[AV.int .i64 (-100000:Int)],[AV.int .i64 (-1000:Int)],[AV.int .i64 v],[AV.int .i64 ((0:Int) - near)]])∧∀ (v_1 j:Int),PickQ [[AV.int .i64 (-100000:Int)],[AV.int .i64 (-1000:Int)],[AV.int .i64 v],[AV.int .i64 ((0:Int) - near)]] (AV.int .i64 v_1) j→bif decide (rng .i64 (near+v_1)) then SrcQ xs j∧∀ (v j:Int),NumQ (7:Int) v j→bif
 decide (v=(6:Int)) then ∃ fr cl f a b c bs j_1,PrvQ k fr cl f a b c bs j_1∧(max (0:Int) (min (52595999:Int) (near+v_1))=fr∧true=cl∧(0:Int)=f∧(0:Int)=a∧(0:Int)=b∧(0:Int)=c∧bs=[]∧True)∧((True∧xs=xs)∧j=j_1∧True)∧True else bif decide (k=(1:Int)) then SrcQ xs j∧∀ (f a b c j:Int),PlaQ f a b c j→(∃ x,PrvP k
 x∧((0:Nat)=0∧(0:Nat)=0∧(0:Nat)=0∧(1:Int)=x.snd.snd.snd.snd.snd.fst∧True)∧((True∧xs=xs)∧j=x.snd.snd.snd.snd.snd.snd.fst∧True)∧((0:Int)=0∧false=false∧(0:Int)=0∧(0:Int)=0∧(0:Int)=0∧(0:Int)=0∧True∧True)∧(max (0:Int) (min (52595999:Int) (near+v_1))=x.fst∧false=false∧f=x.snd.fst∧a=x.snd.snd.fst∧b=x.snd.snd.snd.fst∧c=x.snd.snd.snd.snd.fst∧(0:Nat)=List.length
 x.snd.snd.snd.snd.snd.snd.snd∧True)∧[]=x.snd.snd.snd.snd.snd.snd.snd∧True)∧∀ (x:Int × Int × Int × Int × Int × Int × Int × LLR),PrvP k x→bif decide (x.snd.snd.snd.snd.snd.fst≤(11:Int)) then SrcQ xs x.snd.snd.snd.snd.snd.snd.fst∧∀ (v j:Int),NumQ (7:Int) v j→bif decide (v=(6:Int)) then (SrcQ xs j∧((6:Nat)=6∧(1:Nat)≤(6:Nat)∧(6:Nat)≤(1000:Nat))∧IntsB [[AV.int .i64 (0:Int)],[AV.int .i64
 (3:Int)],[AV.int .i64 (-5:Int)],[AV.int .i64 (20:Int)],[AV.int .i64 (1000:Int)],[AV.int .i64 (-1000:Int)]])∧∀ (v j:Int),PickQ [[AV.int .i64 (0:Int)],[AV.int .i64 (3:Int)],[AV.int .i64 (-5:Int)],[AV.int .i64 (20:Int)],[AV.int .i64 (1000:Int)],[AV.int .i64 (-1000:Int)]] (AV.int .i64 v) j→bif decide (List.length x.snd.snd.snd.snd.snd.snd.snd=List.length x.snd.snd.snd.snd.snd.snd.snd∧List.length
 x.snd.snd.snd.snd.snd.snd.snd+[[AV.int .i64 x.snd.snd.snd.snd.snd.fst,.int .i64 v]].length≤(9223372036854775807:Nat)∧(List.length x.snd.snd.snd.snd.snd.snd.snd+[[AV.int .i64 x.snd.snd.snd.snd.snd.fst,.int .i64 v]].length)*(16:Nat)≤(140737488355328:Nat)) then bif decide (rng .i64 (x.snd.snd.snd.snd.snd.fst+(1:Int))) then ∃ y,PrvP k y∧(prvI xs k).m y < (prvI xs k).m
 x∧((0:Nat)=0∧(0:Nat)=0∧(0:Nat)=0∧x.snd.snd.snd.snd.snd.fst +
 (1:Int)=y.snd.snd.snd.snd.snd.fst∧True)∧((True∧xs=xs)∧j=y.snd.snd.snd.snd.snd.snd.fst∧True)∧((0:Int)=0∧false=false∧(0:Int)=0∧(0:Int)=0∧(0:Int)=0∧(0:Int)=0∧True∧True)∧(x.fst=y.fst∧false=false∧x.snd.fst=y.snd.fst∧x.snd.snd.fst=y.snd.snd.fst∧x.snd.snd.snd.fst=y.snd.snd.snd.fst∧x.snd.snd.snd.snd.fst=y.snd.snd.snd.snd.fst∧(x.snd.snd.snd.snd.snd.snd.snd++[[AV.int .i64 x.snd.snd.snd.snd.snd.fst,.int
 .i64 v]]).length=List.length y.snd.snd.snd.snd.snd.snd.snd∧True)∧x.snd.snd.snd.snd.snd.snd.snd++[[AV.int .i64 x.snd.snd.snd.snd.snd.fst,.int .i64 v]]=y.snd.snd.snd.snd.snd.snd.snd∧True else False else False else bif decide (rng .i64 (x.snd.snd.snd.snd.snd.fst+(1:Int))) then ∃ y,PrvP k y∧(prvI xs k).m y < (prvI xs k).m x∧((0:Nat)=0∧(0:Nat)=0∧(0:Nat)=0∧x.snd.snd.snd.snd.snd.fst +
 (1:Int)=y.snd.snd.snd.snd.snd.fst∧True)∧((True∧xs=xs)∧j=y.snd.snd.snd.snd.snd.snd.fst∧True)∧((0:Int)=0∧false=false∧(0:Int)=0∧(0:Int)=0∧(0:Int)=0∧(0:Int)=0∧True∧True)∧(x.fst=y.fst∧false=false∧x.snd.fst=y.snd.fst∧x.snd.snd.fst=y.snd.snd.fst∧x.snd.snd.snd.fst=y.snd.snd.snd.fst∧x.snd.snd.snd.snd.fst=y.snd.snd.snd.snd.fst∧List.length x.snd.snd.snd.snd.snd.snd.snd=List.length
 y.snd.snd.snd.snd.snd.snd.snd∧True)∧x.snd.snd.snd.snd.snd.snd.snd=y.snd.snd.snd.snd.snd.snd.snd∧True else False else bif decide (List.length x.snd.snd.snd.snd.snd.snd.snd=List.length x.snd.snd.snd.snd.snd.snd.snd) then ∃ fr cl f a b c bs j,PrvQ k fr cl f a b c bs
 j∧(x.fst=fr∧false=cl∧x.snd.fst=f∧x.snd.snd.fst=a∧x.snd.snd.snd.fst=b∧x.snd.snd.snd.snd.fst=c∧(True∧x.snd.snd.snd.snd.snd.snd.snd=bs)∧True)∧((True∧xs=xs)∧x.snd.snd.snd.snd.snd.snd.fst=j∧True)∧True else False else (∃ x,PrvP k
 x∧((0:Nat)=0∧(0:Nat)=0∧(0:Nat)=0∧(1:Int)=x.snd.snd.snd.snd.snd.fst∧True)∧((True∧xs=xs)∧j=x.snd.snd.snd.snd.snd.snd.fst∧True)∧((0:Int)=0∧false=false∧(0:Int)=0∧(0:Int)=0∧(0:Int)=0∧(0:Int)=0∧True∧True)∧(max (0:Int) (min (52595999:Int) (near+v_1))=x.fst∧false=false∧(0:Int)=x.snd.fst∧(0:Int)=x.snd.snd.fst∧(0:Int)=x.snd.snd.snd.fst∧(0:Int)=x.snd.snd.snd.snd.fst∧(0:Nat)=List.length
 x.snd.snd.snd.snd.snd.snd.snd∧True)∧[]=x.snd.snd.snd.snd.snd.snd.snd∧True)∧∀ (x:Int × Int × Int × Int × Int × Int × Int × LLR),PrvP k x→bif decide (x.snd.snd.snd.snd.snd.fst≤(11:Int)) then SrcQ xs x.snd.snd.snd.snd.snd.snd.fst∧∀ (v j:Int),NumQ (7:Int) v j→bif decide (v=(6:Int)) then (SrcQ xs j∧((6:Nat)=6∧(1:Nat)≤(6:Nat)∧(6:Nat)≤(1000:Nat))∧IntsB [[AV.int .i64 (0:Int)],[AV.int .i64
 (3:Int)],[AV.int .i64 (-5:Int)],[AV.int .i64 (20:Int)],[AV.int .i64 (1000:Int)],[AV.int .i64 (-1000:Int)]])∧∀ (v j:Int),PickQ [[AV.int .i64 (0:Int)],[AV.int .i64 (3:Int)],[AV.int .i64 (-5:Int)],[AV.int .i64 (20:Int)],[AV.int .i64 (1000:Int)],[AV.int .i64 (-1000:Int)]] (AV.int .i64 v) j→bif decide (List.length x.snd.snd.snd.snd.snd.snd.snd=List.length x.snd.snd.snd.snd.snd.snd.snd∧List.length
 x.snd.snd.snd.snd.snd.snd.snd+[[AV.int .i64 x.snd.snd.snd.snd.snd.fst,.int .i64 v]].length≤(9223372036854775807:Nat)∧(List.length x.snd.snd.snd.snd.snd.snd.snd+[[AV.int .i64 x.snd.snd.snd.snd.snd.fst,.int .i64 v]].length)*(16:Nat)≤(140737488355328:Nat)) then bif decide (rng .i64 (x.snd.snd.snd.snd.snd.fst+(1:Int))) then ∃ y,PrvP k y∧(prvI xs k).m y < (prvI xs k).m
 x∧((0:Nat)=0∧(0:Nat)=0∧(0:Nat)=0∧x.snd.snd.snd.snd.snd.fst +
 (1:Int)=y.snd.snd.snd.snd.snd.fst∧True)∧((True∧xs=xs)∧j=y.snd.snd.snd.snd.snd.snd.fst∧True)∧((0:Int)=0∧false=false∧(0:Int)=0∧(0:Int)=0∧(0:Int)=0∧(0:Int)=0∧True∧True)∧(x.fst=y.fst∧false=false∧x.snd.fst=y.snd.fst∧x.snd.snd.fst=y.snd.snd.fst∧x.snd.snd.snd.fst=y.snd.snd.snd.fst∧x.snd.snd.snd.snd.fst=y.snd.snd.snd.snd.fst∧(x.snd.snd.snd.snd.snd.snd.snd++[[AV.int .i64 x.snd.snd.snd.snd.snd.fst,.int
 .i64 v]]).length=List.length y.snd.snd.snd.snd.snd.snd.snd∧True)∧x.snd.snd.snd.snd.snd.snd.snd++[[AV.int .i64 x.snd.snd.snd.snd.snd.fst,.int .i64 v]]=y.snd.snd.snd.snd.snd.snd.snd∧True else False else False else bif decide (rng .i64 (x.snd.snd.snd.snd.snd.fst+(1:Int))) then ∃ y,PrvP k y∧(prvI xs k).m y < (prvI xs k).m x∧((0:Nat)=0∧(0:Nat)=0∧(0:Nat)=0∧x.snd.snd.snd.snd.snd.fst +
 (1:Int)=y.snd.snd.snd.snd.snd.fst∧True)∧((True∧xs=xs)∧j=y.snd.snd.snd.snd.snd.snd.fst∧True)∧((0:Int)=0∧false=false∧(0:Int)=0∧(0:Int)=0∧(0:Int)=0∧(0:Int)=0∧True∧True)∧(x.fst=y.fst∧false=false∧x.snd.fst=y.snd.fst∧x.snd.snd.fst=y.snd.snd.fst∧x.snd.snd.snd.fst=y.snd.snd.snd.fst∧x.snd.snd.snd.snd.fst=y.snd.snd.snd.snd.fst∧List.length x.snd.snd.snd.snd.snd.snd.snd=List.length
 y.snd.snd.snd.snd.snd.snd.snd∧True)∧x.snd.snd.snd.snd.snd.snd.snd=y.snd.snd.snd.snd.snd.snd.snd∧True else False else bif decide (List.length x.snd.snd.snd.snd.snd.snd.snd=List.length x.snd.snd.snd.snd.snd.snd.snd) then ∃ fr cl f a b c bs j,PrvQ k fr cl f a b c bs
 j∧(x.fst=fr∧false=cl∧x.snd.fst=f∧x.snd.snd.fst=a∧x.snd.snd.snd.fst=b∧x.snd.snd.snd.snd.fst=c∧(True∧x.snd.snd.snd.snd.snd.snd.snd=bs)∧True)∧((True∧xs=xs)∧x.snd.snd.snd.snd.snd.snd.fst=j∧True)∧True else False else False else False
theorem qperiodV_P:qperiodV_T:=by
 unfold qperiodV_T
 intro gl xs i k near ⟨hs,h1,h2⟩
 have s:=hs.s
 refine ⟨⟨hs,by decide,by decide,by decide⟩,fun v j q1=>cdI (by omega) ⟨⟨⟨s,q1.2⟩,⟨rfl,by decide,by decide⟩,ints_of [-100000,-1000,v,0 - near] ?_⟩,fun w j q2=>?_⟩⟩
 ·intro n hn
  simp only [List.mem_cons,List.not_mem_nil,or_false] at hn
  show _∧_
  omega
 have hw:=pick_of [-100000,-1000,v,0 - near] q2
 simp only [List.mem_cons,List.not_mem_nil,or_false] at hw
 have ht:0≤max 0 (min 52595999 (near+w))∧max 0 (min 52595999 (near+w))≤52595999:=by omega
 refine cdI (by omega) ⟨⟨s,q2.fj⟩,fun v j q3=>csx (fun _=>⟨_,_,_,_,_,_,_,_,⟨pdV_cl ht,rdsP_nil,by simp,q3.fj⟩,⟨rfl,rfl,rfl,rfl,rfl,rfl,rfl,trivial⟩,⟨⟨trivial,rfl⟩,rfl,trivial⟩,trivial⟩) (fun _=>csx (fun hk=>⟨⟨s,q3.fj⟩,fun f a b c j q4=>⟨⟨(max 0 (min 52595999 (near+w)),f,a,b,c,1,j,[]),⟨by simp,q4.fj,bis_nil (by simp),ht,by simp only [plOk]; rw [if_pos hk]; exact q4.fn⟩,by (repeat' (first | exact trivial | exact rfl | assumption | apply And.intro))⟩,?_⟩⟩) (fun hk=>⟨⟨(max 0 (min 52595999 (near+w)),0,0,0,0,1,j,[]),⟨by simp,q3.fj,bis_nil (by simp),ht,by simp only [plOk]; rw [if_neg hk]; rfl⟩,by (repeat' (first | exact trivial | exact rfl | assumption | apply And.intro))⟩,?_⟩))⟩
 all_goals
  rintro ⟨fr,f,a,b,c,n,j,bs⟩ ⟨hc,hj,hb,hft,hfp⟩
  have hl:=hb.fl
  simp only at hc hj hb hl hft hfp
  dsimp only
  refine csx (fun h=>⟨⟨s,hj⟩,fun v j q5=>csx (fun _=>⟨⟨⟨s,q5.fj⟩,⟨rfl,by decide,by decide⟩,ints_of [0,3,-5,20,1000,-1000] ?_⟩,fun v j q6=>cd1 ⟨rfl,by simp; omega,by simp; omega⟩ (cdI (by omega) ⟨(fr,f,a,b,c,n+1,j,bs++[[.int .i64 n,.int .i64 v]]),⟨by simp only; omega,q6.fj,bis_add hb hc.1 (pick_bnd q6),hft,hfp⟩,by simp only [prvI]; omega,by (repeat' (first | exact trivial | exact rfl | assumption | apply And.intro))⟩)⟩) (fun _=>cdI (by omega) ⟨(fr,f,a,b,c,n+1,j,bs),⟨by simp only; omega,q5.fj,bis_up hb,hft,hfp⟩,by simp only [prvI]; omega,by (repeat' (first | exact trivial | exact rfl | assumption | apply And.intro))⟩)⟩) (fun h=>cd1 rfl ?_)
  ·intro n hn
   simp only [List.mem_cons,List.not_mem_nil,or_false] at hn
   show _∧_
   omega
  ·obtain ⟨b1,b2,b3⟩:=hb.p hc.2
   exact ⟨fr,false,f,a,b,c,bs,j,⟨pdV_op hft b3 hfp,b1,b2,hj⟩,by (repeat' (first | exact trivial | exact rfl | assumption | apply And.intro))⟩
def qperiodV_S:Prop:=∀ (gl:Glob) (xs:List (List AV)) (i k near:Int),SrcQ xs i∧0≤near∧near≤52595999→fnQ Tryz.prog { glob:=gl,spec:=lk [],specH:=lk [],specQ:=lk [(37,qn_s),(24,qrange_s),(40,qpick_s),(43,qplace_s)],nowf:=true } { nt:=49,drop:=drp [(1,2096640),(2,6291456),(3,16777216),(4,33554432),(5,67108864),(6,1879048192),(8,2147483648),(9,25769803776),(10,103079215104),(11,281200098803712),(12,281474976710656)],fr:=1000,kp:=[0],emp:=fun id=>cond (Nat.beq id 7) [(1100706,1501,76,2)] [] } (invs [(8,prvI xs k)]) 6 Tryz.f25 [.ptr 0 0,.int .i64 k,.int .i64 near] [.cells [.sl 1 false xs,.int .i64 i]] (fun r2 bs2=>∃ (fr:Int) (cl:Bool) (f a b c:Int) (bs:List (List AV)) (j:Int),(PrvQ k fr cl f a b c bs j)∧le r2 (.agg [.int .i64 fr,.bool cl,.int .i64 f,.int .i64 a,.int .i64 b,.int .i64 c,.sl 2 false bs])∧leBs bs2 [.cells [.sl 1 false xs,.int .i64 j]])
theorem qperiodV_e:qperiodV_T=qperiodV_S:=by kernel_rfl
theorem qperiodV_v:qperiodV_S:=Eq.mp (qperiodV_e ..) (qperiodV_P)
theorem qperiodV_ok (gl:Glob):QOK Tryz.prog gl 25 qperiodV_s:=by
 refine ⟨fok Tryz.func25 (by kernel_rfl) (by kernel_rfl),?_⟩
 intro xs bs T h K hT
 unfold qperiodV_s at h
 split at h
 ·simp only [Option.some.injEq] at h
  subst h
  obtain ⟨hp,hK⟩:=hT
  obtain ⟨r,bs2,⟨o0,o1,o2,o3,o4,o5,o6,o7,hq,hl,hb⟩,hC⟩:=fnQ_sound tyNil (by exact specOK rfl rfl trivial trivial (d:=qsOf rfl ⟨(qn_ok gl),(qrange_ok gl),(qpick_ok gl),(qplace_ok gl),trivial⟩)) (by kernel_rfl) Tryz.func25 (qperiodV_v gl _ _ _ _ hp)
  exact ⟨_,_,hK o0 o1 o2 o3 o4 o5 o6 o7 hq,hC.le hl hb⟩
 ·cases h
structure RegV (l:LLR):Prop where
 fp:StsP l
 f0:rgV l=0
 fn:∀ r ∈ l,sNm r ∈ nam6
structure RegvQ (l:LLR) (j:Int):Prop where
 fr:RegV l
 fj:0≤j
structure RegvI (x:Int × Int × LLR):Prop where
 fn:x.1≤12
 fj:0≤x.2.1
 fr:RegV x.2.2
def rgv3 (xs:List (List AV)) (near:Int):LInv:=⟨Int × Int × LLR,fun x=>⟨[(0,.ptr 0 0),(1,.int .i64 near),(4,.ptr 1004 0),(5,.ptr 1005 0),(6,.int .i64 x.1)],[(0,.cells [.sl 1 false xs,.int .i64 x.2.1]),(1004,.cells [.nils]),(1005,.cells [.sl 3 false x.2.2])]⟩,RegvI,fun x=>(x.1).toNat,none⟩
theorem regv_nil:RegV []:=⟨sts_nil,by kernel_rfl,fun r h=>by simp at h⟩
theorem regv_set {l:LLR} (h:RegV l) {k:Int} {nm:ByteArray} (hn:nm ∈ nam6) {fr:Int} {cl:Bool} {f a b c:Int} {bs:LLR} (hb:RdsP bs) (hbl:bs.length≤1000) (he:reE l k nm fr cl f a b c bs=0):RegV (reO l k nm fr cl f a b c bs):=by
 obtain ⟨e1,e2⟩:=re_eq h.fp k nm fr cl f a b c bs
 rw [e1] at he
 rw [e2]
 have hs:=set_valid h.fp hb hbl he
 refine ⟨hs.fp,hs.f0,fun r hr=>?_⟩
 rw [hs.fe] at hr
 rcases insQ_mem hr with z | z
 ·rw [z]; exact hn
 ·exact h.fn r z
def qregistryV_s:SpQ
 | [.ptr 0 0,.int .i64 near],[.cells [.sl 1 false xs,.int .i64 i]]=>some (fun K=>(SrcQ xs i∧0≤near∧near≤52595999)∧(∀ (l:List (List AV)) (j:Int),(RegvQ l j)→K (.agg [.sl 3 false l]) [.cells [.sl 1 false xs,.int .i64 j]]))
 | _,_=>none
def qregistryV_T (pdV:Int→Int→Bool→Int→Int→Int→Int→LLR→Bool) (nmOk:ByteArray→Bool) (rgV:LLR→Int) (reE:LLR→Int→ByteArray→Int→Bool→Int→Int→Int→Int→LLR→Int) (reO:LLR→Int→ByteArray→Int→Bool→Int→Int→Int→Int→LLR→LLR) (wiL:LLR→Int→ByteArray→LLR→LLR) (fiK:LLR→ByteArray→Int) (fiN:LLR→ByteArray→ByteArray) (fiP:LLR→ByteArray→LLR) (fiB:LLR→ByteArray→Bool):Prop :=
  ∀ (gl:Glob) (xs:List (List AV)) (i near:Int),SrcQ xs i∧0≤near∧near≤(52595999:Int)→SrcQ xs i∧∀ (v j:Int),NumQ (12:Int) v j→(∃ x,RegvI x∧((0:Nat)=0∧near=near∧(0:Nat)=0∧(0:Nat)=0∧v=x.fst∧True)∧((True∧xs=xs)∧j=x.snd.fst∧True)∧(True∧True)∧(x.snd.snd=[]∧True)∧True)∧∀ (x:Int × Int × LLR),RegvI x→bif decide (0 < x.fst) then SrcQ xs x.snd.fst∧∀ (s:ByteArray) (j:Int),NamQ s
 j→List.Mem s nam6∧SrcQ xs j∧∀ (v j:Int),NumQ (6:Int) v j→bif decide (v=(0:Int)) then (SrcQ xs j∧(1:Int)≤(3:Int)∧(-1000000000:Int)≤(1:Int)∧(3:Int)≤(1000000000:Int))∧∀ (v j:Int),(1≤v∧v≤(3:Int))∧0≤j→(SrcQ xs j∧0≤near∧near≤(52595999:Int))∧∀ (fr:Int) (cl:Bool) (f a b c:Int) (bs:List (List AV)) (j:Int),PrvQ v fr cl f a b c bs j→(StsP x.snd.snd∧RdsP bs)∧bif decide
 (reE x.snd.snd v s fr cl f a b c bs=(0:Int)) then bif decide (rng .i64 (x.fst - (1:Int))) then ∃ y,RegvI y∧(rgv3 xs near).m y < (rgv3 xs near).m x∧((0:Nat)=0∧near=near∧(0:Nat)=0∧(0:Nat)=0∧x.fst - (1:Int)=y.fst∧True)∧((True∧xs=xs)∧j=y.snd.fst∧True)∧(True∧True)∧((True∧reO x.snd.snd v s fr cl f a b c bs=y.snd.snd)∧True)∧True else False else bif decide (rng .i64 (x.fst - (1:Int))) then ∃ y,RegvI
 y∧(rgv3 xs near).m y < (rgv3 xs near).m x∧((0:Nat)=0∧near=near∧(0:Nat)=0∧(0:Nat)=0∧x.fst - (1:Int)=y.fst∧True)∧((True∧xs=xs)∧j=y.snd.fst∧True)∧(True∧True)∧((True∧x.snd.snd=y.snd.snd)∧True)∧True else False else (SrcQ xs j∧0≤near∧near≤(52595999:Int))∧∀ (fr:Int) (cl:Bool) (f a b c:Int) (bs:List (List AV)) (j:Int),PrvQ (byteI s (0:Nat) % (3:Int)+(1:Int)) fr cl f a b c bs j→(StsP
 x.snd.snd∧RdsP bs)∧bif decide (reE x.snd.snd (byteI s (0:Nat) % (3:Int)+(1:Int)) s fr cl f a b c bs=(0:Int)) then bif decide (rng .i64 (x.fst - (1:Int))) then ∃ y,RegvI y∧(rgv3 xs near).m y < (rgv3 xs near).m x∧((0:Nat)=0∧near=near∧(0:Nat)=0∧(0:Nat)=0∧x.fst - (1:Int)=y.fst∧True)∧((True∧xs=xs)∧j=y.snd.fst∧True)∧(True∧True)∧((True∧reO x.snd.snd (byteI s (0:Nat) % (3:Int)+(1:Int)) s fr cl f a b c
 bs=y.snd.snd)∧True)∧True else False else bif decide (rng .i64 (x.fst - (1:Int))) then ∃ y,RegvI y∧(rgv3 xs near).m y < (rgv3 xs near).m x∧((0:Nat)=0∧near=near∧(0:Nat)=0∧(0:Nat)=0∧x.fst - (1:Int)=y.fst∧True)∧((True∧xs=xs)∧j=y.snd.fst∧True)∧(True∧True)∧((True∧x.snd.snd=y.snd.snd)∧True)∧True else False else ∃ l j,RegvQ l j∧((True∧x.snd.snd=l)∧True)∧((True∧xs=xs)∧x.snd.fst=j∧True)∧True
theorem qregistryV_P:qregistryV_T pdV nmOk rgV reE reO wiL fiK fiN fiP fiB:=by
 unfold qregistryV_T
 intro gl xs i near ⟨hs,h1,h2⟩
 have s:=hs.s
 refine ⟨hs,fun v j q1=>⟨⟨(v,j,[]),⟨Int.le_of_lt (q1.fv (by decide)).2,q1.fj,regv_nil⟩,by (repeat' (first | exact trivial | exact rfl | assumption | apply And.intro))⟩,?_⟩⟩
 rintro ⟨n,j,l⟩ ⟨n1,j0,hl⟩
 simp only at n1 j0 hl
 dsimp only
 refine csx (fun hn=>⟨⟨s,j0⟩,fun nm j q2=>⟨q2.fs,⟨s,q2.fj⟩,fun v j q3=>csx (fun _=>⟨⟨⟨s,q3.fj⟩,by decide,by decide,by decide⟩,fun w j q4=>⟨⟨⟨s,q4.2⟩,h1,h2⟩,fun fr cl f a b c bs j q5=>⟨⟨hl.fp,q5.fr⟩,?_⟩⟩⟩) (fun _=>⟨⟨⟨s,q3.fj⟩,h1,h2⟩,fun fr cl f a b c bs j q5=>⟨⟨hl.fp,q5.fr⟩,?_⟩⟩)⟩⟩) (fun hn=>⟨l,j,⟨hl,j0⟩,by (repeat' (first | exact trivial | exact rfl | assumption | apply And.intro))⟩)
 all_goals exact csx (fun he=>cdI (by omega) ⟨(n - 1,_,reO l _ nm fr cl f a b c bs),⟨by simp only; omega,q5.fj,regv_set hl q2.fs q5.fr (Nat.le_trans q5.fl (by decide)) he⟩,by simp only [rgv3]; omega,by (repeat' (first | exact trivial | exact rfl | assumption | apply And.intro))⟩) (fun _=>cdI (by omega) ⟨(n - 1,_,l),⟨by simp only; omega,q5.fj,hl⟩,by simp only [rgv3]; omega,by (repeat' (first | exact trivial | exact rfl | assumption | apply And.intro))⟩)
def qregistryV_S (pdV:Int→Int→Bool→Int→Int→Int→Int→LLR→Bool) (nmOk:ByteArray→Bool) (rgV:LLR→Int) (reE:LLR→Int→ByteArray→Int→Bool→Int→Int→Int→Int→LLR→Int) (reO:LLR→Int→ByteArray→Int→Bool→Int→Int→Int→Int→LLR→LLR) (wiL:LLR→Int→ByteArray→LLR→LLR) (fiK:LLR→ByteArray→Int) (fiN:LLR→ByteArray→ByteArray) (fiP:LLR→ByteArray→LLR) (fiB:LLR→ByteArray→Bool):Prop:=∀ (gl:Glob) (xs:List (List AV)) (i near:Int),SrcQ xs i∧0≤near∧near≤52595999→fnQ Tryz.prog { glob:=gl,spec:=lk [(41,qkinds_s),(34,(rsetF_s pdV nmOk rgV reE reO wiL fiK fiN fiP fiB))],specH:=lk [],specQ:=lk [(37,qn_s),(24,qrange_s),(22,qname_s),(25,qperiodV_s)],nowf:=true } { nt:=41,drop:=drp [(2,6144),(3,8192),(4,98304),(5,393216),(6,1572864),(7,6291456),(8,50331648),(9,137371844608),(10,137438953472),(11,549755813888),(12,1099511627776)],fr:=1000,kp:=[0] } (invs [(3,rgv3 xs near)]) 6 Tryz.f12 [.ptr 0 0,.int .i64 near] [.cells [.sl 1 false xs,.int .i64 i]] (fun r2 bs2=>∃ (l:List (List AV)) (j:Int),(RegvQ l j)∧le r2 (.agg [.sl 3 false l])∧leBs bs2 [.cells [.sl 1 false xs,.int .i64 j]])
theorem qregistryV_e (pdV:Int→Int→Bool→Int→Int→Int→Int→LLR→Bool) (nmOk:ByteArray→Bool) (rgV:LLR→Int) (reE:LLR→Int→ByteArray→Int→Bool→Int→Int→Int→Int→LLR→Int) (reO:LLR→Int→ByteArray→Int→Bool→Int→Int→Int→Int→LLR→LLR) (wiL:LLR→Int→ByteArray→LLR→LLR) (fiK:LLR→ByteArray→Int) (fiN:LLR→ByteArray→ByteArray) (fiP:LLR→ByteArray→LLR) (fiB:LLR→ByteArray→Bool):qregistryV_T pdV nmOk rgV reE reO wiL fiK fiN fiP fiB=qregistryV_S pdV nmOk rgV reE reO wiL fiK fiN fiP fiB:=by kernel_rfl
theorem qregistryV_v:qregistryV_S pdV nmOk rgV reE reO wiL fiK fiN fiP fiB:=Eq.mp (qregistryV_e ..) (qregistryV_P)
theorem qregistryV_ok (gl:Glob):QOK Tryz.prog gl 12 qregistryV_s:=by
 refine ⟨fok Tryz.func12 (by kernel_rfl) (by kernel_rfl),?_⟩
 intro xs bs T h K hT
 unfold qregistryV_s at h
 split at h
 ·simp only [Option.some.injEq] at h
  subst h
  obtain ⟨hp,hK⟩:=hT
  obtain ⟨r,bs2,⟨o0,o1,hq,hl,hb⟩,hC⟩:=fnQ_sound tyNil (by exact specOK rfl rfl ⟨(qkinds_ok gl),(rsetF_ok gl),trivial⟩ trivial (d:=qsOf rfl ⟨(qn_ok gl),(qrange_ok gl),(qname_ok gl),(qperiodV_ok gl),trivial⟩)) (by kernel_rfl) Tryz.func12 (qregistryV_v gl _ _ _ hp)
  exact ⟨_,_,hK o0 o1 hq,hC.le hl hb⟩
 ·cases h
end Go.Proofs.YtldiagnbagpliaaGreatDoor
namespace Go.Proofs.YtldiagnbagpliaaGreatDoor
open Go
set_option linter.unusedVariables false
set_option linter.unusedSimpArgs false
def btL (l:LLR) (i:Nat) (x:Int):LLR:=(hpl l i x 1501).take x.toNat
structure BntR (l:LLR) (j:Int):Prop where
 fr:StsP l
 fj:0≤j
structure BnoP (l:LLR):Prop where
 fr:StsP l
 fn:∀ i,i < l.length→hoP l i≠[]∧(hoP l i).length≤8
def bt3 (xs l:LLR) (g:Bool) (j:Int) (i:Nat):LInv:=⟨Int,fun x=>⟨[(0,.ptr 0 0),(3,.ptr 1003 0),(4,.ptr 1004 0),(5,.ptr 1005 0),(11,.sl 3 g l),(12,.int .i64 l.length),(13,.int .i64 x)],[(0,.cells [.sl 1 false xs,.int .i64 j]),(1003,.cells [.sl 3 g l]),(1004,.cells [.nils]),(1005,.cells [.rw 1500 3 x.toNat]),(1500,.nrow 59 3 [1501] (btL l i x)),(1501,.row 49 7 (hpP l i x))]⟩,CoI l,fun x=>(l.length - x).toNat,none⟩
def btC (id:Nat) (st:St) (i:Nat):Option (Prop × List Xa × List Xa):=cond (Nat.beq id 7) (match st.get 13 with
 | .int _ n=>some (n=i,[.kil 1501,.ren 1017 1501],[.frz 1017])
 | _=>none) (cond (Nat.beq id 29) (match lk st.heap 1501 with
  | some (.nrow _ _ _ _)=>some (True,[.frz 1114,.cls 1501,.frz 1501,.nlz 1500 7,.cls 1500],[])
  | _=>some (True,[.frz 1501,.nlz 1500 7,.cls 1500],[])) none)
theorem mapLL_take (f:AV→AV) (xs:LLR) (n:Nat):mapLL f (xs.take n)=(mapLL f xs).take n:=by unfold mapLL; rw [List.map_take]
theorem mapLL_app (f:AV→AV) (xs ys:LLR):mapLL f (xs++ys)=mapLL f xs++mapLL f ys:=by unfold mapLL; rw [List.map_append]
theorem btL_len {l:LLR} {i:Nat} {x:Int} (h0:0≤x) (h1:x≤l.length):(btL l i x).length=x.toNat:=by
 unfold btL; rw [List.length_take,hpl_len]; omega
theorem take_snoc {l:LLR} {n:Nat} (h:n < l.length):l.take (n+1)=l.take n++[l.getD n []]:=by
 rw [List.take_add_one,List.getElem?_eq_getElem h,gD_lt h]; rfl
theorem btL_here {l:LLR} (hl:StsP l) {i:Nat} (hi:i < l.length) {k:Int} {nm:ByteArray} {ps:LLR} (hr:l.getD i []=stA k nm ps) :
  mapLL (renA 1017 1501) (mapLL (killA 1501) (btL l i i++[[.int .i64 k,.str nm,.rw 1017 7 ps.length]]))=btL l i (i+1)∧ps=hpP l i (i+1):=by
 have hP:hoP l i=ps:=by unfold hoP; rw [hr]; rfl
 have e1:hpl l i i 1501=l:=if_neg (by omega)
 have e2:hpl l i (i+1) 1501=hol l i 1501:=if_pos (by omega)
 refine ⟨?_,by unfold hpP; rw [if_pos (by omega),hP]⟩
 unfold btL
 rw [e1,e2,show ((i:Int)).toNat=i by omega,show ((i:Int)+1).toNat=i+1 by omega,take_snoc (by rw [hol_len]; exact hi)]
 have t:(hol l i 1501).take i=l.take i:=List.take_set_of_le (Nat.le_refl _)
 have g:(hol l i 1501).getD i []=[.int .i64 k,.str nm,.rw 1501 7 ps.length]:=by unfold hol; rw [setEl_at hi hr,hP]
 rw [t,g,mapLL_app,mapLL_app,mapLL_take,mapLL_take,(flat_kill 1501).st hl,(flat_ren 1017 1501).st hl]
 rfl
theorem btL_else {l:LLR} (hl:StsP l) {i:Nat} {x:Int} (h0:0≤x) (hx:x < l.length) (hn:¬ x=i) {k:Int} {nm:ByteArray} {ps:LLR} (hr:l.getD x.toNat []=stA k nm ps) :
  mapLL (frsA 1017 7 ps) (btL l i x++[[.int .i64 k,.str nm,.rw 1017 7 ps.length]])=btL l i (x+1)∧hpP l i x=hpP l i (x+1):=by
 have e1:hpl l i (x+1) 1501=hpl l i x 1501:=by
  unfold hpl
  by_cases q:(i:Int) < x
  ·rw [if_pos q,if_pos (by omega)]
  ·rw [if_neg q,if_neg (by omega)]
 refine ⟨?_,?_⟩
 ·unfold btL
  rw [e1,show (x+1).toNat=x.toNat+1 by omega,take_snoc (by rw [hpl_len]; omega),hpl_at (by omega),hr,mapLL_app,mapLL_take,(flat_frs _ _ _).hpl hl rfl]
  have e2:frsA 1017 7 ps (.rw 1017 7 ps.length)=.sl 7 false ps:=by simp only [frsA,if_true,true_and]
  congr 1
  show [[AV.int .i64 k,AV.str nm,frsA 1017 7 ps (.rw 1017 7 ps.length)]]=_
  rw [e2]; rfl
 ·unfold hpP
  by_cases q:(i:Int) < x
  ·rw [if_pos q,if_pos (by omega)]
  ·rw [if_neg q,if_neg (by omega)]
structure HolF (l H:LLR) (i:Nat) (k:Int) (nm:ByteArray) (ps:LLR):Prop where
 hl:StsP l
 hn:H.length=l.length
 hi:i < l.length
 ha:H.getD i []=[.int .i64 k,.str nm,.rw 1501 7 ps.length]
 ho:∀ q,q≠i→H.getD q []=l.getD q []
 hp:PdsP ps
theorem holF {l:LLR} (hl:StsP l) {i:Nat} (hi:i < l.length):∃ (k:Int) (nm:ByteArray) (ps:LLR),btL l i l.length=btL l i l.length∧hpP l i l.length=ps∧hoP l i=ps∧HolF l (btL l i l.length) i k nm ps:=by
 obtain ⟨k,nm,ps,hr,hp⟩:=hl.fr i hi
 have hP:hoP l i=ps:=by unfold hoP; rw [hr]; rfl
 have e2:hpl l i l.length 1501=hol l i 1501:=if_pos (by omega)
 have e3:btL l i l.length=hol l i 1501:=by
  unfold btL; rw [e2,show ((l.length:Int)).toNat=l.length by omega,List.take_of_length_le (by rw [hol_len]; exact Nat.le_refl _)]
 refine ⟨k,nm,ps,rfl,by unfold hpP; rw [if_pos (by omega),hP],hP,?_⟩
 rw [e3]
 exact ⟨hl,hol_len _ _ _,hi,by unfold hol; rw [setEl_at hi hr,hP],fun q hq=>by unfold hol; rw [setEl_get,if_neg (fun z=>hq z.1)],hp⟩
theorem bt_sts {l M:LLR} {i:Nat} {k':Int} {nm':ByteArray} {X:AV} {Z:LLR} (hl:StsP l) (hZ:PdsP Z) (e1:M.length=l.length) (e2:∀ q,q≠i→M.getD q []=l.getD q []) (e3:M.getD i []=[.int .i64 k',.str nm',X]) (hX:X=.rw 1501 7 Z.length∨X=.nils) :
  StsP (mapLL (nlA 7) (mapLL (frsA 1501 7 Z) M))∧l.length=(mapLL (nlA 7) (mapLL (frsA 1501 7 Z) M)).length:=by
 refine ⟨⟨fun q hq=>?_,by rw [mapLL_len,mapLL_len,e1]; exact hl.fs⟩,by rw [mapLL_len,mapLL_len,e1]⟩
 rw [mapLL_len,mapLL_len,e1] at hq
 rw [mapLL_get,mapLL_get]
 by_cases e:q=i
 ·subst e
  rw [e3]
  rcases hX with rfl | rfl
  ·refine ⟨k',nm',Z,?_,hZ⟩
   have e4:frsA 1501 7 Z (.rw 1501 7 Z.length)=.sl 7 false Z:=by simp only [frsA,if_true,true_and]
   show [AV.int .i64 k',AV.str nm',nlA 7 (frsA 1501 7 Z (.rw 1501 7 Z.length))]=_
   rw [e4]; rfl
  ·exact ⟨k',nm',[],rfl,⟨fun j hj=>by simp at hj,by simp⟩⟩
 ·obtain ⟨k,nm,ps,hr,hp⟩:=hl.fr q hq
  rw [e2 q e,hr]
  exact ⟨k,nm,ps,rfl,hp⟩
theorem HolF.cell {l H:LLR} {i:Nat} {k:Int} {nm:ByteArray} {ps:LLR} (h:HolF l H i k nm ps) {fo:Nat} {ys:List AV} {k':Int} {nm':ByteArray} {X:AV} {Z:LLR} (hZ:PdsP Z) (hs:spl [.int .i64 k,.str nm,.rw 1501 7 ps.length] fo ys=[.int .i64 k',.str nm',X]) (hX:X=.rw 1501 7 Z.length∨X=.nils) :
  StsP (mapLL (nlA 7) (mapLL (frsA 1501 7 Z) (setEl H i fo ys)))∧l.length=(mapLL (nlA 7) (mapLL (frsA 1501 7 Z) (setEl H i fo ys))).length :=
 bt_sts h.hl hZ (by rw [setEl_len,h.hn]) (fun q hq=>by rw [setEl_get,if_neg (fun z=>hq z.1),h.ho q hq]) (by rw [setEl_get,if_pos ⟨rfl,by rw [h.hn]; exact h.hi⟩,h.ha,hs]) hX
theorem HolF.keep {l H:LLR} {i:Nat} {k:Int} {nm:ByteArray} {ps:LLR} (h:HolF l H i k nm ps) {Z:LLR} (hZ:PdsP Z) (hz:ps.length=Z.length):StsP (mapLL (nlA 7) (mapLL (frsA 1501 7 Z) H))∧l.length=(mapLL (nlA 7) (mapLL (frsA 1501 7 Z) H)).length :=
 bt_sts h.hl hZ h.hn h.ho h.ha (.inl (by rw [hz]))
theorem pds_cell {ps:LLR} (hp:PdsP ps) {p fo:Nat} {ys:List AV} (hs:p < ps.length→∀ (fr:Int) (cl:Bool) (f a b c:Int) (bs:LLR),RdsP bs∧bs.length≤1000→∃ (fr':Int) (cl':Bool) (f' a' b' c':Int) (bs':LLR),spl (pdA fr cl f a b c bs) fo ys=pdA fr' cl' f' a' b' c' bs'∧RdsP bs'∧bs'.length≤1000):PdsP (setEl ps p fo ys)∧ps.length=(setEl ps p fo ys).length:=by
 refine ⟨⟨fun q hq=>?_,by rw [setEl_len]; exact hp.fs⟩,(setEl_len _ _ _ _).symm⟩
 rw [setEl_len] at hq
 obtain ⟨fr,cl,f,a,b,c,bs,hr,hb⟩:=hp.fr q hq
 rw [setEl_get]
 split
 ·rename_i z
  obtain ⟨rfl,hz⟩:=z
  rw [hr]; exact hs hz _ _ _ _ _ _ _ hb
 ·exact ⟨fr,cl,f,a,b,c,bs,hr,hb⟩
theorem pd_nm {ps:LLR} (hp:PdsP ps):NmIn [] ps:=by
 intro j i x y hx hy k hk
 have hj:j < ps.length:=(List.getElem?_eq_some_iff.1 hx).1
 obtain ⟨fr,cl,f,a,b,c,bs,hr,_⟩:=hp.fr j hj
 have e:x=pdA fr cl f a b c bs:=by rw [← hr,List.getD_eq_getElem?_getD,hx]; rfl
 subst e
 have hi:i < 7:=by have:=(List.getElem?_eq_some_iff.1 hy).1; simpa [pdA] using this
 have hall:∀ z ∈ pdA fr cl f a b c bs,nn k z=true:=by
  intro z hz
  simp only [pdA,List.mem_cons,List.not_mem_nil,or_false] at hz
  rcases hz with rfl | rfl | rfl | rfl | rfl | rfl | rfl <;> rfl
 rw [hall y (List.mem_iff_getElem?.2 ⟨i,hy⟩)] at hk
 cases hk
theorem pds_bias {ps:LLR} (hp:PdsP ps) {p:Nat} {B:LLR} (hB:RdsP B∧B.length≤1000) (h1:B.length=1):PdsP (mapLL (frsA 1114 2 B) (setEl ps p 6 [.rw 1114 2 1]))∧ps.length=(mapLL (frsA 1114 2 B) (setEl ps p 6 [.rw 1114 2 1])).length:=by
 refine ⟨⟨fun q hq=>?_,by rw [mapLL_len,setEl_len]; exact hp.fs⟩,by rw [mapLL_len,setEl_len]⟩
 rw [mapLL_len,setEl_len] at hq
 obtain ⟨fr,cl,f,a,b,c,bs,hr,hb⟩:=hp.fr q hq
 rw [mapLL_get,setEl_get]
 split
 ·rename_i z
  obtain ⟨rfl,hz⟩:=z
  rw [hr]
  refine ⟨fr,cl,f,a,b,c,B,?_,hB⟩
  have e4:frsA 1114 2 B (.rw 1114 2 1)=.sl 2 false B:=by simp only [frsA,if_true,h1,true_and]
  show [AV.int .i64 fr,AV.bool cl,AV.int .i64 f,AV.int .i64 a,AV.int .i64 b,AV.int .i64 c,frsA 1114 2 B (.rw 1114 2 1)]=_
  rw [e4]; rfl
 ·rw [hr]
  exact ⟨fr,cl,f,a,b,c,bs,rfl,hb⟩
theorem bt_done {xs E:LLR} {X:Nat} {j:Int} {R:Prop} (hl:X=E.length) (hE:StsP E) (hj:0≤j):(True→bif decide (X=E.length) then ∃ q j2,BntR q j2∧((True∧E=q)∧True)∧((True∧xs=xs)∧j=j2∧True)∧True else False)∧(¬ True→R) :=
 ⟨fun _=>cd1 hl ⟨E,j,⟨hE,hj⟩,⟨⟨trivial,rfl⟩,trivial⟩,⟨⟨trivial,rfl⟩,rfl,trivial⟩,trivial⟩,fun z=>absurd trivial z⟩
def rbent_s:SpQ
 | [.ptr 0 0,.agg [.sl 3 g l]],[.cells [.sl 1 false xs,.int .i64 j]]=>some (fun K=>(SrcQ xs j∧BnoP l)∧(∀ (q:List (List AV)) (j2:Int),(BntR q j2)→K (.agg [.sl 3 false q]) [.cells [.sl 1 false xs,.int .i64 j2]]))
 | _,_=>none
def rbent_T:Prop :=
  ∀ (gl:Glob) (xs:List (List AV)) (j:Int) (g:Bool) (l:List (List AV)),SrcQ xs j∧BnoP l→(∀ (j i:Nat) (x:List AV) (y:AV),[][j]?=some x→x[i]?=some y→∀ (k:Nat),nn k y=false→inL k []=true)∧(∃ x,CoI l x∧((0:Nat)=0∧(0:Nat)=0∧(0:Nat)=0∧(0:Nat)=0∧((bif g then g=true else True)∧l=l)∧(↑l.length:Int)=(↑l.length:Int)∧(0:Int)=x∧True)∧((True∧xs=xs)∧j=j∧True)∧(((bif g then g=true else
 True)∧l=l)∧True)∧(True∧True)∧((0:Nat)=Int.toNat x∧True)∧[]=btL l (srcN xs j (↑l.length:Int)).toNat x∧[]=hpP l (srcN xs j (↑l.length:Int)).toNat x∧True)∧∀ (x:Int),CoI l x→bif decide (x < (↑l.length:Int)) then bif decide (0≤x∧x < (↑l.length:Int)) then ∃ n s xs_1,List.take [AV.int .i64 n,.str s,.sl (7:Nat) false xs_1].length (l.getD x.toNat [])=[AV.int .i64 n,.str s,.sl (7:Nat) false xs_1]∧bif
 decide ((0:Nat)=0∧(0:Nat)+xs_1.length≤(9223372036854775807:Nat)∧((0:Nat)+xs_1.length)*(72:Nat)≤(140737488355328:Nat)) then bif decide (x.toNat=List.length (btL l (srcN xs j (↑l.length:Int)).toNat x)∧List.length (btL l (srcN xs j (↑l.length:Int)).toNat x)+[[AV.int .i64 n,.str s,.rw (1017:Nat) (7:Nat) ([]++xs_1).length]].length≤(9223372036854775807:Nat)∧(List.length (btL l (srcN xs j
 (↑l.length:Int)).toNat x)+[[AV.int .i64 n,.str s,.rw (1017:Nat) (7:Nat) ([]++xs_1).length]].length)*(48:Nat)≤(140737488355328:Nat)) then (x=(↑(srcN xs j (↑l.length:Int)).toNat:Int)→bif decide (rng .i64 (x+(1:Int))) then ∃ y,CoI l y∧(bt3 xs l g j (srcN xs j (↑l.length:Int)).toNat).m y < (bt3 xs l g j (srcN xs j (↑l.length:Int)).toNat).m x∧((0:Nat)=0∧(0:Nat)=0∧(0:Nat)=0∧(0:Nat)=0∧((bif g
 then g=true else True)∧l=l)∧(↑l.length:Int)=(↑l.length:Int)∧x+(1:Int)=y∧True)∧((True∧xs=xs)∧j=j∧True)∧(((bif g then g=true else True)∧l=l)∧True)∧(True∧True)∧((btL l (srcN xs j (↑l.length:Int)).toNat x++[[AV.int .i64 n,.str s,.rw (1017:Nat) (7:Nat) ([]++xs_1).length]]).length=Int.toNat y∧True)∧mapLL (renA (1017:Nat) (1501:Nat)) (mapLL (killA (1501:Nat)) (btL l (srcN xs j (↑l.length:Int)).toNat
 x++[[AV.int .i64 n,.str s,.rw (1017:Nat) (7:Nat) ([]++xs_1).length]]))=btL l (srcN xs j (↑l.length:Int)).toNat y∧[]++xs_1=hpP l (srcN xs j (↑l.length:Int)).toNat y∧True else False)∧(¬x=(↑(srcN xs j (↑l.length:Int)).toNat:Int)→bif decide (rng .i64 (x+(1:Int))) then ∃ y,CoI l y∧(bt3 xs l g j (srcN xs j (↑l.length:Int)).toNat).m y < (bt3 xs l g j (srcN xs j (↑l.length:Int)).toNat).m
 x∧((0:Nat)=0∧(0:Nat)=0∧(0:Nat)=0∧(0:Nat)=0∧((bif g then g=true else True)∧l=l)∧(↑l.length:Int)=(↑l.length:Int)∧x+(1:Int)=y∧True)∧((True∧xs=xs)∧j=j∧True)∧(((bif g then g=true else True)∧l=l)∧True)∧(True∧True)∧((btL l (srcN xs j (↑l.length:Int)).toNat x++[[AV.int .i64 n,.str s,.rw (1017:Nat) (7:Nat) ([]++xs_1).length]]).length=Int.toNat y∧True)∧mapLL (frsA (1017:Nat) (7:Nat) ([]++xs_1)) (btL
 l (srcN xs j (↑l.length:Int)).toNat x++[[AV.int .i64 n,.str s,.rw (1017:Nat) (7:Nat) ([]++xs_1).length]])=btL l (srcN xs j (↑l.length:Int)).toNat y∧hpP l (srcN xs j (↑l.length:Int)).toNat x=hpP l (srcN xs j (↑l.length:Int)).toNat y∧True else False) else False else False else False else bif decide ((↑x.toNat:Int)=(0:Int)) then bif decide (x.toNat=(mapLL (killA (1501:Nat)) (btL l (srcN xs j
 (↑l.length:Int)).toNat x)).length∧(mapLL (killA (1501:Nat)) (btL l (srcN xs j (↑l.length:Int)).toNat x)).length+(1:Nat)≤(9223372036854775807:Nat)∧((mapLL (killA (1501:Nat)) (btL l (srcN xs j (↑l.length:Int)).toNat x)).length+(1:Nat))*(48:Nat)≤(140737488355328:Nat)) then bif decide ((mapLL (killA (1501:Nat)) (btL l (srcN xs j (↑l.length:Int)).toNat x)++[[AV.int .i64 (1:Int),.str { data
:=#[(65:UInt8),(76:UInt8),(80:UInt8),(72:UInt8),(65:UInt8)] },.sl (7:Nat) false []]]).length=(mapLL (killA (1501:Nat)) (btL l (srcN xs j (↑l.length:Int)).toNat x)++[[AV.int .i64 (1:Int),.str { data:=#[(65:UInt8),(76:UInt8),(80:UInt8),(72:UInt8),(65:UInt8)] },.sl (7:Nat) false []]]).length) then ∃ q j2,BntR q j2∧((True∧mapLL (killA (1501:Nat)) (btL l (srcN xs j
 (↑l.length:Int)).toNat x)++[[AV.int .i64 (1:Int),.str { data:=#[(65:UInt8),(76:UInt8),(80:UInt8),(72:UInt8),(65:UInt8)] },.sl (7:Nat) false []]]=q)∧True)∧((True∧xs=xs)∧j=j2∧True)∧True else False else False else (SrcI xs∧0≤j)∧bif decide (0≤srcN xs j (↑x.toNat:Int)∧srcN xs j (↑x.toNat:Int) < (↑x.toNat:Int)) then bif decide (x.toNat=List.length (btL l (srcN xs j
 (↑l.length:Int)).toNat x)∧(srcN xs j (↑x.toNat:Int)).toNat < List.length (btL l (srcN xs j (↑l.length:Int)).toNat x)) then ∃ n,List.take [AV.rw (1501:Nat) (7:Nat) n].length (List.drop (2:Nat) (List.getD (btL l (srcN xs j (↑l.length:Int)).toNat x) (srcN xs j (↑x.toNat:Int)).toNat []))=[AV.rw (1501:Nat) (7:Nat) n]∧bif decide (x.toNat=List.length (btL l (srcN xs j (↑l.length:Int)).toNat x)∧(srcN xs j
 (↑x.toNat:Int)).toNat < List.length (btL l (srcN xs j (↑l.length:Int)).toNat x)) then ∃ n_1,List.take [AV.rw (1501:Nat) (7:Nat) n_1].length (List.drop (2:Nat) (List.getD (btL l (srcN xs j (↑l.length:Int)).toNat x) (srcN xs j (↑x.toNat:Int)).toNat []))=[AV.rw (1501:Nat) (7:Nat) n_1]∧(SrcI xs∧0≤rawA xs j)∧bif decide (0≤srcN xs (rawA xs j) (↑n_1:Int)∧srcN xs (rawA xs j) (↑n_1:Int) <
 (↑n:Int)) then (SrcI xs∧0≤rawA xs (rawA xs j))∧bif decide (srcN xs (rawA xs (rawA xs j)) (8:Int)=0) then (SrcQ xs (rawA xs (rawA xs (rawA xs j)))∧(-1:Int)≤(4:Int)∧(-1000000000:Int)≤(-1:Int)∧(4:Int)≤(1000000000:Int))∧∀ (v j_1:Int),((-1:Int)≤v∧v≤(4:Int))∧0≤j_1→bif decide (x.toNat=List.length (btL l (srcN xs j (↑l.length:Int)).toNat x)∧(srcN xs j (↑x.toNat:Int)).toNat <
 List.length (btL l (srcN xs j (↑l.length:Int)).toNat x)) then (True→bif decide (x.toNat=(mapLL (nlA (7:Nat)) (mapLL (frsA (1501:Nat) (7:Nat) (hpP l (srcN xs j (↑l.length:Int)).toNat x)) (setEl (btL l (srcN xs j (↑l.length:Int)).toNat x) (srcN xs j (↑x.toNat:Int)).toNat (0:Nat) [AV.int .i64 v]))).length) then ∃ q j2,BntR q j2∧((True∧mapLL (nlA (7:Nat)) (mapLL (frsA (1501:Nat) (7:Nat) (hpP l (srcN xs
 j (↑l.length:Int)).toNat x)) (setEl (btL l (srcN xs j (↑l.length:Int)).toNat x) (srcN xs j (↑x.toNat:Int)).toNat (0:Nat) [AV.int .i64 v]))=q)∧True)∧((True∧xs=xs)∧j_1=j2∧True)∧True else False)∧(¬True→∃ q j2,BntR q j2∧(False∧True)∧((True∧xs=xs)∧j_1=j2∧True)∧False) else False else bif decide (srcN xs (rawA xs (rawA xs j)) (8:Int)=1) then (SrcQ xs (rawA xs (rawA xs (rawA xs j)))∧((4:Nat)=4∧(1:Nat) ≤
 (4:Nat)∧(4:Nat)≤(1000:Nat))∧StrsA [[AV.str { data:=#[] }],[AV.str { data:=#[(90:UInt8),(90:UInt8),(90:UInt8),(90:UInt8),(90:UInt8)] }],[AV.str { data:=#[(65:UInt8),(65:UInt8),(65:UInt8),(65:UInt8),(65:UInt8)] }],[AV.str { data:=#[(97:UInt8),(108:UInt8),(112:UInt8),(104:UInt8),(97:UInt8)] }]])∧∀ (v:ByteArray) (j_1:Int),PickQ [[AV.str (⟨#[]⟩ :
 ByteArray)],[AV.str { data:=#[(90:UInt8),(90:UInt8),(90:UInt8),(90:UInt8),(90:UInt8)] }],[AV.str { data:=#[(65:UInt8),(65:UInt8),(65:UInt8),(65:UInt8),(65:UInt8)] }],[AV.str { data:=#[(97:UInt8),(108:UInt8),(112:UInt8),(104:UInt8),(97:UInt8)] }]] (AV.str v) j_1→bif decide (x.toNat=List.length (btL l (srcN xs j (↑l.length:Int)).toNat x)∧(srcN xs j
 (↑x.toNat:Int)).toNat < List.length (btL l (srcN xs j (↑l.length:Int)).toNat x)) then (True→bif decide (x.toNat=(mapLL (nlA (7:Nat)) (mapLL (frsA (1501:Nat) (7:Nat) (hpP l (srcN xs j (↑l.length:Int)).toNat x)) (setEl (btL l (srcN xs j (↑l.length:Int)).toNat x) (srcN xs j (↑x.toNat:Int)).toNat (1:Nat) [AV.str v]))).length) then ∃ q j2,BntR q j2∧((True∧mapLL (nlA (7:Nat)) (mapLL (frsA (1501:Nat)
 (7:Nat) (hpP l (srcN xs j (↑l.length:Int)).toNat x)) (setEl (btL l (srcN xs j (↑l.length:Int)).toNat x) (srcN xs j (↑x.toNat:Int)).toNat (1:Nat) [AV.str v]))=q)∧True)∧((True∧xs=xs)∧j_1=j2∧True)∧True else False)∧(¬True→∃ q j2,BntR q j2∧(False∧True)∧((True∧xs=xs)∧j_1=j2∧True)∧False) else False else bif decide (srcN xs (rawA xs (rawA xs j)) (8:Int)=2) then (SrcQ xs (rawA xs (rawA xs (rawA xs
 j)))∧((4:Nat)=4∧(1:Nat)≤(4:Nat)∧(4:Nat)≤(1000:Nat))∧IntsB [[AV.int .i64 (-1:Int)],[AV.int .i64 (0:Int)],[AV.int .i64 (52595999:Int)],[AV.int .i64 (52596000:Int)]])∧∀ (v j_1:Int),PickQ [[AV.int .i64 (-1:Int)],[AV.int .i64 (0:Int)],[AV.int .i64 (52595999:Int)],[AV.int .i64 (52596000:Int)]] (AV.int .i64 v) j_1→bif decide (n=List.length (hpP l (srcN xs j (↑l.length:Int)).toNat x)∧(srcN xs (rawA xs
 j) (↑n_1:Int)).toNat < List.length (hpP l (srcN xs j (↑l.length:Int)).toNat x)) then (True→bif decide (x.toNat=(mapLL (nlA (7:Nat)) (mapLL (frsA (1501:Nat) (7:Nat) (setEl (hpP l (srcN xs j (↑l.length:Int)).toNat x) (srcN xs (rawA xs j) (↑n_1:Int)).toNat (0:Nat) [AV.int .i64 v])) (btL l (srcN xs j (↑l.length:Int)).toNat x))).length) then ∃ q j2,BntR q j2∧((True∧mapLL (nlA (7:Nat)) (mapLL (frsA
 (1501:Nat) (7:Nat) (setEl (hpP l (srcN xs j (↑l.length:Int)).toNat x) (srcN xs (rawA xs j) (↑n_1:Int)).toNat (0:Nat) [AV.int .i64 v])) (btL l (srcN xs j (↑l.length:Int)).toNat x))=q)∧True)∧((True∧xs=xs)∧j_1=j2∧True)∧True else False)∧(¬True→∃ q j2,BntR q j2∧(False∧True)∧((True∧xs=xs)∧j_1=j2∧True)∧False) else False else bif decide (srcN xs (rawA xs (rawA xs j)) (8:Int)=3) then bif decide
 (n=List.length (hpP l (srcN xs j (↑l.length:Int)).toNat x)∧(srcN xs (rawA xs j) (↑n_1:Int)).toNat < List.length (hpP l (srcN xs j (↑l.length:Int)).toNat x)) then ∃ b,List.take [AV.bool b].length (List.drop (1:Nat) (List.getD (hpP l (srcN xs j (↑l.length:Int)).toNat x) (srcN xs (rawA xs j) (↑n_1:Int)).toNat []))=[AV.bool b]∧bif decide (n=List.length (hpP l (srcN xs j (↑l.length:Int)).toNat x)∧(srcN
 xs (rawA xs j) (↑n_1:Int)).toNat < List.length (hpP l (srcN xs j (↑l.length:Int)).toNat x)) then (True→bif decide (x.toNat=(mapLL (nlA (7:Nat)) (mapLL (frsA (1501:Nat) (7:Nat) (setEl (hpP l (srcN xs j (↑l.length:Int)).toNat x) (srcN xs (rawA xs j) (↑n_1:Int)).toNat (1:Nat) [AV.bool !b])) (btL l (srcN xs j (↑l.length:Int)).toNat x))).length) then ∃ q j2,BntR q j2∧((True∧mapLL (nlA (7:Nat)) (mapLL
 (frsA (1501:Nat) (7:Nat) (setEl (hpP l (srcN xs j (↑l.length:Int)).toNat x) (srcN xs (rawA xs j) (↑n_1:Int)).toNat (1:Nat) [AV.bool !b])) (btL l (srcN xs j (↑l.length:Int)).toNat x))=q)∧True)∧((True∧xs=xs)∧rawA xs (rawA xs (rawA xs j))=j2∧True)∧True else False)∧(¬True→∃ q j2,BntR q j2∧(False∧True)∧((True∧xs=xs)∧rawA xs (rawA xs (rawA xs j))=j2∧True)∧False) else False else False else bif decide
 (srcN xs (rawA xs (rawA xs j)) (8:Int)=4) then SrcQ xs (rawA xs (rawA xs (rawA xs j)))∧∀ (f a b c j_1:Int),PlaQ f a b c j_1→bif decide (n=List.length (hpP l (srcN xs j (↑l.length:Int)).toNat x)∧(srcN xs (rawA xs j) (↑n_1:Int)).toNat < List.length (hpP l (srcN xs j (↑l.length:Int)).toNat x)) then (True→bif decide (x.toNat=(mapLL (nlA (7:Nat)) (mapLL (frsA (1501:Nat) (7:Nat) (setEl (hpP l (srcN xs j
 (↑l.length:Int)).toNat x) (srcN xs (rawA xs j) (↑n_1:Int)).toNat (2:Nat) [AV.int .i64 f,.int .i64 a,.int .i64 b,.int .i64 c])) (btL l (srcN xs j (↑l.length:Int)).toNat x))).length) then ∃ q j2,BntR q j2∧((True∧mapLL (nlA (7:Nat)) (mapLL (frsA (1501:Nat) (7:Nat) (setEl (hpP l (srcN xs j (↑l.length:Int)).toNat x) (srcN xs (rawA xs j) (↑n_1:Int)).toNat (2:Nat) [AV.int .i64 f,.int .i64 a,.int .i64
 b,.int .i64 c])) (btL l (srcN xs j (↑l.length:Int)).toNat x))=q)∧True)∧((True∧xs=xs)∧j_1=j2∧True)∧True else False)∧(¬True→∃ q j2,BntR q j2∧(False∧True)∧((True∧xs=xs)∧j_1=j2∧True)∧False) else False else bif decide (srcN xs (rawA xs (rawA xs j)) (8:Int)=5) then (∀ (j_1 i:Nat) (x_1:List AV) (y:AV),(hpP l (srcN xs j (↑l.length:Int)).toNat x)[j_1]?=some x_1→x_1[i]?=some y→∀ (k:Nat),nn k y=false→inL
 k []=true)∧(SrcQ xs (rawA xs (rawA xs (rawA xs j)))∧(0:Int)≤(12:Int)∧(-1000000000:Int)≤(0:Int)∧(12:Int)≤(1000000000:Int))∧∀ (v j_1:Int),(0≤v∧v≤(12:Int))∧0≤j_1→(SrcQ xs j_1∧((3:Nat)=3∧(1:Nat)≤(3:Nat)∧(3:Nat)≤(1000:Nat))∧IntsB [[AV.int .i64 (-1001:Int)],[AV.int .i64 (0:Int)],[AV.int .i64 (1001:Int)]])∧∀ (v_1 j_2:Int),PickQ [[AV.int .i64 (-1001:Int)],[AV.int .i64
 (0:Int)],[AV.int .i64 (1001:Int)]] (AV.int .i64 v_1) j_2→bif decide (n=List.length (hpP l (srcN xs j (↑l.length:Int)).toNat x)∧(srcN xs (rawA xs j) (↑n_1:Int)).toNat < List.length (hpP l (srcN xs j (↑l.length:Int)).toNat x)) then (True→bif decide (x.toNat=(mapLL (nlA (7:Nat)) (mapLL (frsA (1501:Nat) (7:Nat) (mapLL (frsA (1114:Nat) (2:Nat) [[AV.int .i64 v,.int .i64 v_1]]) (setEl (hpP l (srcN xs j
 (↑l.length:Int)).toNat x) (srcN xs (rawA xs j) (↑n_1:Int)).toNat (6:Nat) [AV.rw (1114:Nat) (2:Nat) (1:Nat)]))) (btL l (srcN xs j (↑l.length:Int)).toNat x))).length) then ∃ q j2,BntR q j2∧((True∧mapLL (nlA (7:Nat)) (mapLL (frsA (1501:Nat) (7:Nat) (mapLL (frsA (1114:Nat) (2:Nat) [[AV.int .i64 v,.int .i64 v_1]]) (setEl (hpP l (srcN xs j (↑l.length:Int)).toNat x) (srcN xs (rawA xs j) (↑n_1:Int)).toNat
 (6:Nat) [AV.rw (1114:Nat) (2:Nat) (1:Nat)]))) (btL l (srcN xs j (↑l.length:Int)).toNat x))=q)∧True)∧((True∧xs=xs)∧j_2=j2∧True)∧True else False)∧(¬True→∃ q j2,BntR q j2∧(False∧True)∧((True∧xs=xs)∧j_2=j2∧True)∧False) else False else bif decide (srcN xs (rawA xs (rawA xs j)) (8:Int)=6) then bif decide (x.toNat=List.length (btL l (srcN xs j (↑l.length:Int)).toNat x)∧(srcN xs j (↑x.toNat:Int)).toNat <
 List.length (btL l (srcN xs j (↑l.length:Int)).toNat x)) then ∃ n,List.take [AV.rw (1501:Nat) (7:Nat) n].length (List.drop (2:Nat) (List.getD (btL l (srcN xs j (↑l.length:Int)).toNat x) (srcN xs j (↑x.toNat:Int)).toNat []))=[AV.rw (1501:Nat) (7:Nat) n]∧bif decide (x.toNat=List.length (btL l (srcN xs j (↑l.length:Int)).toNat x)∧(srcN xs j (↑x.toNat:Int)).toNat < List.length (btL l (srcN xs j
 (↑l.length:Int)).toNat x)) then ∃ n_2,List.take [AV.rw (1501:Nat) (7:Nat) n_2].length (List.drop (2:Nat) (List.getD (btL l (srcN xs j (↑l.length:Int)).toNat x) (srcN xs j (↑x.toNat:Int)).toNat []))=[AV.rw (1501:Nat) (7:Nat) n_2]∧bif decide ((0:Int)≤(0:Int)∧(0:Int) < (↑n_2:Int)) then bif decide (n_2=List.length (hpP l (srcN xs j (↑l.length:Int)).toNat x)∧0 < List.length (hpP l (srcN xs j
 (↑l.length:Int)).toNat x)) then ∃ n_3 b n_4 n_5 n_6 n_7 xs_1,List.take [AV.int .i64 n_3,.bool b,.int .i64 n_4,.int .i64 n_5,.int .i64 n_6,.int .i64 n_7,.sl (2:Nat) false xs_1].length (List.drop (0:Nat) (List.getD (hpP l (srcN xs j (↑l.length:Int)).toNat x) (0:Nat) []))=[AV.int .i64 n_3,.bool b,.int .i64 n_4,.int .i64 n_5,.int .i64 n_6,.int .i64 n_7,.sl (2:Nat) false xs_1]∧bif decide (n=List.length
 (hpP l (srcN xs j (↑l.length:Int)).toNat x)∧List.length (hpP l (srcN xs j (↑l.length:Int)).toNat x)+[[AV.int .i64 n_3,.bool b,.int .i64 n_4,.int .i64 n_5,.int .i64 n_6,.int .i64 n_7,.sl (2:Nat) false xs_1]].length≤(9223372036854775807:Nat)∧(List.length (hpP l (srcN xs j (↑l.length:Int)).toNat x)+[[AV.int .i64 n_3,.bool b,.int .i64 n_4,.int .i64 n_5,.int .i64 n_6,.int .i64 n_7,.sl (2:Nat)
 false xs_1]].length)*(72:Nat)≤(140737488355328:Nat)) then bif decide (x.toNat=List.length (btL l (srcN xs j (↑l.length:Int)).toNat x)∧(srcN xs j (↑x.toNat:Int)).toNat < List.length (btL l (srcN xs j (↑l.length:Int)).toNat x)) then (True→bif decide (x.toNat=(mapLL (nlA (7:Nat)) (mapLL (frsA (1501:Nat) (7:Nat) (hpP l (srcN xs j (↑l.length:Int)).toNat x++[[AV.int .i64 n_3,.bool b,.int .i64
 n_4,.int .i64 n_5,.int .i64 n_6,.int .i64 n_7,.sl (2:Nat) false xs_1]])) (setEl (btL l (srcN xs j (↑l.length:Int)).toNat x) (srcN xs j (↑x.toNat:Int)).toNat (2:Nat) [AV.rw (1501:Nat) (7:Nat) (hpP l (srcN xs j (↑l.length:Int)).toNat x++[[AV.int .i64 n_3,.bool b,.int .i64 n_4,.int .i64 n_5,.int .i64 n_6,.int .i64 n_7,.sl (2:Nat) false xs_1]]).length]))).length) then ∃ q j2,BntR q j2∧((True∧mapLL
 (nlA (7:Nat)) (mapLL (frsA (1501:Nat) (7:Nat) (hpP l (srcN xs j (↑l.length:Int)).toNat x++[[AV.int .i64 n_3,.bool b,.int .i64 n_4,.int .i64 n_5,.int .i64 n_6,.int .i64 n_7,.sl (2:Nat) false xs_1]])) (setEl (btL l (srcN xs j (↑l.length:Int)).toNat x) (srcN xs j (↑x.toNat:Int)).toNat (2:Nat) [AV.rw (1501:Nat) (7:Nat) (hpP l (srcN xs j (↑l.length:Int)).toNat x++[[AV.int .i64 n_3,.bool b,.int .i64
 n_4,.int .i64 n_5,.int .i64 n_6,.int .i64 n_7,.sl (2:Nat) false xs_1]]).length]))=q)∧True)∧((True∧xs=xs)∧rawA xs (rawA xs (rawA xs j))=j2∧True)∧True else False)∧(¬True→∃ q j2,BntR q j2∧(False∧True)∧((True∧xs=xs)∧rawA xs (rawA xs (rawA xs j))=j2∧True)∧False) else False else False else False else False else False else False else bif decide (x.toNat=List.length (btL l (srcN xs j (↑l.length:Int)).toNat
 x)∧(srcN xs j (↑x.toNat:Int)).toNat < List.length (btL l (srcN xs j (↑l.length:Int)).toNat x)) then (True→bif decide (x.toNat=(mapLL (nlA (7:Nat)) (mapLL (frsA (1501:Nat) (7:Nat) (hpP l (srcN xs j (↑l.length:Int)).toNat x)) (setEl (btL l (srcN xs j (↑l.length:Int)).toNat x) (srcN xs j (↑x.toNat:Int)).toNat (2:Nat) [AV.nils]))).length) then ∃ q j2,BntR q j2∧((True∧mapLL (nlA (7:Nat)) (mapLL (frsA
 (1501:Nat) (7:Nat) (hpP l (srcN xs j (↑l.length:Int)).toNat x)) (setEl (btL l (srcN xs j (↑l.length:Int)).toNat x) (srcN xs j (↑x.toNat:Int)).toNat (2:Nat) [AV.nils]))=q)∧True)∧((True∧xs=xs)∧rawA xs (rawA xs (rawA xs j))=j2∧True)∧True else False)∧(¬True→∃ q j2,BntR q j2∧(False∧True)∧((True∧xs=xs)∧rawA xs (rawA xs (rawA xs j))=j2∧True)∧False) else False else False else False else False else False
theorem rbent_P:rbent_T:=by
 unfold rbent_T
 intro gl xs j g l ⟨hs,hl,hne⟩
 have bg:cond g (g=true) True:=by cases g <;> trivial
 have s:=hs.s
 have fs:=hl.fs
 obtain ⟨i,hi⟩:∃ i,i=(srcN xs j l.length).toNat:=⟨_,rfl⟩
 rw [← hi]
 refine ⟨fun j i x y h=>by simp at h,⟨0,⟨by decide,by omega⟩,by (repeat' (first | exact trivial | exact rfl | assumption | apply And.intro)),by (repeat' (first | exact trivial | exact rfl | assumption | apply And.intro)),by (repeat' (first | exact trivial | exact rfl | assumption | apply And.intro)),by (repeat' (first | exact trivial | exact rfl | assumption | apply And.intro)),by (repeat' (first | exact trivial | exact rfl | assumption | apply And.intro)),rfl,(if_neg (by omega)).symm,trivial⟩,?_⟩
 rintro x ⟨x0,x1⟩
 refine csx (fun hx=>?_) (fun hx=>?_)
 ·obtain ⟨k,nm,ps,hr,hp⟩:=hl.fr x.toNat (by omega)
  have ps6:=hp.fs
  have hB:=btL_len (i:=i) x0 x1
  refine cd1 (by omega) ⟨k,nm,ps,by rw [hr]; rfl,cd1 ⟨rfl,by omega,by omega⟩ (cd1 ⟨hB.symm,by rw [hB,List.length_singleton]; omega,by rw [hB,List.length_singleton]; omega⟩ ⟨fun e=>?_,fun e=>?_⟩)⟩
  ·subst e
   obtain ⟨h1,h2⟩:=btL_here hl (by omega) hr
   refine cdI (by omega) ⟨(i:Int)+1,⟨by omega,by omega⟩,by simp only [bt3]; omega,by (repeat' (first | exact trivial | exact rfl | assumption | apply And.intro)),by (repeat' (first | exact trivial | exact rfl | assumption | apply And.intro)),by (repeat' (first | exact trivial | exact rfl | assumption | apply And.intro)),by (repeat' (first | exact trivial | exact rfl | assumption | apply And.intro)),⟨by rw [List.length_append,hB,List.length_singleton]; omega,trivial⟩,h1,h2,trivial⟩
  ·obtain ⟨h1,h2⟩:=btL_else (i:=i) hl x0 hx e hr
   refine cdI (by omega) ⟨x+1,⟨by omega,by omega⟩,by simp only [bt3]; omega,by (repeat' (first | exact trivial | exact rfl | assumption | apply And.intro)),by (repeat' (first | exact trivial | exact rfl | assumption | apply And.intro)),by (repeat' (first | exact trivial | exact rfl | assumption | apply And.intro)),by (repeat' (first | exact trivial | exact rfl | assumption | apply And.intro)),⟨by rw [List.length_append,hB,List.length_singleton]; omega,trivial⟩,h1,h2,trivial⟩
 have hx:x=l.length:=by omega
 subst hx
 rw [Int.toNat_natCast]
 refine csx (fun h0=>?_) (fun h0=>?_)
 ·have l0:l=[]:=List.eq_nil_of_length_eq_zero (by omega)
  subst l0
  have eb:mapLL (killA 1501) (btL [] i (([]:LLR).length:Nat))=[]:=rfl
  rw [eb]
  refine cd1 ⟨rfl,by decide,by decide⟩ (cd1 rfl ⟨_,_,⟨⟨fun q hq=>?_,by simp⟩,hs.lo⟩,⟨⟨trivial,rfl⟩,trivial⟩,by (repeat' (first | exact trivial | exact rfl | assumption | apply And.intro))⟩)
  have hq:q=0:=by simpa using hq
  subst hq
  exact ⟨_,_,[],rfl,⟨fun j hj=>by simp at hj,by simp⟩⟩
 have hI:=srcN_lt (xs:=xs) (i:=j) (n:=l.length) (by omega)
 have hil:i < l.length:=by omega
 obtain ⟨k,nm,ps,_,hps,hoe,F⟩:=holF hl hil
 rw [hps,← hi]
 have pne:ps.length≠0:=fun z=>(hne i hil).1 (by rw [hoe]; exact List.eq_nil_of_length_eq_zero z)
 have p8:ps.length≤8:=by have:=(hne i hil).2; rw [hoe] at this; exact this
 generalize btL l i l.length=H at F ⊢
 have hp:=F.hp
 have pfs:=hp.fs
 have hc:l.length=H.length∧i < H.length:=⟨F.hn.symm,by rw [F.hn]; exact hil⟩
 have r1:0≤rawA xs j:=rawA_le hs.lo
 have r2:0≤rawA xs (rawA xs j):=rawA_le r1
 have r3:0≤rawA xs (rawA xs (rawA xs j)):=rawA_le r2
 have hJ:=srcN_lt (xs:=xs) (i:=rawA xs j) (n:=ps.length) (by omega)
 have gH:∃ n,List.take [AV.rw 1501 7 n].length (List.drop 2 (H.getD i []))=[AV.rw 1501 7 n]:=⟨ps.length,by rw [F.ha]; rfl⟩
 have hpJ:(srcN xs (rawA xs j) ps.length).toNat < ps.length:=by omega
 refine ⟨⟨s,hs.lo⟩,cd1 (by omega) (cd1 hc ⟨ps.length,by rw [F.ha]; rfl,cd1 hc ⟨ps.length,by rw [F.ha]; rfl,⟨s,r1⟩,cd1 (by omega) ⟨⟨s,r2⟩,?_⟩⟩⟩)⟩
 refine csx (fun _=>⟨⟨⟨s,r3⟩,by decide,by decide,by decide⟩,fun v j' p=>cd1 hc ?_⟩) (fun _=>?_)
 ·obtain ⟨a1,a2⟩:=F.cell (fo:=0) (ys:=[.int .i64 v]) hp rfl (.inl rfl)
  exact bt_done a2 a1 p.2
 refine csx (fun _=>⟨⟨⟨s,r3⟩,⟨rfl,by decide,by decide⟩,⟨fun x hx=>?_⟩⟩,fun v j' p=>cd1 hc ?_⟩) (fun _=>?_)
 ·simp only [List.mem_cons,List.not_mem_nil,or_false] at hx
  rcases hx with rfl | rfl | rfl | rfl <;> exact ⟨_,rfl⟩
 ·obtain ⟨a1,a2⟩:=F.cell (fo:=1) (ys:=[.str v]) hp rfl (.inl rfl)
  exact bt_done a2 a1 p.fj
 refine csx (fun _=>⟨⟨⟨s,r3⟩,⟨rfl,by decide,by decide⟩,ints_of [-1,0,52595999,52596000] ?_⟩,fun v j' p=>cd1 ⟨rfl,hpJ⟩ ?_⟩) (fun _=>?_)
 ·intro n hn
  simp only [List.mem_cons,List.not_mem_nil,or_false] at hn
  show _∧_
  omega
 ·obtain ⟨b1,b2⟩:=pds_cell hp (p:=(srcN xs (rawA xs j) ps.length).toNat) (fo:=0) (ys:=[.int .i64 v]) (fun _ fr cl f a b c bs hb=>⟨v,cl,f,a,b,c,bs,rfl,hb⟩)
  obtain ⟨a1,a2⟩:=F.keep b1 b2
  exact bt_done a2 a1 p.fj
 refine csx (fun _=>cd1 ⟨rfl,hpJ⟩ ?_) (fun _=>?_)
 ·obtain ⟨fr,cl,f,a,b,c,bs,hr,hb⟩:=hp.fr _ hpJ
  obtain ⟨b1,b2⟩:=pds_cell hp (p:=(srcN xs (rawA xs j) ps.length).toNat) (fo:=1) (ys:=[.bool (!cl)]) (fun _ fr _ f a b c bs hb=>⟨fr,!cl,f,a,b,c,bs,rfl,hb⟩)
  obtain ⟨a1,a2⟩:=F.keep b1 b2
  exact ⟨cl,by rw [hr]; rfl,cd1 ⟨rfl,hpJ⟩ (bt_done a2 a1 r3)⟩
 refine csx (fun _=>⟨⟨s,r3⟩,fun f a b c j' p=>cd1 ⟨rfl,hpJ⟩ ?_⟩) (fun _=>?_)
 ·obtain ⟨b1,b2⟩:=pds_cell hp (p:=(srcN xs (rawA xs j) ps.length).toNat) (fo:=2) (ys:=[.int .i64 f,.int .i64 a,.int .i64 b,.int .i64 c]) (fun _ fr cl _ _ _ _ bs hb=>⟨fr,cl,f,a,b,c,bs,rfl,hb⟩)
  obtain ⟨a1,a2⟩:=F.keep b1 b2
  exact bt_done a2 a1 p.fj
 refine csx (fun _=>⟨pd_nm hp,⟨⟨s,r3⟩,by decide,by decide,by decide⟩,fun v j' p=>⟨⟨⟨s,p.2⟩,⟨rfl,by decide,by decide⟩,ints_of [-1001,0,1001] ?_⟩,fun w j' p2=>cd1 ⟨rfl,hpJ⟩ ?_⟩⟩) (fun _=>?_)
 ·intro n hn
  simp only [List.mem_cons,List.not_mem_nil,or_false] at hn
  show _∧_
  omega
 ·have hw:=pick_of [-1001,0,1001] p2
  simp only [List.mem_cons,List.not_mem_nil,or_false] at hw
  obtain ⟨b1,b2⟩:=pds_bias hp (p:=(srcN xs (rawA xs j) ps.length).toNat) (B:=[[.int .i64 v,.int .i64 w]]) ⟨rds_lit1 (by show _∧_; omega) (by show _∧_; omega),by simp⟩ rfl
  obtain ⟨a1,a2⟩:=F.keep b1 b2
  exact bt_done a2 a1 p2.fj
 refine csx (fun _=>cd1 hc ⟨ps.length,by rw [F.ha]; rfl,cd1 hc ⟨ps.length,by rw [F.ha]; rfl,cd1 (by omega) (cd1 ⟨rfl,by omega⟩ ?_)⟩⟩) (fun _=>cd1 hc ?_)
 ·obtain ⟨fr,cl,f,a,b,c,bs,hr,hb⟩:=hp.fr 0 (by omega)
  refine ⟨fr,cl,f,a,b,c,bs,by rw [hr]; rfl,cd1 ⟨rfl,by rw [List.length_singleton]; omega,by rw [List.length_singleton]; omega⟩ (cd1 hc ?_)⟩
  have hZ:PdsP (ps++[pdA fr cl f a b c bs]):=⟨fun q hq=>by
   rw [List.length_append,List.length_singleton] at hq
   rw [gD_app]
   by_cases z:q < ps.length
   ·rw [if_pos z]; exact hp.fr q z
   ·rw [if_neg z,show q - ps.length=0 by omega]; exact ⟨fr,cl,f,a,b,c,bs,rfl,hb⟩,by rw [List.length_append,List.length_singleton]; omega⟩
  obtain ⟨a1,a2⟩:=F.cell (fo:=2) (ys:=[.rw 1501 7 (ps++[pdA fr cl f a b c bs]).length]) hZ rfl (.inl rfl)
  exact bt_done a2 a1 r3
 ·obtain ⟨a1,a2⟩:=F.cell (fo:=2) (ys:=[.nils]) hp rfl (.inr rfl)
  exact bt_done a2 a1 r3
def rbent_S:Prop:=∀ (gl:Glob) (xs:List (List AV)) (j:Int) (g:Bool) (l:List (List AV)),SrcQ xs j∧BnoP l→fnQ Tryz.prog { glob:=gl,spec:=lk [],specH:=lk [(37,srcn_s)],specQ:=lk [(24,qrange_s),(44,qtext_s),(40,qpick_s),(43,qplace_s)],shape:=[16,51,56,94,123,127,129],slz:=[(16,[7]),(51,[1501007]),(56,[1501007]),(123,[1501007]),(127,[1501007]),(129,[2])],nowf:=true,nls:=[(59,2,7)] } { nt:=135,drop:=drp [(2,1024),(4,98304),(5,4063232),(6,264241152),(7,268435456),(8,3758096384),(9,541165879296),(10,549755813888),(11,280375465082880),(12,1152640029630136320),(13,1152921504606846976),(14,32281802128991715328),(15,73786976294838206464),(16,4574792530279968800768),(17,9444732965739290427392),(18,1190036353683150593851392),(19,2417851639229258349412352),(20,304649306542886552025956352),(21,618970019642690137449562112),(22,315674710017771970099276677120),(23,633825300114114700748351602688),(24,39297168607075111446397799366656),(25,81129638414606681695789005144064),(26,165991240196285270749584304524754944),(27,332306998946228968225951765070086144),(28,21777406868942169203719522972103025360896),(29,21778071482940061661655974875633165533184)],fr:=1000,kp:=[0],emp:=fun id=>cond (Nat.beq id 2) [(1100500,1500,59,3)] [],act:=fun id=>cond (Nat.beq id 500002) [.nop 1500,.mk 1501 49 7] (cond (Nat.beq id 9) [.kil 1501,.cls 1500] (cond (Nat.beq id 26) [.nop 1501] [])),cas:=fun id st=>btC id st (srcN xs j l.length).toNat } (invs [(3,bt3 xs l g j (srcN xs j l.length).toNat)]) 6 Tryz.f15 [.ptr 0 0,.agg [.sl 3 g l]] [.cells [.sl 1 false xs,.int .i64 j]] (fun r2 bs2=>∃ (q:List (List AV)) (j2:Int),(BntR q j2)∧le r2 (.agg [.sl 3 false q])∧leBs bs2 [.cells [.sl 1 false xs,.int .i64 j2]])
theorem rbent_e:rbent_T=rbent_S:=by kernel_rfl
theorem rbent_v:rbent_S:=Eq.mp (rbent_e ..) (rbent_P)
theorem rbent_ok (gl:Glob):QOK Tryz.prog gl 15 rbent_s:=by
 refine ⟨fok Tryz.func15 (by kernel_rfl) (by kernel_rfl),?_⟩
 intro xs bs T h K hT
 unfold rbent_s at h
 split at h
 ·simp only [Option.some.injEq] at h
  subst h
  obtain ⟨hp,hK⟩:=hT
  obtain ⟨r,bs2,⟨o0,o1,hq,hl,hb⟩,hC⟩:=fnQ_sound tyNil (by exact specOK rfl rfl trivial ⟨(srcn_ok gl),trivial⟩ (d:=qsOf rfl ⟨(qrange_ok gl),(qtext_ok gl),(qpick_ok gl),(qplace_ok gl),trivial⟩)) (by kernel_rfl) Tryz.func15 (rbent_v gl _ _ _ _ hp)
  exact ⟨_,_,hK o0 o1 hq,hC.le hl hb⟩
 ·cases h
end Go.Proofs.YtldiagnbagpliaaGreatDoor
namespace Go.Proofs.YtldiagnbagpliaaGreatDoor
open Go Go.Lib Go.RowKit
set_option linter.unusedVariables false
set_option linter.unusedSimpArgs false
theorem zero_oneP:∃ i z,Tryz.prog.info? 49=some i∧i.zero=some z∧i.size=7∧z.cells.size=7∧∀ v ∈ z.cells.toList,v.oneCell'=true:=by
 have h:(Tryz.prog.info? 49).map (fun i=>(i.zero.map (fun z=>(z.cells.size,z.cells.toList.all fun v=>v.oneCell')),i.size))=some (some (7,true),7):=by kernel_rfl
 cases e:Tryz.prog.info? 49 with
 | none=>rw [e] at h; cases h
 | some i =>
  rw [e] at h
  simp only [Option.map_some,Option.some.injEq,Prod.mk.injEq] at h
  obtain ⟨h1,h2⟩:=h
  cases hz:i.zero with
  | none=>rw [hz] at h1; cases h1
  | some z =>
   rw [hz] at h1
   simp only [Option.map_some,Option.some.injEq,Prod.mk.injEq] at h1
   exact ⟨i,z,rfl,hz,h2,h1.1,fun v hv=>List.all_eq_true.1 h1.2 v hv⟩
theorem zero_onceP (a:Array Value) (h:a.size=7):(Builtin.zeroCells a 1).toList=a.toList:=by
 unfold Builtin.zeroCells
 apply List.ext_getElem
 ·simp
 ·intro i h1 h2
  simp only [Array.length_toList] at h2
  simp [Nat.mod_eq_of_lt h2,h2]
theorem run_clear1P {P:Program} (w:World) (t e ty:TypeId) (z:Value) (ht:P.underlying t=some (.slice e)) (hv:∀ w,(zeroValue e).run P w=.ok z w) (hz:z.cells.size=7) (h1:∀ v ∈ z.cells.toList,v.oneCell'=true) (b o c:Nat)
  (hc:∀ j,j < 7→(w.cell? ⟨b,o+j,none⟩).isSome=true) (hf:∀ j,j < 7→w.frozen? ⟨b,o+j,none⟩=false) :
  (Builtin.clear_ #[t] ty #[.slice (some ⟨b,o,none⟩) 1 c]).run P w=.ok (.tuple #[]) (w.setCells b o z.cells.toList):=by
 have hst:=run_storeCells_cells (P:=P) b o z.cells.toList 0 w (by simpa [hz] using hc) (by simpa [hz] using hf) h1
 simp only [Nat.add_zero] at hst
 simp [Builtin.clear_,run_underlying ht,hv,zero_onceP _ hz,hst]
set_option maxHeartbeats 4000000 in
set_option maxRecDepth 1000000 in
theorem del_walkP (b n c i:Nat) (cs:List Value) (w:World) (hi:i < n) (hnc:n≤c) (hc63:c≤9223372036854775807) (hcl:cs.length=n*7)
  (hcs:∀ j v,cs[j]?=some v→w.cell? ⟨b,j,none⟩=some v) (hfz:∀ j,j < n*7→w.frozen? ⟨b,j,none⟩=false) (h1c:∀ v ∈ cs,v.oneCell'=true) :
  Calls Tryz.prog 72 #[.slice (some ⟨b,0,none⟩) n c,.int .i64 i,.int .i64 ((i:Int)+1)] w fun e w' =>
   e=.returned (.slice (some ⟨b,0,none⟩) (n - 1) c)∧∃ zl:List Value,zl.length=7∧(∀ v ∈ zl,v.oneCell'=true)∧w'=(w.drew.setCells b (i*7) (cs.drop ((i+1)*7))).setCells b ((n - 1)*7) zl:=by
 have mixed:Tryz.prog.follows .mixedOrders=true:=by kernel_rfl
 obtain ⟨i0,z0,hi0,hz0,hzs,hzc,hz1⟩:=zero_oneP
 obtain ⟨news,hnews⟩:∃ news,news=cs.drop ((i+1)*7):=⟨_,rfl⟩
 have hlen:news.length=(n - (i+1))*7:=by rw [hnews,List.length_drop,hcl,Nat.sub_mul]
 have hget:∀ t u,news[t]?=some u→w.cell? ⟨b,(i+1)*7+t,none⟩=some u:=by
  intro t u hu
  rw [hnews,List.getElem?_drop] at hu
  exact hcs _ _ hu
 have hsome:∀ j,j < n*7→(w.cell? ⟨b,j,none⟩).isSome=true:=fun j hj=>by
  rw [hcs j _ (List.getElem?_eq_getElem (show j < cs.length by omega))]; rfl
 obtain ⟨A,hA,hsrc⟩:∃ A:Addr,(if c=i+1 then some (⟨b,0,none⟩:Addr) else some ⟨b,(i+1)*7,none⟩)=some A∧Hid (∀ t u,news[t]?=some u→w.drew.cell? (A.add t)=some u):=by
  by_cases h:c=i+1
  ·refine ⟨⟨b,0,none⟩,by simp [h],fun t u hu=>?_⟩
   have h0:news.length=0:=by rw [hlen,show n - (i+1)=0 by omega,Nat.zero_mul]
   rw [List.length_eq_zero_iff.1 h0] at hu
   simp at hu
  ·refine ⟨⟨b,(i+1)*7,none⟩,by simp [h],fun t u hu=>?_⟩
   rw [Addr.add_lit]
   exact hget t u hu
 have s1:Hid (news.length=(n - (i+1))*7):=hlen
 have s2:Hid (∀ u ∈ news,u.oneCell'=true):=by
  intro u hu
  rw [hnews] at hu
  exact h1c u (List.mem_of_mem_drop hu)
 have hin:i*7+(n - (i+1))*7≤n*7:=by rw [← Nat.add_mul]; exact Nat.mul_le_mul_right _ (by omega)
 have s3:Hid (∀ t,t < news.length→(w.drew.cell? ⟨b,0+i*7+t,none⟩).isSome=true∧w.drew.frozen? ⟨b,0+i*7+t,none⟩=false):=by
  intro t ht
  rw [hlen] at ht
  rw [Nat.zero_add]
  exact ⟨hsome _ (by omega),hfz _ (by omega)⟩
 obtain ⟨W1,hW1⟩:∃ W1,W1=w.drew.setCells b (0+i*7) news:=⟨_,rfl⟩
 have hW1c:∀ a,(w.cell? a).isSome=true→(W1.cell? a).isSome=true:=fun a ha=>by rw [hW1]; exact World.isSome_setCells _ _ _ _ _ ha
 have hW1f:∀ a,W1.frozen? a=w.frozen? a:=fun a=>by rw [hW1]; exact World.frozen?_setCells _ _ _ _ _
 have hend:∀ j,j < 7→(n - 1)*7+j < n*7:=fun j hj=>by
  have:(n - 1)*7+7=n*7:=by rw [← Nat.succ_mul]; congr 1; omega
  omega
 have hcl2:∀ ty,(Builtin.clear_ #[57] ty #[.slice (some ⟨b,(i+(n - (i+1)))*7,none⟩) (n - (i+(n - (i+1)))) (c - (i+(n - (i+1))))]).run Tryz.prog W1=.ok (.tuple #[]) (W1.setCells b ((n - 1)*7) z0.cells.toList):=fun ty=>by
  rw [show i+(n - (i+1))=n - 1 by omega,show n - (n - 1)=1 by omega]
  exact run_clear1P W1 _ _ ty z0 t_itP (fun w=>by simp [zeroValue,typeInfo,hi0,hz0]) hzc hz1 b _ _ (fun j hj=>hW1c _ (hsome _ (hend j hj))) (fun j hj=>by rw [hW1f]; exact hfz _ (hend j hj))
 have hW:Hid (W1=w.drew.setCells b (0+i*7) news):=hW1
 have hic:i≤c:=by omega
 have hjc:i+1≤c:=by omega
 have hbnd:0≤(i:Int)+1∧(i:Int)+1≤(n:Int):=by omega
 have hni:¬ ((i:Int)=(i:Int)+1):=by omega
 obtain ⟨zl,hzl⟩:∃ zl,zl=z0.cells.toList:=⟨_,rfl⟩
 rw [← hzl] at hcl2
 have fin:∃ zl':List Value,zl'.length=7∧(∀ v ∈ zl',v.oneCell'=true)∧W1.setCells b ((n - 1)*7) zl=(w.drew.setCells b (i*7) (cs.drop ((i+1)*7))).setCells b ((n - 1)*7) zl' :=
  ⟨zl,by rw [hzl,Array.length_toList,hzc],by rw [hzl]; exact hz1,by rw [hW1,hnews,Nat.zero_add]⟩
 clear hzl hz1 hzc hz0
 clear hW1 hW1c hW1f hsome hget hnews hlen hcs hfz h1c hin hend
 go_enter Tryz.func72,Tryz.ntmps72
 go_wp2_with fail
 go_region_law_o (refine step_append_room rfl (.tmp 22) (.tmp 25) 57 rfl 49 i0 7 t_itP hi0 hzs b 0 i c (by simp [Act.eval,Act.put]) A (n - (i+1)) (c - (i+1)) news (by simp [Act.eval,Act.put]) s1.out hsrc.out s2.out (by omega) s3.out ?_; rw [← hW.out])
 go_wp2
 go_ret
 exact ⟨by rw [show i+(n - (i+1))=n - 1 by omega]; rfl,fin⟩
def sdelP_s:SpH
 | [.rw 0 7 n,.int .i64 i,.int .i64 j],[.row 49 7 xs]=>some ((((n=xs.length∧0≤i)∧i < n)∧j=i+1)∧n≤900,.rw 1 7 (n - 1),[.gone,.row 49 7 (xs.take i.toNat++xs.drop (i.toNat+1))])
 | _,_=>none
set_option maxHeartbeats 1000000 in
theorem sdelP_ok (gl:Glob):HOK Tryz.prog gl 72 sdelP_s:=by
 refine ⟨fok Tryz.func72 (by kernel_rfl) (by kernel_rfl),?_⟩
 intro xs0 bs pre r bs2 h hp
 unfold sdelP_s at h
 split at h
 rotate_left
 ·cases h
 rename_i n i j xs
 simp only [Option.some.injEq,Prod.mk.injEq] at h
 obtain ⟨h1,h2,h3⟩:=h
 subst h1 h2 h3
 obtain ⟨⟨⟨⟨hn,i0⟩,i1⟩,hj⟩,hbg⟩:=hp
 subst hn hj
 intro w S m vs hG hA hnm hheld hinj hv
 have H0:=hheld 0 _ rfl
 have hlt:49 < 1000000:=by decide
 obtain ⟨A,c,a1,a2,a3,a4,a5,V,b1,b2,b3,b4,b5⟩:=H0.vals
 rw [rowNm_lo (Nat.lt_trans hlt (by decide))] at b2
 obtain ⟨g,cur,fr,rfl,f1,f2,f3,f4⟩:=a5.resolve_left (fun h=>by omega)
 have hfr:=f2.lt hlt
 subst hfr
 rw [rowTy_lt hlt] at f1
 have hg:g < w.heap.size:=(Array.getElem?_eq_some_iff.1 f1).1
 simp only [CVl] at hv
 obtain ⟨u1,us1,v1,hv1,u2,us2,v2,hv2,u3,us3,v3,hv3,v4⟩:=hv
 subst v4 v3 v2
 have hv1:=cv_rowP hv1 a1
 simp only [CV] at hv2 hv3
 obtain ⟨hv2,_⟩:=hv2
 obtain ⟨hv3,_⟩:=hv3
 subst hv1 hv2 hv3
 obtain ⟨k,rfl⟩:∃ k:Nat,i=k:=⟨i.toNat,by omega⟩
 have hvs:vs=#[.slice (some ⟨g,0,none⟩) xs.length c,.int .i64 k,.int .i64 ((k:Int)+1)]:=by apply Array.ext'; simpa using v1
 subst hvs
 have hk:k < xs.length:=by omega
 rw [Int.toNat_natCast]
 have a3':c≤9223372036854775807:=by unfold maxLen at a3; omega
 have hcur:cur.toList.take (xs.length*7)=V:=by
  obtain ⟨g2,cur2,fr2,q1,q2,_,_,q5⟩:=b4.resolve_left (fun h=>by cases h.1)
  injection q1 with q1
  injection q1 with q1
  subst q1
  rw [rowTy_lt hlt,f1] at q2
  injection q2 with q2
  injection q2 with q2
  subst q2; exact q5
 have hcl:cur.size=c*7:=f3
 have hle:xs.length*7≤c*7:=Nat.mul_le_mul_right _ a2
 have hfz:∀ j,j < xs.length*7→w.frozen? ⟨g,j,none⟩=false:=fun j hj=>by simp [World.frozen?,f1]
 refine (del_walkP g xs.length c k V w hk a2 a3' b1 (fun j v h=>b5 g rfl j v h) hfz b3).mono ?_
 rintro e w' ⟨rfl,zl,z1,z2,rfl⟩
 have hnn:(xs.length - 1)*7+7=xs.length*7:=by rw [← Nat.succ_mul]; congr 1; omega
 have hkk:(k+1)*7≤xs.length*7:=Nat.mul_le_mul_right _ (by omega)
 have hk1:(k+1)*7=k*7+7:=Nat.succ_mul _ _
 obtain ⟨L,hL⟩:∃ L,L=cur.toList:=⟨_,rfl⟩
 have hLl:L.length=c*7:=by rw [hL,Array.length_toList]; exact f3
 rw [← hL] at hcur
 have q1:w.drew.heap[g]?=some (.cells L.toArray 49 (0,0)):=by rw [hL,Array.toArray_toList]; exact f1
 have hdl:(V.drop ((k+1)*7)).length=xs.length*7 - (k+1)*7:=by rw [List.length_drop,b1]
 obtain ⟨D,hD⟩:∃ D,D=V.drop ((k+1)*7):=⟨_,rfl⟩
 rw [← hD] at hdl ⊢
 have w2:=setCells_heapP g 49 (0,0) D (k*7) w.drew L q1 (by omega)
 have hpl:(putLP (k*7) D L).length=L.length:=putL_lenP (by omega)
 have w3:=setCells_heapP g 49 (0,0) zl ((xs.length - 1)*7) _ _ w2 (by omega)
 obtain ⟨s1,s2,s3,s4⟩:=setCells_restP g zl ((xs.length - 1)*7) (w.drew.setCells g (k*7) D)
 obtain ⟨s5,s6,s7,s8⟩:=setCells_restP g D (k*7) w.drew
 have hpl2:(putLP ((xs.length - 1)*7) zl (putLP (k*7) D L)).length=L.length:=by rw [putL_lenP (by omega)]; exact hpl
 have htk:(putLP ((xs.length - 1)*7) zl (putLP (k*7) D L)).take ((xs.length - 1)*7)=V.take (k*7)++D:=by
  have e1:(putLP ((xs.length - 1)*7) zl (putLP (k*7) D L)).take ((xs.length - 1)*7)=(putLP (k*7) D L).take ((xs.length - 1)*7):=by
   unfold putLP
   rw [List.append_assoc,List.take_append_of_le_length (by rw [List.length_take]; unfold putLP at hpl; omega),List.take_take,Nat.min_self]
  rw [e1,putL_takeP (by omega) (by omega)]
  congr 1
  rw [← hcur,List.take_take,Nat.min_eq_left (by omega)]
 have hoth:∀ b,b≠g→((w.drew.setCells g (k*7) D).setCells g ((xs.length - 1)*7) zl).heap[b]?=w.heap[b]?:=fun b hb=>by
  rw [setCells_otherP g _ _ _ b hb,setCells_otherP g _ _ _ b hb]; rfl
 generalize hW':(w.drew.setCells g (k*7) D).setCells g ((xs.length - 1)*7) zl=w' at *
 have hzl:(xs.take k++xs.drop (k+1)).length=xs.length - 1:=by simp only [List.length_append,List.length_take,List.length_drop]; omega
 have hz:∀ z ∈ xs.take k++xs.drop (k+1),z.length=7:=fun z hz=>by
  rcases List.mem_append.1 hz with hz | hz
  ·exact a4 z (List.mem_of_mem_take hz)
  ·exact a4 z (List.mem_of_mem_drop hz)
 obtain ⟨t1,_⟩:=flat_take10P (zs:=xs) k a4
 obtain ⟨_,t2⟩:=flat_take10P (zs:=xs) (k+1) a4
 have hct:CVl S (xs.take k++xs.drop (k+1)).flatten noNm (V.take (k*7)++D):=by
  rw [List.flatten_append,t1,t2,hD]
  exact (b2.take _).append (b2.drop _)
 have hon:∀ v ∈ V.take (k*7)++D,v.oneCell'=true:=fun v hv=>by
  rcases List.mem_append.1 hv with hv | hv
  ·exact b3 v (List.mem_of_mem_take hv)
  ·rw [hD] at hv; exact b3 v (List.mem_of_mem_drop hv)
 have m0:((m.set 0 (.iface 0 (.slice none (xs.length+1) 0))).set 1 (.iface 0 (.slice (some ⟨g,0,none⟩) (xs.length - 1) c))) 0=some (.iface 0 (.slice none (xs.length+1) 0)):=by
  rw [Nm.set_ne _ _ (by decide),Nm.set_same]
 have m1:((m.set 0 (.iface 0 (.slice none (xs.length+1) 0))).set 1 (.iface 0 (.slice (some ⟨g,0,none⟩) (xs.length - 1) c))) 1=some (.iface 0 (.slice (some ⟨g,0,none⟩) (xs.length - 1) c)):=Nm.set_same _ _ _
 have hMg:Mof 1 m g:=⟨0,_,by decide,a1,rfl⟩
 have key:∀ (q:Nat) (u:Value) (g':Nat),q < 2→((m.set 0 (.iface 0 (.slice none (xs.length+1) 0))).set 1 (.iface 0 (.slice (some ⟨g,0,none⟩) (xs.length - 1) c))) q=some u→bk u=some g'→q=1∧g'=g:=by
  intro q u g' hq hu hgu
  match q,hq with
  | 0,_ =>
   rw [m0] at hu; injection hu with hu; subst hu
   simp [bk] at hgu
  | 1,_ =>
   rw [m1] at hu; injection hu with hu; subst hu
   simp only [bk,Option.some.injEq] at hgu
   exact ⟨rfl,hgu.symm⟩
 refine ⟨_,S,(m.set 0 (.iface 0 (.slice none (xs.length+1) 0))).set 1 (.iface 0 (.slice (some ⟨g,0,none⟩) (xs.length - 1) c)),rfl,s1.trans s5,s2.trans s6,s3.trans s7,by rw [s4,s8]; exact Nat.le_refl _,.refl _,fun b hb hM=>⟨hoth b (fun e=>hM (e ▸ hMg)),fun _=>rfl⟩,fun b o v h=>?_,fun q b hq=>?_,?_,?_,?_,?_⟩
 ·obtain ⟨k1,k2⟩:=hA b o v h
  have hb:b≠g:=fun e=>by rw [e,f4 o] at h; cases h
  exact ⟨by rw [World.cell?_of_block (w:=w) (hoth b hb)]; exact k1,k2⟩
 ·match q,hq with
  | 0,hq =>
   simp only [List.getElem?_cons_zero,Option.some.injEq] at hq
   subst hq
   exact ⟨_,m0,fun g' hg'=>by simp [bk] at hg'⟩
  | 1,hq =>
   simp only [List.getElem?_cons_succ,List.getElem?_cons_zero,Option.some.injEq] at hq
   subst hq
   refine ⟨some ⟨g,0,none⟩,c,by rw [hzl]; exact m1,by rw [hzl]; omega,a3,.inr ⟨g,_,(0,0),rfl,by rw [rowTy_lt hlt]; exact w3,.none,by simp only [List.size_toArray]; omega,f4,?_⟩⟩
   rw [rowNm_lo (Nat.lt_trans hlt (by decide))]
   refine row_of_flat hz hct hon ?_
   rw [hzl]; simpa using htk
  | q+2,hq=>simp at hq
 ·intro q q' u u' g' hq hq' hqq hu hu' hgu hgu'
  have:=(key q u g' hq hu hgu).1
  have:=(key q' u' g' hq' hu' hgu').1
  omega
 ·intro q u g' hq hu hgu
  rw [(key q u g' hq hu hgu).2]
  exact .inr hMg
 ·intro j u hj
  have hj1:=hnm j u hj
  have hj0:j=0:=by simp at hj1; omega
  subst hj0
  rw [a1] at hj
  injection hj with hj
  subst hj
  exact ⟨_,m0,.inr ⟨_,_,_,_,_,_,Nat.lt_succ_self _,.inr ⟨rfl,rfl⟩⟩⟩
 ·exact CV.rw_mk m1 (by omega) a3 (.inr ⟨g,rfl⟩)
end Go.Proofs.YtldiagnbagpliaaGreatDoor
namespace Go.Proofs.YtldiagnbagpliaaGreatDoor
open Go Go.Lib Go.RowKit
set_option linter.unusedVariables false
set_option linter.unusedSimpArgs false
theorem zero_oneS:∃ i z,Tryz.prog.info? 59=some i∧i.zero=some z∧i.size=3∧z.cells.size=3∧∀ v ∈ z.cells.toList,v.oneCell'=true:=by
 have h:(Tryz.prog.info? 59).map (fun i=>(i.zero.map (fun z=>(z.cells.size,z.cells.toList.all fun v=>v.oneCell')),i.size))=some (some (3,true),3):=by kernel_rfl
 cases e:Tryz.prog.info? 59 with
 | none=>rw [e] at h; cases h
 | some i =>
  rw [e] at h
  simp only [Option.map_some,Option.some.injEq,Prod.mk.injEq] at h
  obtain ⟨h1,h2⟩:=h
  cases hz:i.zero with
  | none=>rw [hz] at h1; cases h1
  | some z =>
   rw [hz] at h1
   simp only [Option.map_some,Option.some.injEq,Prod.mk.injEq] at h1
   exact ⟨i,z,rfl,hz,h2,h1.1,fun v hv=>List.all_eq_true.1 h1.2 v hv⟩
theorem zero_onceS (a:Array Value) (h:a.size=3):(Builtin.zeroCells a 1).toList=a.toList:=by
 unfold Builtin.zeroCells
 apply List.ext_getElem
 ·simp
 ·intro i h1 h2
  simp only [Array.length_toList] at h2
  simp [Nat.mod_eq_of_lt h2,h2]
theorem run_clear1S {P:Program} (w:World) (t e ty:TypeId) (z:Value) (ht:P.underlying t=some (.slice e)) (hv:∀ w,(zeroValue e).run P w=.ok z w) (hz:z.cells.size=3) (h1:∀ v ∈ z.cells.toList,v.oneCell'=true) (b o c:Nat)
  (hc:∀ j,j < 3→(w.cell? ⟨b,o+j,none⟩).isSome=true) (hf:∀ j,j < 3→w.frozen? ⟨b,o+j,none⟩=false) :
  (Builtin.clear_ #[t] ty #[.slice (some ⟨b,o,none⟩) 1 c]).run P w=.ok (.tuple #[]) (w.setCells b o z.cells.toList):=by
 have hst:=run_storeCells_cells (P:=P) b o z.cells.toList 0 w (by simpa [hz] using hc) (by simpa [hz] using hf) h1
 simp only [Nat.add_zero] at hst
 simp [Builtin.clear_,run_underlying ht,hv,zero_onceS _ hz,hst]
set_option maxHeartbeats 4000000 in
set_option maxRecDepth 1000000 in
theorem del_walkS (b n c i:Nat) (cs:List Value) (w:World) (hi:i < n) (hnc:n≤c) (hc63:c≤9223372036854775807) (hcl:cs.length=n*3)
  (hcs:∀ j v,cs[j]?=some v→w.cell? ⟨b,j,none⟩=some v) (hfz:∀ j,j < n*3→w.frozen? ⟨b,j,none⟩=false) (h1c:∀ v ∈ cs,v.oneCell'=true) :
  Calls Tryz.prog 73 #[.slice (some ⟨b,0,none⟩) n c,.int .i64 i,.int .i64 ((i:Int)+1)] w fun e w' =>
   e=.returned (.slice (some ⟨b,0,none⟩) (n - 1) c)∧∃ zl:List Value,zl.length=3∧(∀ v ∈ zl,v.oneCell'=true)∧w'=(w.drew.setCells b (i*3) (cs.drop ((i+1)*3))).setCells b ((n - 1)*3) zl:=by
 have mixed:Tryz.prog.follows .mixedOrders=true:=by kernel_rfl
 obtain ⟨i0,z0,hi0,hz0,hzs,hzc,hz1⟩:=zero_oneS
 obtain ⟨news,hnews⟩:∃ news,news=cs.drop ((i+1)*3):=⟨_,rfl⟩
 have hlen:news.length=(n - (i+1))*3:=by rw [hnews,List.length_drop,hcl,Nat.sub_mul]
 have hget:∀ t u,news[t]?=some u→w.cell? ⟨b,(i+1)*3+t,none⟩=some u:=by
  intro t u hu
  rw [hnews,List.getElem?_drop] at hu
  exact hcs _ _ hu
 have hsome:∀ j,j < n*3→(w.cell? ⟨b,j,none⟩).isSome=true:=fun j hj=>by
  rw [hcs j _ (List.getElem?_eq_getElem (show j < cs.length by omega))]; rfl
 obtain ⟨A,hA,hsrc⟩:∃ A:Addr,(if c=i+1 then some (⟨b,0,none⟩:Addr) else some ⟨b,(i+1)*3,none⟩)=some A∧Hid (∀ t u,news[t]?=some u→w.drew.cell? (A.add t)=some u):=by
  by_cases h:c=i+1
  ·refine ⟨⟨b,0,none⟩,by simp [h],fun t u hu=>?_⟩
   have h0:news.length=0:=by rw [hlen,show n - (i+1)=0 by omega,Nat.zero_mul]
   rw [List.length_eq_zero_iff.1 h0] at hu
   simp at hu
  ·refine ⟨⟨b,(i+1)*3,none⟩,by simp [h],fun t u hu=>?_⟩
   rw [Addr.add_lit]
   exact hget t u hu
 have s1:Hid (news.length=(n - (i+1))*3):=hlen
 have s2:Hid (∀ u ∈ news,u.oneCell'=true):=by
  intro u hu
  rw [hnews] at hu
  exact h1c u (List.mem_of_mem_drop hu)
 have hin:i*3+(n - (i+1))*3≤n*3:=by rw [← Nat.add_mul]; exact Nat.mul_le_mul_right _ (by omega)
 have s3:Hid (∀ t,t < news.length→(w.drew.cell? ⟨b,0+i*3+t,none⟩).isSome=true∧w.drew.frozen? ⟨b,0+i*3+t,none⟩=false):=by
  intro t ht
  rw [hlen] at ht
  rw [Nat.zero_add]
  exact ⟨hsome _ (by omega),hfz _ (by omega)⟩
 obtain ⟨W1,hW1⟩:∃ W1,W1=w.drew.setCells b (0+i*3) news:=⟨_,rfl⟩
 have hW1c:∀ a,(w.cell? a).isSome=true→(W1.cell? a).isSome=true:=fun a ha=>by rw [hW1]; exact World.isSome_setCells _ _ _ _ _ ha
 have hW1f:∀ a,W1.frozen? a=w.frozen? a:=fun a=>by rw [hW1]; exact World.frozen?_setCells _ _ _ _ _
 have hend:∀ j,j < 3→(n - 1)*3+j < n*3:=fun j hj=>by
  have:(n - 1)*3+3=n*3:=by rw [← Nat.succ_mul]; congr 1; omega
  omega
 have hcl2:∀ ty,(Builtin.clear_ #[22] ty #[.slice (some ⟨b,(i+(n - (i+1)))*3,none⟩) (n - (i+(n - (i+1)))) (c - (i+(n - (i+1))))]).run Tryz.prog W1=.ok (.tuple #[]) (W1.setCells b ((n - 1)*3) z0.cells.toList):=fun ty=>by
  rw [show i+(n - (i+1))=n - 1 by omega,show n - (n - 1)=1 by omega]
  exact run_clear1S W1 _ _ ty z0 t_itS (fun w=>by simp [zeroValue,typeInfo,hi0,hz0]) hzc hz1 b _ _ (fun j hj=>hW1c _ (hsome _ (hend j hj))) (fun j hj=>by rw [hW1f]; exact hfz _ (hend j hj))
 have hW:Hid (W1=w.drew.setCells b (0+i*3) news):=hW1
 have hic:i≤c:=by omega
 have hjc:i+1≤c:=by omega
 have hbnd:0≤(i:Int)+1∧(i:Int)+1≤(n:Int):=by omega
 have hni:¬ ((i:Int)=(i:Int)+1):=by omega
 obtain ⟨zl,hzl⟩:∃ zl,zl=z0.cells.toList:=⟨_,rfl⟩
 rw [← hzl] at hcl2
 have fin:∃ zl':List Value,zl'.length=3∧(∀ v ∈ zl',v.oneCell'=true)∧W1.setCells b ((n - 1)*3) zl=(w.drew.setCells b (i*3) (cs.drop ((i+1)*3))).setCells b ((n - 1)*3) zl' :=
  ⟨zl,by rw [hzl,Array.length_toList,hzc],by rw [hzl]; exact hz1,by rw [hW1,hnews,Nat.zero_add]⟩
 clear hzl hz1 hzc hz0
 clear hW1 hW1c hW1f hsome hget hnews hlen hcs hfz h1c hin hend
 go_enter Tryz.func73,Tryz.ntmps73
 go_wp2_with fail
 go_region_law_o (refine step_append_room rfl (.tmp 22) (.tmp 25) 22 rfl 59 i0 3 t_itS hi0 hzs b 0 i c (by simp [Act.eval,Act.put]) A (n - (i+1)) (c - (i+1)) news (by simp [Act.eval,Act.put]) s1.out hsrc.out s2.out (by omega) s3.out ?_; rw [← hW.out])
 go_wp2
 go_ret
 exact ⟨by rw [show i+(n - (i+1))=n - 1 by omega]; rfl,fin⟩
def sdelS_s:SpH
 | [.rw 0 3 n,.int .i64 i,.int .i64 j],[.row 59 3 xs]=>some ((((n=xs.length∧0≤i)∧i < n)∧j=i+1)∧n≤900,.rw 1 3 (n - 1),[.gone,.row 59 3 (xs.take i.toNat++xs.drop (i.toNat+1))])
 | _,_=>none
set_option maxHeartbeats 1000000 in
theorem sdelS_ok (gl:Glob):HOK Tryz.prog gl 73 sdelS_s:=by
 refine ⟨fok Tryz.func73 (by kernel_rfl) (by kernel_rfl),?_⟩
 intro xs0 bs pre r bs2 h hp
 unfold sdelS_s at h
 split at h
 rotate_left
 ·cases h
 rename_i n i j xs
 simp only [Option.some.injEq,Prod.mk.injEq] at h
 obtain ⟨h1,h2,h3⟩:=h
 subst h1 h2 h3
 obtain ⟨⟨⟨⟨hn,i0⟩,i1⟩,hj⟩,hbg⟩:=hp
 subst hn hj
 intro w S m vs hG hA hnm hheld hinj hv
 have H0:=hheld 0 _ rfl
 have hlt:59 < 1000000:=by decide
 obtain ⟨A,c,a1,a2,a3,a4,a5,V,b1,b2,b3,b4,b5⟩:=H0.vals
 rw [rowNm_lo (Nat.lt_trans hlt (by decide))] at b2
 obtain ⟨g,cur,fr,rfl,f1,f2,f3,f4⟩:=a5.resolve_left (fun h=>by omega)
 have hfr:=f2.lt hlt
 subst hfr
 rw [rowTy_lt hlt] at f1
 have hg:g < w.heap.size:=(Array.getElem?_eq_some_iff.1 f1).1
 simp only [CVl] at hv
 obtain ⟨u1,us1,v1,hv1,u2,us2,v2,hv2,u3,us3,v3,hv3,v4⟩:=hv
 subst v4 v3 v2
 have hv1:=cv_rowS hv1 a1
 simp only [CV] at hv2 hv3
 obtain ⟨hv2,_⟩:=hv2
 obtain ⟨hv3,_⟩:=hv3
 subst hv1 hv2 hv3
 obtain ⟨k,rfl⟩:∃ k:Nat,i=k:=⟨i.toNat,by omega⟩
 have hvs:vs=#[.slice (some ⟨g,0,none⟩) xs.length c,.int .i64 k,.int .i64 ((k:Int)+1)]:=by apply Array.ext'; simpa using v1
 subst hvs
 have hk:k < xs.length:=by omega
 rw [Int.toNat_natCast]
 have a3':c≤9223372036854775807:=by unfold maxLen at a3; omega
 have hcur:cur.toList.take (xs.length*3)=V:=by
  obtain ⟨g2,cur2,fr2,q1,q2,_,_,q5⟩:=b4.resolve_left (fun h=>by cases h.1)
  injection q1 with q1
  injection q1 with q1
  subst q1
  rw [rowTy_lt hlt,f1] at q2
  injection q2 with q2
  injection q2 with q2
  subst q2; exact q5
 have hcl:cur.size=c*3:=f3
 have hle:xs.length*3≤c*3:=Nat.mul_le_mul_right _ a2
 have hfz:∀ j,j < xs.length*3→w.frozen? ⟨g,j,none⟩=false:=fun j hj=>by simp [World.frozen?,f1]
 refine (del_walkS g xs.length c k V w hk a2 a3' b1 (fun j v h=>b5 g rfl j v h) hfz b3).mono ?_
 rintro e w' ⟨rfl,zl,z1,z2,rfl⟩
 have hnn:(xs.length - 1)*3+3=xs.length*3:=by rw [← Nat.succ_mul]; congr 1; omega
 have hkk:(k+1)*3≤xs.length*3:=Nat.mul_le_mul_right _ (by omega)
 have hk1:(k+1)*3=k*3+3:=Nat.succ_mul _ _
 obtain ⟨L,hL⟩:∃ L,L=cur.toList:=⟨_,rfl⟩
 have hLl:L.length=c*3:=by rw [hL,Array.length_toList]; exact f3
 rw [← hL] at hcur
 have q1:w.drew.heap[g]?=some (.cells L.toArray 59 (0,0)):=by rw [hL,Array.toArray_toList]; exact f1
 have hdl:(V.drop ((k+1)*3)).length=xs.length*3 - (k+1)*3:=by rw [List.length_drop,b1]
 obtain ⟨D,hD⟩:∃ D,D=V.drop ((k+1)*3):=⟨_,rfl⟩
 rw [← hD] at hdl ⊢
 have w2:=setCells_heapS g 59 (0,0) D (k*3) w.drew L q1 (by omega)
 have hpl:(putLS (k*3) D L).length=L.length:=putL_lenS (by omega)
 have w3:=setCells_heapS g 59 (0,0) zl ((xs.length - 1)*3) _ _ w2 (by omega)
 obtain ⟨s1,s2,s3,s4⟩:=setCells_restS g zl ((xs.length - 1)*3) (w.drew.setCells g (k*3) D)
 obtain ⟨s5,s6,s7,s8⟩:=setCells_restS g D (k*3) w.drew
 have hpl2:(putLS ((xs.length - 1)*3) zl (putLS (k*3) D L)).length=L.length:=by rw [putL_lenS (by omega)]; exact hpl
 have htk:(putLS ((xs.length - 1)*3) zl (putLS (k*3) D L)).take ((xs.length - 1)*3)=V.take (k*3)++D:=by
  have e1:(putLS ((xs.length - 1)*3) zl (putLS (k*3) D L)).take ((xs.length - 1)*3)=(putLS (k*3) D L).take ((xs.length - 1)*3):=by
   unfold putLS
   rw [List.append_assoc,List.take_append_of_le_length (by rw [List.length_take]; unfold putLS at hpl; omega),List.take_take,Nat.min_self]
  rw [e1,putL_takeS (by omega) (by omega)]
  congr 1
  rw [← hcur,List.take_take,Nat.min_eq_left (by omega)]
 have hoth:∀ b,b≠g→((w.drew.setCells g (k*3) D).setCells g ((xs.length - 1)*3) zl).heap[b]?=w.heap[b]?:=fun b hb=>by
  rw [setCells_otherS g _ _ _ b hb,setCells_otherS g _ _ _ b hb]; rfl
 generalize hW':(w.drew.setCells g (k*3) D).setCells g ((xs.length - 1)*3) zl=w' at *
 have hzl:(xs.take k++xs.drop (k+1)).length=xs.length - 1:=by simp only [List.length_append,List.length_take,List.length_drop]; omega
 have hz:∀ z ∈ xs.take k++xs.drop (k+1),z.length=3:=fun z hz=>by
  rcases List.mem_append.1 hz with hz | hz
  ·exact a4 z (List.mem_of_mem_take hz)
  ·exact a4 z (List.mem_of_mem_drop hz)
 obtain ⟨t1,_⟩:=flat_take10S (zs:=xs) k a4
 obtain ⟨_,t2⟩:=flat_take10S (zs:=xs) (k+1) a4
 have hct:CVl S (xs.take k++xs.drop (k+1)).flatten noNm (V.take (k*3)++D):=by
  rw [List.flatten_append,t1,t2,hD]
  exact (b2.take _).append (b2.drop _)
 have hon:∀ v ∈ V.take (k*3)++D,v.oneCell'=true:=fun v hv=>by
  rcases List.mem_append.1 hv with hv | hv
  ·exact b3 v (List.mem_of_mem_take hv)
  ·rw [hD] at hv; exact b3 v (List.mem_of_mem_drop hv)
 have m0:((m.set 0 (.iface 0 (.slice none (xs.length+1) 0))).set 1 (.iface 0 (.slice (some ⟨g,0,none⟩) (xs.length - 1) c))) 0=some (.iface 0 (.slice none (xs.length+1) 0)):=by
  rw [Nm.set_ne _ _ (by decide),Nm.set_same]
 have m1:((m.set 0 (.iface 0 (.slice none (xs.length+1) 0))).set 1 (.iface 0 (.slice (some ⟨g,0,none⟩) (xs.length - 1) c))) 1=some (.iface 0 (.slice (some ⟨g,0,none⟩) (xs.length - 1) c)):=Nm.set_same _ _ _
 have hMg:Mof 1 m g:=⟨0,_,by decide,a1,rfl⟩
 have key:∀ (q:Nat) (u:Value) (g':Nat),q < 2→((m.set 0 (.iface 0 (.slice none (xs.length+1) 0))).set 1 (.iface 0 (.slice (some ⟨g,0,none⟩) (xs.length - 1) c))) q=some u→bk u=some g'→q=1∧g'=g:=by
  intro q u g' hq hu hgu
  match q,hq with
  | 0,_ =>
   rw [m0] at hu; injection hu with hu; subst hu
   simp [bk] at hgu
  | 1,_ =>
   rw [m1] at hu; injection hu with hu; subst hu
   simp only [bk,Option.some.injEq] at hgu
   exact ⟨rfl,hgu.symm⟩
 refine ⟨_,S,(m.set 0 (.iface 0 (.slice none (xs.length+1) 0))).set 1 (.iface 0 (.slice (some ⟨g,0,none⟩) (xs.length - 1) c)),rfl,s1.trans s5,s2.trans s6,s3.trans s7,by rw [s4,s8]; exact Nat.le_refl _,.refl _,fun b hb hM=>⟨hoth b (fun e=>hM (e ▸ hMg)),fun _=>rfl⟩,fun b o v h=>?_,fun q b hq=>?_,?_,?_,?_,?_⟩
 ·obtain ⟨k1,k2⟩:=hA b o v h
  have hb:b≠g:=fun e=>by rw [e,f4 o] at h; cases h
  exact ⟨by rw [World.cell?_of_block (w:=w) (hoth b hb)]; exact k1,k2⟩
 ·match q,hq with
  | 0,hq =>
   simp only [List.getElem?_cons_zero,Option.some.injEq] at hq
   subst hq
   exact ⟨_,m0,fun g' hg'=>by simp [bk] at hg'⟩
  | 1,hq =>
   simp only [List.getElem?_cons_succ,List.getElem?_cons_zero,Option.some.injEq] at hq
   subst hq
   refine ⟨some ⟨g,0,none⟩,c,by rw [hzl]; exact m1,by rw [hzl]; omega,a3,.inr ⟨g,_,(0,0),rfl,by rw [rowTy_lt hlt]; exact w3,.none,by simp only [List.size_toArray]; omega,f4,?_⟩⟩
   rw [rowNm_lo (Nat.lt_trans hlt (by decide))]
   refine row_of_flat hz hct hon ?_
   rw [hzl]; simpa using htk
  | q+2,hq=>simp at hq
 ·intro q q' u u' g' hq hq' hqq hu hu' hgu hgu'
  have:=(key q u g' hq hu hgu).1
  have:=(key q' u' g' hq' hu' hgu').1
  omega
 ·intro q u g' hq hu hgu
  rw [(key q u g' hq hu hgu).2]
  exact .inr hMg
 ·intro j u hj
  have hj1:=hnm j u hj
  have hj0:j=0:=by simp at hj1; omega
  subst hj0
  rw [a1] at hj
  injection hj with hj
  subst hj
  exact ⟨_,m0,.inr ⟨_,_,_,_,_,_,Nat.lt_succ_self _,.inr ⟨rfl,rfl⟩⟩⟩
 ·exact CV.rw_mk m1 (by omega) a3 (.inr ⟨g,rfl⟩)
end Go.Proofs.YtldiagnbagpliaaGreatDoor
namespace Go.Proofs.YtldiagnbagpliaaGreatDoor
open Go
set_option linter.unusedVariables false
set_option linter.unusedSimpArgs false
def remE (l:LLR) (nm:ByteArray) (fr:Int):Int:=if rgV l≠0 then rgV l else if stH l nm=false then 6 else if pdH (seD l nm) fr=false then 6 else 0
def remP (ps:LLR) (fr:Int):LLR:=ps.take (pdN ps fr)++ps.drop (pdN ps fr+1)
def remL (l:LLR) (nm:ByteArray) (fr:Int):LLR:=if (((remP (seD l nm) fr).length:Nat):Int)=0 then l.take (stN l nm)++l.drop (stN l nm+1) else setEl l (stN l nm) 2 [.sl 7 false (remP (seD l nm) fr)]
def remO (l:LLR) (nm:ByteArray) (fr:Int):LLR:=if remE l nm fr=0 then remL l nm fr else []
theorem rm_err {l:LLR} {nm:ByteArray} {fr e:Int} (h:remE l nm fr=e) (he:e≠0):((remO l nm fr=[]∧True)∧e=remE l nm fr∧True)∧True :=
 ⟨⟨⟨if_neg (by rw [h]; exact he),trivial⟩,h.symm,trivial⟩,trivial⟩
theorem rm_ok {l X:LLR} {nm:ByteArray} {fr:Int} (h:remE l nm fr=0) (hx:X=remL l nm fr):(((True∧X=remO l nm fr)∧True)∧0=remE l nm fr∧True)∧True :=
 ⟨⟨⟨⟨trivial,by unfold remO; rw [if_pos h]; exact hx⟩,trivial⟩,h.symm,trivial⟩,trivial⟩
theorem setEl_td (l:LLR) (i fo:Nat) (ys:List AV):(setEl l i fo ys).take i=l.take i∧(setEl l i fo ys).drop (i+1)=l.drop (i+1) :=
 ⟨List.take_set_of_le (Nat.le_refl _),List.drop_set_of_lt (by omega)⟩
theorem rem_len {ps:LLR} {fr:Int} (h:pdN ps fr < ps.length):(remP ps fr).length=ps.length - 1:=by
 unfold remP; simp only [List.length_append,List.length_take,List.length_drop]; omega
def gremove_s:SpH
 | [.agg [.sl 3 g l],.str nm,.int .i64 fr],[]=>some (StsP l,.tup [.agg [.sl 3 false (remO l nm fr)],.int .i64 (remE l nm fr)],[])
 | _,_=>none
def gremove_T (rgV:LLR→Int) (remO:LLR→ByteArray→Int→LLR) (remE:LLR→ByteArray→Int→Int) (p1R:List AV→Bool) (p2R:List AV→Bool) (p3R:List AV→Bool) (p4R:List AV→Bool) (p5R:List AV→Bool):Prop :=
  ∀ (g:Bool) (l:List (List AV)) (fr:Int) (nm:ByteArray),StsP l→True∧True→nm.size.le (9223372036854775807:Nat)→IR9 fr→StsP l∧bif decide ¬rgV l=(0:Int) then ((remO l nm fr=[]∧True)∧rgV l=remE l nm fr∧True)∧True else StsP l∧(((SrcS l∧l.length=l.length)∧mapLL (rnT (rnP [(2021:Nat)] [(1:Nat)])) (mapLL (rnT (rnP [(1:Nat)] [(2021:Nat)])) (hol l
 (stN l nm) (1:Nat)))=hol l (stN l nm) (1:Nat))∧hoP l (stN l nm)=hoP l (stN l nm))∧bif !stH l nm then ((remO l nm fr=[]∧True)∧(6:Int)=remE l nm fr∧True)∧True else bif decide ((0:Int)≤(↑(stN l nm):Int)∧(↑(stN l nm):Int) < (↑l.length:Int)) then bif decide (l.length=(mapLL (rnT (rnP [(1:Nat)] [(2021:Nat)])) (mapLL (rnT (rnP [(2021:Nat)] [(1:Nat)])) (mapLL (rnT (rnP [(1:Nat)] [(2021:Nat)])) (hol l
 (stN l nm) (1:Nat))))).length∧(↑(stN l nm):Int).toNat < (mapLL (rnT (rnP [(1:Nat)] [(2021:Nat)])) (mapLL (rnT (rnP [(2021:Nat)] [(1:Nat)])) (mapLL (rnT (rnP [(1:Nat)] [(2021:Nat)])) (hol l (stN l nm) (1:Nat))))).length) then ∃ n s n_1,List.take [AV.int .i64 n,.str s,.rw (2021:Nat) (7:Nat) n_1].length (List.drop (0:Nat) ((mapLL (rnT (rnP [(1:Nat)] [(2021:Nat)])) (mapLL (rnT (rnP [(2021:Nat)]
 [(1:Nat)])) (mapLL (rnT (rnP [(1:Nat)] [(2021:Nat)])) (hol l (stN l nm) (1:Nat))))).getD (↑(stN l nm):Int).toNat []))=[AV.int .i64 n,.str s,.rw (2021:Nat) (7:Nat) n_1]∧(SrcD (hoP l (stN l nm))∧n_1=List.length (hoP l (stN l nm)))∧bif !pdH (hoP l (stN l nm)) fr then ((remO l nm fr=[]∧True)∧(6:Int)=remE l nm fr∧True)∧True else bif decide (l.length=(mapLL (rnT (rnP [(1:Nat)] [(2021:Nat)])) (mapLL (rnT
 (rnP [(2021:Nat)] [(1:Nat)])) (mapLL (rnT (rnP [(1:Nat)] [(2021:Nat)])) (hol l (stN l nm) (1:Nat))))).length∧(↑(stN l nm):Int).toNat < (mapLL (rnT (rnP [(1:Nat)] [(2021:Nat)])) (mapLL (rnT (rnP [(2021:Nat)] [(1:Nat)])) (mapLL (rnT (rnP [(1:Nat)] [(2021:Nat)])) (hol l (stN l nm) (1:Nat))))).length) then ∃ n,List.take [AV.rw (2021:Nat) (7:Nat) n].length (List.drop (2:Nat) ((mapLL (rnT (rnP [(1:Nat)]
 [(2021:Nat)])) (mapLL (rnT (rnP [(2021:Nat)] [(1:Nat)])) (mapLL (rnT (rnP [(1:Nat)] [(2021:Nat)])) (hol l (stN l nm) (1:Nat))))).getD (↑(stN l nm):Int).toNat []))=[AV.rw (2021:Nat) (7:Nat) n]∧bif decide (rng .i64 ((↑(pdN (hoP l (stN l nm)) fr):Int)+(1:Int))) then ((((n=List.length (hoP l (stN l nm))∧(0:Int)≤(↑(pdN (hoP l (stN l nm)) fr):Int))∧(↑(pdN (hoP l (stN l nm)) fr):Int) <
 (↑n:Int))∧(↑(pdN (hoP l (stN l nm)) fr):Int)+(1:Int)=(↑(pdN (hoP l (stN l nm)) fr):Int)+(1:Int))∧n≤(900:Nat))∧bif decide (l.length=(mapLL (rnT (rnP [(1:Nat)] [(2021:Nat)])) (mapLL (rnT (rnP [(2021:Nat)] [(1:Nat)])) (mapLL (rnT (rnP [(1:Nat)] [(2021:Nat)])) (hol l (stN l nm) (1:Nat))))).length∧(↑(stN l nm):Int).toNat < (mapLL (rnT (rnP [(1:Nat)] [(2021:Nat)])) (mapLL (rnT (rnP [(2021:Nat)]
 [(1:Nat)])) (mapLL (rnT (rnP [(1:Nat)] [(2021:Nat)])) (hol l (stN l nm) (1:Nat))))).length) then bif decide (l.length=(setEl (mapLL (rnT (rnP [(1:Nat)] [(2021:Nat)])) (mapLL (rnT (rnP [(2021:Nat)] [(1:Nat)])) (mapLL (rnT (rnP [(1:Nat)] [(2021:Nat)])) (hol l (stN l nm) (1:Nat))))) (↑(stN l nm):Int).toNat (2:Nat) [AV.rw (1054:Nat) (7:Nat) (n - (1:Nat))]).length∧(↑(stN l nm):Int).toNat < (setEl (mapLL
 (rnT (rnP [(1:Nat)] [(2021:Nat)])) (mapLL (rnT (rnP [(2021:Nat)] [(1:Nat)])) (mapLL (rnT (rnP [(1:Nat)] [(2021:Nat)])) (hol l (stN l nm) (1:Nat))))) (↑(stN l nm):Int).toNat (2:Nat) [AV.rw (1054:Nat) (7:Nat) (n - (1:Nat))]).length) then ∃ n_2,List.take [AV.rw (1054:Nat) (7:Nat) n_2].length (List.drop (2:Nat) ((setEl (mapLL (rnT (rnP [(1:Nat)] [(2021:Nat)])) (mapLL (rnT (rnP [(2021:Nat)] [(1:Nat)]))
 (mapLL (rnT (rnP [(1:Nat)] [(2021:Nat)])) (hol l (stN l nm) (1:Nat))))) (↑(stN l nm):Int).toNat (2:Nat) [AV.rw (1054:Nat) (7:Nat) (n - (1:Nat))]).getD (↑(stN l nm):Int).toNat []))=[AV.rw (1054:Nat) (7:Nat) n_2]∧bif decide ((↑n_2:Int)=(0:Int)) then bif decide (rng .i64 ((↑(stN l nm):Int)+(1:Int))) then ((((l.length=(mapLL (killA (2021:Nat)) (mapLL (frsA (1054:Nat) (7:Nat) (List.take (↑(pdN (hoP l
 (stN l nm)) fr):Int).toNat (hoP l (stN l nm))++List.drop ((↑(pdN (hoP l (stN l nm)) fr):Int).toNat+(1:Nat)) (hoP l (stN l nm)))) (setEl (mapLL (rnT (rnP [(1:Nat)] [(2021:Nat)])) (mapLL (rnT (rnP [(2021:Nat)] [(1:Nat)])) (mapLL (rnT (rnP [(1:Nat)] [(2021:Nat)])) (hol l (stN l nm) (1:Nat))))) (↑(stN l nm):Int).toNat (2:Nat) [AV.rw (1054:Nat) (7:Nat) (n - (1:Nat))]))).length∧(0:Int)≤(↑(stN l
 nm):Int))∧(↑(stN l nm):Int) < (↑l.length:Int))∧(↑(stN l nm):Int)+(1:Int)=(↑(stN l nm):Int)+(1:Int))∧l.length≤(900:Nat))∧bif decide (l.length - (1:Nat)=(List.take (↑(stN l nm):Int).toNat (mapLL (killA (2021:Nat)) (mapLL (frsA (1054:Nat) (7:Nat) (List.take (↑(pdN (hoP l (stN l nm)) fr):Int).toNat (hoP l (stN l nm))++List.drop ((↑(pdN (hoP l (stN l nm)) fr):Int).toNat+(1:Nat)) (hoP l (stN l
 nm)))) (setEl (mapLL (rnT (rnP [(1:Nat)] [(2021:Nat)])) (mapLL (rnT (rnP [(2021:Nat)] [(1:Nat)])) (mapLL (rnT (rnP [(1:Nat)] [(2021:Nat)])) (hol l (stN l nm) (1:Nat))))) (↑(stN l nm):Int).toNat (2:Nat) [AV.rw (1054:Nat) (7:Nat) (n - (1:Nat))])))++List.drop ((↑(stN l nm):Int).toNat+(1:Nat)) (mapLL (killA (2021:Nat)) (mapLL (frsA (1054:Nat) (7:Nat) (List.take (↑(pdN (hoP l (stN l nm))
 fr):Int).toNat (hoP l (stN l nm))++List.drop ((↑(pdN (hoP l (stN l nm)) fr):Int).toNat+(1:Nat)) (hoP l (stN l nm)))) (setEl (mapLL (rnT (rnP [(1:Nat)] [(2021:Nat)])) (mapLL (rnT (rnP [(2021:Nat)] [(1:Nat)])) (mapLL (rnT (rnP [(1:Nat)] [(2021:Nat)])) (hol l (stN l nm) (1:Nat))))) (↑(stN l nm):Int).toNat (2:Nat) [AV.rw (1054:Nat) (7:Nat) (n - (1:Nat))])))).length) then (((True∧List.take (↑(stN l
 nm):Int).toNat (mapLL (killA (2021:Nat)) (mapLL (frsA (1054:Nat) (7:Nat) (List.take (↑(pdN (hoP l (stN l nm)) fr):Int).toNat (hoP l (stN l nm))++List.drop ((↑(pdN (hoP l (stN l nm)) fr):Int).toNat+(1:Nat)) (hoP l (stN l nm)))) (setEl (mapLL (rnT (rnP [(1:Nat)] [(2021:Nat)])) (mapLL (rnT (rnP [(2021:Nat)] [(1:Nat)])) (mapLL (rnT (rnP [(1:Nat)] [(2021:Nat)])) (hol l (stN l nm) (1:Nat))))) (↑(stN
 l nm):Int).toNat (2:Nat) [AV.rw (1054:Nat) (7:Nat) (n - (1:Nat))])))++List.drop ((↑(stN l nm):Int).toNat+(1:Nat)) (mapLL (killA (2021:Nat)) (mapLL (frsA (1054:Nat) (7:Nat) (List.take (↑(pdN (hoP l (stN l nm)) fr):Int).toNat (hoP l (stN l nm))++List.drop ((↑(pdN (hoP l (stN l nm)) fr):Int).toNat+(1:Nat)) (hoP l (stN l nm)))) (setEl (mapLL (rnT (rnP [(1:Nat)] [(2021:Nat)])) (mapLL (rnT (rnP
 [(2021:Nat)] [(1:Nat)])) (mapLL (rnT (rnP [(1:Nat)] [(2021:Nat)])) (hol l (stN l nm) (1:Nat))))) (↑(stN l nm):Int).toNat (2:Nat) [AV.rw (1054:Nat) (7:Nat) (n - (1:Nat))])))=remO l nm fr)∧True)∧(0:Int)=remE l nm fr∧True)∧True else False else False else bif decide (l.length=(mapLL (killA (2021:Nat)) (mapLL (frsA (1054:Nat) (7:Nat) (List.take (↑(pdN (hoP l (stN l nm)) fr):Int).toNat (hoP l (stN l nm))
++List.drop ((↑(pdN (hoP l (stN l nm)) fr):Int).toNat+(1:Nat)) (hoP l (stN l nm)))) (setEl (mapLL (rnT (rnP [(1:Nat)] [(2021:Nat)])) (mapLL (rnT (rnP [(2021:Nat)] [(1:Nat)])) (mapLL (rnT (rnP [(1:Nat)] [(2021:Nat)])) (hol l (stN l nm) (1:Nat))))) (↑(stN l nm):Int).toNat (2:Nat) [AV.rw (1054:Nat) (7:Nat) (n - (1:Nat))]))).length) then (((True∧mapLL (killA (2021:Nat)) (mapLL (frsA (1054:Nat)
 (7:Nat) (List.take (↑(pdN (hoP l (stN l nm)) fr):Int).toNat (hoP l (stN l nm))++List.drop ((↑(pdN (hoP l (stN l nm)) fr):Int).toNat+(1:Nat)) (hoP l (stN l nm)))) (setEl (mapLL (rnT (rnP [(1:Nat)] [(2021:Nat)])) (mapLL (rnT (rnP [(2021:Nat)] [(1:Nat)])) (mapLL (rnT (rnP [(1:Nat)] [(2021:Nat)])) (hol l (stN l nm) (1:Nat))))) (↑(stN l nm):Int).toNat (2:Nat) [AV.rw (1054:Nat) (7:Nat) (n -
 (1:Nat))]))=remO l nm fr)∧True)∧(0:Int)=remE l nm fr∧True)∧True else False else False else False else False else False else False else False
theorem gremove_P:gremove_T rgV remO remE p1R p2R p3R p4R p5R:=by
 unfold gremove_T
 intro g l fr nm hp _
 intros
 have hE:remE l nm fr=remE l nm fr:=rfl
 conv at hE=>rhs; unfold remE
 refine ⟨hp,csx (fun q=>rm_err (hE.trans (if_pos q)) q) (fun q=>?_)⟩
 rw [if_neg q] at hE
 have h0:=Decidable.not_not.1 q
 have hz:=rg_zero hp h0
 obtain ⟨l60,p8⟩:=rg_len h0
 have X1:mapLL (rnT (rnP [1] [2021])) (hol l (stN l nm) 1)=hol l (stN l nm) 2021:=(flat_rn _).hol hp rfl
 have X2:mapLL (rnT (rnP [2021] [1])) (hol l (stN l nm) 2021)=hol l (stN l nm) 1:=(flat_rn _).hol hp rfl
 rw [X1,X2,X1]
 have eI:((stN l nm:Nat):Int).toNat=stN l nm:=Int.toNat_natCast _
 rw [eI]
 refine ⟨hp,⟨⟨⟨hz.src,rfl⟩,rfl⟩,rfl⟩,csplit (fun q5=>rm_err (hE.trans (if_pos (by simpa using q5))) (by decide)) (fun q5=>?_)⟩
 have q5:stH l nm=true:=by simpa using q5
 rw [if_neg (by rw [q5]; decide)] at hE
 have hlt:=stH_lt q5
 obtain ⟨k2,nm2,ps,hrow,hps⟩:=hp.fr (stN l nm) hlt
 have hP:hoP l (stN l nm)=ps:=by unfold hoP; rw [hrow]; rfl
 have hD:seD l nm=ps:=hP
 have hsrc:SrcD ps:=⟨hps,by rw [← hP]; exact hz.fa _ hlt⟩
 have hl8:ps.length≤8:=hP ▸ p8 _ hlt
 have hL:l.length=(hol l (stN l nm) 2021).length:=(hol_len _ _ _).symm
 have hg:(hol l (stN l nm) 2021).getD (stN l nm) []=[.int .i64 k2,.str nm2,.rw 2021 7 ps.length]:=by
  unfold hol; rw [hP]; exact setEl_at hlt hrow
 have eD:((pdN ps fr:Nat):Int).toNat=pdN ps fr:=Int.toNat_natCast _
 rw [hD] at hE
 rw [hP,eD]
 refine cd1 (by omega) (cd1 ⟨hL,by omega⟩ ⟨k2,nm2,ps.length,by rw [hg]; rfl,⟨hsrc,rfl⟩,csplit (fun q7=>rm_err (hE.trans (if_pos (by simpa using q7))) (by decide)) (fun q7=>?_)⟩)
 have q7:pdH ps fr=true:=by simpa using q7
 rw [if_neg (by rw [q7]; decide)] at hE
 have hjl:pdN ps fr < ps.length:=by
  have:=q7
  unfold pdH fpB at this
  rw [Bool.and_eq_true] at this
  exact of_decide_eq_true this.1
 have hlen:=rem_len hjl
 have hM:ps.take (pdN ps fr)++ps.drop (pdN ps fr+1)=remP ps fr:=rfl
 rw [hM]
 have hT:mapLL (killA 2021) (mapLL (frsA 1054 7 (remP ps fr)) (setEl (hol l (stN l nm) 2021) (stN l nm) 2 [.rw 1054 7 (ps.length - 1)]))=setEl l (stN l nm) 2 [.sl 7 false (remP ps fr)]:=by
  have h1:=st_put hp (stN l nm) 1054 (remP ps fr)
  unfold hol
  rw [setEl_twice hlt hrow,← hlen,h1,mapLL_setEl,(flat_kill _).st hp]
  rfl
 refine cd1 ⟨hL,by omega⟩ ⟨ps.length,by rw [hg]; rfl,cdI (by omega) ⟨⟨⟨⟨⟨rfl,by omega⟩,by omega⟩,rfl⟩,by omega⟩,cd1 ⟨hL,by omega⟩ (cd1 ⟨by rw [setEl_len]; exact hL,by rw [setEl_len]; omega⟩ ⟨ps.length - 1,by rw [setEl_at (by omega) hg]; rfl,?_⟩)⟩⟩
 rw [hT]
 obtain ⟨d1,d2⟩:=setEl_td l (stN l nm) 2 [.sl 7 false (remP ps fr)]
 rw [d1,d2]
 have hR:remL l nm fr=if ((ps.length - 1:Nat):Int)=0 then l.take (stN l nm)++l.drop (stN l nm+1) else setEl l (stN l nm) 2 [.sl 7 false (remP ps fr)]:=by unfold remL; rw [hD,hlen]
 refine csx (fun z=>cdI (by omega) ⟨⟨⟨⟨⟨by rw [setEl_len],by omega⟩,by omega⟩,rfl⟩,by omega⟩,cd1 (by simp only [List.length_append,List.length_take,List.length_drop]; omega) (rm_ok hE ?_)⟩) (fun z=>cd1 (by rw [setEl_len]) (rm_ok hE ?_))
 ·rw [hR,if_pos z]
 ·rw [hR,if_neg z]
def gremove_S (rgV:LLR→Int) (remO:LLR→ByteArray→Int→LLR) (remE:LLR→ByteArray→Int→Int) (p1R:List AV→Bool) (p2R:List AV→Bool) (p3R:List AV→Bool) (p4R:List AV→Bool) (p5R:List AV→Bool):Prop:=∀ (g:Bool) (l:List (List AV)) (fr:Int) (nm:ByteArray),StsP l→fnH Tryz.prog { glob:=glb,spec:=lk [(28,(gvalidR_s rgV p1R p2R p3R p4R p5R))],specH:=lk [(73,sdelS_s),(72,sdelP_s),(58,(gcop_s (Go.Proofs.YtldiagnbagpliaaGreatDoor.stN l nm))),(47,(gstB_s l (Go.Proofs.YtldiagnbagpliaaGreatDoor.stN l nm))),(61,gperB_s)],shape:=[38,50,60],slz:=[(38,[2021007]),(50,[2021007]),(60,[1054007])],nowf:=true } { nt:=71,drop:=drp [(1,49152),(2,65536),(3,786432),(4,3145728),(5,264241152),(6,268435456),(7,1073741824),(8,32212254720),(9,8761733283840),(10,8796093022208),(11,35184372088832),(12,144044819331678208),(13,4467570830351532032),(14,1171368248680556527616),(15,1180591620717411303424)],fr:=1000,kp:=[],act:=fun id=>cond (Nat.beq id 14||Nat.beq id 15) [.frz 1054,.kil 2021,.cls 1021] [] } (fun _ _=>none) 6 Tryz.f30 [.agg [.sl 3 g l],.str nm,.int .i64 fr] [] (.tup [.agg [.sl 3 false (remO l nm fr)],.int .i64 (remE l nm fr)]) []
theorem gremove_e (rgV:LLR→Int) (remO:LLR→ByteArray→Int→LLR) (remE:LLR→ByteArray→Int→Int) (p1R:List AV→Bool) (p2R:List AV→Bool) (p3R:List AV→Bool) (p4R:List AV→Bool) (p5R:List AV→Bool):gremove_T rgV remO remE p1R p2R p3R p4R p5R=gremove_S rgV remO remE p1R p2R p3R p4R p5R:=by kernel_rfl
theorem gremove_v:gremove_S rgV remO remE p1R p2R p3R p4R p5R:=Eq.mp (gremove_e ..) (gremove_P)
theorem gremove_ok:HOK Tryz.prog glb 30 gremove_s:=by
 refine ⟨fok Tryz.func30 (by kernel_rfl) (by kernel_rfl),?_⟩
 intro xs bs pre r bs2 h hp
 unfold gremove_s at h
 split at h
 ·rename_i g l nm fr
  simp only [Option.some.injEq,Prod.mk.injEq] at h
  obtain ⟨h1,h2,h3⟩:=h
  subst h1 h2 h3
  exact fnH_sound tyNil (by exact specOK rfl rfl ⟨gvalidR_ok,trivial⟩ ⟨sdelS_ok glb,sdelP_ok glb,gcop_ok (stN l nm) glb,gstB_ok l (stN l nm) glb,gperB_ok glb,trivial⟩) (by kernel_rfl) Tryz.func30 (gremove_v _ _ _ _ hp)
 ·cases h
end Go.Proofs.YtldiagnbagpliaaGreatDoor
