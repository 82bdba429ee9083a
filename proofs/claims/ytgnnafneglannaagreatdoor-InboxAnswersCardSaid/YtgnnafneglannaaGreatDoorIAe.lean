import Derived.Test.YtgnnafneglannaaGreatDoorIAc
import Derived.Test.YtgnnafneglannaaGreatDoorIAd
import Derived.Lib.OthersKept
import Derived.Laws.RangeAny
import Derived.Deep.LoopGhost
import Derived.Lib.TrimU
import Derived.Shelf.Abstract
import Derived.Deep.DeepFit
import Derived.Shelf.RegionOpenPlain
import Derived.Lib.JoinLaws
import Derived.Lib.Overlaps
import Derived.Lib.AppendZerosOnto
import Derived.Laws.IdiomCopy
import Derived.Laws.NewBlocks
import Derived.Shelf.Spec.SlicesInsert
set_option maxRecDepth 100000
namespace Go.Proofs.YtgnnafneglannaaGreatDoor
open Go
set_option linter.unusedVariables false
set_option linter.unusedSimpArgs false
structure StrsA (ys:List (List AV)):Prop where
 fs:∀ x ∈ ys,∃ s:ByteArray,x=[.str s]
def qtext_s:SpQ
 | [.ptr 0 0,.rw 1 1 n],[.cells [.sl 1 false xs,.int .i64 i],.row 9 1 ys]=>some (fun K=>(SrcQ xs i∧(n=ys.length∧1≤n∧n≤1000)∧StrsA ys)∧(∀ (v:ByteArray) (j:Int),(PickQ ys (.str v) j)→K (.str v) [.cells [.sl 1 false xs,.int .i64 j],.row 9 1 ys]))
 | _,_=>none
def qtext_T:Prop :=
  ∀ (gl:Glob) (xs ys:List (List AV)) (i:Int) (n:Nat),SrcQ xs i∧(n=ys.length∧1≤n∧n≤(1000:Nat))∧StrsA ys→SrcQ xs i∧∀ (v j:Int),NumQ (↑n:Int) v j→bif decide (0≤v∧v < (↑n:Int)) then bif decide (n=ys.length∧v.toNat < ys.length) then ∃ s,List.take [AV.str s].length (List.drop (0:Nat) (ys.getD v.toNat []))=[AV.str s]∧∃ v j_1,PickQ ys (AV.str v)
 j_1∧s=v∧((True∧xs=xs)∧j=j_1∧True)∧ys=ys∧True else False else False
theorem qtext_P:qtext_T:=by
 unfold qtext_T
 intro gl xs ys i n ⟨hs,⟨h1,h2,h3⟩,hi⟩
 refine ⟨hs,fun v j hq=>?_⟩
 have hv:=hq.fv (by omega)
 have hj:=hq.fj
 have hl:v.toNat < ys.length:=by omega
 have hm:ys.getD v.toNat [] ∈ ys:=by
  rw [List.getD_eq_getElem?_getD,List.getElem?_eq_getElem hl]; exact List.getElem_mem hl
 obtain ⟨z,hz⟩:=hi.fs _ hm
 refine cd1 (by omega) (cd1 ⟨h1,hl⟩ ⟨z,by rw [hz]; rfl,z,j,⟨by rw [← hz]; exact hm,hj⟩,rfl,⟨⟨trivial,rfl⟩,rfl,trivial⟩,rfl,trivial⟩)
def qtext_S:Prop:=∀ (gl:Glob) (xs ys:List (List AV)) (i:Int) (n:Nat),SrcQ xs i∧(n=ys.length∧1≤n∧n≤1000)∧StrsA ys→fnQ Tryz.prog { glob:=gl,spec:=lk [],specH:=lk [],specQ:=lk [(11,qn_s)],shape:=[11],nowf:=true } { nt:=12,drop:=drp [(1,4064)],fr:=1000,kp:=[0,1] } (fun _ _=>none) 6 Tryz.f33 [.ptr 0 0,.rw 1 1 n] [.cells [.sl 1 false xs,.int .i64 i],.row 9 1 ys] (fun r2 bs2=>∃ (v:ByteArray) (j:Int),(PickQ ys (.str v) j)∧le r2 (.str v)∧leBs bs2 [.cells [.sl 1 false xs,.int .i64 j],.row 9 1 ys])
theorem qtext_e:qtext_T=qtext_S:=by kernel_rfl
theorem qtext_v:qtext_S:=Eq.mp (qtext_e ..) (qtext_P)
theorem qtext_ok (gl:Glob):QOK Tryz.prog gl 33 qtext_s:=by
 refine ⟨fok Tryz.func33 (by kernel_rfl) (by kernel_rfl),?_⟩
 intro xs bs T h K hT
 unfold qtext_s at h
 split at h
 ·simp only [Option.some.injEq] at h
  subst h
  obtain ⟨hp,hK⟩:=hT
  obtain ⟨r,bs2,⟨o0,o1,hq,hl,hb⟩,hC⟩:=fnQ_sound tyNil (by exact specOK rfl rfl trivial trivial (d:=qsOf rfl ⟨(qn_ok gl),trivial⟩)) (by kernel_rfl) Tryz.func33 (qtext_v gl _ _ _ _ hp)
  exact ⟨_,_,hK o0 o1 hq,hC.le hl hb⟩
 ·cases h
structure MinQ (m j:Int):Prop where
 fm:0≤m∧m≤52595999
 fj:0≤j
def qminute_s:SpQ
 | [.ptr 0 0],[.cells [.sl 1 false xs,.int .i64 i]]=>some (fun K=>(SrcQ xs i)∧(∀ (m j:Int),(MinQ m j)→K (.int .i64 m) [.cells [.sl 1 false xs,.int .i64 j]]))
 | _,_=>none
def qminute_T:Prop :=
  ∀ (gl:Glob) (xs:List (List AV)) (i:Int),SrcQ xs i→SrcQ xs i∧∀ (v j:Int),NumQ (6:Int) v j→bif decide (v=(0:Int)) then SrcQ xs j∧∀ (v j:Int),RawQ v j→SrcQ xs j∧∀ (v_1 j:Int),RawQ v_1 j→True∧∃ m j_1,MinQ m j_1∧modZ (IntKind.i64.wrap (IntKind.i64.wrap (v*(7919:Int))+v_1)) (52596000:Int)=m∧((True∧xs=xs)∧j=j_1∧True)∧True else bif decide (v=(1:Int)) then (SrcQ xs j∧((4:Nat)=4∧(1:Nat) ≤
 (4:Nat)∧(4:Nat)≤(1000:Nat))∧IntsB [[AV.int .i64 (0:Int)],[AV.int .i64 (52595999:Int)],[AV.int .i64 (20160:Int)],[AV.int .i64 (52575839:Int)]])∧∀ (v j:Int),PickQ [[AV.int .i64 (0:Int)],[AV.int .i64 (52595999:Int)],[AV.int .i64 (20160:Int)],[AV.int .i64 (52575839:Int)]] (AV.int .i64 v) j→∃ m j_1,MinQ m j_1∧v=m∧((True∧xs=xs)∧j=j_1∧True)∧True else SrcQ xs j∧∀ (v j:Int),NumQ (2000:Int) v j→∃ m
 j_1,MinQ m j_1∧IntKind.i64.wrap ((14000000:Int)+IntKind.i64.wrap (v*(60:Int)))=m∧((True∧xs=xs)∧j=j_1∧True)∧True
theorem qminute_P:qminute_T:=by
 unfold qminute_T
 intro gl xs i hs
 have s:=hs.s
 refine ⟨hs,fun v j hq=>cs (fun h=>⟨⟨s,hq.fj⟩,fun v j q1=>⟨⟨s,q1.fj⟩,fun v2 j q2=>⟨trivial,_,_,⟨?_,q2.fj⟩,rfl,⟨⟨trivial,rfl⟩,rfl,trivial⟩,trivial⟩⟩⟩) (fun h=>cs (fun h=>⟨⟨⟨s,hq.fj⟩,⟨rfl,by decide,by decide⟩,ints_of [0,52595999,20160,52575839] (by decide)⟩,fun v j q1=>⟨_,_,⟨?_,q1.fj⟩,rfl,⟨⟨trivial,rfl⟩,rfl,trivial⟩,trivial⟩⟩) (fun h=>⟨⟨s,hq.fj⟩,fun v j q1=>⟨_,_,⟨?_,q1.fj⟩,rfl,⟨⟨trivial,rfl⟩,rfl,trivial⟩,trivial⟩⟩))⟩
 ·have:∀ z:Int,0≤modZ z 52596000∧modZ z 52596000≤52595999:=by
   intro z
   unfold modZ
   rw [if_neg (by decide)]
   omega
  exact this _
 ·have:=pick_of [0,52595999,20160,52575839] q1
  simp only [List.mem_cons,List.not_mem_nil,or_false] at this
  omega
 ·have hv:=q1.fv (by decide)
  rw [wrap_eq (k:=.i64) (n:=v*60) (by show _∧_; omega),wrap_eq (k:=.i64) (by show _∧_; omega)]
  omega
def qminute_S:Prop:=∀ (gl:Glob) (xs:List (List AV)) (i:Int),SrcQ xs i→fnQ Tryz.prog { glob:=gl,spec:=lk [(28,mod_s)],specH:=lk [],specQ:=lk [(11,qn_s),(29,qraw_s),(13,qpick_s)],nowf:=true,wrap:=true } { nt:=23,drop:=drp [(1,8),(2,64),(3,16256),(4,32768),(5,458752),(6,7864320)],fr:=1000,kp:=[0] } (fun _ _=>none) 6 Tryz.f8 [.ptr 0 0] [.cells [.sl 1 false xs,.int .i64 i]] (fun r2 bs2=>∃ (m j:Int),(MinQ m j)∧le r2 (.int .i64 m)∧leBs bs2 [.cells [.sl 1 false xs,.int .i64 j]])
theorem qminute_e:qminute_T=qminute_S:=by kernel_rfl
theorem qminute_v:qminute_S:=Eq.mp (qminute_e ..) (qminute_P)
theorem qminute_ok (gl:Glob):QOK Tryz.prog gl 8 qminute_s:=by
 refine ⟨fok Tryz.func8 (by kernel_rfl) (by kernel_rfl),?_⟩
 intro xs bs T h K hT
 unfold qminute_s at h
 split at h
 ·simp only [Option.some.injEq] at h
  subst h
  obtain ⟨hp,hK⟩:=hT
  obtain ⟨r,bs2,⟨o0,o1,hq,hl,hb⟩,hC⟩:=fnQ_sound tyNil (by exact specOK rfl rfl ⟨(mod_ok gl),trivial⟩ trivial (d:=qsOf rfl ⟨(qn_ok gl),(qraw_ok gl),(qpick_ok gl),trivial⟩)) (by kernel_rfl) Tryz.func8 (qminute_v gl _ _ hp)
  exact ⟨_,_,hK o0 o1 hq,hC.le hl hb⟩
 ·cases h
def qnear_s:SpQ
 | [.ptr 0 0,.int .i64 near],[.cells [.sl 1 false xs,.int .i64 i]]=>some (fun K=>(SrcQ xs i∧0≤near∧near≤52595999)∧(∀ (m j:Int),(MinQ m j)→K (.int .i64 m) [.cells [.sl 1 false xs,.int .i64 j]]))
 | _,_=>none
def qnear_T:Prop :=
  ∀ (gl:Glob) (xs:List (List AV)) (i near:Int),SrcQ xs i∧0≤near∧near≤(52595999:Int)→(SrcQ xs i∧(-600:Int)≤(600:Int)∧(-1000000000:Int)≤(-600:Int)∧(600:Int)≤(1000000000:Int))∧∀ (v j:Int),((-600:Int)≤v∧v≤(600:Int))∧0≤j→(SrcQ xs j∧(-20159:Int)≤(20159:Int)∧(-1000000000:Int)≤(-20159:Int)∧(20159:Int)≤(1000000000:Int))∧∀ (v_1 j:Int),((-20159:Int)≤v_1∧v_1 ≤
 (20159:Int))∧0≤j→(SrcQ xs j∧((3:Nat)=[[AV.int .i64 (0:Int)],[AV.int .i64 v],[AV.int .i64 v_1]].length∧(1:Nat)≤(3:Nat)∧(3:Nat)≤(1000:Nat))∧IntsB [[AV.int .i64 (0:Int)],[AV.int .i64 v],[AV.int .i64 v_1]])∧∀ (v_2 j:Int),PickQ [[AV.int .i64 (0:Int)],[AV.int .i64 v],[AV.int .i64 v_1]] (AV.int .i64 v_2) j→bif decide (rng .i64 (near+v_2)) then ∃ m j_1,MinQ m j_1∧max (0:Int) (min
 (52595999:Int) (near+v_2))=m∧((True∧xs=xs)∧j=j_1∧True)∧True else False
theorem qnear_P:qnear_T:=by
 unfold qnear_T
 intro gl xs i near ⟨hs,h1,h2⟩
 have s:=hs.s
 refine ⟨⟨hs,by decide,by decide,by decide⟩,fun v j q1=>⟨⟨⟨s,q1.2⟩,by decide,by decide,by decide⟩,fun v2 j q2=>⟨⟨⟨s,q2.2⟩,⟨rfl,by decide,by decide⟩,ints_of [0,v,v2] ?_⟩,fun v3 j q3=>?_⟩⟩⟩
 ·intro n hn
  simp only [List.mem_cons,List.not_mem_nil,or_false] at hn
  show _∧_
  omega
 ·have:=pick_of [0,v,v2] q3
  simp only [List.mem_cons,List.not_mem_nil,or_false] at this
  exact cdI (by omega) ⟨_,_,⟨by omega,q3.fj⟩,rfl,⟨⟨trivial,rfl⟩,rfl,trivial⟩,trivial⟩
def qnear_S:Prop:=∀ (gl:Glob) (xs:List (List AV)) (i near:Int),SrcQ xs i∧0≤near∧near≤52595999→fnQ Tryz.prog { glob:=gl,spec:=lk [],specH:=lk [],specQ:=lk [(12,qrange_s),(13,qpick_s)],nowf:=true } { nt:=16,drop:=drp [(1,65504)],fr:=1000,kp:=[0] } (fun _ _=>none) 6 Tryz.f41 [.ptr 0 0,.int .i64 near] [.cells [.sl 1 false xs,.int .i64 i]] (fun r2 bs2=>∃ (m j:Int),(MinQ m j)∧le r2 (.int .i64 m)∧leBs bs2 [.cells [.sl 1 false xs,.int .i64 j]])
theorem qnear_e:qnear_T=qnear_S:=by kernel_rfl
theorem qnear_v:qnear_S:=Eq.mp (qnear_e ..) (qnear_P)
theorem qnear_ok (gl:Glob):QOK Tryz.prog gl 41 qnear_s:=by
 refine ⟨fok Tryz.func41 (by kernel_rfl) (by kernel_rfl),?_⟩
 intro xs bs T h K hT
 unfold qnear_s at h
 split at h
 ·simp only [Option.some.injEq] at h
  subst h
  obtain ⟨hp,hK⟩:=hT
  obtain ⟨r,bs2,⟨o0,o1,hq,hl,hb⟩,hC⟩:=fnQ_sound tyNil (by exact specOK rfl rfl trivial trivial (d:=qsOf rfl ⟨(qrange_ok gl),(qpick_ok gl),trivial⟩)) (by kernel_rfl) Tryz.func41 (qnear_v gl _ _ _ hp)
  exact ⟨_,_,hK o0 o1 hq,hC.le hl hb⟩
 ·cases h
theorem nrm_ok {f a b c:Int} (hv:Vld f a b c):Vld (nrm f a b c).1 (nrm f a b c).2.1 (nrm f a b c).2.2.1 (nrm f a b c).2.2.2∧isN (nrm f a b c).1 (nrm f a b c).2.1 (nrm f a b c).2.2.1 (nrm f a b c).2.2.2=true:=by
 obtain ⟨n,hn,ho,e⟩:=nrm_row hv
 have r:=row_of hv hn ho
 rw [e]
 refine ⟨r.vld,?_⟩
 unfold isN
 rw [r.nrm,e,vld_t r.vld]
 simp
structure PlaQ (f a b c j:Int):Prop where
 fv:Vld f a b c
 fn:isN f a b c=true
 fj:0≤j
structure PlaC (x:Int × Int × Int):Prop where
 ff:0≤x.1∧x.1 < 20
 fa:0≤x.2.1∧x.2.1≤840
 fj:0≤x.2.2
def plaC (xs:List (List AV)):LInv:=⟨Int × Int × Int,fun x=>⟨[(0,.ptr 0 0),(2,.ptr 1002 0),(3,.ptr 1003 0)],[(0,.cells [.sl 1 false xs,.int .i64 x.2.2]),(1002,.cells [.int .i64 0,.int .i64 0,.int .i64 0,.int .i64 0]),(1003,.cells [.int .i64 x.1,.int .i64 x.2.1,.int .i64 0,.int .i64 0])]⟩,PlaC,fun _=>0,none⟩
def qplace_s:SpQ
 | [.ptr 0 0],[.cells [.sl 1 false xs,.int .i64 i]]=>some (fun K=>(SrcQ xs i)∧(∀ (f a b c j:Int),(PlaQ f a b c j)→K (.agg [.int .i64 f,.int .i64 a,.int .i64 b,.int .i64 c]) [.cells [.sl 1 false xs,.int .i64 j]]))
 | _,_=>none
def qplace_T (vld:Int→Int→Int→Int→Bool) (adr:Int→Int→Int→Int→List (List AV)) (nrm:Int→Int→Int→Int→Int × Int × Int × Int):Prop :=
  ∀ (gl:Glob) (xs:List (List AV)) (i:Int),SrcQ xs i→SrcQ xs i∧∀ (v j:Int),NumQ (20:Int) v j→SrcQ xs j∧∀ (v_1 j:Int),NumQ (841:Int) v_1 j→(SrcQ xs j∧∀ (v_2 j:Int),NumQ (4:Int) v_2 j→bif decide (v_2=(0:Int)) then SrcQ xs j∧∀ (v_3 j:Int),NumQ (9:Int) v_3 j→bif decide (rng .i64 ((105:Int)*v_3)) then ∃ x,PlaC
 x∧((0:Nat)=0∧(0:Nat)=0∧(0:Nat)=0∧True)∧((True∧xs=xs)∧j=x.snd.snd∧True)∧((0:Int)=0∧(0:Int)=0∧(0:Int)=0∧(0:Int)=0∧True)∧(v=x.fst∧(105:Int)*v_3=x.snd.fst∧(0:Int)=0∧(0:Int)=0∧True)∧True else False else bif decide (v_2=(1:Int)) then SrcQ xs j∧∀ (v_3 j:Int),NumQ (5:Int) v_3 j→bif decide (rng .i64 ((210:Int)*v_3)) then ∃ x,PlaC
 x∧((0:Nat)=0∧(0:Nat)=0∧(0:Nat)=0∧True)∧((True∧xs=xs)∧j=x.snd.snd∧True)∧((0:Int)=0∧(0:Int)=0∧(0:Int)=0∧(0:Int)=0∧True)∧(v=x.fst∧(210:Int)*v_3=x.snd.fst∧(0:Int)=0∧(0:Int)=0∧True)∧True else False else ∃ x,PlaC x∧((0:Nat)=0∧(0:Nat)=0∧(0:Nat)=0∧True)∧((True∧xs=xs)∧j=x.snd.snd∧True)∧((0:Int)=0∧(0:Int)=0∧(0:Int)=0∧(0:Int)=0∧True)∧(v=x.fst∧v_1=x.snd.fst∧(0:Int)=0∧(0:Int)=0∧True)∧True)∧∀ (x:Int × Int ×
 Int),PlaC x→bif decide (rng .i64 ((840:Int) - x.snd.fst)) then bif decide (rng .i64 ((840:Int) - x.snd.fst+(1:Int))) then SrcQ xs x.snd.snd∧∀ (v j:Int),NumQ ((840:Int) - x.snd.fst+(1:Int)) v j→SrcQ xs j∧∀ (v_2 j:Int),NumQ (3:Int) v_2 j→bif decide (v_2=(0:Int)) then bif decide (rng .i64 (v - v.tmod (105:Int))) then bif decide (rng .i64 ((840:Int) - x.snd.fst)) then bif decide (rng .i64
 ((840:Int) - x.snd.fst - (v - v.tmod (105:Int)))) then True∧∃ f a b c j_1,PlaQ f a b c j_1∧((nrm x.fst x.snd.fst (v - v.tmod (105:Int)) ((840:Int) - x.snd.fst - (v - v.tmod (105:Int)))).fst=f∧(nrm x.fst x.snd.fst (v - v.tmod (105:Int)) ((840:Int) - x.snd.fst - (v - v.tmod (105:Int)))).snd.fst=a∧(nrm x.fst x.snd.fst (v - v.tmod (105:Int)) ((840:Int) - x.snd.fst - (v - v.tmod
 (105:Int)))).snd.snd.fst=b∧(nrm x.fst x.snd.fst (v - v.tmod (105:Int)) ((840:Int) - x.snd.fst - (v - v.tmod (105:Int)))).snd.snd.snd=c∧True)∧((True∧xs=xs)∧j=j_1∧True)∧True else False else False else False else bif decide (rng .i64 ((840:Int) - x.snd.fst)) then bif decide (rng .i64 ((840:Int) - x.snd.fst - v)) then True∧∃ f a b c j_1,PlaQ f a b c j_1∧((nrm x.fst x.snd.fst v ((840:Int) - x.snd.fst -
 v)).fst=f∧(nrm x.fst x.snd.fst v ((840:Int) - x.snd.fst - v)).snd.fst=a∧(nrm x.fst x.snd.fst v ((840:Int) - x.snd.fst - v)).snd.snd.fst=b∧(nrm x.fst x.snd.fst v ((840:Int) - x.snd.fst - v)).snd.snd.snd=c∧True)∧((True∧xs=xs)∧j=j_1∧True)∧True else False else False else False else False
theorem qplace_P:qplace_T vld adr nrm:=by
 unfold qplace_T
 intro gl xs i hs
 have s:=hs.s
 refine ⟨hs,fun v j q1=>⟨⟨s,q1.fj⟩,fun v1 j q2=>⟨⟨⟨s,q2.fj⟩,fun v2 j q3=>?_⟩,?_⟩⟩⟩
 ·have h1:=q1.fv (by decide)
  have h2:=q2.fv (by decide)
  refine cs (fun _=>⟨⟨s,q3.fj⟩,fun v3 j q4=>?_⟩) (fun _=>cs (fun _=>⟨⟨s,q3.fj⟩,fun v3 j q4=>?_⟩) (fun _=>?_))
  ·have h3:=q4.fv (by decide)
   exact cdI (by omega) ⟨(v,105*v3,j),⟨by simp only; omega,by simp only; omega,q4.fj⟩,⟨rfl,rfl,rfl,trivial⟩,⟨⟨trivial,rfl⟩,rfl,trivial⟩,⟨rfl,rfl,rfl,rfl,trivial⟩,⟨rfl,rfl,rfl,rfl,trivial⟩,trivial⟩
  ·have h3:=q4.fv (by decide)
   exact cdI (by omega) ⟨(v,210*v3,j),⟨by simp only; omega,by simp only; omega,q4.fj⟩,⟨rfl,rfl,rfl,trivial⟩,⟨⟨trivial,rfl⟩,rfl,trivial⟩,⟨rfl,rfl,rfl,rfl,trivial⟩,⟨rfl,rfl,rfl,rfl,trivial⟩,trivial⟩
  ·exact ⟨(v,v1,j),⟨by simp only; omega,by simp only; omega,q3.fj⟩,⟨rfl,rfl,rfl,trivial⟩,⟨⟨trivial,rfl⟩,rfl,trivial⟩,⟨rfl,rfl,rfl,rfl,trivial⟩,⟨rfl,rfl,rfl,rfl,trivial⟩,trivial⟩
 ·rintro ⟨f,a,j⟩ ⟨hf,ha,hj⟩
  simp only at hf ha hj
  dsimp only
  refine cdI (by omega) (cdI (by omega) ⟨⟨s,hj⟩,fun b j q1=>⟨⟨s,q1.fj⟩,fun v2 j q2=>?_⟩⟩)
  have hb:=q1.fv (by omega)
  refine cs (fun _=>?_) (fun _=>?_)
  ·have e:b.tmod 105=b % 105:=Int.tmod_eq_emod_of_nonneg hb.1
   rw [e]
   have hn:=nrm_ok (f:=f) (a:=a) (b:=b - b % 105) (c:=840 - a - (b - b % 105)) ⟨hf,by omega,by omega,by omega,by omega⟩
   exact cdI (by omega) (cdI (by omega) (cdI (by omega) ⟨trivial,_,_,_,_,_,⟨hn.1,hn.2,q2.fj⟩,⟨rfl,rfl,rfl,rfl,trivial⟩,⟨⟨trivial,rfl⟩,rfl,trivial⟩,trivial⟩))
  ·have hn:=nrm_ok (f:=f) (a:=a) (b:=b) (c:=840 - a - b) ⟨hf,by omega,by omega,by omega,by omega⟩
   exact cdI (by omega) (cdI (by omega) ⟨trivial,_,_,_,_,_,⟨hn.1,hn.2,q2.fj⟩,⟨rfl,rfl,rfl,rfl,trivial⟩,⟨⟨trivial,rfl⟩,rfl,trivial⟩,trivial⟩)
def qplace_S (vld:Int→Int→Int→Int→Bool) (adr:Int→Int→Int→Int→List (List AV)) (nrm:Int→Int→Int→Int→Int × Int × Int × Int):Prop:=∀ (gl:Glob) (xs:List (List AV)) (i:Int),SrcQ xs i→fnQ Tryz.prog { glob:=gl,spec:=lk [(50,(rNormal_s vld adr nrm))],specH:=lk [],specQ:=lk [(11,qn_s)],nowf:=true } { nt:=55,drop:=drp [(1,1984),(2,2048),(3,16384),(4,491520),(5,1048576),(6,31457280),(7,4261412864),(8,12884901888),(9,4363686772736),(10,558551906910208),(11,17451448556060672),(12,18014398509481984)],fr:=1000,kp:=[0] } (invs [(100007,plaC xs)]) 6 Tryz.f32 [.ptr 0 0] [.cells [.sl 1 false xs,.int .i64 i]] (fun r2 bs2=>∃ (f a b c j:Int),(PlaQ f a b c j)∧le r2 (.agg [.int .i64 f,.int .i64 a,.int .i64 b,.int .i64 c])∧leBs bs2 [.cells [.sl 1 false xs,.int .i64 j]])
theorem qplace_e (vld:Int→Int→Int→Int→Bool) (adr:Int→Int→Int→Int→List (List AV)) (nrm:Int→Int→Int→Int→Int × Int × Int × Int):qplace_T vld adr nrm=qplace_S vld adr nrm:=by kernel_rfl
theorem qplace_v:qplace_S vld adr nrm:=Eq.mp (qplace_e ..) (qplace_P)
theorem qplace_ok (gl:Glob):QOK Tryz.prog gl 32 qplace_s:=by
 refine ⟨fok Tryz.func32 (by kernel_rfl) (by kernel_rfl),?_⟩
 intro xs bs T h K hT
 unfold qplace_s at h
 split at h
 ·simp only [Option.some.injEq] at h
  subst h
  obtain ⟨hp,hK⟩:=hT
  obtain ⟨r,bs2,⟨o0,o1,o2,o3,o4,hq,hl,hb⟩,hC⟩:=fnQ_sound tyNil (by exact specOK rfl rfl ⟨(rNormal_ok gl),trivial⟩ trivial (d:=qsOf rfl ⟨(qn_ok gl),trivial⟩)) (by kernel_rfl) Tryz.func32 (qplace_v gl _ _ hp)
  exact ⟨_,_,hK o0 o1 o2 o3 o4 hq,hC.le hl hb⟩
 ·cases h
end Go.Proofs.YtgnnafneglannaaGreatDoor
namespace Go.Proofs.YtgnnafneglannaaGreatDoor
open Go
set_option linter.unusedVariables false
set_option linter.unusedSimpArgs false
def nam6:List ByteArray:=[⟨#[65,76,80,72,65]⟩,⟨#[66,82,65,86,79]⟩,⟨#[48,49,50,51,52]⟩,⟨#[68,69,76,84,65]⟩,⟨#[69,67,72,79,55]⟩,⟨#[55,55,55,55,55]⟩]
theorem sT {xs:List (List AV)} {j:Int}:((True∧xs=xs)∧j=j∧True)∧True:=⟨⟨⟨trivial,rfl⟩,rfl,trivial⟩,trivial⟩
theorem in_bd {c:Int} (h:1≤c∧c≤11):-1000≤inLo c∧inLo c+1≤inHi c∧inHi c≤11000∧inLo c+40≤(inLo c+inHi c).tdiv 2∧(inLo c+inHi c).tdiv 2+40≤inHi c:=by
 have hc:c=1∨c=2∨c=3∨c=4∨c=5∨c=6∨c=7∨c=8∨c=9∨c=10∨c=11:=by omega
 rcases hc with rfl | rfl | rfl | rfl | rfl | rfl | rfl | rfl | rfl | rfl | rfl <;> decide
structure NamQ (s:ByteArray) (j:Int):Prop where
 fs:s ∈ nam6
 fj:0≤j
def qname_s:SpQ
 | [.ptr 0 0],[.cells [.sl 1 false xs,.int .i64 i]]=>some (fun K=>(SrcQ xs i)∧(∀ (s:ByteArray) (j:Int),(NamQ s j)→K (.str s) [.cells [.sl 1 false xs,.int .i64 j]]))
 | _,_=>none
def qname_T:Prop :=
  ∀ (gl:Glob) (xs:List (List AV)) (i:Int),SrcQ xs i→(SrcQ xs i∧((6:Nat)=6∧(1:Nat)≤(6:Nat)∧(6:Nat)≤(1000:Nat))∧StrsA [[AV.str { data:=#[(65:UInt8),(76:UInt8),(80:UInt8),(72:UInt8),(65:UInt8)] }],[AV.str { data:=#[(66:UInt8),(82:UInt8),(65:UInt8),(86:UInt8),(79:UInt8)] }],[AV.str { data:=#[(48:UInt8),(49:UInt8),(50:UInt8),(51:UInt8),(52:UInt8)] }],[AV.str {
 data:=#[(68:UInt8),(69:UInt8),(76:UInt8),(84:UInt8),(65:UInt8)] }],[AV.str { data:=#[(69:UInt8),(67:UInt8),(72:UInt8),(79:UInt8),(55:UInt8)] }],[AV.str { data:=#[(55:UInt8),(55:UInt8),(55:UInt8),(55:UInt8),(55:UInt8)] }]])∧∀ (v:ByteArray) (j:Int),PickQ [[AV.str { data:=#[(65:UInt8),(76:UInt8),(80:UInt8),(72:UInt8),(65:UInt8)] }],[AV.str { data :=
 #[(66:UInt8),(82:UInt8),(65:UInt8),(86:UInt8),(79:UInt8)] }],[AV.str { data:=#[(48:UInt8),(49:UInt8),(50:UInt8),(51:UInt8),(52:UInt8)] }],[AV.str { data:=#[(68:UInt8),(69:UInt8),(76:UInt8),(84:UInt8),(65:UInt8)] }],[AV.str { data:=#[(69:UInt8),(67:UInt8),(72:UInt8),(79:UInt8),(55:UInt8)] }],[AV.str { data:=#[(55:UInt8),(55:UInt8),(55:UInt8),(55
:UInt8),(55:UInt8)] }]] (AV.str v) j→∃ s j_1,NamQ s j_1∧v=s∧((True∧xs=xs)∧j=j_1∧True)∧True
theorem qname_P:qname_T:=by
 unfold qname_T
 intro gl xs i hs
 refine ⟨⟨hs,⟨rfl,by decide,by decide⟩,⟨fun x hx=>?_⟩⟩,fun v j q=>⟨_,_,⟨?_,q.fj⟩,rfl,sT⟩⟩
 ·simp only [List.mem_cons,List.not_mem_nil,or_false] at hx
  rcases hx with rfl | rfl | rfl | rfl | rfl | rfl <;> exact ⟨_,rfl⟩
 ·have:=q.fm
  simp only [List.mem_cons,List.cons.injEq,AV.str.injEq,and_true,List.not_mem_nil,or_false] at this
  unfold nam6
  simp only [List.mem_cons,List.not_mem_nil,or_false]
  exact this
def qname_S:Prop:=∀ (gl:Glob) (xs:List (List AV)) (i:Int),SrcQ xs i→fnQ Tryz.prog { glob:=gl,spec:=lk [],specH:=lk [],specQ:=lk [(33,qtext_s)],nowf:=true } { nt:=6,drop:=drp [(1,56)],fr:=1000,kp:=[0] } (fun _ _=>none) 6 Tryz.f40 [.ptr 0 0] [.cells [.sl 1 false xs,.int .i64 i]] (fun r2 bs2=>∃ (s:ByteArray) (j:Int),(NamQ s j)∧le r2 (.str s)∧leBs bs2 [.cells [.sl 1 false xs,.int .i64 j]])
theorem qname_e:qname_T=qname_S:=by kernel_rfl
theorem qname_v:qname_S:=Eq.mp (qname_e ..) (qname_P)
theorem qname_ok (gl:Glob):QOK Tryz.prog gl 40 qname_s:=by
 refine ⟨fok Tryz.func40 (by kernel_rfl) (by kernel_rfl),?_⟩
 intro xs bs T h K hT
 unfold qname_s at h
 split at h
 ·simp only [Option.some.injEq] at h
  subst h
  obtain ⟨hp,hK⟩:=hT
  obtain ⟨r,bs2,⟨o0,o1,hq,hl,hb⟩,hC⟩:=fnQ_sound tyNil (by exact specOK rfl rfl trivial trivial (d:=qsOf rfl ⟨(qtext_ok gl),trivial⟩)) (by kernel_rfl) Tryz.func40 (qname_v gl _ _ hp)
  exact ⟨_,_,hK o0 o1 hq,hC.le hl hb⟩
 ·cases h
structure SomQ (c v j:Int):Prop where
 fv:inLo c≤v∧v≤inHi c
 fj:0≤j
def qsome_s (iL:Int→ByteArray) (inLo:Int→Int) (inHi:Int→Int) (inD:Int→Int) (inE:Int→Int):SpQ
 | [.ptr 0 0,.int .i64 c],[.cells [.sl 1 false xs,.int .i64 i]]=>some (fun K=>(SrcQ xs i∧1≤c∧c≤11)∧(∀ (v j:Int),(SomQ c v j)→K (.agg [.int .i64 c,.int .i64 v]) [.cells [.sl 1 false xs,.int .i64 j]]))
 | _,_=>none
def qsome_T (iL:Int→ByteArray) (inLo:Int→Int) (inHi:Int→Int) (inD:Int→Int) (inE:Int→Int):Prop :=
  ∀ (gl:Glob) (xs:List (List AV)) (i c:Int),SrcQ xs i∧1≤c∧c≤(11:Int)→True∧(SrcQ xs i∧inLo c≤inHi c∧(-1000000000:Int)≤inLo c∧inHi c≤(1000000000:Int))∧∀ (v j:Int),(inLo c≤v∧v≤inHi c)∧0≤j→SrcQ xs j∧∀ (v_1 j:Int),NumQ (5:Int) v_1 j→bif decide (v_1=(0:Int)) then (SrcQ xs j∧((2:Nat)=[[AV.int .i64 (inLo c)],[AV.int .i64 (inHi c)]].length∧(1:Nat)≤(2:Nat)∧(2:Nat) ≤
 (1000:Nat))∧IntsB [[AV.int .i64 (inLo c)],[AV.int .i64 (inHi c)]])∧∀ (v j:Int),PickQ [[AV.int .i64 (inLo c)],[AV.int .i64 (inHi c)]] (AV.int .i64 v) j→∃ v_2 j_1,SomQ c v_2 j_1∧(c=c∧v=v_2∧True)∧((True∧xs=xs)∧j=j_1∧True)∧True else bif decide (v_1=(1:Int)) then bif decide (rng .i64 (inLo c+inHi c)) then bif decide (rng .i64 ((inLo c+inHi c).tdiv (2:Int))) then (SrcQ xs j∧(-40:Int) ≤
 (40:Int)∧(-1000000000:Int)≤(-40:Int)∧(40:Int)≤(1000000000:Int))∧∀ (v j:Int),((-40:Int)≤v∧v≤(40:Int))∧0≤j→bif decide (rng .i64 ((inLo c+inHi c).tdiv (2:Int)+v)) then ∃ v_2 j_1,SomQ c v_2 j_1∧(c=c∧(inLo c+inHi c).tdiv (2:Int)+v=v_2∧True)∧((True∧xs=xs)∧j=j_1∧True)∧True else False else False else False else bif decide (v_1=(2:Int)) then bif decide (rng .i64 (inLo c+inHi c))
 then bif decide (rng .i64 ((inLo c+inHi c).tdiv (2:Int))) then (SrcQ xs j∧(-40:Int)≤(40:Int)∧(-1000000000:Int)≤(-40:Int)∧(40:Int)≤(1000000000:Int))∧∀ (v j:Int),((-40:Int)≤v∧v≤(40:Int))∧0≤j→bif decide (rng .i64 ((inLo c+inHi c).tdiv (2:Int)+v)) then ∃ v_2 j_1,SomQ c v_2 j_1∧(c=c∧(inLo c+inHi c).tdiv (2:Int)+v=v_2∧True)∧((True∧xs=xs)∧j=j_1∧True)∧True else False else False
 else False else ∃ v_2 j_1,SomQ c v_2 j_1∧(c=c∧v=v_2∧True)∧((True∧xs=xs)∧j=j_1∧True)∧True
theorem qsome_P:qsome_T iL inLo inHi inD inE:=by
 unfold qsome_T
 intro gl xs i c ⟨hs,h1,h2⟩
 have s:=hs.s
 have b:=in_bd ⟨h1,h2⟩
 refine ⟨trivial,⟨hs,by omega,by omega,by omega⟩,fun v j q1=>⟨⟨s,q1.2⟩,fun v1 j q2=>?_⟩⟩
 have mid:∀ j,0≤j→cond (decide (rng .i64 (inLo c+inHi c))) (cond (decide (rng .i64 ((inLo c+inHi c).tdiv 2))) ((SrcQ xs j∧(-40:Int)≤40∧(-1000000000:Int)≤-40∧(40:Int)≤1000000000)∧∀ (v j:Int),(-40≤v∧v≤40)∧0≤j→cond (decide (rng .i64 ((inLo c+inHi c).tdiv 2+v))) (∃ v_2 j_1,SomQ c v_2 j_1∧(c=c∧(inLo c+inHi c).tdiv 2+v=v_2∧True)∧((True∧xs=xs)∧j=j_1∧True)∧True) False) False) False:=by
  intro j hj
  exact cdI (by omega) (cdI (by omega) ⟨⟨⟨s,hj⟩,by decide,by decide,by decide⟩,fun v j q=>cdI (by omega) ⟨_,_,⟨by omega,q.2⟩,⟨rfl,rfl,trivial⟩,sT⟩⟩)
 refine cs (fun _=>⟨⟨⟨s,q2.fj⟩,⟨rfl,by decide,by decide⟩,ints_of [inLo c,inHi c] ?_⟩,fun v j q3=>?_⟩) (fun _=>cs (fun _=>mid _ q2.fj) (fun _=>cs (fun _=>mid _ q2.fj) (fun _=>⟨_,_,⟨q1.1,q2.fj⟩,⟨rfl,rfl,trivial⟩,sT⟩)))
 ·intro n hn
  simp only [List.mem_cons,List.not_mem_nil,or_false] at hn
  show _∧_
  omega
 ·have:=pick_of [inLo c,inHi c] q3
  simp only [List.mem_cons,List.not_mem_nil,or_false] at this
  exact ⟨_,_,⟨by omega,q3.fj⟩,⟨rfl,rfl,trivial⟩,sT⟩
def qsome_S (iL:Int→ByteArray) (inLo:Int→Int) (inHi:Int→Int) (inD:Int→Int) (inE:Int→Int):Prop:=∀ (gl:Glob) (xs:List (List AV)) (i c:Int),SrcQ xs i∧1≤c∧c≤11→fnQ Tryz.prog { glob:=gl,spec:=lk [(49,(rdesc_s iL inLo inHi inD inE))],specH:=lk [],specQ:=lk [(11,qn_s),(12,qrange_s),(13,qpick_s)],nowf:=true } { nt:=47,drop:=drp [(1,7936),(2,2088960),(3,2097152),(4,16777216),(5,8556380160),(6,17179869184),(7,34359738368),(8,70300024700928),(9,70368744177664)],fr:=1000,kp:=[0] } (fun _ _=>none) 6 Tryz.f31 [.ptr 0 0,.int .i64 c] [.cells [.sl 1 false xs,.int .i64 i]] (fun r2 bs2=>∃ (v j:Int),(SomQ c v j)∧le r2 (.agg [.int .i64 c,.int .i64 v])∧leBs bs2 [.cells [.sl 1 false xs,.int .i64 j]])
theorem qsome_e (iL:Int→ByteArray) (inLo:Int→Int) (inHi:Int→Int) (inD:Int→Int) (inE:Int→Int):qsome_T iL inLo inHi inD inE=qsome_S iL inLo inHi inD inE:=by kernel_rfl
theorem qsome_v:qsome_S iL inLo inHi inD inE:=Eq.mp (qsome_e ..) (qsome_P)
theorem qsome_ok (gl:Glob):QOK Tryz.prog gl 31 (qsome_s iL inLo inHi inD inE):=by
 refine ⟨fok Tryz.func31 (by kernel_rfl) (by kernel_rfl),?_⟩
 intro xs bs T h K hT
 unfold qsome_s at h
 split at h
 ·simp only [Option.some.injEq] at h
  subst h
  obtain ⟨hp,hK⟩:=hT
  obtain ⟨r,bs2,⟨o0,o1,hq,hl,hb⟩,hC⟩:=fnQ_sound tyNil (by exact specOK rfl rfl ⟨(rdesc_ok gl),trivial⟩ trivial (d:=qsOf rfl ⟨(qn_ok gl),(qrange_ok gl),(qpick_ok gl),trivial⟩)) (by kernel_rfl) Tryz.func31 (qsome_v gl _ _ _ hp)
  exact ⟨_,_,hK o0 o1 hq,hC.le hl hb⟩
 ·cases h
structure RdV (c:Int) (ys:List (List AV)):Prop where
 frow:∀ i,i < ys.length→∃ e v:Int,ys.getD i []=[.int .i64 e,.int .i64 v]∧(1≤e∧e < c)∧inLo e≤v∧v≤inHi e
 fasc:∀ i j:Nat,i < j→j < ys.length→rE (ys.getD i []) < rE (ys.getD j [])
 flen:(ys.length:Int)≤c - 1
theorem rdV_nil (c:Int) (h:1≤c):RdV c []:=⟨fun i h=>by simp at h,fun i j _ h=>by simp at h,by simp; omega⟩
theorem rdV_up {c:Int} {ys:List (List AV)} (h:RdV c ys):RdV (c+1) ys:=⟨fun i hi=>by obtain ⟨e,v,h1,h2,h3⟩:=h.frow i hi; exact ⟨e,v,h1,by omega,h3⟩,h.fasc,by have:=h.flen; omega⟩
theorem gD_app {α:Type} {xs ys:List α} {d:α} {i:Nat}:(xs++ys).getD i d=if i < xs.length then xs.getD i d else ys.getD (i - xs.length) d:=by
 rw [List.getD_eq_getElem?_getD,List.getD_eq_getElem?_getD,List.getD_eq_getElem?_getD]
 by_cases h:i < xs.length
 ·rw [if_pos h,List.getElem?_append_left h]
 ·rw [if_neg h,List.getElem?_append_right (by omega)]
theorem rdV_add {c v:Int} {ys:List (List AV)} (h:RdV c ys) (hc:1≤c) (hv:inLo c≤v∧v≤inHi c):RdV (c+1) (ys++[[.int .i64 c,.int .i64 v]]):=by
 refine ⟨fun i hi=>?_,fun i j hij hj=>?_,by have:=h.flen; simp; omega⟩
 ·rw [List.length_append,List.length_singleton] at hi
  rw [gD_app]
  by_cases hl:i < ys.length
  ·rw [if_pos hl]
   obtain ⟨e,v,h1,h2,h3⟩:=h.frow i hl
   exact ⟨e,v,h1,by omega,h3⟩
  ·rw [if_neg hl,show i - ys.length=0 by omega]
   exact ⟨c,v,rfl,by omega,hv⟩
 ·rw [List.length_append,List.length_singleton] at hj
  rw [gD_app,gD_app]
  by_cases hl:j < ys.length
  ·rw [if_pos hl,if_pos (by omega)]
   exact h.fasc i j hij hl
  ·rw [if_neg hl,if_pos (by omega),show j - ys.length=0 by omega]
   obtain ⟨e,v,h1,h2,h3⟩:=h.frow i (by omega)
   rw [h1]
   show e < c
   omega
structure LstP (x:Int × Int × List (List AV)):Prop where
 fc:1≤x.1∧x.1≤12
 fj:0≤x.2.1
 fr:RdV x.1 x.2.2
def lstI (xs:List (List AV)):LInv:=⟨Int × Int × List (List AV),fun x=>⟨[(0,.ptr 0 0),(3,.rw 1500 2 x.2.2.length),(4,.int .i64 x.1)],[(0,.cells [.sl 1 false xs,.int .i64 x.2.1]),(1500,.row 63 2 x.2.2)]⟩,LstP,fun x=>(12 - x.1).toNat,none⟩
structure RdQ (ys:List (List AV)) (j:Int):Prop where
 fr:RdV 12 ys
 fj:0≤j
def qlist_s:SpQ
 | [.ptr 0 0],[.cells [.sl 1 false xs,.int .i64 i]]=>some (fun K=>(SrcQ xs i)∧(∀ (ys:List (List AV)) (j:Int),(RdQ ys j)→K (.sl 2 false ys) [.cells [.sl 1 false xs,.int .i64 j]]))
 | _,_=>none
def qlist_T (iL:Int→ByteArray) (inLo:Int→Int) (inHi:Int→Int) (inD:Int→Int) (inE:Int→Int):Prop :=
  ∀ (gl:Glob) (xs:List (List AV)) (i:Int),SrcQ xs i→(∃ x,LstP x∧((0:Nat)=0∧(0:Nat)=x.snd.snd.length∧(1:Int)=x.fst∧True)∧((True∧xs=xs)∧i=x.snd.fst∧True)∧[]=x.snd.snd∧True)∧∀ (x:Int × Int × List (List AV)),LstP x→bif decide (x.fst≤(11:Int)) then SrcQ xs x.snd.fst∧∀ (v j:Int),NumQ (3:Int) v j→bif decide (v=(0:Int)) then (SrcQ xs j∧1≤x.fst∧x.fst≤(11:Int))∧∀ (v j:Int),SomQ x.fst v j→bif
 decide (x.snd.snd.length=x.snd.snd.length∧x.snd.snd.length+[[AV.int .i64 x.fst,.int .i64 v]].length≤(9223372036854775807:Nat)∧(x.snd.snd.length+[[AV.int .i64 x.fst,.int .i64 v]].length)*(16:Nat)≤(140737488355328:Nat)) then bif decide (rng .i64 (x.fst+(1:Int))) then ∃ y,LstP y∧(lstI xs).m y < (lstI xs).m x∧((0:Nat)=0∧(x.snd.snd++[[AV.int .i64 x.fst,.int .i64
 v]]).length=y.snd.snd.length∧x.fst+(1:Int)=y.fst∧True)∧((True∧xs=xs)∧j=y.snd.fst∧True)∧x.snd.snd++[[AV.int .i64 x.fst,.int .i64 v]]=y.snd.snd∧True else False else False else bif decide (rng .i64 (x.fst+(1:Int))) then ∃ y,LstP y∧(lstI xs).m y < (lstI xs).m x∧((0:Nat)=0∧x.snd.snd.length=y.snd.snd.length∧x.fst+(1:Int)=y.fst∧True)∧((True∧xs=xs)∧j=y.snd.fst∧True)∧x.snd.snd=y.snd.snd∧True else
 False else bif decide (x.snd.snd.length=x.snd.snd.length) then ∃ ys j,RdQ ys j∧(True∧x.snd.snd=ys)∧((True∧xs=xs)∧x.snd.fst=j∧True)∧True else False
theorem qlist_P:qlist_T iL inLo inHi inD inE:=by
 unfold qlist_T
 intro gl xs i hs
 have s:=hs.s
 refine ⟨⟨(1,i,[]),⟨⟨by simp,by simp⟩,hs.lo,rdV_nil _ (by simp)⟩,⟨rfl,rfl,rfl,trivial⟩,⟨⟨trivial,rfl⟩,rfl,trivial⟩,rfl,trivial⟩,?_⟩
 rintro ⟨c,j,ys⟩ ⟨hc,hj,hr⟩
 simp only at hc hj hr
 have hl:=hr.flen
 refine cs (fun h=>⟨⟨s,hj⟩,fun v j q1=>cs (fun _=>⟨⟨⟨s,q1.fj⟩,hc.1,h⟩,fun v j q2=>?_⟩) (fun _=>?_)⟩) (fun h=>?_)
 ·refine cd1 ⟨rfl,by simp; omega,by simp; omega⟩ (cdI (by simp only; omega) ⟨(c+1,j,ys++[[.int .i64 c,.int .i64 v]]),⟨by simp only at h ⊢; omega,q2.fj,rdV_add hr hc.1 q2.fv⟩,by simp only [lstI] at h ⊢; omega,⟨rfl,rfl,rfl,trivial⟩,⟨⟨trivial,rfl⟩,rfl,trivial⟩,rfl,trivial⟩)
 ·exact cdI (by simp only; omega) ⟨(c+1,j,ys),⟨by simp only at h ⊢; omega,q1.fj,rdV_up hr⟩,by simp only [lstI] at h ⊢; omega,⟨rfl,rfl,rfl,trivial⟩,⟨⟨trivial,rfl⟩,rfl,trivial⟩,rfl,trivial⟩
 ·have e:c=12:=by simp only at h; omega
  subst e
  exact cd1 rfl ⟨_,_,⟨hr,hj⟩,⟨trivial,rfl⟩,sT⟩
def qlist_S (iL:Int→ByteArray) (inLo:Int→Int) (inHi:Int→Int) (inD:Int→Int) (inE:Int→Int):Prop:=∀ (gl:Glob) (xs:List (List AV)) (i:Int),SrcQ xs i→fnQ Tryz.prog { glob:=gl,spec:=lk [],specH:=lk [],specQ:=lk [(11,qn_s),(31,(qsome_s iL inLo inHi inD inE))],nowf:=true } { nt:=19,drop:=drp [(3,32),(4,384),(5,1536),(6,258048),(7,262144)],fr:=1000,kp:=[0],emp:=fun id=>cond (Nat.beq id 2) [(3,1500,63,2)] [] } (invs [(3,lstI xs)]) 6 Tryz.f30 [.ptr 0 0] [.cells [.sl 1 false xs,.int .i64 i]] (fun r2 bs2=>∃ (ys:List (List AV)) (j:Int),(RdQ ys j)∧le r2 (.sl 2 false ys)∧leBs bs2 [.cells [.sl 1 false xs,.int .i64 j]])
theorem qlist_e (iL:Int→ByteArray) (inLo:Int→Int) (inHi:Int→Int) (inD:Int→Int) (inE:Int→Int):qlist_T iL inLo inHi inD inE=qlist_S iL inLo inHi inD inE:=by kernel_rfl
theorem qlist_v:qlist_S iL inLo inHi inD inE:=Eq.mp (qlist_e ..) (qlist_P)
theorem qlist_ok (gl:Glob):QOK Tryz.prog gl 30 qlist_s:=by
 refine ⟨fok Tryz.func30 (by kernel_rfl) (by kernel_rfl),?_⟩
 intro xs bs T h K hT
 unfold qlist_s at h
 split at h
 ·simp only [Option.some.injEq] at h
  subst h
  obtain ⟨hp,hK⟩:=hT
  obtain ⟨r,bs2,⟨o0,o1,hq,hl,hb⟩,hC⟩:=fnQ_sound tyNil (by exact specOK rfl rfl trivial trivial (d:=qsOf rfl ⟨(qn_ok gl),(qsome_ok gl),trivial⟩)) (by kernel_rfl) Tryz.func30 (qlist_v gl _ _ hp)
  exact ⟨_,_,hK o0 o1 hq,hC.le hl hb⟩
 ·cases h
structure RepQ (k:Int) (nm:ByteArray) (t f a b c:Int) (ys:List (List AV)) (j:Int):Prop where
 fk:1≤k∧k≤3
 fn:nm ∈ nam6
 ft:0≤t∧t≤52595999
 fl:k=1→f=0∧a=0∧b=0∧c=0
 fp:¬ k=1→Vld f a b c∧isN f a b c=true
 fr:RdV 12 ys
 fj:0≤j
def qreport_s:SpQ
 | [.ptr 0 0,.int .i64 near],[.cells [.sl 1 false xs,.int .i64 i]]=>some (fun K=>(SrcQ xs i∧0≤near∧near≤52595999)∧(∀ (k:Int) (nm:ByteArray) (t f a b c:Int) (ys:List (List AV)) (j:Int),(RepQ k nm t f a b c ys j)→K (.agg [.int .i64 k,.str nm,.int .i64 t,.int .i64 f,.int .i64 a,.int .i64 b,.int .i64 c,.sl 2 false ys]) [.cells [.sl 1 false xs,.int .i64 j]]))
 | _,_=>none
def qreport_T:Prop :=
  ∀ (gl:Glob) (xs:List (List AV)) (i near:Int),SrcQ xs i∧0≤near∧near≤(52595999:Int)→(SrcQ xs i∧(1:Int)≤(3:Int)∧(-1000000000:Int)≤(1:Int)∧(3:Int)≤(1000000000:Int))∧∀ (v j:Int),(1≤v∧v≤(3:Int))∧0≤j→SrcQ xs j∧∀ (s:ByteArray) (j:Int),NamQ s j→(SrcQ xs j∧0≤near∧near≤(52595999:Int))∧∀ (m j:Int),MinQ m j→SrcQ xs j∧∀ (ys:List (List AV)) (j:Int),RdQ ys j→bif
 decide ¬v=(1:Int) then SrcQ xs j∧∀ (f a b c j:Int),PlaQ f a b c j→∃ k nm t f_1 a_2 b_1 c_1 ys_1 j_1,RepQ k nm t f_1 a_2 b_1 c_1 ys_1 j_1∧(v=k∧s=nm∧m=t∧f=f_1∧a=a_2∧b=b_1∧c=c_1∧(True∧ys=ys_1)∧True)∧((True∧xs=xs)∧j=j_1∧True)∧True else ∃ k nm t f a b c ys_1 j_1,RepQ k nm t f a b c ys_1 j_1∧(v=k∧s=nm∧m=t∧(0:Int)=f∧(0:Int)=a∧(0:Int)=b∧(0:Int)=c∧(True∧ys=ys_1)∧True)∧((True∧xs=xs)∧j=j_1∧True)∧True
theorem qreport_P:qreport_T:=by
 unfold qreport_T
 intro gl xs i near ⟨hs,h1,h2⟩
 have s:=hs.s
 refine ⟨⟨hs,by decide,by decide,by decide⟩,fun v j q1=>⟨⟨s,q1.2⟩,fun n j q2=>⟨⟨⟨s,q2.fj⟩,h1,h2⟩,fun m j q3=>⟨⟨s,q3.fj⟩,fun ys j q4=>cs (fun hk=>⟨⟨s,q4.fj⟩,fun f a b c j q5=>?_⟩) (fun hk=>?_)⟩⟩⟩⟩
 ·exact ⟨_,_,_,_,_,_,_,_,_,⟨q1.1,q2.fs,q3.fm,fun e=>absurd e hk,fun _=>⟨q5.fv,q5.fn⟩,q4.fr,q5.fj⟩,⟨rfl,rfl,rfl,rfl,rfl,rfl,rfl,⟨trivial,rfl⟩,trivial⟩,sT⟩
 ·exact ⟨_,_,_,_,_,_,_,_,_,⟨q1.1,q2.fs,q3.fm,fun _=>⟨rfl,rfl,rfl,rfl⟩,fun e=>absurd e hk,q4.fr,q4.fj⟩,⟨rfl,rfl,rfl,rfl,rfl,rfl,rfl,⟨trivial,rfl⟩,trivial⟩,sT⟩
def qreport_S:Prop:=∀ (gl:Glob) (xs:List (List AV)) (i near:Int),SrcQ xs i∧0≤near∧near≤52595999→fnQ Tryz.prog { glob:=gl,spec:=lk [],specH:=lk [],specQ:=lk [(12,qrange_s),(40,qname_s),(41,qnear_s),(30,qlist_s),(32,qplace_s)],nowf:=true } { nt:=23,drop:=drp [(1,65472),(2,196608),(3,3670016),(4,4194304)],fr:=1000,kp:=[0] } (fun _ _=>none) 6 Tryz.f21 [.ptr 0 0,.int .i64 near] [.cells [.sl 1 false xs,.int .i64 i]] (fun r2 bs2=>∃ (k:Int) (nm:ByteArray) (t f a b c:Int) (ys:List (List AV)) (j:Int),(RepQ k nm t f a b c ys j)∧le r2 (.agg [.int .i64 k,.str nm,.int .i64 t,.int .i64 f,.int .i64 a,.int .i64 b,.int .i64 c,.sl 2 false ys])∧leBs bs2 [.cells [.sl 1 false xs,.int .i64 j]])
theorem qreport_e:qreport_T=qreport_S:=by kernel_rfl
theorem qreport_v:qreport_S:=Eq.mp (qreport_e ..) (qreport_P)
theorem qreport_ok (gl:Glob):QOK Tryz.prog gl 21 qreport_s:=by
 refine ⟨fok Tryz.func21 (by kernel_rfl) (by kernel_rfl),?_⟩
 intro xs bs T h K hT
 unfold qreport_s at h
 split at h
 ·simp only [Option.some.injEq] at h
  subst h
  obtain ⟨hp,hK⟩:=hT
  obtain ⟨r,bs2,⟨o0,o1,o2,o3,o4,o5,o6,o7,o8,hq,hl,hb⟩,hC⟩:=fnQ_sound tyNil (by exact specOK rfl rfl trivial trivial (d:=qsOf rfl ⟨(qrange_ok gl),(qname_ok gl),(qnear_ok gl),(qlist_ok gl),(qplace_ok gl),trivial⟩)) (by kernel_rfl) Tryz.func21 (qreport_v gl _ _ _ hp)
  exact ⟨_,_,hK o0 o1 o2 o3 o4 o5 o6 o7 o8 hq,hC.le hl hb⟩
 ·cases h
end Go.Proofs.YtgnnafneglannaaGreatDoor
namespace Go.Proofs.YtgnnafneglannaaGreatDoor
open Go
set_option linter.unusedVariables false
set_option linter.unusedSimpArgs false
def cmpI (a b:Int):Int:=if a < b then -1 else if b < a then 1 else 0
theorem cmp_lt {a b:Int} (h:a < b):cmpI a b=-1:=by unfold cmpI; rw [if_pos h]
theorem cmp_eq {a b:Int} (h:a=b):cmpI a b=0:=by unfold cmpI; rw [if_neg (by omega),if_neg (by omega)]
theorem cmp_gt {a b:Int} (h:b < a):cmpI a b=1:=by unfold cmpI; rw [if_neg (by omega),if_pos h]
theorem cmp_neg (p q:Int):cmpI p q < 0↔p < q:=by unfold cmpI; split <;> (try split) <;> omega
theorem cmp_zero (p q:Int):cmpI p q=0↔p=q:=by unfold cmpI; split <;> (try split) <;> omega
def nanI_s:Sp
 | [.int .i64 a]=>some (True,.bool false)
 | _=>none
def nanI_T:Prop :=
 ∀ (gl:Glob) (a:Int),IR9 a→(decide ¬a=a)=false
theorem nanI_P:nanI_T:=by
 unfold nanI_T
 intro gl a _
 exact decide_eq_false (fun h=>h rfl)
def nanI_S:Prop:=∀ (gl:Glob) (a:Int),fnK Tryz.prog { glob:=gl,spec:=lk [],specH:=lk [] } { nt:=6,drop:=drp [(1,56)] } (fun _ _=>none) 6 Tryz.f70 [.int .i64 a] (.bool false)
theorem nanI_e:nanI_T=nanI_S:=by kernel_rfl
theorem nanI_v:nanI_S:=Eq.mp (nanI_e ..) (nanI_P)
theorem nanI_ok (gl:Glob):SOK Tryz.prog gl 70 nanI_s:=by
 refine ⟨fok Tryz.func70 (by kernel_rfl) (by kernel_rfl),?_⟩
 intro xs pre r h hp
 unfold nanI_s at h
 split at h
 ·simp only [Option.some.injEq,Prod.mk.injEq] at h
  obtain ⟨h1,h2⟩:=h
  subst h1 h2
  exact fnK_sound tyNil (by exact specOK rfl rfl trivial trivial) (by kernel_rfl) Tryz.func70 rfl (nanI_v gl _)
 ·cases h
def fcmpI_s (cmpI:Int→Int→Int):Sp
 | [.int .i64 a,.int .i64 b]=>some (True,.int .i64 (cmpI a b))
 | _=>none
def fcmpI_T (cmpI:Int→Int→Int):Prop :=
 ∀ (gl:Glob) (a b:Int),IR9 a→IR9 b→True∧True∧bif decide (a < b) then (-1:Int)=cmpI a b else bif decide (b < a) then (1:Int)=cmpI a b else (0:Int)=cmpI a b
theorem fcmpI_P:fcmpI_T cmpI:=by
 unfold fcmpI_T
 intro gl a b _ _
 unfold cmpI
 refine ⟨trivial,trivial,cs (fun h=>?_) (fun h=>cs (fun k=>?_) (fun k=>?_))⟩
 ·rw [if_pos h]
 ·rw [if_neg h,if_pos k]
 ·rw [if_neg h,if_neg k]
def fcmpI_S (cmpI:Int→Int→Int):Prop:=∀ (gl:Glob) (a b:Int),fnK Tryz.prog { glob:=gl,spec:=lk [(70,nanI_s)],specH:=lk [],nowf:=true } { nt:=20,drop:=drp [(1,384),(2,1536),(9,49152),(11,393216)] } (fun _ _=>none) 6 Tryz.f53 [.int .i64 a,.int .i64 b] (.int .i64 (cmpI a b))
theorem fcmpI_e (cmpI:Int→Int→Int):fcmpI_T cmpI=fcmpI_S cmpI:=by kernel_rfl
theorem fcmpI_v:fcmpI_S cmpI:=Eq.mp (fcmpI_e ..) (fcmpI_P)
theorem fcmpI_ok (gl:Glob):SOK Tryz.prog gl 53 (fcmpI_s cmpI):=by
 refine ⟨fok Tryz.func53 (by kernel_rfl) (by kernel_rfl),?_⟩
 intro xs pre r h hp
 unfold fcmpI_s at h
 split at h
 ·simp only [Option.some.injEq,Prod.mk.injEq] at h
  obtain ⟨h1,h2⟩:=h
  subst h1 h2
  exact fnK_sound tyNil (by exact specOK rfl rfl ⟨(nanI_ok gl),trivial⟩ trivial) (by kernel_rfl) Tryz.func53 rfl (fcmpI_v gl _ _)
 ·cases h
def orI (a b:Int):Int:=if a=0 then b else a
def orL:List (List AV)→Int
 | []=>0
 | x::l=>orI (cellI x) (orL l)
structure OrP (ys:List (List AV)) (i:Int):Prop where
 flo:0≤i
 fhi:i≤ys.length
 fz:∀ j:Nat,(j:Int) < i→cellI (ys.getD j [])=0
def orJ (ys:List (List AV)):LInv:=⟨Int,fun i=>⟨[(3,.int .i64 0),(6,.rw 0 1 ys.length),(7,.int .i64 ys.length),(8,.int .i64 i)],[(0,.row 3 1 ys)]⟩,OrP ys,fun i=>(ys.length - i).toNat,none⟩
structure OrI (ys:List (List AV)) (n:Nat):Prop where
 fn:n=ys.length
 fl:n≤1000
 fi:∀ x ∈ ys,∃ z:Int,x=[.int .i64 z]
theorem orL_at:∀ {ys:List (List AV)} {i:Nat},(∀ j,j < i→cellI (ys.getD j [])=0)→i < ys.length→¬ cellI (ys.getD i [])=0→orL ys=cellI (ys.getD i [])
 | [],i,_,h,_=>by simp at h
 | x::l,0,_,_,hz=>by
  simp only [orL,orI]
  exact if_neg hz
 | x::l,i+1,h,hi,hz=>by
  have h0:cellI x=0:=h 0 (by omega)
  simp only [orL,orI]
  rw [if_pos h0]
  have:=orL_at (ys:=l) (i:=i) (fun j hj=>h (j+1) (by omega)) (by simpa using hi) hz
  rw [this]; rfl
theorem orL_zero:∀ {ys:List (List AV)},(∀ j,j < ys.length→cellI (ys.getD j [])=0)→orL ys=0
 | [],_=>rfl
 | x::l,h=>by
  have h0:cellI x=0:=h 0 (by simp)
  simp only [orL,orI]
  rw [if_pos h0]
  exact orL_zero fun j hj=>h (j+1) (by simpa using hj)
def for__s (orL:List (List AV)→Int):SpH
 | [.rw 0 1 n],[.row 3 1 ys]=>some (OrI ys n,.int .i64 (orL ys),[.row 3 1 ys])
 | _,_=>none
def for__T (orL:List (List AV)→Int):Prop :=
  ∀ (gl:Glob) (ys:List (List AV)) (n:Nat),OrI ys n→True→(∃ x,OrP ys x∧((0:Int)=0∧n=ys.length∧(↑n:Int)=(↑ys.length:Int)∧(0:Int)=x∧True)∧ys=ys∧True)∧∀ (x:Int),OrP ys x→bif decide (x < (↑ys.length:Int)) then bif decide (0≤x∧x < (↑ys.length:Int)) then bif decide (ys.length=ys.length∧x.toNat < ys.length) then ∃ n,List.take [AV.int .i64 n].length (List.drop (0:Nat) (ys.getD x.toNat
 []))=[AV.int .i64 n]∧bif decide ¬n=(0:Int) then n=orL ys∧ys=ys∧True else bif decide (rng .i64 (x+(1:Int))) then ∃ y,OrP ys y∧(orJ ys).m y < (orJ ys).m x∧((0:Int)=0∧ys.length=ys.length∧(↑ys.length:Int)=(↑ys.length:Int)∧x+(1:Int)=y∧True)∧ys=ys∧True else False else False else False else (0:Int)=orL ys∧ys=ys∧True
theorem for__P:for__T orL:=by
 unfold for__T
 intro gl ys n h _
 have hn:=h.fn
 have hl:=h.fl
 subst hn
 refine ⟨⟨0,⟨by decide,by omega,fun j h=>by omega⟩,⟨rfl,rfl,rfl,rfl,trivial⟩,rfl,trivial⟩,?_⟩
 rintro i ⟨h0,h1,hz⟩
 refine cs (fun hi=>cd1 ⟨h0,hi⟩ (cd1 ⟨rfl,by omega⟩ ?_)) (fun hi=>⟨(orL_zero fun j hj=>hz j (by omega)).symm,rfl,trivial⟩)
 have hm:ys.getD i.toNat [] ∈ ys:=by
  rw [List.getD_eq_getElem?_getD,List.getElem?_eq_getElem (by omega)]; exact List.getElem_mem _
 obtain ⟨z,e⟩:=h.fi _ hm
 have ez:cellI (ys.getD i.toNat [])=z:=by rw [e]; rfl
 refine ⟨z,by rw [e]; rfl,cs (fun q=>⟨?_,rfl,trivial⟩) (fun q=>cdI (by omega) ⟨i+1,⟨by omega,by omega,fun j hj=>?_⟩,by simp only [orJ]; omega,⟨rfl,rfl,rfl,rfl,trivial⟩,rfl,trivial⟩)⟩
 ·rw [orL_at (i:=i.toNat) (fun j hj=>hz j (by omega)) (by omega) (by rw [ez]; exact q),ez]
 ·rcases Nat.lt_or_ge j i.toNat with k | k
  ·exact hz j (by omega)
  ·rw [show j=i.toNat by omega,ez]; exact Decidable.not_not.1 q
def for__S (orL:List (List AV)→Int):Prop:=∀ (gl:Glob) (ys:List (List AV)) (n:Nat),OrI ys n→fnH Tryz.prog { glob:=gl,spec:=lk [],specH:=lk [],shape:=[11],nowf:=true } { nt:=18,drop:=drp [(4,3072),(5,12288),(6,32768),(7,65536),(8,131072)],fr:=1000,kp:=[0] } (invs [(3,orJ ys)]) 6 Tryz.f52 [.rw 0 1 n] [.row 3 1 ys] (.int .i64 (orL ys)) [.row 3 1 ys]
theorem for__e (orL:List (List AV)→Int):for__T orL=for__S orL:=by kernel_rfl
theorem for__v:for__S orL:=Eq.mp (for__e ..) (for__P)
theorem for__ok (gl:Glob):HOK Tryz.prog gl 52 (for__s orL):=by
 refine ⟨fok Tryz.func52 (by kernel_rfl) (by kernel_rfl),?_⟩
 intro xs bs pre r bs2 h hp
 unfold for__s at h
 split at h
 ·simp only [Option.some.injEq,Prod.mk.injEq] at h
  obtain ⟨h1,h2,h3⟩:=h
  subst h1 h2 h3
  exact fnH_sound tyNil (by exact specOK rfl rfl trivial trivial) (by kernel_rfl) Tryz.func52 (for__v gl _ _ hp)
 ·cases h
theorem orI_ok (l:List Int) (h:l.length≤1000):OrI (irow l) l.length:=by
 refine ⟨by simp [irow],h,fun x hx=>?_⟩
 unfold irow at hx
 obtain ⟨n,_,rfl⟩:=List.mem_map.1 hx
 exact ⟨n,rfl⟩
end Go.Proofs.YtgnnafneglannaaGreatDoor
namespace Go.Proofs.YtgnnafneglannaaGreatDoor
open Go
set_option linter.unusedVariables false
set_option linter.unusedSimpArgs false
theorem csx {p:Prop} [Decidable p] {A B:Prop} (h:p→A) (k:¬ p→B):cond (decide p) A B:=csplit (fun q=>h (of_decide_eq_true q)) (fun q=>k (of_decide_eq_false q))
theorem cmp_an (a b:Int):cmpI b a=- cmpI a b:=by
 unfold cmpI
 split <;> (try split) <;> (try split) <;> omega
def lexI:List Int→List Int→Int
 | [],[]=>0
 | [],_::_=>-1
 | _::_,[]=>1
 | a::x,b::y=>orI (cmpI a b) (lexI x y)
theorem lexI_rfl:∀ x:List Int,lexI x x=0
 | []=>rfl
 | a::x=>by simp only [lexI,orI]; rw [cmp_eq rfl,if_pos rfl]; exact lexI_rfl x
theorem lexI_zero:∀ {x y:List Int},lexI x y=0→x=y
 | [],[],_=>rfl
 | [],_::_,h=>by simp [lexI] at h
 | _::_,[],h=>by simp [lexI] at h
 | a::x,b::y,h=>by
  simp only [lexI,orI] at h
  split at h
  ·next e=>rw [(cmp_zero a b).1 e,lexI_zero h]
  ·next e=>exact absurd h e
theorem lexI_eq {x y:List Int}:lexI x y=0↔x=y:=⟨lexI_zero,fun e=>by rw [e]; exact lexI_rfl y⟩
theorem lexI_an:∀ x y:List Int,lexI y x=- lexI x y
 | [],[]=>rfl
 | [],_::_=>rfl
 | _::_,[]=>rfl
 | a::x,b::y=>by
  simp only [lexI,orI]
  rw [cmp_an a b,lexI_an x y]
  by_cases h:cmpI a b=0
  ·rw [if_pos (by omega),if_pos h]
  ·rw [if_neg (by omega),if_neg h]
theorem lexI_tr:∀ {x y z:List Int},lexI x y < 0→lexI y z < 0→lexI x z < 0
 | [],[],_,h,_=>by simp [lexI] at h
 | [],_::_,[],_,k=>by simp [lexI] at k
 | [],_::_,_::_,_,_=>by simp [lexI]
 | _::_,[],_,h,_=>by simp [lexI] at h
 | _::_,_::_,[],_,k=>by simp [lexI] at k
 | a::x,b::y,c::z,h,k=>by
  simp only [lexI,orI] at h k ⊢
  have A:=cmp_neg a b
  have B:=cmp_neg b c
  have C:=cmp_neg a c
  have A0:=cmp_zero a b
  have B0:=cmp_zero b c
  have C0:=cmp_zero a c
  by_cases e1:cmpI a b=0
  ·rw [if_pos e1] at h
   by_cases e2:cmpI b c=0
   ·rw [if_pos e2] at k
    rw [if_pos (C0.2 (by rw [A0.1 e1,B0.1 e2]))]
    exact lexI_tr h k
   ·rw [if_neg e2] at k
    have:=A0.1 e1
    rw [if_neg (by rw [this]; exact e2),this]
    exact k
  ·rw [if_neg e1] at h
   have h1:=A.1 h
   by_cases e2:cmpI b c=0
   ·have:=B0.1 e2
    rw [if_neg (by rw [← this]; exact e1),← this]
    exact h
   ·rw [if_neg e2] at k
    have h2:=B.1 k
    have h3:cmpI a c < 0:=C.2 (by omega)
    rw [if_neg (by omega)]
    exact h3
def nmK:List UInt8→List Int
 | []=>[0]
 | b::l=>((b.toNat:Int)+1)::nmK l
def cmpS (a b:ByteArray):Int:=if Op.bytesLess a.toList b.toList then -1 else if Op.bytesLess b.toList a.toList then 1 else 0
theorem lex_nm {x y:List Int}:∀ s t:List UInt8,lexI (nmK s++x) (nmK t++y)=orI (if Op.bytesLess s t then -1 else if Op.bytesLess t s then 1 else 0) (lexI x y)
 | [],[]=>by simp [nmK,lexI,orI,Op.bytesLess,cmpI]
 | [],b::t=>by
  have:cmpI 0 ((b.toNat:Int)+1)=-1:=cmp_lt (by omega)
  simp [nmK,lexI,orI,Op.bytesLess,this]
 | a::s,[]=>by
  have:cmpI ((a.toNat:Int)+1) 0=1:=cmp_gt (by omega)
  simp [nmK,lexI,orI,Op.bytesLess,this]
 | a::s,b::t=>by
  have ih:=lex_nm (x:=x) (y:=y) s t
  simp only [nmK,List.cons_append,lexI,Op.bytesLess]
  rcases Nat.lt_trichotomy a.toNat b.toNat with h | h | h
  ·have h1:a < b:=UInt8.lt_iff_toNat_lt.2 h
   rw [cmp_lt (by omega)]
   simp [h1,orI]
  ·have h1:a=b:=UInt8.toNat_inj.1 h
   subst h1
   have h2:¬ a < a:=UInt8.lt_irrefl a
   rw [cmp_eq rfl,ih]
   simp [h2,orI]
  ·have h1:b < a:=UInt8.lt_iff_toNat_lt.2 h
   have h2:¬ a < b:=fun q=>by have:=UInt8.lt_iff_toNat_lt.1 q; omega
   have h3:¬ a=b:=fun q=>by rw [q] at h; omega
   have h4:¬ b=a:=fun q=>h3 q.symm
   rw [cmp_gt (by omega)]
   simp [h1,h2,h3,h4,orI]
theorem lex_cons (a b:Int) (x y:List Int):lexI (a::x) (b::y)=orI (cmpI a b) (lexI x y):=rfl
theorem orI_assoc (a b c:Int):orI (orI a b) c=orI a (orI b c):=by
 unfold orI; split <;> rfl
def rdK:List (List AV)→List Int
 | []=>[]
 | r::l=>rE r::rV r::rdK l
def itK (r:List AV):List Int:=match r with
 | [.int _ k,.str n,.int _ t,.int _ f,.int _ a,.int _ b,.int _ c,.sl _ _ rd,.int _ co,.int _ ar]=>k::(nmK n.toList++(t::co::ar::f::a::b::c::rdK rd))
 | _=>[]
def itC (x y:List AV):Int:=lexI (itK x) (itK y)
def suC (k:Int) (n:ByteArray) (t k':Int) (n':ByteArray) (t':Int):Int:=orI (cmpI k k') (orI (cmpS n n') (cmpI t t'))
end Go.Proofs.YtgnnafneglannaaGreatDoor
namespace Go.Proofs.YtgnnafneglannaaGreatDoor
open Go
set_option linter.unusedVariables false
set_option linter.unusedSimpArgs false
abbrev LLA:=List (List AV)
def itA (k:Int) (nm:ByteArray) (t f a b c:Int) (rd:LLA) (co ar:Int):List AV:=[.int .i64 k,.str nm,.int .i64 t,.int .i64 f,.int .i64 a,.int .i64 b,.int .i64 c,.sl 2 false rd,.int .i64 co,.int .i64 ar]
structure ItS (r:List AV):Prop where
 fr:∃ k nm t f a b c rd co ar,r=itA k nm t f a b c rd co ar
def itKy (r:List AV):List Int:=match r with
 | .int _ k::.str n::.int _ t::_=>k::(nmK n.toList++[t])
 | _=>[]
def itTm (r:List AV):Int:=match r with
 | _::_::.int _ t::_=>t
 | _=>0
def itPl (r:List AV):List Int:=match r with
 | _::_::_::.int _ f::.int _ a::.int _ b::.int _ c::_=>[f,a,b,c]
 | _=>[]
def itRd (r:List AV):LLA:=match r with
 | _::_::_::_::_::_::_::.sl _ _ rd::_=>rd
 | _=>[]
def itCo (r:List AV):Int:=match r with
 | [_,_,_,_,_,_,_,_,.int _ c,_]=>c
 | _=>0
def itAr (r:List AV):Int:=match r with
 | [_,_,_,_,_,_,_,_,_,.int _ c]=>c
 | _=>0
theorem itK_eq {r:List AV} (h:ItS r):itK r=itKy r++(itCo r::itAr r::(itPl r++rdK (itRd r))):=by
 obtain ⟨k,nm,t,f,a,b,c,rd,co,ar,rfl⟩:=h.fr
 simp [itK,itKy,itCo,itAr,itPl,itRd,itA]
theorem orI_0 (a:Int):orI 0 a=a:=if_pos rfl
theorem orI_z (a:Int):orI a 0=a:=by unfold orI; split <;> omega
theorem ky_app {x y:List AV} (hx:ItS x) (hy:ItS y) (u v:List Int):lexI (itKy x++u) (itKy y++v)=orI (lexI (itKy x) (itKy y)) (lexI u v):=by
 obtain ⟨k,nm,t,f,a,b,c,rd,co,ar,rfl⟩:=hx.fr
 obtain ⟨k',nm',t',f',a',b',c',rd',co',ar',rfl⟩:=hy.fr
 simp only [itKy,itA,List.cons_append,lex_cons,List.append_assoc,lex_nm,List.nil_append,orI_assoc]
 rw [show lexI ([]:List Int) []=0 from rfl,orI_0]
theorem itC_rfl (x:List AV):itC x x=0:=lexI_rfl _
theorem itC_an (x y:List AV):itC y x=- itC x y:=lexI_an _ _
theorem itC_tr {x y z:List AV} (h:itC x y < 0) (k:itC y z < 0):itC x z < 0:=lexI_tr h k
def RdS (rd:LLA):Prop:=∀ r ∈ rd,∃ e v:Int,r=[.int .i64 e,.int .i64 v]
theorem nmK_inj {x y:List Int}:∀ {s t:List UInt8},nmK s++x=nmK t++y→s=t∧x=y
 | [],[],h=>by simpa [nmK] using h
 | [],b::t,h=>by simp only [nmK,List.cons_append,List.cons.injEq] at h; omega
 | a::s,[],h=>by simp only [nmK,List.cons_append,List.cons.injEq] at h; omega
 | a::s,b::t,h=>by
  simp only [nmK,List.cons_append,List.cons.injEq] at h
  obtain ⟨h1,h2⟩:=h
  obtain ⟨h3,h4⟩:=nmK_inj h2
  have:a=b:=UInt8.toNat_inj.1 (by omega)
  exact ⟨by rw [this,h3],h4⟩
theorem str_inj {a b:ByteArray} (h:a.toList=b.toList):a=b:=by
 rw [ByteArray.toList_eq,ByteArray.toList_eq] at h
 obtain ⟨⟨l⟩⟩:=a
 obtain ⟨⟨m⟩⟩:=b
 simp at h
 subst h; rfl
def OrdR (x y:List AV):Prop:=lexI (itKy x) (itKy y) < 0∨itKy x=itKy y∧itCo x≤itCo y
theorem itC_ord {x y:List AV} (hx:ItS x) (hy:ItS y) (h:itC x y < 0):OrdR x y:=by
 unfold itC at h
 rw [itK_eq hx,itK_eq hy,ky_app hx hy] at h
 unfold orI at h
 split at h
 ·next e =>
  refine .inr ⟨lexI_zero e,?_⟩
  rw [lex_cons] at h
  unfold orI at h
  split at h
  ·next q=>exact Int.le_of_eq ((cmp_zero _ _).1 q)
  ·next q=>exact Int.le_of_lt ((cmp_neg _ _).1 h)
 ·exact .inl h
theorem srt_ext {α:Type} {lt:α→α→Prop} (irr:∀ a,¬ lt a a) (tr:∀ a b c,lt a b→lt b c→lt a c):∀ {l m:List α},l.Pairwise lt→m.Pairwise lt→(∀ x,x ∈ l↔x ∈ m)→l=m
 | [],[],_,_,_=>rfl
 | [],b::m,_,_,h=>by have:=(h b).2 (by simp); simp at this
 | a::l,[],_,_,h=>by have:=(h a).1 (by simp); simp at this
 | a::l,b::m,hl,hm,h=>by
  rw [List.pairwise_cons] at hl hm
  have hab:a=b:=by
   rcases List.mem_cons.1 ((h a).1 (by simp)) with e | e
   ·exact e
   ·rcases List.mem_cons.1 ((h b).2 (by simp)) with q | q
    ·exact q.symm
    ·exact absurd (tr _ _ _ (hm.1 a e) (hl.1 b q)) (irr b)
  subst hab
  rw [srt_ext irr tr hl.2 hm.2 fun x=>?_]
  constructor
  ·intro hx
   rcases List.mem_cons.1 ((h x).1 (by simp [hx])) with e | e
   ·subst e; exact absurd (hl.1 x hx) (irr x)
   ·exact e
  ·intro hx
   rcases List.mem_cons.1 ((h x).2 (by simp [hx])) with e | e
   ·subst e; exact absurd (hm.1 x hx) (irr x)
   ·exact e
def ltK (p q:List Int):Prop:=lexI p q < 0
theorem ltK_irr (p:List Int):¬ ltK p p:=by unfold ltK; rw [lexI_rfl]; omega
theorem ltK_tr (p q r:List Int) (h:ltK p q) (k:ltK q r):ltK p r:=lexI_tr h k
def ltR (x y:List AV):Prop:=itC x y < 0
def gs1 (s:List LLA × LLA) (x:List AV):List LLA × LLA:=match s.2 with
 | []=>(s.1,[x])
 | y::g=>if itKy y=itKy x then (if itCo y < itCo x then (s.1,[x]) else (s.1,y::g++[x])) else (s.1++[y::g],[x])
def gsF (F:LLA):List LLA × LLA:=F.foldl gs1 ([],[])
def grS (s:List LLA × LLA):List LLA:=match s.2 with
 | []=>s.1
 | y::g=>s.1++[y::g]
def grF (F:LLA):List LLA:=grS (gsF F)
theorem gsF_snoc (F:LLA) (x:List AV):gsF (F++[x])=gs1 (gsF F) x:=by unfold gsF; rw [List.foldl_append]; rfl
def bsF (F:LLA) (q:List Int):Int:=F.foldl (fun m y=>if itKy y=q then max m (itCo y) else m) (-1)
theorem bsF_snoc (F:LLA) (x:List AV) (q:List Int):bsF (F++[x]) q=if itKy x=q then max (bsF F q) (itCo x) else bsF F q:=by
 unfold bsF; rw [List.foldl_append]; rfl
def vsF (F:LLA) (q:List Int):LLA:=F.filter fun y=>decide (itKy y=q)&&decide (itCo y=bsF F q)
def hdK (g:LLA):List Int:=match g with
 | []=>[]
 | y::_=>itKy y
theorem snoc_ind {α:Type} {P:List α→Prop} (h0:P []) (h1:∀ l x,P l→P (l++[x])):∀ l,P l:=by
 intro l
 rw [← List.reverse_reverse l]
 induction l.reverse with
 | nil=>exact h0
 | cons a l ih=>rw [List.reverse_cons]; exact h1 _ _ ih
theorem bsF_ge:∀ (F:LLA) (q:List Int),(∀ y ∈ F,itKy y=q→itCo y≤bsF F q)∧-1≤bsF F q:=by
 refine fun F q=>snoc_ind (P:=fun F=>(∀ y ∈ F,itKy y=q→itCo y≤bsF F q)∧-1≤bsF F q) ?_ ?_ F
 ·exact ⟨fun y h=>by simp at h,by simp [bsF]⟩
 ·intro l x ⟨h1,h2⟩
  rw [bsF_snoc]
  refine ⟨fun y hy hq=>?_,by split <;> omega⟩
  rcases List.mem_append.1 hy with h | h
  ·have:=h1 y h hq; split <;> omega
  ·rw [List.mem_singleton.1 h] at hq ⊢
   rw [if_pos hq]; omega
theorem bsF_at:∀ (F:LLA) (q:List Int),(∀ y ∈ F,itKy y≠q)∧bsF F q=-1∨∃ y ∈ F,itKy y=q∧(bsF F q=itCo y∨bsF F q=-1):=by
 refine fun F q=>snoc_ind (P:=fun F=>(∀ y ∈ F,itKy y≠q)∧bsF F q=-1∨∃ y ∈ F,itKy y=q∧(bsF F q=itCo y∨bsF F q=-1)) ?_ ?_ F
 ·exact .inl ⟨fun y h=>by simp at h,rfl⟩
 ·intro l x ih
  rw [bsF_snoc]
  by_cases hx:itKy x=q
  ·rw [if_pos hx]
   rcases ih with ⟨_,h2⟩ | ⟨y,hy,hq,h2⟩
   ·refine .inr ⟨x,by simp,hx,?_⟩; rw [h2]; omega
   ·rcases h2 with h2 | h2
    ·by_cases hc:itCo y≤itCo x
     ·exact .inr ⟨x,by simp,hx,by omega⟩
     ·exact .inr ⟨y,by simp [hy],hq,by omega⟩
    ·exact .inr ⟨x,by simp,hx,by omega⟩
  ·rw [if_neg hx]
   rcases ih with ⟨h1,h2⟩ | ⟨y,hy,hq,h2⟩
   ·refine .inl ⟨fun y hy=>?_,h2⟩
    rcases List.mem_append.1 hy with h | h
    ·exact h1 y h
    ·rw [List.mem_singleton.1 h]; exact hx
   ·exact .inr ⟨y,by simp [hy],hq,h2⟩
theorem vsF_snoc_ne {F:LLA} {x:List AV} {q:List Int} (h:itKy x≠q):vsF (F++[x]) q=vsF F q:=by
 unfold vsF
 rw [bsF_snoc,if_neg h,List.filter_append]
 simp [h]
theorem vsF_snoc_new {F:LLA} {x:List AV} (h:∀ y ∈ F,itKy y=itKy x→itCo y < itCo x) (h0:0≤itCo x):vsF (F++[x]) (itKy x)=[x]:=by
 have hb:bsF (F++[x]) (itKy x)=itCo x:=by
  rw [bsF_snoc,if_pos rfl]
  rcases bsF_at F (itKy x) with ⟨_,e⟩ | ⟨y,hy,hq,e⟩
  ·omega
  ·have:=h y hy hq; omega
 unfold vsF
 rw [hb,List.filter_append]
 rw [List.filter_eq_nil_iff.2]
 ·simp
 ·intro y hy
  simp only [Bool.and_eq_true,decide_eq_true_eq,not_and]
  intro hq hc
  have:=h y hy hq; omega
theorem vsF_snoc_same {F:LLA} {x:List AV} (h:∀ y ∈ F,itKy y=itKy x→itCo y≤itCo x) (hx:bsF F (itKy x)=itCo x):vsF (F++[x]) (itKy x)=vsF F (itKy x)++[x]:=by
 have hb:bsF (F++[x]) (itKy x)=itCo x:=by rw [bsF_snoc,if_pos rfl]; omega
 unfold vsF
 rw [hb,List.filter_append,hx]
 simp
structure GrP (F:LLA) (gs:List LLA):Prop where
 fg:∀ g ∈ gs,g≠[]∧g=vsF F (hdK g)
 fs:(gs.map hdK).Pairwise ltK
 fm:∀ x ∈ F,itKy x ∈ gs.map hdK
theorem vsF_mem {F:LLA} {q:List Int} {y:List AV} (h:y ∈ vsF F q):y ∈ F∧itKy y=q∧itCo y=bsF F q:=by
 unfold vsF at h
 have:=List.mem_filter.1 h
 simpa using this
theorem hdK_vs {F:LLA} {q:List Int} (h:vsF F q≠[]):hdK (vsF F q)=q:=by
 cases e:vsF F q with
 | nil=>exact absurd e h
 | cons y g =>
  have:y ∈ vsF F q:=by rw [e]; simp
  exact (vsF_mem this).2.1
theorem ordR_le {x y:List AV} (h:OrdR x y):lexI (itKy x) (itKy y)≤0:=by
 rcases h with h | ⟨h,_⟩
 ·omega
 ·rw [h,lexI_rfl]; omega
theorem gs1_ne (s:List LLA × LLA) (x:List AV):(gs1 s x).2≠[]:=by
 unfold gs1
 split
 ·simp
 ·split
  ·split <;> simp
  ·simp
theorem gsF_nil {F:LLA} (h:(gsF F).2=[]):F=[]:=by
 refine snoc_ind (P:=fun F=>(gsF F).2=[]→F=[]) (fun _=>rfl) (fun l x _ e=>?_) F h
 rw [gsF_snoc] at e
 exact absurd e (gs1_ne _ _)
theorem gr_snoc {F:LLA} {x:List AV} (hF:∀ y ∈ F,OrdR y x) (hx:0≤itCo x) (h:GrP F (grF F)):GrP (F++[x]) (grF (F++[x])):=by
 obtain ⟨fg,fs,fm⟩:=h
 have hnil:=@gsF_nil F
 unfold grF at fg fs fm ⊢
 rw [gsF_snoc]
 generalize hst:gsF F=st at *
 obtain ⟨out,g0⟩:=st
 have hkn:∀ g ∈ grS (out,g0),hdK g≠itKy x→g=vsF (F++[x]) (hdK g):=fun g hg hn=>by
  rw [vsF_snoc_ne (fun e=>hn e.symm)]; exact (fg g hg).2
 cases g0 with
 | nil =>
  have e0:=hnil rfl
  subst e0
  have eo:out=[]:=by
   have:gsF []=(([]:List LLA),([]:LLA)):=rfl
   rw [this] at hst
   exact (congrArg Prod.fst hst).symm
  subst eo
  refine ⟨fun g hg=>?_,?_,fun z hz=>?_⟩
  ·have:g=[x]:=by simpa [gs1,grS] using hg
   subst this
   refine ⟨by simp,?_⟩
   exact (vsF_snoc_new (F:=[]) (fun y h=>by simp at h) hx).symm
  ·simp [gs1,grS]
  ·have:z=x:=by simpa using hz
   subst this
   simp [gs1,grS,hdK]
 | cons y g =>
  have eg:grS (out,y::g)=out++[y::g]:=rfl
  rw [eg] at fg fs fm hkn
  have hyg:=(fg (y::g) (by simp)).2
  have hyv:y ∈ vsF F (itKy y):=by
   have:y ∈ y::g:=by simp
   rw [hyg] at this; exact this
  obtain ⟨hyF,_,hyc⟩:=vsF_mem hyv
  rw [List.map_append,List.pairwise_append] at fs
  obtain ⟨fs1,fs2,fs3⟩:=fs
  have hlt:∀ g' ∈ out,ltK (hdK g') (itKy y):=fun g' hg'=>fs3 _ (List.mem_map_of_mem hg') (itKy y) (by simp [hdK])
  have hle:=ordR_le (hF y hyF)
  by_cases hk:itKy y=itKy x
  ·have hne:∀ g' ∈ out,hdK g'≠itKy x:=fun g' hg' e=>ltK_irr (itKy x) (by have:=hlt g' hg'; rw [e,hk] at this; exact this)
   have hco:∀ z ∈ F,itKy z=itKy x→itCo z≤itCo x:=fun z hz e=>by
    rcases hF z hz with q | ⟨_,q⟩
    ·rw [e,lexI_rfl] at q; omega
    ·exact q
   have hmx:∀ z ∈ F,itKy z=itKy x→itCo z≤itCo y:=fun z hz e=>by
    rw [hyc]; exact (bsF_ge F (itKy y)).1 z hz (by rw [e,hk])
   have hfm:∀ G:LLA,hdK G=itKy x→∀ z ∈ F++[x],itKy z ∈ (out++[G]).map hdK:=fun G hG z hz=>by
    rw [List.map_append]
    rcases List.mem_append.1 hz with h | h
    ·have:=fm z h
     rw [List.map_append] at this
     have e:[y::g].map hdK=[G].map hdK:=by
      show [itKy y]=[hdK G]
      rw [hG,hk]
     rw [e] at this; exact this
    ·rw [List.mem_singleton.1 h]; simp [hG]
   have hfs:∀ G:LLA,hdK G=itKy x→((out++[G]).map hdK).Pairwise ltK:=fun G hG=>by
    rw [List.map_append,List.pairwise_append]
    refine ⟨fs1,by simp,fun a ha b hb=>?_⟩
    have:b=itKy x:=by simpa [hG] using hb
    subst this
    obtain ⟨g',hg',rfl⟩:=List.mem_map.1 ha
    rw [← hk]; exact hlt g' hg'
   by_cases hc:itCo y < itCo x
   ·have e:grS (gs1 (out,y::g) x)=out++[[x]]:=by
     show grS (if itKy y=itKy x then (if itCo y < itCo x then (out,[x]) else (out,y::g++[x])) else (out++[y::g],[x]))=_
     rw [if_pos hk,if_pos hc]; rfl
    rw [e]
    refine ⟨fun G hG=>?_,hfs _ rfl,hfm _ rfl⟩
    rcases List.mem_append.1 hG with h | h
    ·exact ⟨(fg G (by simp [h])).1,hkn G (by simp [h]) (hne G h)⟩
    ·rw [List.mem_singleton.1 h]
     exact ⟨by simp,(vsF_snoc_new (fun z hz q=>by have:=hmx z hz q; omega) hx).symm⟩
   ·have e:grS (gs1 (out,y::g) x)=out++[y::g++[x]]:=by
     show grS (if itKy y=itKy x then (if itCo y < itCo x then (out,[x]) else (out,y::g++[x])) else (out++[y::g],[x]))=_
     rw [if_pos hk,if_neg hc]; rfl
    rw [e]
    refine ⟨fun G hG=>?_,hfs _ hk,hfm _ hk⟩
    rcases List.mem_append.1 hG with h | h
    ·exact ⟨(fg G (by simp [h])).1,hkn G (by simp [h]) (hne G h)⟩
    ·rw [List.mem_singleton.1 h]
     refine ⟨by simp,?_⟩
     have e2:hdK (y::g++[x])=itKy x:=hk
     have:=hco y hyF hk
     rw [e2,vsF_snoc_same hco (by rw [← hk,← hyc]; omega),← hk]
     have e3:hdK (y::g)=itKy y:=rfl
     rw [e3] at hyg
     rw [← hyg]
  ·have hlx:ltK (itKy y) (itKy x):=by
    unfold ltK
    have:lexI (itKy y) (itKy x)≠0:=fun e=>hk (lexI_zero e)
    omega
   have hl2:∀ g' ∈ out++[y::g],ltK (hdK g') (itKy x):=fun g' hg'=>by
    rcases List.mem_append.1 hg' with h | h
    ·exact ltK_tr _ _ _ (hlt g' h) hlx
    ·rw [List.mem_singleton.1 h]; exact hlx
   have hne:∀ g' ∈ out++[y::g],hdK g'≠itKy x:=fun g' hg' e=>ltK_irr (itKy x) (by have:=hl2 g' hg'; rw [e] at this; exact this)
   have e:grS (gs1 (out,y::g) x)=out++[y::g]++[[x]]:=by
    show grS (if itKy y=itKy x then (if itCo y < itCo x then (out,[x]) else (out,y::g++[x])) else (out++[y::g],[x]))=_
    rw [if_neg hk]; rfl
   rw [e]
   refine ⟨fun G hG=>?_,?_,fun z hz=>?_⟩
   ·rcases List.mem_append.1 hG with h | h
    ·exact ⟨(fg G h).1,hkn G h (hne G h)⟩
    ·rw [List.mem_singleton.1 h]
     refine ⟨by simp,(vsF_snoc_new (fun z hz q=>?_) hx).symm⟩
     obtain ⟨g',hg',e'⟩:=List.mem_map.1 (fm z hz)
     exact absurd (e'.trans q) (hne g' hg')
   ·rw [List.map_append,List.pairwise_append]
    refine ⟨by rw [List.map_append,List.pairwise_append]; exact ⟨fs1,fs2,fs3⟩,by simp,fun a ha b hb=>?_⟩
    have:b=itKy x:=by simpa [hdK] using hb
    subst this
    obtain ⟨g',hg',rfl⟩:=List.mem_map.1 ha
    exact hl2 g' hg'
   ·rw [List.map_append]
    rcases List.mem_append.1 hz with h | h
    ·exact List.mem_append_left _ (fm z h)
    ·rw [List.mem_singleton.1 h]; simp [hdK]
theorem grF_ok {F:LLA} (hF:F.Pairwise OrdR) (hc:∀ x ∈ F,0≤itCo x):GrP F (grF F):=by
 refine snoc_ind (P:=fun F=>F.Pairwise OrdR→(∀ x ∈ F,0≤itCo x)→GrP F (grF F)) ?_ ?_ F hF hc
 ·intro _ _
  exact ⟨fun g h=>by simp [grF,gsF,grS] at h,by simp [grF,gsF,grS],fun x h=>by simp at h⟩
 ·intro l x ih hp hc
  rw [List.pairwise_append] at hp
  exact gr_snoc (fun y hy=>hp.2.2 y hy x (by simp)) (hc x (by simp)) (ih hp.1 (fun z hz=>hc z (by simp [hz])))
theorem GrP.keys {F:LLA} {gs:List LLA} (h:GrP F gs):gs=(gs.map hdK).map (vsF F):=by
 rw [List.map_map]
 conv=>lhs; rw [← List.map_id gs]
 exact List.map_congr_left fun g hg=>(h.fg g hg).2
theorem GrP.mem {F:LLA} {gs:List LLA} (h:GrP F gs) {q:List Int} (hq:q ∈ gs.map hdK):∃ x ∈ F,itKy x=q:=by
 obtain ⟨g,hg,rfl⟩:=List.mem_map.1 hq
 obtain ⟨h1,h2⟩:=h.fg g hg
 cases g with
 | nil=>exact absurd rfl h1
 | cons y l =>
  have:y ∈ y::l:=by simp
  rw [h2] at this
  exact ⟨y,(vsF_mem this).1,rfl⟩
theorem gr_ext {F G:LLA} {fs gs:List LLA} (hf:GrP F fs) (hg:GrP G gs) (h1:∀ q,(∃ x ∈ F,itKy x=q)↔∃ x ∈ G,itKy x=q) (h2:∀ x ∈ F,vsF F (itKy x)=vsF G (itKy x)):fs=gs:=by
 have e:fs.map hdK=gs.map hdK:=by
  refine srt_ext ltK_irr ltK_tr hf.fs hg.fs fun q=>⟨fun h=>?_,fun h=>?_⟩
  ·obtain ⟨y,hy,rfl⟩:=(h1 q).1 (hf.mem h)
   exact hg.fm y hy
  ·obtain ⟨y,hy,rfl⟩:=(h1 q).2 (hg.mem h)
   exact hf.fm y hy
 rw [hf.keys,hg.keys,← e]
 refine List.map_congr_left fun q hq=>?_
 obtain ⟨x,hx,rfl⟩:=hf.mem hq
 exact h2 x hx
end Go.Proofs.YtgnnafneglannaaGreatDoor
namespace Go.Proofs.YtgnnafneglannaaGreatDoor
open Go
set_option linter.unusedVariables false
set_option linter.unusedSimpArgs false
abbrev Srt (l:LLA):Prop:=l.Pairwise ltR
def posI (l:LLA) (x:List AV):Nat:=l.findIdx fun y=>decide (0≤itC y x)
def hasI (l:LLA) (x:List AV):Bool:=l.any fun y=>decide (itC y x=0)
def insI (l:LLA) (x:List AV):LLA:=l.take (posI l x)++x::l.drop (posI l x)
theorem getD_lt {l:LLA} {j:Nat} (h:j < l.length):l.getD j []=l[j]:=by
 rw [List.getD_eq_getElem?_getD,List.getElem?_eq_getElem h]; rfl
theorem pos_le (l:LLA) (x:List AV):posI l x≤l.length:=List.findIdx_le_length
theorem pos_lt {l:LLA} {x:List AV} {j:Nat} (h:j < posI l x):itC (l.getD j []) x < 0:=by
 have hl:j < l.length:=Nat.lt_of_lt_of_le h (pos_le l x)
 rw [getD_lt hl]
 have h2:=List.not_of_lt_findIdx h
 have h3:¬ (0≤itC l[j] x):=fun q=>by rw [decide_eq_true q] at h2; cases h2
 omega
theorem pos_at {l:LLA} {x:List AV} (h:posI l x < l.length):0≤itC (l.getD (posI l x) []) x:=by
 rw [getD_lt h]
 have h2:decide (0≤itC l[posI l x] x)=true:=List.findIdx_getElem (w:=h)
 exact of_decide_eq_true h2
theorem srt_get {l:LLA} (hs:Srt l) {i j:Nat} (h:i < j) (hj:j < l.length):itC (l.getD i []) (l.getD j []) < 0:=by
 rw [getD_lt hj,getD_lt (by omega)]
 exact List.pairwise_iff_getElem.1 hs i j (by omega) hj h
theorem pos_ge {l:LLA} {x:List AV} (hs:Srt l) {j:Nat} (h:posI l x≤j) (hj:j < l.length):0≤itC (l.getD j []) x:=by
 have h0:=pos_at (l:=l) (x:=x) (by omega)
 rcases Nat.eq_or_lt_of_le h with e | e
 ·rw [← e]; exact h0
 ·apply Int.not_lt.1
  intro q
  have:=itC_tr (srt_get hs e hj) q
  omega
theorem pos_gt {l:LLA} {x:List AV} (hs:Srt l) {j:Nat} (h:posI l x < j) (hj:j < l.length):0 < itC (l.getD j []) x:=by
 have h0:=pos_at (l:=l) (x:=x) (by omega)
 have h1:=srt_get hs h hj
 have h2:=itC_an (l.getD (posI l x) []) x
 apply Int.not_le.1
 intro q
 rcases Int.lt_or_eq_of_le q with q | q
 ·have:=itC_tr h1 q; omega
 ·have h3:=itC_an (l.getD j []) x
  by_cases e:itC (l.getD (posI l x) []) x=0
  ·have e1:=lexI_zero e
   have e2:=lexI_zero q
   unfold itC at h1
   rw [e1,e2,lexI_rfl] at h1
   omega
  ·have e2:=lexI_zero q
   unfold itC at h1 h0 e
   rw [e2] at h1
   omega
theorem pos_uniq {l:LLA} {x:List AV} {i:Nat} (hi:i≤l.length) (h1:∀ j,j < i→itC (l.getD j []) x < 0) (h2:i < l.length→0≤itC (l.getD i []) x):posI l x=i:=by
 rcases Nat.lt_trichotomy (posI l x) i with h | h | h
 ·have:=h1 _ h
  have:=pos_at (l:=l) (x:=x) (by omega)
  omega
 ·exact h
 ·have:=pos_lt h
  have:=h2 (Nat.lt_of_lt_of_le h (pos_le l x))
  omega
theorem has_iff {l:LLA} {x:List AV} (hs:Srt l):hasI l x=true↔posI l x < l.length∧itC (l.getD (posI l x) []) x=0:=by
 unfold hasI
 rw [List.any_eq_true]
 constructor
 ·rintro ⟨y,hy,he⟩
  simp only [decide_eq_true_eq] at he
  obtain ⟨j,hj,rfl⟩:=List.mem_iff_getElem.1 hy
  have hp:posI l x≤j:=by
   apply Nat.le_of_not_lt
   intro h
   have:=pos_lt h
   rw [getD_lt hj] at this
   omega
  rcases Nat.eq_or_lt_of_le hp with e | e
  ·subst e; exact ⟨hj,by rw [getD_lt hj]; exact he⟩
  ·have:=pos_gt hs e hj
   rw [getD_lt hj] at this
   omega
 ·rintro ⟨h1,h2⟩
  exact ⟨_,List.getElem_mem h1,by rw [getD_lt h1] at h2; exact decide_eq_true h2⟩
theorem ins_mem {l:LLA} {x y:List AV}:y ∈ insI l x↔y=x∨y ∈ l:=by
 unfold insI
 rw [List.mem_append,List.mem_cons]
 conv=>rhs; rw [← List.take_append_drop (posI l x) l,List.mem_append]
 constructor
 ·rintro (h | h | h)
  ·exact .inr (.inl h)
  ·exact .inl h
  ·exact .inr (.inr h)
 ·rintro (h | h | h)
  ·exact .inr (.inl h)
  ·exact .inl h
  ·exact .inr (.inr h)
theorem ins_len (l:LLA) (x:List AV):(insI l x).length=l.length+1:=by
 have:=pos_le l x
 unfold insI
 rw [List.length_append,List.length_cons,List.length_take,List.length_drop]
 omega
theorem ins_srt {l:LLA} {x:List AV} (hs:Srt l) (hn:hasI l x=false):Srt (insI l x):=by
 have hb:∀ y ∈ l.take (posI l x),itC y x < 0:=fun y hy=>by
  obtain ⟨j,hj,rfl⟩:=List.mem_iff_getElem.1 hy
  rw [List.length_take] at hj
  rw [List.getElem_take]
  have:=pos_lt (l:=l) (x:=x) (j:=j) (by omega)
  rw [getD_lt (by omega)] at this
  exact this
 have ha:∀ y ∈ l.drop (posI l x),itC x y < 0:=fun y hy=>by
  obtain ⟨j,hj,rfl⟩:=List.mem_iff_getElem.1 hy
  rw [List.length_drop] at hj
  rw [List.getElem_drop]
  have h1:=pos_ge hs (x:=x) (j:=posI l x+j) (by omega) (by omega)
  rw [getD_lt (by omega)] at h1
  have h2:itC l[posI l x+j] x≠0:=fun e=>by
   have:hasI l x=true:=List.any_eq_true.2 ⟨_,List.getElem_mem (by omega),decide_eq_true e⟩
   rw [hn] at this; cases this
  have:=itC_an x l[posI l x+j]
  omega
 unfold insI
 unfold Srt
 have hs':(l.take (posI l x)++l.drop (posI l x)).Pairwise ltR:=by rw [List.take_append_drop]; exact hs
 rw [List.pairwise_append] at hs' ⊢
 refine ⟨hs'.1,List.pairwise_cons.2 ⟨ha,hs'.2.1⟩,fun a h b hb'=>?_⟩
 rcases List.mem_cons.1 hb' with e | e
 ·subst e; exact hb a h
 ·exact hs'.2.2 a h b e
def addI (l:LLA) (x:List AV):LLA:=if hasI l x then l else insI l x
theorem addI_srt {l:LLA} {x:List AV} (hs:Srt l):Srt (addI l x):=by
 unfold addI
 split
 ·exact hs
 ·next h=>exact ins_srt hs (by simpa using h)
structure ItR (r:List AV):Prop where
 fs:ItS r
 fr:RdS (itRd r)
end Go.Proofs.YtgnnafneglannaaGreatDoor
namespace Go.Proofs.YtgnnafneglannaaGreatDoor
open Go
open Go.RowKit (Below)
set_option linter.unusedVariables false
set_option linter.unusedSimpArgs false
def badR (r:Nat):Bool:=(decide (r < 65)||decide (90 < r))&&(decide (r < 48)||decide (57 < r))
def nmG (s:ByteArray):Nat→Nat→Bool
 | 0,_=>false
 | f+1,pos=>if pos < s.size then (if badR (Utf8.decode s pos).1 then true else nmG s f (pos+(Utf8.decode s pos).2)) else false
theorem nmG_end (s:ByteArray) (f pos:Nat) (h:¬ pos < s.size):nmG s f pos=false:=by cases f <;> simp [nmG,h]
def okB (b:UInt8):Bool:=!(badR b.toNat)
theorem nmG_eq (s:ByteArray):∀ (f pos:Nat),s.size≤pos+f→nmG s f pos=!((s.data.toList.drop pos).all okB)
 | 0,pos,h=>by
  have hl:s.data.toList.length≤pos:=by simpa using h
  rw [List.drop_eq_nil_of_le hl]; rfl
 | f+1,pos,h=>by
  by_cases hp:pos < s.size
  ·have hl:pos < s.data.toList.length:=by simpa using hp
   have hd:s.data.toList.drop pos=s[pos]'hp::s.data.toList.drop (pos+1):=by
    rw [List.drop_eq_getElem_cons hl]; rfl
   simp only [nmG,hp,if_true]
   rw [hd,List.all_cons]
   by_cases ha:(s[pos]'hp).toNat < 128
   ·rw [decode_ascii s pos hp ha]
    show (if badR (s[pos]'hp).toNat then true else nmG s f (pos+1))=_
    rw [nmG_eq s f (pos+1) (by omega)]
    unfold okB
    cases badR (s[pos]'hp).toNat <;> simp
   ·have h1:=(decode_high s pos hp (by omega)).1
    have b1:badR (Utf8.decode s pos).1=true:=by
     unfold badR
     rw [Bool.and_eq_true,Bool.or_eq_true,Bool.or_eq_true]
     exact ⟨.inr (decide_eq_true (by omega)),.inr (decide_eq_true (by omega))⟩
    have b2:badR (s[pos]'hp).toNat=true:=by
     unfold badR
     rw [Bool.and_eq_true,Bool.or_eq_true,Bool.or_eq_true]
     exact ⟨.inr (decide_eq_true (by omega)),.inr (decide_eq_true (by omega))⟩
    rw [b1]
    unfold okB
    rw [b2]; simp
  ·rw [nmG_end s _ pos hp]
   have hl:s.data.toList.length≤pos:=by simp; omega
   rw [List.drop_eq_nil_of_le hl]; rfl
def nmOk (s:ByteArray):Bool:=decide (s.size=5)&&s.data.toList.all okB
end Go.Proofs.YtgnnafneglannaaGreatDoor
namespace Go.Proofs.YtgnnafneglannaaGreatDoor
open Go
set_option linter.unusedVariables false
set_option linter.unusedSimpArgs false
def badZ (r:Int):Bool:=(decide (r < 65)||decide (90 < r))&&(decide (r < 48)||decide (57 < r))
def nmc_s (badZ:Int→Bool):Sp
 | [.int .i32 r]=>some (True,.bool (badZ r))
 | _=>none
def nmc_T (badZ:Int→Bool):Prop :=
 ∀ (gl:Glob) (r:Int),(-2147483648:Int)≤r∧r≤(2147483647:Int)→bif decide (r < (65:Int)) then bif decide (r < (48:Int)) then true=badZ r else decide (57 < r)=badZ r else bif decide (90 < r) then bif decide (r < (48:Int)) then true=badZ r else decide (57 < r)=badZ r else false=badZ r
theorem nmc_P:nmc_T badZ:=by
 unfold nmc_T
 intro gl r _
 unfold badZ
 refine csx (fun h=>csx (fun k=>?_) (fun k=>?_)) (fun h=>csx (fun h2=>csx (fun k=>?_) (fun k=>?_)) (fun h2=>?_)) <;> simp [*]
def nmc_S (badZ:Int→Bool):Prop:=∀ (gl:Glob) (r:Int),fnK Tryz.prog { glob:=gl,spec:=lk [],specH:=lk [],nowf:=true } { nt:=17,drop:=drp [(1,131064)] } (fun _ _=>none) 6 Tryz.f86 [.int .i32 r] (.bool (badZ r))
theorem nmc_e (badZ:Int→Bool):nmc_T badZ=nmc_S badZ:=by kernel_rfl
theorem nmc_v:nmc_S badZ:=Eq.mp (nmc_e ..) (nmc_P)
theorem nmc_ok (gl:Glob):SOK Tryz.prog gl 86 (nmc_s badZ):=by
 refine ⟨fok Tryz.func86 (by kernel_rfl) (by kernel_rfl),?_⟩
 intro xs pre r h hp
 unfold nmc_s at h
 split at h
 ·simp only [Option.some.injEq,Prod.mk.injEq] at h
  obtain ⟨h1,h2⟩:=h
  subst h1 h2
  exact fnK_sound tyNil (by exact specOK rfl rfl trivial trivial) (by kernel_rfl) Tryz.func86 rfl (nmc_v gl _)
 ·cases h
end Go.Proofs.YtgnnafneglannaaGreatDoor
namespace Go.Proofs.YtgnnafneglannaaGreatDoor
open Go Go.Lib
open Go.RowKit (Below)
set_option linter.unusedVariables false
set_option linter.unusedSimpArgs false
theorem badZ_nat (r:Nat):badZ (r:Int)=badR r:=by
 unfold badZ badR
 congr 1 <;> congr 1 <;> exact decide_eq_decide.2 (by omega)
def nmI (s:ByteArray):Nat→Nat→Int
 | 0,_=>-1
 | f+1,pos=>if pos < s.size then (if badR (Utf8.decode s pos).1 then (pos:Int) else nmI s f (pos+(Utf8.decode s pos).2)) else -1
theorem nmI_end (s:ByteArray) (f pos:Nat) (h:¬ pos < s.size):nmI s f pos=-1:=by cases f <;> simp [nmI,h]
def nmX (s:ByteArray):Int:=nmI s s.size 0
theorem nmI_ge (s:ByteArray):∀ (f pos:Nat),0≤nmI s f pos↔nmG s f pos=true
 | 0,pos=>by simp [nmI,nmG]
 | f+1,pos=>by
  have e1:nmI s (f+1) pos=if pos < s.size then (if badR (Utf8.decode s pos).1 then (pos:Int) else nmI s f (pos+(Utf8.decode s pos).2)) else -1:=rfl
  have e2:nmG s (f+1) pos=if pos < s.size then (if badR (Utf8.decode s pos).1 then true else nmG s f (pos+(Utf8.decode s pos).2)) else false:=rfl
  rw [e1,e2]
  by_cases hp:pos < s.size
  ·rw [if_pos hp,if_pos hp]
   cases hb:badR (Utf8.decode s pos).1 with
   | true=>simp
   | false=>simpa using nmI_ge s f _
  ·rw [if_neg hp,if_neg hp]; simp
theorem nmX_ge (s:ByteArray):decide (0≤nmX s)=!(s.data.toList.all okB):=by
 rw [Bool.eq_iff_iff,decide_eq_true_iff]
 unfold nmX
 rw [nmI_ge,nmG_eq s _ _ (by omega)]; rfl
theorem nmI_bd (s:ByteArray):∀ (f pos:Nat),-1≤nmI s f pos∧nmI s f pos < s.size+1
 | 0,pos=>by simp only [nmI]; omega
 | f+1,pos=>by
  simp only [nmI]
  split
  ·split
   ·omega
   ·exact nmI_bd s f _
  ·omega
theorem agree_none (w:World):Agree (fun _ _=>none) w:=fun _ _ _ h=>by cases h
theorem nmc_calls (R:Nat) (w:World) (hR:R≤1114111):Calls Tryz.prog 86 #[.int .i32 (R:Int)] w fun e w'=>e=.returned (.bool (badR R))∧Below w.heap.size w w':=by
 have h:=(nmc_ok (fun _=>none)).2 [.int .i32 (R:Int)] _ _ rfl trivial w (fun _ _=>none) #[.int .i32 (R:Int)] (fun g cs h=>by cases h) (agree_none w) (by
  simp only [CVl,CV]
  exact ⟨_,_,rfl,⟨rfl,by show _∧_; omega⟩,rfl⟩)
 refine h.mono ?_
 rintro e w' ⟨u,S',rfl,hb,_,_,_,hu⟩
 simp only [CV] at hu
 rw [hu,badZ_nat]; exact ⟨rfl,hb⟩
set_option maxHeartbeats 2000000 in
set_option maxRecDepth 1000000 in
theorem indexFunc_calls (s:ByteArray) (w:World) :
  Calls Tryz.prog 102 #[.string s,.func (.func 86) #[] #[],.bool true] w fun e w'=>e=.returned (.int .i64 (nmX s))∧Below w.heap.size w w':=by
 have ent:∀ args w,(callFunc 86 args).run Tryz.prog w=.ok (.enter 86 args) w:=enters_of Tryz.func86 (by kernel_rfl) rfl
 go_enter Tryz.func102,Tryz.ntmps102
 go_wp2
 go_loopg [] s.size (fun g wx=>∃ pos:Nat,wx.heap[w.heap.size]?=some (.stringIter s pos)∧Below w.heap.size w wx∧nmI s g pos=nmX s∧s.size≤pos+g)
 case atStart=>exact ⟨0,World.iter_heap w s 0,(Below.refl _ w).alloc (Nat.le_refl _) _,rfl,by omega⟩
 case round =>
  obtain ⟨pos,hit,hbw,hleft,hfu⟩:=hrel
  have hsz:w.heap.size < wr.heap.size:=(Array.getElem?_eq_some_iff.1 hit).1
  by_cases hp:pos < s.size
  ·obtain ⟨g,rfl⟩:∃ g,gk=g+1:=⟨gk - 1,by omega⟩
   have hnx:∀ ty,(Instr.next (.pointer (some ⟨w.heap.size,0,none⟩)) true ty).run Tryz.prog wr=_:=fun ty=>Lib.run_next_any_at wr w.heap.size s pos ty hit hp
   have hwd:=Lib.width_pos s pos
   have hr1:=Lib.rune_le s pos
   obtain ⟨R,hR⟩:∃ R,(Utf8.decode s pos).1=R:=⟨_,rfl⟩
   obtain ⟨K,hK⟩:∃ K,(Utf8.decode s pos).2=K:=⟨_,rfl⟩
   simp only [nmI,hp,if_true,hR,hK] at hleft
   rw [hR,hK] at hnx
   rw [hR] at hr1
   rw [hK] at hwd
   have hit2:=Lib.iterAt_heap wr w.heap.size s pos (pos+K) hit
   have hbw2:=Lib.below_iterAt hbw (k:=w.heap.size) (Nat.le_refl _) s (pos+K)
   obtain ⟨W,hWd⟩:∃ W,wr.iterAt w.heap.size s (pos+K)=W:=⟨_,rfl⟩
   rw [hWd] at hnx hit2 hbw2
   have cS:=nmc_calls R W hr1
   have hWs:w.heap.size < W.heap.size:=(Array.getElem?_eq_some_iff.1 hit2).1
   cases hsp:badR R with
   | true =>
    rw [hsp] at cS
    simp only [hsp,if_true] at hleft
    go_wp2_with (go_at_fn 86; go_fit cS; rintro e W' ⟨rfl,hb⟩)
    go_ret
    exact ⟨by rw [← hleft] <;> rfl,hbw2.trans (hb.mono (by omega))⟩
   | false =>
    rw [hsp] at cS
    simp only [hsp,Bool.false_eq_true,if_false] at hleft
    go_wp2_with (go_at_fn 86; go_fit cS; rintro e W' ⟨rfl,hb⟩)
    go_roundg g
    case measure=>omega
    case rel=>exact ⟨pos+K,(hb.block w.heap.size hWs).trans hit2,hbw2.trans (hb.mono (by omega)),hleft,by omega⟩
  ·have hnx:∀ ty,(Instr.next (.pointer (some ⟨w.heap.size,0,none⟩)) true ty).run Tryz.prog wr=_:=fun ty=>Lib.run_next_end_at wr w.heap.size s pos ty hit hp
   rw [nmI_end s gk pos hp] at hleft
   go_wp2
   go_ret
   exact ⟨by rw [← hleft] <;> rfl,hbw⟩
theorem agree_below {S:Pin} {w w':World} (hA:Agree S w) (hb:Below w.heap.size w w'):Agree S w':=fun b o v h=>by
 obtain ⟨h1,h2⟩:=hA b o v h
 refine ⟨?_,h2⟩
 have hl:=World.block_lt_of_cell? w _ h1
 rw [hb.cell hl]; exact h1
def nix_s:Sp
 | [.str s,.fn 86 [],.bool true]=>some (True,.int .i64 (nmX s))
 | _=>none
theorem nix_ok (gl:Glob):SOK Tryz.prog gl 102 nix_s:=by
 refine ⟨fok Tryz.func102 (by kernel_rfl) (by kernel_rfl),?_⟩
 intro xs pre r h hp
 unfold nix_s at h
 split at h
 ·rename_i s
  simp only [Option.some.injEq,Prod.mk.injEq] at h
  obtain ⟨_,rfl⟩:=h
  intro w S vs hG hA hv
  simp only [CVl,CV] at hv
  obtain ⟨u1,us1,e1,⟨rfl,hs⟩,u2,us2,e2,⟨us,rfl,hus⟩,u3,us3,e3,rfl,e4⟩:=hv
  subst e4 e3 e2
  have hus:us=#[]:=by apply Array.ext'; simpa using hus
  subst hus
  have hvs:vs=#[.string s,.func (.func 86) #[] #[],.bool true]:=by apply Array.ext'; simpa using e1
  subst hvs
  refine (indexFunc_calls s w).mono ?_
  rintro e w' ⟨rfl,hb⟩
  refine ⟨_,S,rfl,hb,.refl _,fun _ _ _=>rfl,agree_below hA hb,?_⟩
  simp only [CV]
  have:=nmI_bd s s.size 0
  exact ⟨trivial,by unfold nmX; show _∧_; unfold maxLen at hs; omega⟩
 ·cases h
end Go.Proofs.YtgnnafneglannaaGreatDoor
namespace Go.Proofs.YtgnnafneglannaaGreatDoor
open Go
set_option linter.unusedVariables false
set_option linter.unusedSimpArgs false
def nif_s (nmX:ByteArray→Int):Sp
 | [.str s,.fn 86 []]=>some (True,.int .i64 (nmX s))
 | _=>none
def nif_T (nmX:ByteArray→Int):Prop :=
 ∀ (gl:Glob) (s:ByteArray),s.size.le (9223372036854775807:Nat)→True→True∧YtgnnafneglannaaGreatDoor.nmX s=nmX s
theorem nif_P:nif_T nmX:=by
 unfold nif_T
 intro gl s _ _
 exact ⟨trivial,rfl⟩
def nif_S (nmX:ByteArray→Int):Prop:=∀ (gl:Glob) (s:ByteArray),fnK Tryz.prog { glob:=gl,spec:=lk [(102,nix_s)],specH:=lk [],nowf:=true } { nt:=8,drop:=drp [(1,224)] } (fun _ _=>none) 6 Tryz.f95 [.str s,.fn 86 []] (.int .i64 (nmX s))
theorem nif_e (nmX:ByteArray→Int):nif_T nmX=nif_S nmX:=by kernel_rfl
theorem nif_v:nif_S nmX:=Eq.mp (nif_e ..) (nif_P)
theorem nif_ok (gl:Glob):SOK Tryz.prog gl 95 (nif_s nmX):=by
 refine ⟨fok Tryz.func95 (by kernel_rfl) (by kernel_rfl),?_⟩
 intro xs pre r h hp
 unfold nif_s at h
 split at h
 ·simp only [Option.some.injEq,Prod.mk.injEq] at h
  obtain ⟨h1,h2⟩:=h
  subst h1 h2
  exact fnK_sound tyNil (by exact specOK rfl rfl ⟨(nix_ok gl),trivial⟩ trivial) (by kernel_rfl) Tryz.func95 rfl (nif_v gl _)
 ·cases h
theorem dsym (a b:Int):decide (a=b)=decide (b=a):=decide_eq_decide.2 eq_comm
theorem byte_at (s:ByteArray) {i:Nat} (h:i < s.size):byteI s i=((s.data.toList.getD i 0).toNat:Int):=by
 unfold byteI
 have hl:i < s.data.toList.length:=by simp; exact h
 rw [getElem?_pos s i h,List.getD_eq_getElem?_getD,List.getElem?_eq_getElem hl]
 rfl
def bdB (s:ByteArray):Bool:=!(s.data.toList.all okB)
def ncf_s:Sp
 | [.str s,.fn 86 []]=>some (True,.bool (bdB s))
 | _=>none
def ncf_T:Prop :=
 ∀ (gl:Glob) (s:ByteArray),s.size.le (9223372036854775807:Nat)→True→True∧decide (0≤nmX s)=bdB s
theorem ncf_P:ncf_T:=by
 unfold ncf_T
 intro gl s _ _
 exact ⟨trivial,nmX_ge s⟩
def ncf_S:Prop:=∀ (gl:Glob) (s:ByteArray),fnK Tryz.prog { glob:=gl,spec:=lk [(95,(nif_s Go.Proofs.YtgnnafneglannaaGreatDoor.nmX))],specH:=lk [],nowf:=true } { nt:=9,drop:=drp [(1,480)] } (fun _ _=>none) 6 Tryz.f85 [.str s,.fn 86 []] (.bool (bdB s))
theorem ncf_e:ncf_T=ncf_S:=by kernel_rfl
theorem ncf_v:ncf_S:=Eq.mp (ncf_e ..) (ncf_P)
theorem ncf_ok (gl:Glob):SOK Tryz.prog gl 85 ncf_s:=by
 refine ⟨fok Tryz.func85 (by kernel_rfl) (by kernel_rfl),?_⟩
 intro xs pre r h hp
 unfold ncf_s at h
 split at h
 ·simp only [Option.some.injEq,Prod.mk.injEq] at h
  obtain ⟨h1,h2⟩:=h
  subst h1 h2
  exact fnK_sound tyNil (by exact specOK rfl rfl ⟨(nif_ok gl),trivial⟩ trivial) (by kernel_rfl) Tryz.func85 rfl (ncf_v gl _)
 ·cases h
def gname_s (nmOk:ByteArray→Bool):Sp
 | [.str s]=>some (True,.bool (nmOk s))
 | _=>none
def gname_T (nmOk:ByteArray→Bool):Prop :=
 ∀ (gl:Glob) (s:ByteArray),s.size.le (9223372036854775807:Nat)→bif decide ((↑s.size:Int)=(5:Int)) then True∧(!bdB s)=nmOk s else false=nmOk s
theorem gname_P:gname_T nmOk:=by
 unfold gname_T
 intro gl s _
 unfold nmOk bdB
 refine csx (fun h=>⟨trivial,?_⟩) (fun h=>?_)
 ·rw [decide_eq_true (show s.size=5 by omega)]
  cases s.data.toList.all okB <;> rfl
 ·rw [decide_eq_false (show ¬ s.size=5 by omega)]; rfl
def gname_S (nmOk:ByteArray→Bool):Prop:=∀ (gl:Glob) (s:ByteArray),fnK Tryz.prog { glob:=gl,spec:=lk [(85,ncf_s)],specH:=lk [],nowf:=true } { nt:=11,drop:=drp [(1,2040)] } (fun _ _=>none) 6 Tryz.f66 [.str s] (.bool (nmOk s))
theorem gname_e (nmOk:ByteArray→Bool):gname_T nmOk=gname_S nmOk:=by kernel_rfl
theorem gname_v:gname_S nmOk:=Eq.mp (gname_e ..) (gname_P)
theorem gname_ok (gl:Glob):SOK Tryz.prog gl 66 (gname_s nmOk):=by
 refine ⟨fok Tryz.func66 (by kernel_rfl) (by kernel_rfl),?_⟩
 intro xs pre r h hp
 unfold gname_s at h
 split at h
 ·simp only [Option.some.injEq,Prod.mk.injEq] at h
  obtain ⟨h1,h2⟩:=h
  subst h1 h2
  exact fnK_sound tyNil (by exact specOK rfl rfl ⟨(ncf_ok gl),trivial⟩ trivial) (by kernel_rfl) Tryz.func66 rfl (gname_v gl _)
 ·cases h
def gmin_s (inB:Int→Bool):Sp
 | [.int .i64 n]=>some (True,.bool (inB n))
 | _=>none
def gmin_T (inB:Int→Bool):Prop :=
 ∀ (gl:Glob) (n:Int),IR9 n→bif decide (0≤n) then decide (n≤(52595999:Int))=inB n else false=inB n
theorem gmin_P:gmin_T inB:=by
 unfold gmin_T
 intro gl n _
 unfold inB
 exact csx (fun h=>by simp [h]) (fun h=>by simp [h])
def gmin_S (inB:Int→Bool):Prop:=∀ (gl:Glob) (n:Int),fnK Tryz.prog { glob:=gl,spec:=lk [],specH:=lk [],nowf:=true } { nt:=9,drop:=drp [(1,504)] } (fun _ _=>none) 6 Tryz.f67 [.int .i64 n] (.bool (inB n))
theorem gmin_e (inB:Int→Bool):gmin_T inB=gmin_S inB:=by kernel_rfl
theorem gmin_v:gmin_S inB:=Eq.mp (gmin_e ..) (gmin_P)
theorem gmin_ok (gl:Glob):SOK Tryz.prog gl 67 (gmin_s inB):=by
 refine ⟨fok Tryz.func67 (by kernel_rfl) (by kernel_rfl),?_⟩
 intro xs pre r h hp
 unfold gmin_s at h
 split at h
 ·simp only [Option.some.injEq,Prod.mk.injEq] at h
  obtain ⟨h1,h2⟩:=h
  subst h1 h2
  exact fnK_sound tyNil (by exact specOK rfl rfl trivial trivial) (by kernel_rfl) Tryz.func67 rfl (gmin_v gl _)
 ·cases h
def locB (k f a b c:Int):Bool:=if k=1 then decide (f=0∧a=0∧b=0∧c=0) else isN f a b c
def gloc_s (nrm:Int→Int→Int→Int→Int × Int × Int × Int) (vld:Int→Int→Int→Int→Bool) (locB:Int→Int→Int→Int→Int→Bool):Sp
 | [.int .i64 k,.agg [.int .i64 f,.int .i64 a,.int .i64 b,.int .i64 c]]=>some (True,.bool (locB k f a b c))
 | _=>none
def gloc_T (nrm:Int→Int→Int→Int→Int × Int × Int × Int) (vld:Int→Int→Int→Int→Bool) (locB:Int→Int→Int→Int→Int→Bool):Prop :=
  ∀ (k f a b c:Int),IR9 k→(IR9 f)∧(IR9 a)∧(IR9 b)∧(IR9 c)∧True→bif decide (k=(1:Int)) then (decide (f=(0:Int))&&(decide
 (a=(0:Int))&&(decide (b=(0:Int))&&(decide (c=(0:Int))&&true))))=locB k f a b c else True∧bif decide (err (vld f a b c)=(0:Int)) then (decide ((nrm f a b c).fst=f)&&(decide ((nrm f a b c).snd.fst=a)&&(decide ((nrm f a b c).snd.snd.fst=b)&&(decide ((nrm f a b c).snd.snd.snd=c)&&true))))=locB k f a b c else false=locB k f a b c
theorem gloc_P:gloc_T nrm vld locB:=by
 unfold gloc_T
 intro k f a b c _ _
 unfold locB
 refine csx (fun h=>?_) (fun h=>⟨trivial,?_⟩)
 ·rw [if_pos h,Bool.eq_iff_iff]; simp
 ·rw [if_neg h]
  unfold isN
  cases vld f a b c with
  | false=>exact rfl
  | true =>
   show (decide ((nrm f a b c).1=f)&&(decide ((nrm f a b c).2.1=a)&&(decide ((nrm f a b c).2.2.1=b)&&(decide ((nrm f a b c).2.2.2=c)&&true))))=_
   rw [dsym _ f,dsym _ a,dsym _ b,dsym _ c]; rfl
def gloc_S (nrm:Int→Int→Int→Int→Int × Int × Int × Int) (vld:Int→Int→Int→Int→Bool) (locB:Int→Int→Int→Int→Int→Bool):Prop:=∀ (k f a b c:Int),fnK Tryz.prog { glob:=glb,spec:=lk [(87,(normal_s vld nrm))],specH:=lk [],nowf:=true } { nt:=24,drop:=drp [(1,128),(2,3584),(3,126976),(4,16646144)],tys:=[24] } (fun _ _=>none) 6 Tryz.f68 [.int .i64 k,.agg [.int .i64 f,.int .i64 a,.int .i64 b,.int .i64 c]] (.bool (locB k f a b c))
theorem gloc_e (nrm:Int→Int→Int→Int→Int × Int × Int × Int) (vld:Int→Int→Int→Int→Bool) (locB:Int→Int→Int→Int→Int→Bool):gloc_T nrm vld locB=gloc_S nrm vld locB:=by kernel_rfl
theorem gloc_v:gloc_S nrm vld locB:=Eq.mp (gloc_e ..) (gloc_P)
theorem gloc_ok:SOK Tryz.prog glb 68 (gloc_s nrm vld locB):=by
 refine ⟨fok Tryz.func68 (by kernel_rfl) (by kernel_rfl),?_⟩
 intro xs pre r h hp
 unfold gloc_s at h
 split at h
 ·simp only [Option.some.injEq,Prod.mk.injEq] at h
  obtain ⟨h1,h2⟩:=h
  subst h1 h2
  exact fnK_sound (tyOf (by kernel_rfl)) (by exact specOK rfl rfl ⟨(normal_ok),trivial⟩ trivial) (by kernel_rfl) Tryz.func68 rfl (gloc_v  _ _ _ _ _)
 ·cases h
def gpE (k:Int) (n:ByteArray) (t f a b c:Int) (rd:LLA):Int:=if k < 1∨3 < k then 4 else if nmOk n=false then 3 else if inB t=false∨locB k f a b c=false then 1 else vdE rd
def gval_s (gpE:Int→ByteArray→Int→Int→Int→Int→Int→LLA→Int) (inB:Int→Bool) (locB:Int→Int→Int→Int→Int→Bool) (nmOk:ByteArray→Bool) (vdE:LLA→Int):Sp
 | [.agg [.int .i64 k,.str n,.int .i64 t,.int .i64 f,.int .i64 a,.int .i64 b,.int .i64 c,.sl 2 h rd]]=>some (RdsP rd,.int .i64 (gpE k n t f a b c rd))
 | _=>none
def gval_T (gpE:Int→ByteArray→Int→Int→Int→Int→Int→LLA→Int) (inB:Int→Bool) (locB:Int→Int→Int→Int→Int→Bool) (nmOk:ByteArray→Bool) (vdE:LLA→Int) (nrm:Int→Int→Int→Int→Int × Int × Int × Int) (vld:Int→Int→Int→Int→Bool):Prop :=
  ∀ (k t f a b c:Int) (n:ByteArray) (rd:List (List AV)) (h:Bool),RdsP rd→(IR9 k)∧n.size.le (9223372036854775807:Nat)∧(IR9 t)∧(IR9 f)∧(IR9 a)∧((-9223372036854775808:Int)≤b∧b ≤
 (9223372036854775807:Int))∧(IR9 c)∧True∧True→bif decide (k < (1:Int)) then (4:Int)=gpE k n t f a b c rd else bif decide (3 < k) then (4:Int)=gpE k n t f a b c rd else True∧bif !nmOk n then (3:Int)=gpE k n t f a b c rd else True∧bif !inB t then (1:Int)=gpE k n t f a b c rd else True∧bif !locB k f a b c then (1:Int)=gpE k n t f a b c rd
 else RdsP rd∧vdE rd=gpE k n t f a b c rd
theorem gval_P:gval_T gpE inB locB nmOk vdE nrm vld:=by
 unfold gval_T
 intro k t f a b c n rd h hr _
 unfold gpE
 refine csx (fun q=>by rw [if_pos (.inl q)]) (fun q=>csx (fun q2=>by rw [if_pos (.inr q2)]) (fun q2=>?_))
 rw [if_neg (by omega)]
 refine ⟨trivial,csplit (fun q3=>?_) (fun q3=>⟨trivial,csplit (fun q4=>?_) (fun q4=>⟨trivial,csplit (fun q5=>?_) (fun q5=>⟨hr,?_⟩)⟩)⟩)⟩
 ·rw [if_pos (by simpa using q3)]
 ·rw [if_neg (by simpa using q3),if_pos (.inl (by simpa using q4))]
 ·rw [if_neg (by simpa using q3),if_pos (.inr (by simpa using q5))]
 ·rw [if_neg (by simpa using q3),if_neg (by simp at q4 q5; simp [q4,q5])]
def gval_S (gpE:Int→ByteArray→Int→Int→Int→Int→Int→LLA→Int) (inB:Int→Bool) (locB:Int→Int→Int→Int→Int→Bool) (nmOk:ByteArray→Bool) (vdE:LLA→Int) (nrm:Int→Int→Int→Int→Int × Int × Int × Int) (vld:Int→Int→Int→Int→Bool):Prop:=∀ (k t f a b c:Int) (n:ByteArray) (rd:List (List AV)) (h:Bool),RdsP rd→fnK Tryz.prog { glob:=glb,spec:=lk [(66,(gname_s nmOk)),(67,(gmin_s inB)),(68,(gloc_s nrm vld locB)),(69,(evalid_s vdE))],specH:=lk [],nowf:=true } { nt:=33,drop:=drp [(1,4080),(3,122880),(5,1073479680),(7,7516192768)] } (fun _ _=>none) 6 Tryz.f51 [.agg [.int .i64 k,.str n,.int .i64 t,.int .i64 f,.int .i64 a,.int .i64 b,.int .i64 c,.sl 2 h rd]] (.int .i64 (gpE k n t f a b c rd))
theorem gval_e (gpE:Int→ByteArray→Int→Int→Int→Int→Int→LLA→Int) (inB:Int→Bool) (locB:Int→Int→Int→Int→Int→Bool) (nmOk:ByteArray→Bool) (vdE:LLA→Int) (nrm:Int→Int→Int→Int→Int × Int × Int × Int) (vld:Int→Int→Int→Int→Bool):gval_T gpE inB locB nmOk vdE nrm vld=gval_S gpE inB locB nmOk vdE nrm vld:=by kernel_rfl
theorem gval_v:gval_S gpE inB locB nmOk vdE nrm vld:=Eq.mp (gval_e ..) (gval_P)
theorem gval_ok:SOK Tryz.prog glb 51 (gval_s gpE inB locB nmOk vdE):=by
 refine ⟨fok Tryz.func51 (by kernel_rfl) (by kernel_rfl),?_⟩
 intro xs pre r h hp
 unfold gval_s at h
 split at h
 ·simp only [Option.some.injEq,Prod.mk.injEq] at h
  obtain ⟨h1,h2⟩:=h
  subst h1 h2
  exact fnK_sound tyNil (by exact specOK rfl rfl ⟨(gname_ok glb),(gmin_ok glb),(gloc_ok),(evalid_ok),trivial⟩ trivial) (by kernel_rfl) Tryz.func51 rfl (gval_v  _ _ _ _ _ _ _ _ _ hp)
 ·cases h
def rkind_s:Sp
 | [.int .i64 k]=>some (True,.bool (decide (1≤k∧k≤3)))
 | _=>none
def rkind_T:Prop :=
 ∀ (gl:Glob) (k:Int),IR9 k→bif decide (1≤k) then decide (k≤(3:Int))=decide (1≤k∧k≤(3:Int)) else false=decide (1≤k∧k≤(3:Int))
theorem rkind_P:rkind_T:=by
 unfold rkind_T
 intro gl k _
 exact csx (fun h=>by simp [h]) (fun h=>by simp [h])
def rkind_S:Prop:=∀ (gl:Glob) (k:Int),fnK Tryz.prog { glob:=gl,spec:=lk [],specH:=lk [],nowf:=true } { nt:=9,drop:=drp [(1,504)] } (fun _ _=>none) 6 Tryz.f73 [.int .i64 k] (.bool (decide (1≤k∧k≤3)))
theorem rkind_e:rkind_T=rkind_S:=by kernel_rfl
theorem rkind_v:rkind_S:=Eq.mp (rkind_e ..) (rkind_P)
theorem rkind_ok (gl:Glob):SOK Tryz.prog gl 73 rkind_s:=by
 refine ⟨fok Tryz.func73 (by kernel_rfl) (by kernel_rfl),?_⟩
 intro xs pre r h hp
 unfold rkind_s at h
 split at h
 ·simp only [Option.some.injEq,Prod.mk.injEq] at h
  obtain ⟨h1,h2⟩:=h
  subst h1 h2
  exact fnK_sound tyNil (by exact specOK rfl rfl trivial trivial) (by kernel_rfl) Tryz.func73 rfl (rkind_v gl _)
 ·cases h
structure NmP (s:ByteArray) (i:Int):Prop where
 flo:0≤i
 fhi:i≤s.size
 fb:∀ j:Nat,(j:Int) < i→okB (s.data.toList.getD j 0)=true
def nmL (s:ByteArray):LInv:=⟨Int,fun i=>⟨[(0,.str s),(2,.bool false),(3,.int .i64 i)],[]⟩,NmP s,fun i=>(s.size - i).toNat,none⟩
def rname_s (nmOk:ByteArray→Bool):Sp
 | [.str s]=>some (True,.bool (nmOk s))
 | _=>none
def rname_T (nmOk:ByteArray→Bool):Prop :=
  ∀ (gl:Glob) (s:ByteArray),s.size.le (9223372036854775807:Nat)→(∃ x,NmP s x∧(s=s∧false=false∧(0:Int)=x∧True)∧True)∧∀ (x:Int),NmP s x→bif decide (x < (↑s.size:Int)) then bif decide (0≤x∧x < (↑s.size:Int)) then bif decide (65≤byteI s x.toNat) then bif decide (0≤x∧x < (↑s.size:Int)) then bif decide (byteI s x.toNat≤(90:Int)) then bif decide (rng .i64 (x+(1:Int))) then ∃
 y,NmP s y∧(nmL s).m y < (nmL s).m x∧(s=s∧false=false∧x+(1:Int)=y∧True)∧True else False else bif decide (0≤x∧x < (↑s.size:Int)) then bif decide (48≤byteI s x.toNat) then bif decide (0≤x∧x < (↑s.size:Int)) then bif !decide (byteI s x.toNat≤(57:Int)) then false=nmOk s else bif decide (rng .i64 (x+(1:Int))) then ∃ y,NmP s y∧(nmL s).m y < (nmL s).m x∧(s=s∧false=false∧x +
 (1:Int)=y∧True)∧True else False else False else false=nmOk s else False else False else bif decide (0≤x∧x < (↑s.size:Int)) then bif decide (48≤byteI s x.toNat) then bif decide (0≤x∧x < (↑s.size:Int)) then bif !decide (byteI s x.toNat≤(57:Int)) then false=nmOk s else bif decide (rng .i64 (x+(1:Int))) then ∃ y,NmP s y∧(nmL s).m y < (nmL s).m x∧(s=s∧false=false∧x +
 (1:Int)=y∧True)∧True else False else False else false=nmOk s else False else False else decide ((↑s.size:Int)=(5:Int))=nmOk s
theorem rname_P:rname_T nmOk:=by
 unfold rname_T
 intro gl s hs
 have hsz:s.size≤9223372036854775807:=hs
 refine ⟨⟨0,⟨by decide,by omega,fun j hj=>by omega⟩,by (repeat' (first | exact trivial | exact rfl | assumption | apply And.intro))⟩,?_⟩
 rintro i ⟨i0,i1,ib⟩
 have hb:i < s.size→okB (s.data.toList.getD i.toNat 0)=!((decide (byteI s i.toNat < 65)||decide (90 < byteI s i.toNat))&&(decide (byteI s i.toNat < 48)||decide (57 < byteI s i.toNat))):=fun hi=>by
  rw [byte_at s (by omega)]
  unfold okB badR
  congr 1
  congr 1 <;> congr 1 <;> exact decide_eq_decide.2 (by omega)
 have good:i < s.size→okB (s.data.toList.getD i.toNat 0)=true→cond (decide (rng .i64 (i+1))) (∃ y,NmP s y∧(nmL s).m y < (nmL s).m i∧(s=s∧false=false∧i+1=y∧True)∧True) False:=fun hi ho =>
  cdI (by omega) ⟨i+1,⟨by omega,by omega,fun j hj=>by
   rcases Int.lt_or_le (j:Int) i with q | q
   ·exact ib j q
   ·rw [show j=i.toNat by omega]; exact ho⟩,by simp only [nmL]; omega,by (repeat' (first | exact trivial | exact rfl | assumption | apply And.intro))⟩
 have bad:i < s.size→okB (s.data.toList.getD i.toNat 0)=false→false=nmOk s:=fun hi ho=>by
  have:s.data.toList.all okB=false:=by
   rw [List.all_eq_false]
   have hl:i.toNat < s.data.toList.length:=by simp; show i.toNat < s.size; omega
   refine ⟨s.data.toList[i.toNat],List.getElem_mem hl,?_⟩
   rw [List.getD_eq_getElem?_getD,List.getElem?_eq_getElem hl] at ho
   simpa using ho
  unfold nmOk
  rw [this]; simp
 have fin:¬ i < s.size→decide ((s.size:Int)=5)=nmOk s:=fun hi=>by
  have:s.data.toList.all okB=true:=by
   rw [List.all_eq_true]
   intro x hx
   obtain ⟨j,hj,rfl⟩:=List.mem_iff_getElem.1 hx
   have hj':j < s.size:=by simpa using hj
   have:=ib j (by omega)
   rw [List.getD_eq_getElem?_getD,List.getElem?_eq_getElem hj] at this
   exact this
  unfold nmOk
  rw [this,Bool.and_true]
  exact decide_eq_decide.2 (by omega)
 have second:i < s.size→¬ (65≤byteI s i.toNat∧byteI s i.toNat≤90)→cond (decide (0≤i∧i < (s.size:Int))) (cond (decide (48≤byteI s i.toNat)) (cond (decide (0≤i∧i < (s.size:Int))) (cond (!decide (byteI s i.toNat≤57)) (false=nmOk s) (cond (decide (rng .i64 (i+1))) (∃ y,NmP s y∧(nmL s).m y < (nmL s).m i∧(s=s∧false=false∧i+1=y∧True)∧True) False)) False) (false=nmOk s)) False:=fun hi hn =>
  cd1 (by omega) (csx (fun h1=>cd1 (by omega) (csplit (fun h2=>bad hi (by rw [hb hi]; simp at h2; simp; omega)) (fun h2=>good hi (by rw [hb hi]; simp at h2; simp; omega)))) (fun h1=>bad hi (by rw [hb hi]; simp; omega)))
 exact csx (fun hi=>cd1 (by omega) (csx (fun h1=>cd1 (by omega) (csx (fun h2=>good hi (by rw [hb hi]; simp; omega)) (fun h2=>second hi (by omega)))) (fun h1=>second hi (by omega)))) fin
def rname_S (nmOk:ByteArray→Bool):Prop:=∀ (gl:Glob) (s:ByteArray),fnK Tryz.prog { glob:=gl,spec:=lk [],specH:=lk [],nowf:=true } { nt:=36,drop:=drp [(2,112),(3,768),(4,4294966272),(6,60129542144)] } (invs [(2,nmL s)]) 6 Tryz.f74 [.str s] (.bool (nmOk s))
theorem rname_e (nmOk:ByteArray→Bool):rname_T nmOk=rname_S nmOk:=by kernel_rfl
theorem rname_v:rname_S nmOk:=Eq.mp (rname_e ..) (rname_P)
theorem rname_ok (gl:Glob):SOK Tryz.prog gl 74 (rname_s nmOk):=by
 refine ⟨fok Tryz.func74 (by kernel_rfl) (by kernel_rfl),?_⟩
 intro xs pre r h hp
 unfold rname_s at h
 split at h
 ·simp only [Option.some.injEq,Prod.mk.injEq] at h
  obtain ⟨h1,h2⟩:=h
  subst h1 h2
  exact fnK_sound tyNil (by exact specOK rfl rfl trivial trivial) (by kernel_rfl) Tryz.func74 rfl (rname_v gl _)
 ·cases h
def rval_s (gpE:Int→ByteArray→Int→Int→Int→Int→Int→LLA→Int) (inB:Int→Bool) (isN:Int→Int→Int→Int→Bool) (nmOk:ByteArray→Bool) (vdE:LLA→Int) (nrm:Int→Int→Int→Int→Int × Int × Int × Int) (vld:Int→Int→Int→Int→Bool):Sp
 | [.agg [.int .i64 k,.str n,.int .i64 t,.int .i64 f,.int .i64 a,.int .i64 b,.int .i64 c,.sl 2 h rd]]=>some (RdsP rd,.int .i64 (gpE k n t f a b c rd))
 | _=>none
def rval_T (gpE:Int→ByteArray→Int→Int→Int→Int→Int→LLA→Int) (inB:Int→Bool) (isN:Int→Int→Int→Int→Bool) (nmOk:ByteArray→Bool) (vdE:LLA→Int) (nrm:Int→Int→Int→Int→Int × Int × Int × Int) (vld:Int→Int→Int→Int→Bool):Prop :=
  ∀ (gl:Glob) (k t f a b c:Int) (n:ByteArray) (rd:List (List AV)) (h:Bool),RdsP rd→(IR9 k)∧n.size.le (9223372036854775807:Nat)∧(IR9 t)∧(IR9 f)∧((-9223372036854775808:Int)≤a∧a ≤
 (9223372036854775807:Int))∧(IR9 b)∧(IR9 c)∧True∧True→True∧bif !decide (1≤k∧k≤(3:Int)) then (4:Int)=gpE k n t f a b c rd else True∧bif !nmOk n then (3:Int)=gpE k n t f a b c rd else True∧bif !inB t then (1:Int)=gpE k n t f a b c rd else bif decide (k=(1:Int)) then bif !(decide
 (f=(0:Int))&&(decide (a=(0:Int))&&(decide (b=(0:Int))&&(decide (c=(0:Int))&&true)))) then (1:Int)=gpE k n t f a b c rd else bif decide ¬k=(1:Int) then True∧bif !isN f a b c then (1:Int)=gpE k n t f a b c rd else RdsP rd∧vdE rd=gpE k n t f a b c rd else RdsP rd∧vdE rd=gpE k n t f a b c rd else bif decide ¬k=(1:Int) then True∧bif !isN f a b c then (1:Int)=gpE k n t f a b c rd else RdsP rd∧vdE
 rd=gpE k n t f a b c rd else RdsP rd∧vdE rd=gpE k n t f a b c rd
theorem rval_P:rval_T gpE inB isN nmOk vdE nrm vld:=by
 unfold rval_T
 intro gl k t f a b c n rd h hr _
 unfold gpE
 refine ⟨trivial,csplit (fun q=>?_) (fun q=>?_)⟩
 ·rw [if_pos (by simp at q; omega)]
 simp only [Bool.not_eq_eq_eq_not,Bool.not_false,decide_eq_true_eq] at q
 rw [if_neg (by omega)]
 refine ⟨trivial,csplit (fun q3=>?_) (fun q3=>⟨trivial,csplit (fun q4=>?_) (fun q4=>?_)⟩)⟩
 ·rw [if_pos (by simpa using q3)]
 ·rw [if_neg (by simpa using q3),if_pos (.inl (by simpa using q4))]
 ·rw [if_neg (by simpa using q3)]
  have q4:inB t=true:=by simpa using q4
  have ok:locB k f a b c=true→(RdsP rd∧vdE rd=if inB t=false∨locB k f a b c=false then 1 else vdE rd):=fun e=>⟨hr,by rw [if_neg (by simp [q4,e])]⟩
  have no:locB k f a b c=false→(1:Int)=if inB t=false∨locB k f a b c=false then 1 else vdE rd:=fun e=>by rw [if_pos (.inr e)]
  refine csx (fun k1=>csplit (fun z=>no ?_) (fun z=>cd0 (fun w=>w k1) (ok ?_))) (fun k1=>cd1 k1 ⟨trivial,csplit (fun z=>no ?_) (fun z=>ok ?_)⟩)
  ·unfold locB; rw [if_pos k1]; simp at z; simp; omega
  ·unfold locB; rw [if_pos k1]; simp at z; simp; omega
  ·unfold locB; rw [if_neg k1]; simpa using z
  ·unfold locB; rw [if_neg k1]; simpa using z
def rval_S (gpE:Int→ByteArray→Int→Int→Int→Int→Int→LLA→Int) (inB:Int→Bool) (isN:Int→Int→Int→Int→Bool) (nmOk:ByteArray→Bool) (vdE:LLA→Int) (nrm:Int→Int→Int→Int→Int × Int × Int × Int) (vld:Int→Int→Int→Int→Bool):Prop:=∀ (gl:Glob) (k t f a b c:Int) (n:ByteArray) (rd:List (List AV)) (h:Bool),RdsP rd→fnK Tryz.prog { glob:=gl,spec:=lk [(73,rkind_s),(74,(rname_s nmOk)),(56,(rIn_s inB)),(75,(rIsN_s nrm vld isN)),(76,(rvalid_s vdE))],specH:=lk [],nowf:=true } { nt:=40,drop:=drp [(1,56),(3,896),(5,68719474688),(7,962072674304)],tys:=[24] } (fun _ _=>none) 6 Tryz.f55 [.agg [.int .i64 k,.str n,.int .i64 t,.int .i64 f,.int .i64 a,.int .i64 b,.int .i64 c,.sl 2 h rd]] (.int .i64 (gpE k n t f a b c rd))
theorem rval_e (gpE:Int→ByteArray→Int→Int→Int→Int→Int→LLA→Int) (inB:Int→Bool) (isN:Int→Int→Int→Int→Bool) (nmOk:ByteArray→Bool) (vdE:LLA→Int) (nrm:Int→Int→Int→Int→Int × Int × Int × Int) (vld:Int→Int→Int→Int→Bool):rval_T gpE inB isN nmOk vdE nrm vld=rval_S gpE inB isN nmOk vdE nrm vld:=by kernel_rfl
theorem rval_v:rval_S gpE inB isN nmOk vdE nrm vld:=Eq.mp (rval_e ..) (rval_P)
theorem rval_ok (gl:Glob):SOK Tryz.prog gl 55 (rval_s gpE inB isN nmOk vdE nrm vld):=by
 refine ⟨fok Tryz.func55 (by kernel_rfl) (by kernel_rfl),?_⟩
 intro xs pre r h hp
 unfold rval_s at h
 split at h
 ·simp only [Option.some.injEq,Prod.mk.injEq] at h
  obtain ⟨h1,h2⟩:=h
  subst h1 h2
  exact fnK_sound (tyOf (by kernel_rfl)) (by exact specOK rfl rfl ⟨(rkind_ok gl),(rname_ok gl),(rIn_ok gl),(rIsN_ok gl),(rvalid_ok gl),trivial⟩ trivial) (by kernel_rfl) Tryz.func55 rfl (rval_v gl _ _ _ _ _ _ _ _ _ hp)
 ·cases h
end Go.Proofs.YtgnnafneglannaaGreatDoor
namespace Go.Proofs.YtgnnafneglannaaGreatDoor
open Go
set_option linter.unusedVariables false
set_option linter.unusedSimpArgs false
theorem lex_nm0 (s t:ByteArray):lexI (nmK s.toList) (nmK t.toList)=cmpS s t:=by
 have:=lex_nm (x:=[]) (y:=[]) s.toList t.toList
 rw [List.append_nil,List.append_nil] at this
 rw [this]
 exact orI_z _
theorem less_rfl (s:ByteArray):Op.bytesLess s.toList s.toList=false:=by
 have h:cmpS s s=0:=by rw [← lex_nm0]; exact lexI_rfl _
 unfold cmpS at h
 cases e:Op.bytesLess s.toList s.toList with
 | false=>rfl
 | true=>rw [e] at h; simp at h
theorem less_eq {s t:ByteArray} (h1:Op.bytesLess s.toList t.toList=false) (h2:Op.bytesLess t.toList s.toList=false):s=t:=by
 have h:cmpS s t=0:=by unfold cmpS; rw [h1,h2]; rfl
 rw [← lex_nm0] at h
 have:=lexI_zero h
 have h3:=nmK_inj (x:=[]) (y:=[]) (s:=s.toList) (t:=t.toList) (by rw [this])
 exact str_inj h3.1
def nanS_s:Sp
 | [.str a]=>some (True,.bool false)
 | _=>none
def nanS_T:Prop :=
 ∀ (gl:Glob) (a:ByteArray),a.size.le (9223372036854775807:Nat)→(!decide (a=a))=false
theorem nanS_P:nanS_T:=by
 unfold nanS_T
 intro gl a _
 simp
def nanS_S:Prop:=∀ (gl:Glob) (a:ByteArray),fnK Tryz.prog { glob:=gl,spec:=lk [],specH:=lk [],nowf:=true } { nt:=6,drop:=drp [(1,56)] } (fun _ _=>none) 6 Tryz.f81 [.str a] (.bool false)
theorem nanS_e:nanS_T=nanS_S:=by kernel_rfl
theorem nanS_v:nanS_S:=Eq.mp (nanS_e ..) (nanS_P)
theorem nanS_ok (gl:Glob):SOK Tryz.prog gl 81 nanS_s:=by
 refine ⟨fok Tryz.func81 (by kernel_rfl) (by kernel_rfl),?_⟩
 intro xs pre r h hp
 unfold nanS_s at h
 split at h
 ·simp only [Option.some.injEq,Prod.mk.injEq] at h
  obtain ⟨h1,h2⟩:=h
  subst h1 h2
  exact fnK_sound tyNil (by exact specOK rfl rfl trivial trivial) (by kernel_rfl) Tryz.func81 rfl (nanS_v gl _)
 ·cases h
def fcmpS_s (cmpS:ByteArray→ByteArray→Int):Sp
 | [.str a,.str b]=>some (True,.int .i64 (cmpS a b))
 | _=>none
def fcmpS_T (cmpS:ByteArray→ByteArray→Int):Prop :=
 ∀ (gl:Glob) (a b:ByteArray),a.size.le (9223372036854775807:Nat)→b.size.le (9223372036854775807:Nat)→True∧True∧bif Op.bytesLess a.toList b.toList then (-1:Int)=cmpS a b else bif !(Op.bytesLess a.toList b.toList||decide (a=b)) then (1:Int)=cmpS a b else (0:Int)=cmpS a b
theorem fcmpS_P:fcmpS_T cmpS:=by
 unfold fcmpS_T
 intro gl a b _ _
 refine ⟨trivial,trivial,csplit (fun h=>?_) (fun h=>csplit (fun k=>?_) (fun k=>?_))⟩
 ·unfold cmpS; rw [if_pos h]
 ·unfold cmpS
  rw [h]
  cases e:Op.bytesLess b.toList a.toList with
  | true=>simp
  | false=>rw [h,less_eq h e] at k; simp at k
 ·unfold cmpS
  rw [h] at k ⊢
  have:a=b:=by simpa using k
  subst this
  rw [less_rfl]; simp
def fcmpS_S (cmpS:ByteArray→ByteArray→Int):Prop:=∀ (gl:Glob) (a b:ByteArray),fnK Tryz.prog { glob:=gl,spec:=lk [(81,nanS_s)],specH:=lk [],nowf:=true } { nt:=20,drop:=drp [(1,384),(2,1536),(9,49152),(11,393216)] } (fun _ _=>none) 6 Tryz.f63 [.str a,.str b] (.int .i64 (cmpS a b))
theorem fcmpS_e (cmpS:ByteArray→ByteArray→Int):fcmpS_T cmpS=fcmpS_S cmpS:=by kernel_rfl
theorem fcmpS_v:fcmpS_S cmpS:=Eq.mp (fcmpS_e ..) (fcmpS_P)
theorem fcmpS_ok (gl:Glob):SOK Tryz.prog gl 63 (fcmpS_s cmpS):=by
 refine ⟨fok Tryz.func63 (by kernel_rfl) (by kernel_rfl),?_⟩
 intro xs pre r h hp
 unfold fcmpS_s at h
 split at h
 ·simp only [Option.some.injEq,Prod.mk.injEq] at h
  obtain ⟨h1,h2⟩:=h
  subst h1 h2
  exact fnK_sound tyNil (by exact specOK rfl rfl ⟨(nanS_ok gl),trivial⟩ trivial) (by kernel_rfl) Tryz.func63 rfl (fcmpS_v gl _ _)
 ·cases h
def gcc_s (cmpI:Int→Int→Int) (orL:List (List AV)→Int):Sp
 | [.agg [.int .i64 e,.int .i64 v],.agg [.int .i64 e2,.int .i64 v2]]=>some (True,.int .i64 (orI (cmpI e e2) (cmpI v v2)))
 | _=>none
def gcc_T (cmpI:Int→Int→Int) (orL:List (List AV)→Int):Prop :=
  ∀ (gl:Glob) (e v e2 v2:Int),(IR9 e)∧(IR9 v)∧True→(IR9 e2)∧(IR9 v2)∧True→True∧True∧OrI [[AV.int .i64 (cmpI e e2)],[AV.int .i64 (cmpI v v2)]] (2:Nat)∧orL [[AV.int .i64 (cmpI e
 e2)],[AV.int .i64 (cmpI v v2)]]=orI (cmpI e e2) (cmpI v v2)
theorem gcc_P:gcc_T cmpI orL:=by
 unfold gcc_T
 intro gl e v e2 v2 _ _
 refine ⟨trivial,trivial,orI_ok [cmpI e e2,cmpI v v2] (by simp),?_⟩
 simp only [orL,cellI,orI_z]
def gcc_S (cmpI:Int→Int→Int) (orL:List (List AV)→Int):Prop:=∀ (gl:Glob) (e v e2 v2:Int),fnK Tryz.prog { glob:=gl,spec:=lk [(53,(fcmpI_s cmpI))],specH:=lk [(52,(for__s orL))],nowf:=true } { nt:=17,drop:=drp [(1,131040)] } (fun _ _=>none) 6 Tryz.f72 [.agg [.int .i64 e,.int .i64 v],.agg [.int .i64 e2,.int .i64 v2]] (.int .i64 (orI (cmpI e e2) (cmpI v v2)))
theorem gcc_e (cmpI:Int→Int→Int) (orL:List (List AV)→Int):gcc_T cmpI orL=gcc_S cmpI orL:=by kernel_rfl
theorem gcc_v:gcc_S cmpI orL:=Eq.mp (gcc_e ..) (gcc_P)
theorem gcc_ok (gl:Glob):SOK Tryz.prog gl 72 (gcc_s cmpI orL):=by
 refine ⟨fok Tryz.func72 (by kernel_rfl) (by kernel_rfl),?_⟩
 intro xs pre r h hp
 unfold gcc_s at h
 split at h
 ·simp only [Option.some.injEq,Prod.mk.injEq] at h
  obtain ⟨h1,h2⟩:=h
  subst h1 h2
  exact fnK_sound tyNil (by exact specOK rfl rfl ⟨(fcmpI_ok gl),trivial⟩ ⟨(for__ok gl),trivial⟩) (by kernel_rfl) Tryz.func72 rfl (gcc_v gl _ _ _ _)
 ·cases h
def rdC (xs ys:LLA):Int:=lexI (rdK xs) (rdK ys)
theorem rd_drop {xs:LLA} {i:Nat} {e v:Int} (h:i < xs.length) (hr:xs.getD i []=[.int .i64 e,.int .i64 v]):xs.drop i=[.int .i64 e,.int .i64 v]::xs.drop (i+1):=by
 rw [List.drop_eq_getElem_cons h,← hr,List.getD_eq_getElem?_getD,List.getElem?_eq_getElem h]; rfl
structure CmP (xs ys:LLA) (i:Int):Prop where
 flo:0≤i
 fhi:i≤xs.length
 fhj:i≤ys.length
 fe:rdC xs ys=rdC (xs.drop i.toNat) (ys.drop i.toNat)
def cmF (k:Nat) (f g:Bool) (xs ys:LLA):LInv:=⟨Int,fun i=>⟨[(0,.sl 2 f xs),(1,.sl 2 g ys),(2,.fn k []),(6,.int .i64 0),(11,.sl 2 f xs),(12,.int .i64 xs.length),(13,.int .i64 i)],[]⟩,CmP xs ys,fun i=>(xs.length - i).toNat,none⟩
def cmpF_s (rdC:LLA→LLA→Int) (cmpI:Int→Int→Int) (orL:List (List AV)→Int):Sp
 | [.sl 2 f xs,.sl 2 g ys,.fn 72 []]=>some (RdsP xs∧RdsP ys,.int .i64 (rdC xs ys))
 | _=>none
def cmpF_T (rdC:LLA→LLA→Int) (cmpI:Int→Int→Int) (orL:List (List AV)→Int):Prop :=
  ∀ (gl:Glob) (xs ys:List (List AV)) (f g:Bool),RdsP xs∧RdsP ys→True→True→True→(∃ x,CmP xs ys x∧(((bif f then f=true else True)∧xs=xs)∧((bif g then g=true else True)∧ys=ys)∧True∧(0:Int)=0∧((bif f then f=true else True)∧xs=xs)∧(↑xs.length:Int)=(↑xs.length:Int)∧(0:Int)=x∧True)∧True)∧∀ (x:Int),CmP xs ys x→bif decide (x < (↑xs.length:Int)) then bif decide (0≤x∧x < (↑xs.length:Int)) then ∃
 n n_1,List.take [AV.int .i64 n,.int .i64 n_1].length (xs.getD x.toNat [])=[AV.int .i64 n,.int .i64 n_1]∧bif decide ((↑ys.length:Int)≤x) then (1:Int)=rdC xs ys else bif decide (0≤x∧x < (↑ys.length:Int)) then ∃ n_2 n_3,List.take [AV.int .i64 n_2,.int .i64 n_3].length (ys.getD x.toNat [])=[AV.int .i64 n_2,.int .i64 n_3]∧True∧bif decide ¬orI (cmpI n n_2) (cmpI n_1 n_3)=(0:Int) then orI (cmpI
 n n_2) (cmpI n_1 n_3)=rdC xs ys else bif decide (rng .i64 (x+(1:Int))) then ∃ y,CmP xs ys y∧(cmF (86:Nat) f g xs ys).m y < (cmF (86:Nat) f g xs ys).m x∧(((bif f then f=true else True)∧xs=xs)∧((bif g then g=true else True)∧ys=ys)∧True∧(0:Int)=0∧((bif f then f=true else True)∧xs=xs)∧(↑xs.length:Int)=(↑xs.length:Int)∧x+(1:Int)=y∧True)∧True else False else False else False else bif decide
 ((↑xs.length:Int) < (↑ys.length:Int)) then (-1:Int)=rdC xs ys else (0:Int)=rdC xs ys
theorem cmpF_P:cmpF_T rdC cmpI orL:=by
 unfold cmpF_T
 intro gl xs ys f g ⟨hx,hy⟩ _ _ _
 have lx:=hx.sm
 have ly:=hy.sm
 have bf:cond f (f=true) True:=by cases f <;> trivial
 have bg:cond g (g=true) True:=by cases g <;> trivial
 refine ⟨⟨0,⟨by decide,by omega,by omega,rfl⟩,by (repeat' (first | exact trivial | exact rfl | assumption | apply And.intro))⟩,?_⟩
 rintro i ⟨i0,i1,i2,ie⟩
 refine csx (fun hi=>cd1 (by omega) ?_) (fun hi=>?_)
 ·obtain ⟨e,v,hr,_,_⟩:=hx.row i.toNat (by omega)
  have dx:=rd_drop (by omega) hr
  refine ⟨e,v,by rw [hr]; rfl,csx (fun hj=>?_) (fun hj=>cd1 (by omega) ?_)⟩
  ·have dy:ys.drop i.toNat=[]:=List.drop_eq_nil_of_le (by omega)
   rw [ie,dx,dy]; rfl
  ·obtain ⟨e2,v2,hr2,_,_⟩:=hy.row i.toNat (by omega)
   have dy:=rd_drop (by omega) hr2
   have st:rdC xs ys=orI (cmpI e e2) (orI (cmpI v v2) (rdC (xs.drop (i.toNat+1)) (ys.drop (i.toNat+1)))):=by rw [ie,dx,dy]; rfl
   refine ⟨e2,v2,by rw [hr2]; rfl,trivial,csx (fun q=>?_) (fun q=>cdI (by omega) ⟨i+1,⟨by omega,by omega,by omega,?_⟩,by simp only [cmF]; omega,by (repeat' (first | exact trivial | exact rfl | assumption | apply And.intro))⟩)⟩
   ·rw [st,← orI_assoc]
    exact (if_neg q).symm
   ·rw [st,← orI_assoc,show (i+1).toNat=i.toNat+1 by omega]
    exact if_pos (Decidable.not_not.1 q)
 ·have dx:xs.drop i.toNat=[]:=List.drop_eq_nil_of_le (by omega)
  refine csx (fun hl=>?_) (fun hl=>?_)
  ·obtain ⟨e2,v2,hr2,_,_⟩:=hy.row i.toNat (by omega)
   rw [ie,dx,rd_drop (by omega) hr2]; rfl
  ·have dy:ys.drop i.toNat=[]:=List.drop_eq_nil_of_le (by omega)
   rw [ie,dx,dy]; rfl
def cmpF_S (rdC:LLA→LLA→Int) (cmpI:Int→Int→Int) (orL:List (List AV)→Int):Prop:=∀ (gl:Glob) (xs ys:List (List AV)) (f g:Bool),RdsP xs∧RdsP ys→fnK Tryz.prog { glob:=gl,spec:=lk [(72,(gcc_s cmpI orL))],specH:=lk [],shape:=[17,25],nowf:=true } { nt:=39,drop:=drp [(3,229376),(4,1835008),(6,62914560),(7,1006632960),(8,1073741824),(9,4294967296),(10,8589934592),(11,257698037760)] } (invs [(2,cmF 72 f g xs ys)]) 6 Tryz.f71 [.sl 2 f xs,.sl 2 g ys,.fn 72 []] (.int .i64 (rdC xs ys))
theorem cmpF_e (rdC:LLA→LLA→Int) (cmpI:Int→Int→Int) (orL:List (List AV)→Int):cmpF_T rdC cmpI orL=cmpF_S rdC cmpI orL:=by kernel_rfl
theorem cmpF_v:cmpF_S rdC cmpI orL:=Eq.mp (cmpF_e ..) (cmpF_P)
theorem cmpF_ok (gl:Glob):SOK Tryz.prog gl 71 (cmpF_s rdC cmpI orL):=by
 refine ⟨fok Tryz.func71 (by kernel_rfl) (by kernel_rfl),?_⟩
 intro xs pre r h hp
 unfold cmpF_s at h
 split at h
 ·simp only [Option.some.injEq,Prod.mk.injEq] at h
  obtain ⟨h1,h2⟩:=h
  subst h1 h2
  exact fnK_sound tyNil (by exact specOK rfl rfl ⟨(gcc_ok gl),trivial⟩ trivial) (by kernel_rfl) Tryz.func71 rfl (cmpF_v gl _ _ _ _ hp)
 ·cases h
def gcmp_s (rdC:LLA→LLA→Int) (cmpI:Int→Int→Int) (orL:List (List AV)→Int) (cmpS:ByteArray→ByteArray→Int):Sp
 | [.agg [.int .i64 k,.str n,.int .i64 t,.int .i64 f,.int .i64 a,.int .i64 b,.int .i64 c,.sl 2 h rd],.agg [.int .i64 k2,.str n2,.int .i64 t2,.int .i64 f2,.int .i64 a2,.int .i64 b2,.int .i64 c2,.sl 2 h2 rd2]]=>some (RdsP rd∧RdsP rd2,.int .i64 (orI (cmpI k k2) (orI (cmpS n n2) (orI (cmpI t t2) (orI (cmpI f f2) (orI (cmpI a a2) (orI (cmpI b b2) (orI (cmpI c c2) (rdC rd rd2)))))))))
 | _=>none
def gcmp_T (rdC:LLA→LLA→Int) (cmpI:Int→Int→Int) (orL:List (List AV)→Int) (cmpS:ByteArray→ByteArray→Int):Prop :=
  ∀ (gl:Glob) (k t f a b c k2 t2 f2 a2 b2 c2:Int) (n n2:ByteArray) (rd rd2:List (List AV)) (h h2:Bool),RdsP rd∧RdsP rd2→(IR9 k)∧n.size.le (9223372036854775807:Nat)∧(IR9 t)∧(IR9 f)∧((-9223372036854775808:Int)≤a∧a ≤
 (9223372036854775807:Int))∧(IR9 b)∧(IR9 c)∧True∧True→(IR9 k2)∧n2.size.le (9223372036854775807:Nat)∧(IR9 t2)∧((-9223372036854775808:Int)≤f2∧f2 ≤
 (9223372036854775807:Int))∧(IR9 a2)∧(IR9 b2)∧(IR9 c2)∧True∧True→True∧True∧True∧True∧True∧True∧True∧(RdsP rd∧RdsP rd2)∧OrI [[AV.int .i64 (cmpI k k2)],[AV.int .i64 (cmpS n n2)],[AV.int .i64 (cmpI t t2)],[AV.int .i64 (cmpI f
 f2)],[AV.int .i64 (cmpI a a2)],[AV.int .i64 (cmpI b b2)],[AV.int .i64 (cmpI c c2)],[AV.int .i64 (rdC rd rd2)]] (8:Nat)∧orL [[AV.int .i64 (cmpI k k2)],[AV.int .i64 (cmpS n n2)],[AV.int .i64 (cmpI t t2)],[AV.int .i64 (cmpI f f2)],[AV.int .i64 (cmpI a a2)],[AV.int .i64 (cmpI b b2)],[AV.int .i64 (cmpI c c2)],[AV.int .i64 (rdC rd rd2)]]=orI (cmpI k k2) (orI (cmpS n n2) (orI (cmpI t t2) (orI (cmpI f f2)
 (orI (cmpI a a2) (orI (cmpI b b2) (orI (cmpI c c2) (rdC rd rd2)))))))
theorem gcmp_P:gcmp_T rdC cmpI orL cmpS:=by
 unfold gcmp_T
 intro gl k t f a b c k2 t2 f2 a2 b2 c2 n n2 rd rd2 h h2 hp _ _
 refine ⟨trivial,trivial,trivial,trivial,trivial,trivial,trivial,hp,orI_ok [cmpI k k2,cmpS n n2,cmpI t t2,cmpI f f2,cmpI a a2,cmpI b b2,cmpI c c2,rdC rd rd2] (by simp),?_⟩
 simp only [orL,cellI,orI_z]
def gcmp_S (rdC:LLA→LLA→Int) (cmpI:Int→Int→Int) (orL:List (List AV)→Int) (cmpS:ByteArray→ByteArray→Int):Prop:=∀ (gl:Glob) (k t f a b c k2 t2 f2 a2 b2 c2:Int) (n n2:ByteArray) (rd rd2:List (List AV)) (h h2:Bool),RdsP rd∧RdsP rd2→fnK Tryz.prog { glob:=gl,spec:=lk [(53,(fcmpI_s cmpI)),(63,(fcmpS_s cmpS)),(71,(cmpF_s rdC cmpI orL))],specH:=lk [(52,(for__s orL))],nowf:=true } { nt:=53,drop:=drp [(1,1920),(2,9007199254738944)] } (fun _ _=>none) 6 Tryz.f54 [.agg [.int .i64 k,.str n,.int .i64 t,.int .i64 f,.int .i64 a,.int .i64 b,.int .i64 c,.sl 2 h rd],.agg [.int .i64 k2,.str n2,.int .i64 t2,.int .i64 f2,.int .i64 a2,.int .i64 b2,.int .i64 c2,.sl 2 h2 rd2]] (.int .i64 (orI (cmpI k k2) (orI (cmpS n n2) (orI (cmpI t t2) (orI (cmpI f f2) (orI (cmpI a a2) (orI (cmpI b b2) (orI (cmpI c c2) (rdC rd rd2)))))))))
theorem gcmp_e (rdC:LLA→LLA→Int) (cmpI:Int→Int→Int) (orL:List (List AV)→Int) (cmpS:ByteArray→ByteArray→Int):gcmp_T rdC cmpI orL cmpS=gcmp_S rdC cmpI orL cmpS:=by kernel_rfl
theorem gcmp_v:gcmp_S rdC cmpI orL cmpS:=Eq.mp (gcmp_e ..) (gcmp_P)
theorem gcmp_ok (gl:Glob):SOK Tryz.prog gl 54 (gcmp_s rdC cmpI orL cmpS):=by
 refine ⟨fok Tryz.func54 (by kernel_rfl) (by kernel_rfl),?_⟩
 intro xs pre r h hp
 unfold gcmp_s at h
 split at h
 ·simp only [Option.some.injEq,Prod.mk.injEq] at h
  obtain ⟨h1,h2⟩:=h
  subst h1 h2
  exact fnK_sound tyNil (by exact specOK rfl rfl ⟨(fcmpI_ok gl),(fcmpS_ok gl),(cmpF_ok gl),trivial⟩ ⟨(for__ok gl),trivial⟩) (by kernel_rfl) Tryz.func54 rfl (gcmp_v gl _ _ _ _ _ _ _ _ _ _ _ _ _ _ _ _ _ _ hp)
 ·cases h
theorem orN {a b:Int} (h:¬ a=0):a=orI a b:=(if_neg h).symm
theorem orZ {a b:Int} (h:¬ ¬ a=0):orI a b=b:=if_pos (Decidable.not_not.1 h)
def rsign_s (cmpI:Int→Int→Int):Sp
 | [.int .i64 a,.int .i64 b]=>some (True,.int .i64 (cmpI a b))
 | _=>none
def rsign_T (cmpI:Int→Int→Int):Prop :=
 ∀ (gl:Glob) (a b:Int),IR9 a→IR9 b→bif decide (a < b) then (-1:Int)=cmpI a b else bif decide (b < a) then (1:Int)=cmpI a b else (0:Int)=cmpI a b
theorem rsign_P:rsign_T cmpI:=by
 unfold rsign_T
 intro gl a b _ _
 unfold cmpI
 refine csx (fun h=>?_) (fun h=>csx (fun k=>?_) (fun k=>?_))
 ·rw [if_pos h]
 ·rw [if_neg h,if_pos k]
 ·rw [if_neg h,if_neg k]
def rsign_S (cmpI:Int→Int→Int):Prop:=∀ (gl:Glob) (a b:Int),fnK Tryz.prog { glob:=gl,spec:=lk [],specH:=lk [],nowf:=true } { nt:=13,drop:=drp [(1,448),(3,7168)] } (fun _ _=>none) 6 Tryz.f77 [.int .i64 a,.int .i64 b] (.int .i64 (cmpI a b))
theorem rsign_e (cmpI:Int→Int→Int):rsign_T cmpI=rsign_S cmpI:=by kernel_rfl
theorem rsign_v:rsign_S cmpI:=Eq.mp (rsign_e ..) (rsign_P)
theorem rsign_ok (gl:Glob):SOK Tryz.prog gl 77 (rsign_s cmpI):=by
 refine ⟨fok Tryz.func77 (by kernel_rfl) (by kernel_rfl),?_⟩
 intro xs pre r h hp
 unfold rsign_s at h
 split at h
 ·simp only [Option.some.injEq,Prod.mk.injEq] at h
  obtain ⟨h1,h2⟩:=h
  subst h1 h2
  exact fnK_sound tyNil (by exact specOK rfl rfl trivial trivial) (by kernel_rfl) Tryz.func77 rfl (rsign_v gl _ _)
 ·cases h
def isign_s (cmpI:Int→Int→Int):Sp
 | [.int .i64 a,.int .i64 b]=>some (True,.int .i64 (cmpI a b))
 | _=>none
def isign_T (cmpI:Int→Int→Int):Prop :=
 ∀ (gl:Glob) (a b:Int),IR9 a→IR9 b→bif decide (a < b) then (-1:Int)=cmpI a b else bif decide (b < a) then (1:Int)=cmpI a b else (0:Int)=cmpI a b
theorem isign_P:isign_T cmpI:=by
 unfold isign_T
 intro gl a b _ _
 unfold cmpI
 refine csx (fun h=>?_) (fun h=>csx (fun k=>?_) (fun k=>?_))
 ·rw [if_pos h]
 ·rw [if_neg h,if_pos k]
 ·rw [if_neg h,if_neg k]
def isign_S (cmpI:Int→Int→Int):Prop:=∀ (gl:Glob) (a b:Int),fnK Tryz.prog { glob:=gl,spec:=lk [],specH:=lk [],nowf:=true } { nt:=13,drop:=drp [(1,448),(3,7168)] } (fun _ _=>none) 6 Tryz.f58 [.int .i64 a,.int .i64 b] (.int .i64 (cmpI a b))
theorem isign_e (cmpI:Int→Int→Int):isign_T cmpI=isign_S cmpI:=by kernel_rfl
theorem isign_v:isign_S cmpI:=Eq.mp (isign_e ..) (isign_P)
theorem isign_ok (gl:Glob):SOK Tryz.prog gl 58 (isign_s cmpI):=by
 refine ⟨fok Tryz.func58 (by kernel_rfl) (by kernel_rfl),?_⟩
 intro xs pre r h hp
 unfold isign_s at h
 split at h
 ·simp only [Option.some.injEq,Prod.mk.injEq] at h
  obtain ⟨h1,h2⟩:=h
  subst h1 h2
  exact fnK_sound tyNil (by exact specOK rfl rfl trivial trivial) (by kernel_rfl) Tryz.func58 rfl (isign_v gl _ _)
 ·cases h
def rcI (k t f a b c k2 t2 f2 a2 b2 c2:Int) (n n2:ByteArray) (rd rd2:LLA) (h h2:Bool):LInv:=⟨Int,fun i=>⟨[(2,.ptr 2 0),(3,.ptr 3 0),(4,.int .i64 0),(8,.int .i64 i)],[(2,.cells [.int .i64 k,.str n,.int .i64 t,.int .i64 f,.int .i64 a,.int .i64 b,.int .i64 c,.sl 2 h rd]),(3,.cells [.int .i64 k2,.str n2,.int .i64 t2,.int .i64 f2,.int .i64 a2,.int .i64 b2,.int .i64 c2,.sl 2 h2 rd2])]⟩,CmP rd rd2,fun i=>(rd.length - i).toNat,none⟩
def rcmp_s (rdC:LLA→LLA→Int) (cmpI:Int→Int→Int) (cmpS:ByteArray→ByteArray→Int):Sp
 | [.agg [.int .i64 k,.str n,.int .i64 t,.int .i64 f,.int .i64 a,.int .i64 b,.int .i64 c,.sl 2 h rd],.agg [.int .i64 k2,.str n2,.int .i64 t2,.int .i64 f2,.int .i64 a2,.int .i64 b2,.int .i64 c2,.sl 2 h2 rd2]]=>some (RdsP rd∧RdsP rd2,.int .i64 (orI (cmpI k k2) (orI (cmpS n n2) (orI (cmpI t t2) (orI (cmpI f f2) (orI (cmpI a a2) (orI (cmpI b b2) (orI (cmpI c c2) (rdC rd rd2)))))))))
 | _=>none
def rcmp_T (rdC:LLA→LLA→Int) (cmpI:Int→Int→Int) (cmpS:ByteArray→ByteArray→Int):Prop :=
  ∀ (gl:Glob) (k t f a b c k2 t2 f2 a2 b2 c2:Int) (n n2:ByteArray) (rd rd2:List (List AV)) (h h2:Bool),RdsP rd∧RdsP rd2→(IR9 k)∧n.size.le (9223372036854775807:Nat)∧(IR9 t)∧(IR9 f)∧((-9223372036854775808:Int)≤a∧a ≤
 (9223372036854775807:Int))∧(IR9 b)∧(IR9 c)∧True∧True→(IR9 k2)∧n2.size.le (9223372036854775807:Nat)∧(IR9 t2)∧((-9223372036854775808:Int)≤f2∧f2 ≤
 (9223372036854775807:Int))∧(IR9 a2)∧(IR9 b2)∧(IR9 c2)∧True∧True→bif Op.bytesLess n.toList n2.toList then True∧True∧True∧True∧True∧True∧bif decide ¬cmpI k k2=(0:Int) then cmpI k k2=orI (cmpI k k2) (orI (cmpS n n2) (orI (cmpI t t2)
 (orI (cmpI f f2) (orI (cmpI a a2) (orI (cmpI b b2) (orI (cmpI c c2) (rdC rd rd2))))))) else (-1:Int)=orI (cmpI k k2) (orI (cmpS n n2) (orI (cmpI t t2) (orI (cmpI f f2) (orI (cmpI a a2) (orI (cmpI b b2) (orI (cmpI c c2) (rdC rd rd2))))))) else bif !(Op.bytesLess n.toList n2.toList||decide (n=n2)) then True∧True∧True∧True∧True∧True∧bif decide ¬cmpI k k2=(0:Int) then cmpI k k2=orI (cmpI k k2) (orI
 (cmpS n n2) (orI (cmpI t t2) (orI (cmpI f f2) (orI (cmpI a a2) (orI (cmpI b b2) (orI (cmpI c c2) (rdC rd rd2))))))) else (1:Int)=orI (cmpI k k2) (orI (cmpS n n2) (orI (cmpI t t2) (orI (cmpI f f2) (orI (cmpI a a2) (orI (cmpI b b2) (orI (cmpI c c2) (rdC rd rd2))))))) else True∧True∧True∧True∧True∧True∧bif decide ¬cmpI k k2=(0:Int) then cmpI k k2=orI (cmpI k k2) (orI (cmpS n n2) (orI (cmpI t t2) (orI
 (cmpI f f2) (orI (cmpI a a2) (orI (cmpI b b2) (orI (cmpI c c2) (rdC rd rd2))))))) else bif decide ¬cmpI t t2=(0:Int) then cmpI t t2=orI (cmpI k k2) (orI (cmpS n n2) (orI (cmpI t t2) (orI (cmpI f f2) (orI (cmpI a a2) (orI (cmpI b b2) (orI (cmpI c c2) (rdC rd rd2))))))) else bif decide ¬cmpI f f2=(0:Int) then cmpI f f2=orI (cmpI k k2) (orI (cmpS n n2) (orI (cmpI t t2) (orI (cmpI f f2) (orI (cmpI a
 a2) (orI (cmpI b b2) (orI (cmpI c c2) (rdC rd rd2))))))) else bif decide ¬cmpI a a2=(0:Int) then cmpI a a2=orI (cmpI k k2) (orI (cmpS n n2) (orI (cmpI t t2) (orI (cmpI f f2) (orI (cmpI a a2) (orI (cmpI b b2) (orI (cmpI c c2) (rdC rd rd2))))))) else bif decide ¬cmpI b b2=(0:Int) then cmpI b b2=orI (cmpI k k2) (orI (cmpS n n2) (orI (cmpI t t2) (orI (cmpI f f2) (orI (cmpI a a2) (orI (cmpI b b2) (orI
 (cmpI c c2) (rdC rd rd2))))))) else bif decide ¬cmpI c c2=(0:Int) then cmpI c c2=orI (cmpI k k2) (orI (cmpS n n2) (orI (cmpI t t2) (orI (cmpI f f2) (orI (cmpI a a2) (orI (cmpI b b2) (orI (cmpI c c2) (rdC rd rd2))))))) else (∃ x,CmP rd rd2 x∧((0:Nat)=0∧(0:Nat)=0∧(0:Int)=0∧(0:Int)=x∧True)∧(k=k∧n=n∧t=t∧f=f∧a=a∧b=b∧c=c∧((bif h then h=true else
 True)∧rd=rd)∧True)∧(k2=k2∧n2=n2∧t2=t2∧f2=f2∧a2=a2∧b2=b2∧c2=c2∧((bif h2 then h2=true else True)∧rd2=rd2)∧True)∧True)∧∀ (x:Int),CmP rd rd2 x→bif decide (x < (↑rd.length:Int)) then bif decide (x < (↑rd2.length:Int)) then bif decide (0≤x∧x < (↑rd.length:Int)) then ∃ n_1,List.take [AV.int .i64 n_1].length (List.drop (0:Nat) (rd.getD x.toNat []))=[AV.int .i64 n_1]∧bif decide (0≤x∧x <
 (↑rd2.length:Int)) then ∃ n_2,List.take [AV.int .i64 n_2].length (List.drop (0:Nat) (rd2.getD x.toNat []))=[AV.int .i64 n_2]∧True∧bif decide ¬cmpI n_1 n_2=(0:Int) then cmpI n_1 n_2=orI (cmpI k k2) (orI (cmpS n n2) (orI (cmpI t t2) (orI (cmpI f f2) (orI (cmpI a a2) (orI (cmpI b b2) (orI (cmpI c c2) (rdC rd rd2))))))) else bif decide (0≤x∧x < (↑rd.length:Int)) then ∃ n_3,List.take [AV.int
 .i64 n_3].length (List.drop (1:Nat) (rd.getD x.toNat []))=[AV.int .i64 n_3]∧bif decide (0≤x∧x < (↑rd2.length:Int)) then ∃ n_4,List.take [AV.int .i64 n_4].length (List.drop (1:Nat) (rd2.getD x.toNat []))=[AV.int .i64 n_4]∧True∧bif decide ¬cmpI n_3 n_4=(0:Int) then cmpI n_3 n_4=orI (cmpI k k2) (orI (cmpS n n2) (orI (cmpI t t2) (orI (cmpI f f2) (orI (cmpI a a2) (orI (cmpI b b2) (orI (cmpI c
 c2) (rdC rd rd2))))))) else bif decide (rng .i64 (x+(1:Int))) then ∃ y,CmP rd rd2 y∧(rcI k t f a b c k2 t2 f2 a2 b2 c2 n n2 rd rd2 h h2).m y < (rcI k t f a b c k2 t2 f2 a2 b2 c2 n n2 rd rd2 h h2).m x∧((0:Nat)=0∧(0:Nat)=0∧(0:Int)=0∧x+(1:Int)=y∧True)∧(k=k∧n=n∧t=t∧f=f∧a=a∧b=b∧c=c∧((bif h then h=true else True)∧rd=rd)∧True)∧(k2=k2∧n2=n2∧t2=t2∧f2=f2∧a2=a2∧b2=b2∧c2=c2∧((bif h2 then h2=true else
 True)∧rd2=rd2)∧True)∧True else False else False else False else False else False else True∧cmpI (↑rd.length:Int) (↑rd2.length:Int)=orI (cmpI k k2) (orI (cmpS n n2) (orI (cmpI t t2) (orI (cmpI f f2) (orI (cmpI a a2) (orI (cmpI b b2) (orI (cmpI c c2) (rdC rd rd2))))))) else True∧cmpI (↑rd.length:Int) (↑rd2.length:Int)=orI (cmpI k k2) (orI (cmpS n n2) (orI (cmpI t t2) (orI (cmpI f f2) (orI (cmpI a a2)
 (orI (cmpI b b2) (orI (cmpI c c2) (rdC rd rd2)))))))
theorem rcmp_P:rcmp_T rdC cmpI cmpS:=by
 unfold rcmp_T
 intro gl k t f a b c k2 t2 f2 a2 b2 c2 n n2 rd rd2 h h2 ⟨hx,hy⟩ _ _
 have lx:=hx.sm
 have ly:=hy.sm
 have bf:cond h (h=true) True:=by cases h <;> trivial
 have bg:cond h2 (h2=true) True:=by cases h2 <;> trivial
 refine csplit (fun hl=>⟨trivial,trivial,trivial,trivial,trivial,trivial,csx (fun q=>orN q) (fun q=>?_)⟩) (fun hl=>csplit (fun hg=>⟨trivial,trivial,trivial,trivial,trivial,trivial,csx (fun q=>orN q) (fun q=>?_)⟩) (fun hg=>⟨trivial,trivial,trivial,trivial,trivial,trivial,csx (fun q=>orN q) (fun q1=>?_)⟩))
 ·rw [orZ q,show cmpS n n2=-1 by unfold cmpS; rw [if_pos hl]]; rfl
 ·rw [orZ q,show cmpS n n2=1 by
   unfold cmpS
   rw [hl]
   cases e:Op.bytesLess n2.toList n.toList with
   | true=>simp
   | false=>rw [hl,less_eq hl e] at hg; simp at hg]; rfl
 ·have hn:n=n2:=by rw [hl] at hg; simpa using hg
  have hS:cmpS n n2=0:=by rw [hn]; unfold cmpS; rw [less_rfl]; simp
  rw [orZ q1,hS,orI_0]
  refine csx (fun q=>orN q) (fun q2=>?_)
  rw [orZ q2]
  refine csx (fun q=>orN q) (fun q3=>?_)
  rw [orZ q3]
  refine csx (fun q=>orN q) (fun q4=>?_)
  rw [orZ q4]
  refine csx (fun q=>orN q) (fun q5=>?_)
  rw [orZ q5]
  refine csx (fun q=>orN q) (fun q6=>?_)
  rw [orZ q6]
  refine ⟨⟨0,⟨by decide,by omega,by omega,rfl⟩,by (repeat' (first | exact trivial | exact rfl | assumption | apply And.intro))⟩,?_⟩
  rintro i ⟨i0,i1,i2,ie⟩
  have fin:¬ (i < rd.length∧i < rd2.length)→cmpI rd.length rd2.length=rdC rd rd2:=fun hn=>by
   rw [ie]
   by_cases c1:i < rd.length
   ·obtain ⟨e,v,hr,_,_⟩:=hx.row i.toNat (by omega)
    have dy:rd2.drop i.toNat=[]:=List.drop_eq_nil_of_le (by omega)
    rw [rd_drop (by omega) hr,dy,cmp_gt (by omega)]; rfl
   ·have dx:rd.drop i.toNat=[]:=List.drop_eq_nil_of_le (by omega)
    by_cases c2:i < rd2.length
    ·obtain ⟨e,v,hr,_,_⟩:=hy.row i.toNat (by omega)
     rw [rd_drop (by omega) hr,dx,cmp_lt (by omega)]; rfl
    ·have dy:rd2.drop i.toNat=[]:=List.drop_eq_nil_of_le (by omega)
     rw [dx,dy,cmp_eq (by omega)]; rfl
  refine csx (fun hi=>csx (fun hj=>cd1 (by omega) ?_) (fun hj=>⟨trivial,fin (by omega)⟩)) (fun hi=>⟨trivial,fin (by omega)⟩)
  obtain ⟨e,v,hr,_,_⟩:=hx.row i.toNat (by omega)
  obtain ⟨e2,v2,hr2,_,_⟩:=hy.row i.toNat (by omega)
  have st:rdC rd rd2=orI (cmpI e e2) (orI (cmpI v v2) (rdC (rd.drop (i.toNat+1)) (rd2.drop (i.toNat+1)))):=by rw [ie,rd_drop (by omega) hr,rd_drop (by omega) hr2]; rfl
  rw [st]
  refine ⟨e,by rw [hr]; rfl,cd1 (by omega) ⟨e2,by rw [hr2]; rfl,trivial,csx (fun q=>orN q) (fun q7=>cd1 (by omega) ⟨v,by rw [hr]; rfl,cd1 (by omega) ⟨v2,by rw [hr2]; rfl,trivial,?_⟩⟩)⟩⟩
  rw [orZ q7]
  refine csx (fun q=>orN q) (fun q8=>cdI (by omega) ⟨i+1,⟨by omega,by omega,by omega,?_⟩,by simp only [rcI]; omega,by (repeat' (first | exact trivial | exact rfl | assumption | apply And.intro))⟩)
  rw [st,orZ q7,orZ q8,show (i+1).toNat=i.toNat+1 by omega]
def rcmp_S (rdC:LLA→LLA→Int) (cmpI:Int→Int→Int) (cmpS:ByteArray→ByteArray→Int):Prop:=∀ (gl:Glob) (k t f a b c k2 t2 f2 a2 b2 c2:Int) (n n2:ByteArray) (rd rd2:List (List AV)) (h h2:Bool),RdsP rd∧RdsP rd2→fnK Tryz.prog { glob:=gl,spec:=lk [(77,(rsign_s cmpI))],specH:=lk [],shape:=[89,95,105,111],nowf:=true } { nt:=123,drop:=drp [(2,30720),(4,983040),(6,1152921504604749824),(8,55340232221128654848),(9,73786976294838206464),(10,295147905179352825856),(11,590295810358705651712),(13,2416671047608540938108928),(14,14507109835375550096474112),(15,158436982215414841120292601856),(16,158456325028528675187087900672),(17,633825300114114700748351602688),(18,10383326066469427027659495955234816),(19,10384593717069655257060992658440192),(20,41538374868278621028243970633760768),(21,10550747216542769741173968540975235072)] } (invs [(13,rcI k t f a b c k2 t2 f2 a2 b2 c2 n n2 rd rd2 h h2)]) 9 Tryz.f57 [.agg [.int .i64 k,.str n,.int .i64 t,.int .i64 f,.int .i64 a,.int .i64 b,.int .i64 c,.sl 2 h rd],.agg [.int .i64 k2,.str n2,.int .i64 t2,.int .i64 f2,.int .i64 a2,.int .i64 b2,.int .i64 c2,.sl 2 h2 rd2]] (.int .i64 (orI (cmpI k k2) (orI (cmpS n n2) (orI (cmpI t t2) (orI (cmpI f f2) (orI (cmpI a a2) (orI (cmpI b b2) (orI (cmpI c c2) (rdC rd rd2)))))))))
theorem rcmp_e (rdC:LLA→LLA→Int) (cmpI:Int→Int→Int) (cmpS:ByteArray→ByteArray→Int):rcmp_T rdC cmpI cmpS=rcmp_S rdC cmpI cmpS:=by kernel_rfl
theorem rcmp_v:rcmp_S rdC cmpI cmpS:=Eq.mp (rcmp_e ..) (rcmp_P)
theorem rcmp_ok (gl:Glob):SOK Tryz.prog gl 57 (rcmp_s rdC cmpI cmpS):=by
 refine ⟨fok Tryz.func57 (by kernel_rfl) (by kernel_rfl),?_⟩
 intro xs pre r h hp
 unfold rcmp_s at h
 split at h
 ·simp only [Option.some.injEq,Prod.mk.injEq] at h
  obtain ⟨h1,h2⟩:=h
  subst h1 h2
  exact fnK_sound tyNil (by exact specOK rfl rfl ⟨(rsign_ok gl),trivial⟩ trivial) (by kernel_rfl) Tryz.func57 rfl (rcmp_v gl _ _ _ _ _ _ _ _ _ _ _ _ _ _ _ _ _ _ hp)
 ·cases h
theorem or_dup (A B C D E F:Int):orI A (orI B (orI C (orI D (orI E (orI A (orI B (orI C F)))))))=orI A (orI B (orI C (orI D (orI E F)))):=by
 unfold orI
 by_cases hA:A=0 <;> by_cases hB:B=0 <;> by_cases hC:C=0 <;> simp [hA,hB,hC]
theorem it_eq (k t f a b c co ar k2 t2 f2 a2 b2 c2 co2 ar2:Int) (n n2:ByteArray) (rd rd2:LLA):itC (itA k n t f a b c rd co ar) (itA k2 n2 t2 f2 a2 b2 c2 rd2 co2 ar2) =
  orI (cmpI k k2) (orI (cmpS n n2) (orI (cmpI t t2) (orI (cmpI co co2) (orI (cmpI ar ar2) (orI (cmpI f f2) (orI (cmpI a a2) (orI (cmpI b b2) (orI (cmpI c c2) (rdC rd rd2))))))))):=by
 simp only [itC,itK,itA,lex_cons,lex_nm]
 rfl
theorem su_eq (k t k2 t2:Int) (n n2:ByteArray) (X:Int):orI (suC k n t k2 n2 t2) X=orI (cmpI k k2) (orI (cmpS n n2) (orI (cmpI t t2) X)):=by
 unfold suC; rw [orI_assoc,orI_assoc]
theorem ky_eq (k t k2 t2:Int) (n n2:ByteArray):orI (cmpI k k2) (orI (cmpS n n2) (orI (cmpI t t2) (orI (cmpI 0 0) (orI (cmpI 0 0) (orI (cmpI 0 0) (orI (cmpI 0 0) (rdC [] [])))))))=suC k n t k2 n2 t2:=by
 rw [show cmpI 0 0=0 from rfl,orI_0,orI_0,orI_0,orI_0,show rdC [] []=0 from rfl,orI_z]; rfl
def subj_s (cmpI:Int→Int→Int) (orL:List (List AV)→Int) (cmpS:ByteArray→ByteArray→Int) (suC:Int→ByteArray→Int→Int→ByteArray→Int→Int):Sp
 | [.agg [.int .i64 k,.str n,.int .i64 t,.int .i64 f,.int .i64 a,.int .i64 b,.int .i64 c,.sl 2 h rd],.agg [.int .i64 k2,.str n2,.int .i64 t2,.int .i64 f2,.int .i64 a2,.int .i64 b2,.int .i64 c2,.sl 2 h2 rd2]]=>some (True,.int .i64 (suC k n t k2 n2 t2))
 | _=>none
def subj_T (cmpI:Int→Int→Int) (orL:List (List AV)→Int) (cmpS:ByteArray→ByteArray→Int) (suC:Int→ByteArray→Int→Int→ByteArray→Int→Int):Prop :=
  ∀ (gl:Glob) (k t f a b c k2 t2 f2 a2 b2 c2:Int) (n n2:ByteArray) (rd rd2:List (List AV)) (h h2:Bool),(IR9 k)∧n.size.le (9223372036854775807:Nat)∧(IR9 t)∧(IR9 f)∧((-9223372036854775808:Int)≤a∧a ≤
 (9223372036854775807:Int))∧(IR9 b)∧(IR9 c)∧True∧True→(IR9 k2)∧n2.size.le (9223372036854775807:Nat)∧(IR9 t2)∧((-9223372036854775808:Int)≤f2∧f2 ≤
 (9223372036854775807:Int))∧(IR9 a2)∧(IR9 b2)∧(IR9 c2)∧True∧True→True∧True∧True∧OrI [[AV.int .i64 (cmpI k k2)],[AV.int .i64 (cmpS n n2)],[AV.int .i64 (cmpI t t2)]] (3:Nat)∧orL [[AV.int .i64 (cmpI k k2)],[AV.int .i64 (cmpS n
 n2)],[AV.int .i64 (cmpI t t2)]]=suC k n t k2 n2 t2
theorem subj_P:subj_T cmpI orL cmpS suC:=by
 unfold subj_T
 intro gl k t f a b c k2 t2 f2 a2 b2 c2 n n2 rd rd2 h h2 _ _
 refine ⟨trivial,trivial,trivial,orI_ok [cmpI k k2,cmpS n n2,cmpI t t2] (by simp),?_⟩
 simp only [orL,cellI,orI_z]; rfl
def subj_S (cmpI:Int→Int→Int) (orL:List (List AV)→Int) (cmpS:ByteArray→ByteArray→Int) (suC:Int→ByteArray→Int→Int→ByteArray→Int→Int):Prop:=∀ (gl:Glob) (k t f a b c k2 t2 f2 a2 b2 c2:Int) (n n2:ByteArray) (rd rd2:List (List AV)) (h h2:Bool),fnK Tryz.prog { glob:=gl,spec:=lk [(53,(fcmpI_s cmpI)),(63,(fcmpS_s cmpS))],specH:=lk [(52,(for__s orL))],nowf:=true } { nt:=22,drop:=drp [(1,4194272)] } (fun _ _=>none) 6 Tryz.f44 [.agg [.int .i64 k,.str n,.int .i64 t,.int .i64 f,.int .i64 a,.int .i64 b,.int .i64 c,.sl 2 h rd],.agg [.int .i64 k2,.str n2,.int .i64 t2,.int .i64 f2,.int .i64 a2,.int .i64 b2,.int .i64 c2,.sl 2 h2 rd2]] (.int .i64 (suC k n t k2 n2 t2))
theorem subj_e (cmpI:Int→Int→Int) (orL:List (List AV)→Int) (cmpS:ByteArray→ByteArray→Int) (suC:Int→ByteArray→Int→Int→ByteArray→Int→Int):subj_T cmpI orL cmpS suC=subj_S cmpI orL cmpS suC:=by kernel_rfl
theorem subj_v:subj_S cmpI orL cmpS suC:=Eq.mp (subj_e ..) (subj_P)
theorem subj_ok (gl:Glob):SOK Tryz.prog gl 44 (subj_s cmpI orL cmpS suC):=by
 refine ⟨fok Tryz.func44 (by kernel_rfl) (by kernel_rfl),?_⟩
 intro xs pre r h hp
 unfold subj_s at h
 split at h
 ·simp only [Option.some.injEq,Prod.mk.injEq] at h
  obtain ⟨h1,h2⟩:=h
  subst h1 h2
  exact fnK_sound tyNil (by exact specOK rfl rfl ⟨(fcmpI_ok gl),(fcmpS_ok gl),trivial⟩ ⟨(for__ok gl),trivial⟩) (by kernel_rfl) Tryz.func44 rfl (subj_v gl _ _ _ _ _ _ _ _ _ _ _ _ _ _ _ _ _ _)
 ·cases h
def icmp_s (rdC:LLA→LLA→Int) (cmpI:Int→Int→Int) (orL:List (List AV)→Int) (cmpS:ByteArray→ByteArray→Int) (suC:Int→ByteArray→Int→Int→ByteArray→Int→Int) (itC:List AV→List AV→Int):Sp
 | [.agg [.int .i64 k,.str n,.int .i64 t,.int .i64 f,.int .i64 a,.int .i64 b,.int .i64 c,.sl 2 h rd,.int .i64 co,.int .i64 ar],.agg [.int .i64 k2,.str n2,.int .i64 t2,.int .i64 f2,.int .i64 a2,.int .i64 b2,.int .i64 c2,.sl 2 h2 rd2,.int .i64 co2,.int .i64 ar2]]=>some (RdsP rd∧RdsP rd2,.int .i64 (itC (itA k n t f a b c rd co ar) (itA k2 n2 t2 f2 a2 b2 c2 rd2 co2 ar2)))
 | _=>none
def icmp_T (rdC:LLA→LLA→Int) (cmpI:Int→Int→Int) (orL:List (List AV)→Int) (cmpS:ByteArray→ByteArray→Int) (suC:Int→ByteArray→Int→Int→ByteArray→Int→Int) (itC:List AV→List AV→Int):Prop :=
  ∀ (gl:Glob) (k t f a b c co ar k2 t2 f2 a2 b2 c2 co2 ar2:Int) (n n2:ByteArray) (rd rd2:List (List AV)) (h h2:Bool),RdsP rd∧RdsP rd2→(IR9 k)∧n.size.le (9223372036854775807:Nat)∧(IR9 t)∧(IR9 f)∧((-9223372036854775808:Int)≤a∧a ≤
 (9223372036854775807:Int))∧(IR9 b)∧(IR9 c)∧True∧(IR9 co)∧(IR9 ar)∧True→(IR9 k2)∧n2.size.le
 (9223372036854775807:Nat)∧(IR9 t2)∧(IR9 f2)∧(IR9 a2)∧(IR9 b2)∧(IR9 c2)∧True∧((-9223372036854775808:Int)≤co2∧co2 ≤
 (9223372036854775807:Int))∧(IR9 ar2)∧True→True∧True∧True∧(RdsP rd∧RdsP rd2)∧OrI [[AV.int .i64 (suC k n t k2 n2 t2)],[AV.int .i64 (cmpI co co2)],[AV.int .i64 (cmpI ar ar2)],[AV.int .i64 (orI (cmpI k k2) (orI (cmpS n n2) (orI (cmpI t t2) (orI (cmpI f f2) (orI (cmpI a a2) (orI (cmpI b b2) (orI (cmpI c c2) (rdC rd rd2))))))))]] (4:Nat)∧orL
 [[AV.int .i64 (suC k n t k2 n2 t2)],[AV.int .i64 (cmpI co co2)],[AV.int .i64 (cmpI ar ar2)],[AV.int .i64 (orI (cmpI k k2) (orI (cmpS n n2) (orI (cmpI t t2) (orI (cmpI f f2) (orI (cmpI a a2) (orI (cmpI b b2) (orI (cmpI c c2) (rdC rd rd2))))))))]]=itC (itA k n t f a b c rd co ar) (itA k2 n2 t2 f2 a2 b2 c2 rd2 co2 ar2)
theorem icmp_P:icmp_T rdC cmpI orL cmpS suC itC:=by
 unfold icmp_T
 intro gl k t f a b c co ar k2 t2 f2 a2 b2 c2 co2 ar2 n n2 rd rd2 h h2 hp _ _
 refine ⟨trivial,trivial,trivial,hp,orI_ok [suC k n t k2 n2 t2,cmpI co co2,cmpI ar ar2,_] (by simp),?_⟩
 simp only [orL,cellI,orI_z]
 rw [it_eq,su_eq,or_dup]
def icmp_S (rdC:LLA→LLA→Int) (cmpI:Int→Int→Int) (orL:List (List AV)→Int) (cmpS:ByteArray→ByteArray→Int) (suC:Int→ByteArray→Int→Int→ByteArray→Int→Int) (itC:List AV→List AV→Int):Prop:=∀ (gl:Glob) (k t f a b c co ar k2 t2 f2 a2 b2 c2 co2 ar2:Int) (n n2:ByteArray) (rd rd2:List (List AV)) (h h2:Bool),RdsP rd∧RdsP rd2→fnK Tryz.prog { glob:=gl,spec:=lk [(44,(subj_s cmpI orL cmpS suC)),(53,(fcmpI_s cmpI)),(54,(gcmp_s rdC cmpI orL cmpS))],specH:=lk [(52,(for__s orL))],nowf:=true } { nt:=27,drop:=drp [(1,134217696)] } (fun _ _=>none) 6 Tryz.f35 [.agg [.int .i64 k,.str n,.int .i64 t,.int .i64 f,.int .i64 a,.int .i64 b,.int .i64 c,.sl 2 h rd,.int .i64 co,.int .i64 ar],.agg [.int .i64 k2,.str n2,.int .i64 t2,.int .i64 f2,.int .i64 a2,.int .i64 b2,.int .i64 c2,.sl 2 h2 rd2,.int .i64 co2,.int .i64 ar2]] (.int .i64 (itC (itA k n t f a b c rd co ar) (itA k2 n2 t2 f2 a2 b2 c2 rd2 co2 ar2)))
theorem icmp_e (rdC:LLA→LLA→Int) (cmpI:Int→Int→Int) (orL:List (List AV)→Int) (cmpS:ByteArray→ByteArray→Int) (suC:Int→ByteArray→Int→Int→ByteArray→Int→Int) (itC:List AV→List AV→Int):icmp_T rdC cmpI orL cmpS suC itC=icmp_S rdC cmpI orL cmpS suC itC:=by kernel_rfl
theorem icmp_v:icmp_S rdC cmpI orL cmpS suC itC:=Eq.mp (icmp_e ..) (icmp_P)
theorem icmp_ok (gl:Glob):SOK Tryz.prog gl 35 (icmp_s rdC cmpI orL cmpS suC itC):=by
 refine ⟨fok Tryz.func35 (by kernel_rfl) (by kernel_rfl),?_⟩
 intro xs pre r h hp
 unfold icmp_s at h
 split at h
 ·simp only [Option.some.injEq,Prod.mk.injEq] at h
  obtain ⟨h1,h2⟩:=h
  subst h1 h2
  exact fnK_sound tyNil (by exact specOK rfl rfl ⟨(subj_ok gl),(fcmpI_ok gl),(gcmp_ok gl),trivial⟩ ⟨(for__ok gl),trivial⟩) (by kernel_rfl) Tryz.func35 rfl (icmp_v gl _ _ _ _ _ _ _ _ _ _ _ _ _ _ _ _ _ _ _ _ _ _ hp)
 ·cases h
def rkey_s:Sp
 | [.agg [.int .i64 k,.str n,.int .i64 t,.int .i64 f,.int .i64 a,.int .i64 b,.int .i64 c,.sl 2 h rd]]=>some (True,.agg [.int .i64 k,.str n,.int .i64 t,.int .i64 0,.int .i64 0,.int .i64 0,.int .i64 0,.sl 2 false []])
 | _=>none
def rkey_T:Prop :=
  ∀ (gl:Glob) (k t f a b c:Int) (n:ByteArray) (rd:List (List AV)) (h:Bool),(IR9 k)∧n.size.le (9223372036854775807:Nat)∧(IR9 t)∧(IR9 f)∧(IR9 a)∧((-9223372036854775808:Int) ≤
 b∧b≤(9223372036854775807:Int))∧(IR9 c)∧True∧True→k=k∧n=n∧t=t∧(0:Int)=0∧(0:Int)=0∧(0:Int)=0∧(0:Int)=0∧(True∧([]:List (List AV))=[])∧True
theorem rkey_P:rkey_T:=by
 unfold rkey_T
 intros
 (repeat' (first | exact trivial | exact rfl | assumption | apply And.intro))
def rkey_S:Prop:=∀ (gl:Glob) (k t f a b c:Int) (n:ByteArray) (rd:List (List AV)) (h:Bool),fnK Tryz.prog { glob:=gl,spec:=lk [],specH:=lk [],nowf:=true,nls:=[(27,7,2)] } { nt:=10,drop:=drp [(1,1016)] } (fun _ _=>none) 6 Tryz.f46 [.agg [.int .i64 k,.str n,.int .i64 t,.int .i64 f,.int .i64 a,.int .i64 b,.int .i64 c,.sl 2 h rd]] (.agg [.int .i64 k,.str n,.int .i64 t,.int .i64 0,.int .i64 0,.int .i64 0,.int .i64 0,.sl 2 false []])
theorem rkey_e:rkey_T=rkey_S:=by kernel_rfl
theorem rkey_v:rkey_S:=Eq.mp (rkey_e ..) (rkey_P)
theorem rkey_ok (gl:Glob):SOK Tryz.prog gl 46 rkey_s:=by
 refine ⟨fok Tryz.func46 (by kernel_rfl) (by kernel_rfl),?_⟩
 intro xs pre r h hp
 unfold rkey_s at h
 split at h
 ·simp only [Option.some.injEq,Prod.mk.injEq] at h
  obtain ⟨h1,h2⟩:=h
  subst h1 h2
  exact fnK_sound tyNil (by exact specOK rfl rfl trivial trivial) (by kernel_rfl) Tryz.func46 rfl (rkey_v gl _ _ _ _ _ _ _ _ _)
 ·cases h
def ricmp_s (rdC:LLA→LLA→Int) (cmpI:Int→Int→Int) (cmpS:ByteArray→ByteArray→Int) (itC:List AV→List AV→Int):Sp
 | [.agg [.int .i64 k,.str n,.int .i64 t,.int .i64 f,.int .i64 a,.int .i64 b,.int .i64 c,.sl 2 h rd,.int .i64 co,.int .i64 ar],.agg [.int .i64 k2,.str n2,.int .i64 t2,.int .i64 f2,.int .i64 a2,.int .i64 b2,.int .i64 c2,.sl 2 h2 rd2,.int .i64 co2,.int .i64 ar2]]=>some (RdsP rd∧RdsP rd2,.int .i64 (itC (itA k n t f a b c rd co ar) (itA k2 n2 t2 f2 a2 b2 c2 rd2 co2 ar2)))
 | _=>none
def ricmp_T (rdC:LLA→LLA→Int) (cmpI:Int→Int→Int) (cmpS:ByteArray→ByteArray→Int) (itC:List AV→List AV→Int):Prop :=
  ∀ (gl:Glob) (k t f a b c co ar k2 t2 f2 a2 b2 c2 co2 ar2:Int) (n n2:ByteArray) (rd rd2:List (List AV)) (h h2:Bool),RdsP rd∧RdsP rd2→(IR9 k)∧n.size.le (9223372036854775807:Nat)∧(IR9 t)∧(IR9 f)∧((-9223372036854775808:Int)≤a∧a ≤
 (9223372036854775807:Int))∧(IR9 b)∧(IR9 c)∧True∧(IR9 co)∧(IR9 ar)∧True→(IR9 k2)∧n2.size.le
 (9223372036854775807:Nat)∧(IR9 t2)∧(IR9 f2)∧(IR9 a2)∧(IR9 b2)∧(IR9 c2)∧True∧((-9223372036854775808:Int)≤co2∧co2 ≤
 (9223372036854775807:Int))∧(IR9 ar2)∧True→True∧True∧(RdsP []∧RdsP [])∧True∧True∧bif decide ¬orI (cmpI k k2) (orI (cmpS n n2) (orI (cmpI t t2) (orI (cmpI (0:Int) (0:Int)) (orI (cmpI (0:Int) (0:Int)) (orI (cmpI (0:Int) (0:Int)) (orI (cmpI (0:Int) (0:Int)) (rdC [] [])))))))=(0:Int) then orI (cmpI k k2) (orI (cmpS n n2) (orI (cmpI t t2) (orI
 (cmpI (0:Int) (0:Int)) (orI (cmpI (0:Int) (0:Int)) (orI (cmpI (0:Int) (0:Int)) (orI (cmpI (0:Int) (0:Int)) (rdC [] [])))))))=itC (itA k n t f a b c rd co ar) (itA k2 n2 t2 f2 a2 b2 c2 rd2 co2 ar2) else bif decide ¬cmpI co co2=(0:Int) then cmpI co co2=itC (itA k n t f a b c rd co ar) (itA k2 n2 t2 f2 a2 b2 c2 rd2 co2 ar2) else bif decide ¬cmpI ar ar2=(0:Int) then cmpI ar ar2=itC (itA k n t f a b c
 rd co ar) (itA k2 n2 t2 f2 a2 b2 c2 rd2 co2 ar2) else (RdsP rd∧RdsP rd2)∧orI (cmpI k k2) (orI (cmpS n n2) (orI (cmpI t t2) (orI (cmpI f f2) (orI (cmpI a a2) (orI (cmpI b b2) (orI (cmpI c c2) (rdC rd rd2)))))))=itC (itA k n t f a b c rd co ar) (itA k2 n2 t2 f2 a2 b2 c2 rd2 co2 ar2)
theorem ricmp_P:ricmp_T rdC cmpI cmpS itC:=by
 unfold ricmp_T
 intro gl k t f a b c co ar k2 t2 f2 a2 b2 c2 co2 ar2 n n2 rd rd2 h h2 hp _ _
 have z:RdsP []:=⟨fun i hi=>by simp at hi,by simp⟩
 rw [ky_eq,it_eq,← su_eq]
 refine ⟨trivial,trivial,⟨z,z⟩,trivial,trivial,csx (fun q=>orN q) (fun q=>?_)⟩
 rw [orZ q]
 refine csx (fun q=>orN q) (fun q2=>?_)
 rw [orZ q2]
 refine csx (fun q=>orN q) (fun q3=>⟨hp,?_⟩)
 rw [orZ q3,← su_eq,orZ q]
def ricmp_S (rdC:LLA→LLA→Int) (cmpI:Int→Int→Int) (cmpS:ByteArray→ByteArray→Int) (itC:List AV→List AV→Int):Prop:=∀ (gl:Glob) (k t f a b c co ar k2 t2 f2 a2 b2 c2 co2 ar2:Int) (n n2:ByteArray) (rd rd2:List (List AV)) (h h2:Bool),RdsP rd∧RdsP rd2→fnK Tryz.prog { glob:=gl,spec:=lk [(46,rkey_s),(58,(isign_s cmpI)),(57,(rcmp_s rdC cmpI cmpS))],specH:=lk [],nowf:=true } { nt:=39,drop:=drp [(1,16777088),(3,805306368),(4,1073741824),(5,4294967296),(6,8589934592),(7,532575944704)] } (fun _ _=>none) 6 Tryz.f37 [.agg [.int .i64 k,.str n,.int .i64 t,.int .i64 f,.int .i64 a,.int .i64 b,.int .i64 c,.sl 2 h rd,.int .i64 co,.int .i64 ar],.agg [.int .i64 k2,.str n2,.int .i64 t2,.int .i64 f2,.int .i64 a2,.int .i64 b2,.int .i64 c2,.sl 2 h2 rd2,.int .i64 co2,.int .i64 ar2]] (.int .i64 (itC (itA k n t f a b c rd co ar) (itA k2 n2 t2 f2 a2 b2 c2 rd2 co2 ar2)))
theorem ricmp_e (rdC:LLA→LLA→Int) (cmpI:Int→Int→Int) (cmpS:ByteArray→ByteArray→Int) (itC:List AV→List AV→Int):ricmp_T rdC cmpI cmpS itC=ricmp_S rdC cmpI cmpS itC:=by kernel_rfl
theorem ricmp_v:ricmp_S rdC cmpI cmpS itC:=Eq.mp (ricmp_e ..) (ricmp_P)
theorem ricmp_ok (gl:Glob):SOK Tryz.prog gl 37 (ricmp_s rdC cmpI cmpS itC):=by
 refine ⟨fok Tryz.func37 (by kernel_rfl) (by kernel_rfl),?_⟩
 intro xs pre r h hp
 unfold ricmp_s at h
 split at h
 ·simp only [Option.some.injEq,Prod.mk.injEq] at h
  obtain ⟨h1,h2⟩:=h
  subst h1 h2
  exact fnK_sound tyNil (by exact specOK rfl rfl ⟨(rkey_ok gl),(isign_ok gl),(rcmp_ok gl),trivial⟩ trivial) (by kernel_rfl) Tryz.func37 rfl (ricmp_v gl _ _ _ _ _ _ _ _ _ _ _ _ _ _ _ _ _ _ _ _ _ _ hp)
 ·cases h
end Go.Proofs.YtgnnafneglannaaGreatDoor
namespace Go.Proofs.YtgnnafneglannaaGreatDoor
open Go
set_option linter.unusedVariables false
set_option linter.unusedSimpArgs false
structure ItsP (l:LLA):Prop where
 fr:∀ i,i < l.length→∃ (k:Int) (nm:ByteArray) (t f a b c:Int) (rd:LLA) (co ar:Int),l.getD i []=itA k nm t f a b c rd co ar∧RdsP rd
 fl:l.length≤9223372036854775807
def itE (k:Int) (n:ByteArray) (t f a b c:Int) (rd:LLA) (co ar:Int):Int:=if gpE k n t f a b c rd=0 then (if co < 0∨26 < co∨ar < 0∨52595999 < ar then 1 else 0) else gpE k n t f a b c rd
def ckR (r:List AV):Int:=match r with
 | [.int _ k,.str n,.int _ t,.int _ f,.int _ a,.int _ b,.int _ c,.sl _ _ rd,.int _ co,.int _ ar]=>itE k n t f a b c rd co ar
 | _=>0
def icheck_s (gpE:Int→ByteArray→Int→Int→Int→Int→Int→LLA→Int) (itE:Int→ByteArray→Int→Int→Int→Int→Int→LLA→Int→Int→Int):Sp
 | [.agg [.int .i64 k,.str n,.int .i64 t,.int .i64 f,.int .i64 a,.int .i64 b,.int .i64 c,.sl 2 h rd,.int .i64 co,.int .i64 ar]]=>some (RdsP rd,.int .i64 (itE k n t f a b c rd co ar))
 | _=>none
def icheck_T (gpE:Int→ByteArray→Int→Int→Int→Int→Int→LLA→Int) (itE:Int→ByteArray→Int→Int→Int→Int→Int→LLA→Int→Int→Int) (inB:Int→Bool) (locB:Int→Int→Int→Int→Int→Bool) (nmOk:ByteArray→Bool) (vdE:LLA→Int):Prop :=
  ∀ (k t f a b c co ar:Int) (n:ByteArray) (rd:List (List AV)) (h:Bool),RdsP rd→(IR9 k)∧n.size.le (9223372036854775807:Nat)∧(IR9 t)∧(IR9 f)∧(IR9 a)∧((-9223372036854775808:Int) ≤
 b∧b≤(9223372036854775807:Int))∧(IR9 c)∧True∧(IR9 co)∧(IR9 ar)∧True→RdsP rd∧bif decide ¬gpE k n t f a b c rd=(0:Int) then gpE k n t f a b c rd=itE k n t f a b c rd co ar else bif decide (co < (0:Int)) then (1:Int)=itE k n t f a b c
 rd co ar else bif decide (26 < co) then (1:Int)=itE k n t f a b c rd co ar else bif decide (ar < (0:Int)) then (1:Int)=itE k n t f a b c rd co ar else bif decide (52595999 < ar) then (1:Int)=itE k n t f a b c rd co ar else (0:Int)=itE k n t f a b c rd co ar
theorem icheck_P:icheck_T gpE itE inB locB nmOk vdE:=by
 unfold icheck_T
 intro k t f a b c co ar n rd h hr _
 unfold itE
 refine ⟨hr,csx (fun q=>by rw [if_neg q]) (fun q=>?_)⟩
 rw [if_pos (Decidable.not_not.1 q)]
 refine csx (fun q1=>by rw [if_pos (.inl q1)]) (fun q1=>csx (fun q2=>by rw [if_pos (.inr (.inl q2))]) (fun q2=>csx (fun q3=>by rw [if_pos (.inr (.inr (.inl q3)))]) (fun q3=>csx (fun q4=>by rw [if_pos (.inr (.inr (.inr q4)))]) (fun q4=>by rw [if_neg (by omega)]))))
def icheck_S (gpE:Int→ByteArray→Int→Int→Int→Int→Int→LLA→Int) (itE:Int→ByteArray→Int→Int→Int→Int→Int→LLA→Int→Int→Int) (inB:Int→Bool) (locB:Int→Int→Int→Int→Int→Bool) (nmOk:ByteArray→Bool) (vdE:LLA→Int):Prop:=∀ (k t f a b c co ar:Int) (n:ByteArray) (rd:List (List AV)) (h:Bool),RdsP rd→fnK Tryz.prog { glob:=glb,spec:=lk [(51,(gval_s gpE inB locB nmOk vdE))],specH:=lk [],nowf:=true } { nt:=28,drop:=drp [(1,112),(2,128),(3,512),(4,134216704)] } (fun _ _=>none) 6 Tryz.f34 [.agg [.int .i64 k,.str n,.int .i64 t,.int .i64 f,.int .i64 a,.int .i64 b,.int .i64 c,.sl 2 h rd,.int .i64 co,.int .i64 ar]] (.int .i64 (itE k n t f a b c rd co ar))
theorem icheck_e (gpE:Int→ByteArray→Int→Int→Int→Int→Int→LLA→Int) (itE:Int→ByteArray→Int→Int→Int→Int→Int→LLA→Int→Int→Int) (inB:Int→Bool) (locB:Int→Int→Int→Int→Int→Bool) (nmOk:ByteArray→Bool) (vdE:LLA→Int):icheck_T gpE itE inB locB nmOk vdE=icheck_S gpE itE inB locB nmOk vdE:=by kernel_rfl
theorem icheck_v:icheck_S gpE itE inB locB nmOk vdE:=Eq.mp (icheck_e ..) (icheck_P)
theorem icheck_ok:SOK Tryz.prog glb 34 (icheck_s gpE itE):=by
 refine ⟨fok Tryz.func34 (by kernel_rfl) (by kernel_rfl),?_⟩
 intro xs pre r h hp
 unfold icheck_s at h
 split at h
 ·simp only [Option.some.injEq,Prod.mk.injEq] at h
  obtain ⟨h1,h2⟩:=h
  subst h1 h2
  exact fnK_sound tyNil (by exact specOK rfl rfl ⟨(gval_ok),trivial⟩ trivial) (by kernel_rfl) Tryz.func34 rfl (icheck_v  _ _ _ _ _ _ _ _ _ _ _ hp)
 ·cases h
def ritem_s (gpE:Int→ByteArray→Int→Int→Int→Int→Int→LLA→Int) (itE:Int→ByteArray→Int→Int→Int→Int→Int→LLA→Int→Int→Int) (inB:Int→Bool):Sp
 | [.agg [.int .i64 k,.str n,.int .i64 t,.int .i64 f,.int .i64 a,.int .i64 b,.int .i64 c,.sl 2 h rd,.int .i64 co,.int .i64 ar]]=>some (RdsP rd,.int .i64 (itE k n t f a b c rd co ar))
 | _=>none
def ritem_T (gpE:Int→ByteArray→Int→Int→Int→Int→Int→LLA→Int) (itE:Int→ByteArray→Int→Int→Int→Int→Int→LLA→Int→Int→Int) (inB:Int→Bool) (isN:Int→Int→Int→Int→Bool) (nmOk:ByteArray→Bool) (vdE:LLA→Int) (nrm:Int→Int→Int→Int→Int × Int × Int × Int) (vld:Int→Int→Int→Int→Bool):Prop :=
  ∀ (gl:Glob) (k t f a b c co ar:Int) (n:ByteArray) (rd:List (List AV)) (h:Bool),RdsP rd→(IR9 k)∧n.size.le (9223372036854775807:Nat)∧(IR9 t)∧(IR9 f)∧((-9223372036854775808:Int)≤a∧a ≤
 (9223372036854775807:Int))∧(IR9 b)∧(IR9 c)∧True∧(IR9 co)∧(IR9 ar)∧True→RdsP rd∧bif decide ¬gpE k n t f a b c rd=(0:Int) then gpE k n t f a b c rd=itE k n t f a b c rd co ar else
 bif decide (co < (0:Int)) then (1:Int)=itE k n t f a b c rd co ar else bif decide (26 < co) then (1:Int)=itE k n t f a b c rd co ar else True∧bif !inB ar then (1:Int)=itE k n t f a b c rd co ar else (0:Int)=itE k n t f a b c rd co ar
theorem ritem_P:ritem_T gpE itE inB isN nmOk vdE nrm vld:=by
 unfold ritem_T
 intro gl k t f a b c co ar n rd h hr _
 unfold itE
 refine ⟨hr,csx (fun q=>by rw [if_neg q]) (fun q=>?_)⟩
 rw [if_pos (Decidable.not_not.1 q)]
 refine csx (fun q1=>by rw [if_pos (.inl q1)]) (fun q1=>csx (fun q2=>by rw [if_pos (.inr (.inl q2))]) (fun q2=>⟨trivial,csplit (fun q3=>?_) (fun q3=>?_)⟩))
 ·unfold inB at q3; rw [if_pos (by simp at q3; omega)]
 ·unfold inB at q3; rw [if_neg (by simp at q3; omega)]
def ritem_S (gpE:Int→ByteArray→Int→Int→Int→Int→Int→LLA→Int) (itE:Int→ByteArray→Int→Int→Int→Int→Int→LLA→Int→Int→Int) (inB:Int→Bool) (isN:Int→Int→Int→Int→Bool) (nmOk:ByteArray→Bool) (vdE:LLA→Int) (nrm:Int→Int→Int→Int→Int × Int × Int × Int) (vld:Int→Int→Int→Int→Bool):Prop:=∀ (gl:Glob) (k t f a b c co ar:Int) (n:ByteArray) (rd:List (List AV)) (h:Bool),RdsP rd→fnK Tryz.prog { glob:=gl,spec:=lk [(55,(rval_s gpE inB isN nmOk vdE nrm vld)),(56,(rIn_s inB))],specH:=lk [],nowf:=true } { nt:=24,drop:=drp [(1,112),(2,128),(3,512),(4,8387584)] } (fun _ _=>none) 6 Tryz.f36 [.agg [.int .i64 k,.str n,.int .i64 t,.int .i64 f,.int .i64 a,.int .i64 b,.int .i64 c,.sl 2 h rd,.int .i64 co,.int .i64 ar]] (.int .i64 (itE k n t f a b c rd co ar))
theorem ritem_e (gpE:Int→ByteArray→Int→Int→Int→Int→Int→LLA→Int) (itE:Int→ByteArray→Int→Int→Int→Int→Int→LLA→Int→Int→Int) (inB:Int→Bool) (isN:Int→Int→Int→Int→Bool) (nmOk:ByteArray→Bool) (vdE:LLA→Int) (nrm:Int→Int→Int→Int→Int × Int × Int × Int) (vld:Int→Int→Int→Int→Bool):ritem_T gpE itE inB isN nmOk vdE nrm vld=ritem_S gpE itE inB isN nmOk vdE nrm vld:=by kernel_rfl
theorem ritem_v:ritem_S gpE itE inB isN nmOk vdE nrm vld:=Eq.mp (ritem_e ..) (ritem_P)
theorem ritem_ok (gl:Glob):SOK Tryz.prog gl 36 (ritem_s gpE itE inB):=by
 refine ⟨fok Tryz.func36 (by kernel_rfl) (by kernel_rfl),?_⟩
 intro xs pre r h hp
 unfold ritem_s at h
 split at h
 ·simp only [Option.some.injEq,Prod.mk.injEq] at h
  obtain ⟨h1,h2⟩:=h
  subst h1 h2
  exact fnK_sound tyNil (by exact specOK rfl rfl ⟨(rval_ok gl),(rIn_ok gl),trivial⟩ trivial) (by kernel_rfl) Tryz.func36 rfl (ritem_v gl _ _ _ _ _ _ _ _ _ _ _ hp)
 ·cases h
def firE:LLA→Int
 | []=>0
 | r::l=>orI (ckR r) (firE l)
theorem firE_at:∀ {l:LLA} {i:Nat},(∀ j,j < i→ckR (l.getD j [])=0)→i < l.length→¬ ckR (l.getD i [])=0→firE l=ckR (l.getD i [])
 | [],i,_,h,_=>by simp at h
 | x::l,0,_,_,hz=>if_neg hz
 | x::l,i+1,h,hi,hz=>by
  have h0:ckR x=0:=h 0 (by omega)
  simp only [firE,orI]
  rw [if_pos h0]
  exact firE_at (l:=l) (i:=i) (fun j hj=>h (j+1) (by omega)) (by simpa using hi) hz
theorem firE_zero:∀ {l:LLA},(∀ j,j < l.length→ckR (l.getD j [])=0)→firE l=0
 | [],_=>rfl
 | x::l,h=>by
  have h0:ckR x=0:=h 0 (by simp)
  simp only [firE,orI]
  rw [if_pos h0]
  exact firE_zero fun j hj=>h (j+1) (by simpa using hj)
theorem firE_all:∀ {l:LLA},firE l=0→∀ r ∈ l,ckR r=0
 | [],_,r,h=>by simp at h
 | x::l,h,r,hr=>by
  simp only [firE,orI] at h
  split at h
  ·next e =>
   rcases List.mem_cons.1 hr with rfl | k
   ·exact e
   ·exact firE_all h r k
  ·next e=>exact absurd h e
def adjB (l:LLA):Bool:=decide (∀ j,j < l.length→j=0∨itC (l.getD (j - 1) []) (l.getD j []) < 0)
def inV (l:LLA):Int:=if 150 < l.length then 2 else if firE l=0 then (if adjB l then 0 else 8) else firE l
structure Va1 (l:LLA) (i:Int):Prop where
 flo:0≤i
 fhi:i≤l.length
 fz:∀ j:Nat,(j:Int) < i→ckR (l.getD j [])=0
structure Va2 (l:LLA) (i:Int):Prop where
 flo:1≤i
 fhi:i≤l.length+1
 fs:∀ j:Nat,j < l.length→(j:Int) < i→j=0∨itC (l.getD (j - 1) []) (l.getD j []) < 0
 fe:firE l=0
def va4 (f:Bool) (l:LLA):LInv:=⟨Int,fun i=>⟨[(0,.sl 10 f l),(2,.int .i64 0),(10,.sl 10 f l),(11,.int .i64 l.length),(12,.int .i64 i)],[]⟩,Va1 l,fun i=>(l.length - i).toNat,none⟩
def va11 (s:Nat) (f:Bool) (l:LLA):LInv:=⟨Int,fun i=>⟨[(0,.sl 10 f l),(2,.int .i64 0),(s,.int .i64 i)],[]⟩,Va2 l,fun i=>(l.length+1 - i).toNat,none⟩
def ivalid_s (inV:LLA→Int) (itC:List AV→List AV→Int) (itE:Int→ByteArray→Int→Int→Int→Int→Int→LLA→Int→Int→Int):Sp
 | [.sl 10 f l]=>some (ItsP l,.int .i64 (inV l))
 | _=>none
def ivalid_T (inV:LLA→Int) (itC:List AV→List AV→Int) (itE:Int→ByteArray→Int→Int→Int→Int→Int→LLA→Int→Int→Int) (gpE:Int→ByteArray→Int→Int→Int→Int→Int→LLA→Int) (rdC:LLA→LLA→Int) (cmpI:Int→Int→Int) (orL:List (List AV)→Int) (cmpS:ByteArray→ByteArray→Int) (suC:Int→ByteArray→Int→Int→ByteArray→Int→Int):Prop :=
  ∀ (l:List (List AV)) (f:Bool),ItsP l→True→bif decide ((150:Int) < (↑l.length:Int)) then (2:Int)=inV l else (∃ x,Va1 l x∧(((bif f then f=true else True)∧l=l)∧(0:Int)=0∧((bif f then f=true else True)∧l=l)∧(↑l.length:Int)=(↑l.length:Int)∧(0:Int)=x∧True)∧True)∧∀ (x:Int),Va1 l x→bif decide (x < (↑l.length:Int)) then bif decide (0≤x∧x < (↑l.length:Int)) then ∃ n s n_1 n_2 n_3 n_4 n_5 xs n_6
 n_7,List.take [AV.int .i64 n,.str s,.int .i64 n_1,.int .i64 n_2,.int .i64 n_3,.int .i64 n_4,.int .i64 n_5,.sl (2:Nat) false xs,.int .i64 n_6,.int .i64 n_7].length (l.getD x.toNat [])=[AV.int .i64 n,.str s,.int .i64 n_1,.int .i64 n_2,.int .i64 n_3,.int .i64 n_4,.int .i64 n_5,.sl (2:Nat) false xs,.int .i64 n_6,.int .i64 n_7]∧RdsP xs∧bif decide ¬itE n s n_1 n_2 n_3 n_4 n_5 xs n_6 n_7=(0:Int) then itE
 n s n_1 n_2 n_3 n_4 n_5 xs n_6 n_7=inV l else bif decide (rng .i64 (x+(1:Int))) then ∃ y,Va1 l y∧(va4 f l).m y < (va4 f l).m x∧(((bif f then f=true else True)∧l=l)∧(0:Int)=0∧((bif f then f=true else True)∧l=l)∧(↑l.length:Int)=(↑l.length:Int)∧x+(1:Int)=y∧True)∧True else False else False else (∃ x,Va2 l x∧(((bif f then f=true else True)∧l=l)∧(0:Int)=0∧(1:Int)=x∧True)∧True)∧∀ (x:Int),Va2 l x→bif
 decide (x < (↑l.length:Int)) then bif decide (rng .i64 (x - (1:Int))) then bif decide (0≤x - (1:Int)∧x - (1:Int) < (↑l.length:Int)) then ∃ n s n_1 n_2 n_3 n_4 n_5 xs n_6 n_7,List.take [AV.int .i64 n,.str s,.int .i64 n_1,.int .i64 n_2,.int .i64 n_3,.int .i64 n_4,.int .i64 n_5,.sl (2:Nat) false xs,.int .i64 n_6,.int .i64 n_7].length (l.getD (x - (1:Int)).toNat [])=[AV.int .i64 n,.str s,.int
 .i64 n_1,.int .i64 n_2,.int .i64 n_3,.int .i64 n_4,.int .i64 n_5,.sl (2:Nat) false xs,.int .i64 n_6,.int .i64 n_7]∧bif decide (0≤x∧x < (↑l.length:Int)) then ∃ n_8 s_1 n_9 n_10 n_11 n_12 n_13 xs_1 n_14 n_15,List.take [AV.int .i64 n_8,.str s_1,.int .i64 n_9,.int .i64 n_10,.int .i64 n_11,.int .i64 n_12,.int .i64 n_13,.sl (2:Nat) false xs_1,.int .i64 n_14,.int .i64 n_15].length (l.getD x.toNat
 [])=[AV.int .i64 n_8,.str s_1,.int .i64 n_9,.int .i64 n_10,.int .i64 n_11,.int .i64 n_12,.int .i64 n_13,.sl (2:Nat) false xs_1,.int .i64 n_14,.int .i64 n_15]∧(RdsP xs∧RdsP xs_1)∧bif decide (0≤itC (itA n s n_1 n_2 n_3 n_4 n_5 xs n_6 n_7) (itA n_8 s_1 n_9 n_10 n_11 n_12 n_13 xs_1 n_14 n_15)) then (8:Int)=inV l else bif decide (rng .i64 (x+(1:Int))) then ∃ y,Va2 l y∧(va11 (6:Nat) f l).m y <
 (va11 (6:Nat) f l).m x∧(((bif f then f=true else True)∧l=l)∧(0:Int)=0∧x+(1:Int)=y∧True)∧True else False else False else False else False else (0:Int)=inV l
theorem ivalid_P:ivalid_T inV itC itE gpE rdC cmpI orL cmpS suC:=by
 unfold ivalid_T
 intro l f hl _
 have ln:=hl.fl
 have bf:cond f (f=true) True:=by cases f <;> trivial
 refine csx (fun hb=>by unfold inV; rw [if_pos (by omega)]) (fun hb=>⟨⟨0,⟨by decide,by omega,fun j hj=>by omega⟩,by (repeat' (first | exact trivial | exact rfl | assumption | apply And.intro))⟩,?_⟩)
 have hv:inV l=if firE l=0 then (if adjB l then 0 else 8) else firE l:=by unfold inV; rw [if_neg (by omega)]
 rintro i ⟨i0,i1,iz⟩
 refine csx (fun hi=>cd1 (by omega) ?_) (fun hi=>⟨⟨1,⟨by decide,by omega,fun j _ hj=>.inl (by omega),firE_zero fun j hj=>iz j (by omega)⟩,by (repeat' (first | exact trivial | exact rfl | assumption | apply And.intro))⟩,?_⟩)
 ·obtain ⟨k,nm,t,a1,a,b,c,rd,co,ar,hr,hrd⟩:=hl.fr i.toNat (by omega)
  have hc:ckR (l.getD i.toNat [])=itE k nm t a1 a b c rd co ar:=by rw [hr]; rfl
  refine ⟨k,nm,t,a1,a,b,c,rd,co,ar,by rw [hr]; rfl,hrd,csx (fun q=>?_) (fun q=>cdI (by omega) ⟨i+1,⟨by omega,by omega,fun j hj=>?_⟩,by simp only [va4]; omega,by (repeat' (first | exact trivial | exact rfl | assumption | apply And.intro))⟩)⟩
  ·have e:=firE_at (l:=l) (i:=i.toNat) (fun j hj=>iz j (by omega)) (by omega) (by rw [hc]; exact q)
   rw [hv,e,hc,if_neg q]
  ·rcases Int.lt_or_le (j:Int) i with w | w
   ·exact iz j w
   ·rw [show j=i.toNat by omega,hc]; exact Decidable.not_not.1 q
 ·rintro i ⟨i0,i1,is,ie⟩
  refine csx (fun hi=>cdI (by omega) (cd1 (by omega) ?_)) (fun hi=>?_)
  ·obtain ⟨k,nm,t,a1,a,b,c,rd,co,ar,hr,hrd⟩:=hl.fr (i - 1).toNat (by omega)
   obtain ⟨k2,nm2,t2,a12,a2,b2,c2,rd2,co2,ar2,hr2,hrd2⟩:=hl.fr i.toNat (by omega)
   refine ⟨k,nm,t,a1,a,b,c,rd,co,ar,by rw [hr]; rfl,cd1 (by omega) ⟨k2,nm2,t2,a12,a2,b2,c2,rd2,co2,ar2,by rw [hr2]; rfl,⟨hrd,hrd2⟩,?_⟩⟩
   rw [← hr,← hr2,show (i - 1).toNat=i.toNat - 1 by omega]
   refine csx (fun q=>?_) (fun q=>cdI (by omega) ⟨i+1,⟨by omega,by omega,fun j hj hji=>?_,ie⟩,by simp only [va11]; omega,by (repeat' (first | exact trivial | exact rfl | assumption | apply And.intro))⟩)
   ·rw [hv,if_pos ie,if_neg]
    unfold adjB
    rw [decide_eq_true_iff]
    intro w
    rcases w i.toNat (by omega) with z | z <;> omega
   ·rcases Int.lt_or_le (j:Int) i with w | w
    ·exact is j hj w
    ·rw [show j=i.toNat by omega]; exact .inr (by omega)
  ·rw [hv,if_pos ie,if_pos]
   unfold adjB
   exact decide_eq_true fun j hj=>is j hj (by omega)
def ivalid_S (inV:LLA→Int) (itC:List AV→List AV→Int) (itE:Int→ByteArray→Int→Int→Int→Int→Int→LLA→Int→Int→Int) (gpE:Int→ByteArray→Int→Int→Int→Int→Int→LLA→Int) (rdC:LLA→LLA→Int) (cmpI:Int→Int→Int) (orL:List (List AV)→Int) (cmpS:ByteArray→ByteArray→Int) (suC:Int→ByteArray→Int→Int→ByteArray→Int→Int):Prop:=∀ (l:List (List AV)) (f:Bool),ItsP l→fnK Tryz.prog { glob:=glb,spec:=lk [(34,(icheck_s gpE itE)),(35,(icmp_s rdC cmpI orL cmpS suC itC))],specH:=lk [],shape:=[15,32,36],slz:=[(15,[2]),(32,[2]),(36,[2])],nowf:=true } { nt:=39,drop:=drp [(1,384),(5,49152),(6,196608),(7,262144),(8,1048576),(9,2097152),(11,29360128),(12,201326592),(13,274609471488)] } (invs [(4,va4 f l),(11,va11 6 f l)]) 6 Tryz.f15 [.sl 10 f l] (.int .i64 (inV l))
theorem ivalid_e (inV:LLA→Int) (itC:List AV→List AV→Int) (itE:Int→ByteArray→Int→Int→Int→Int→Int→LLA→Int→Int→Int) (gpE:Int→ByteArray→Int→Int→Int→Int→Int→LLA→Int) (rdC:LLA→LLA→Int) (cmpI:Int→Int→Int) (orL:List (List AV)→Int) (cmpS:ByteArray→ByteArray→Int) (suC:Int→ByteArray→Int→Int→ByteArray→Int→Int):ivalid_T inV itC itE gpE rdC cmpI orL cmpS suC=ivalid_S inV itC itE gpE rdC cmpI orL cmpS suC:=by kernel_rfl
theorem ivalid_v:ivalid_S inV itC itE gpE rdC cmpI orL cmpS suC:=Eq.mp (ivalid_e ..) (ivalid_P)
theorem ivalid_ok:SOK Tryz.prog glb 15 (ivalid_s inV itC itE):=by
 refine ⟨fok Tryz.func15 (by kernel_rfl) (by kernel_rfl),?_⟩
 intro xs pre r h hp
 unfold ivalid_s at h
 split at h
 ·simp only [Option.some.injEq,Prod.mk.injEq] at h
  obtain ⟨h1,h2⟩:=h
  subst h1 h2
  exact fnK_sound tyNil (by exact specOK rfl rfl ⟨(icheck_ok),(icmp_ok glb),trivial⟩ trivial) (by kernel_rfl) Tryz.func15 rfl (ivalid_v  _ _ hp)
 ·cases h
def ra4 (f:Bool) (l:LLA):LInv:=⟨Int,fun i=>⟨[(0,.sl 10 f l),(2,.int .i64 0),(3,.int .i64 i)],[]⟩,Va1 l,fun i=>(l.length - i).toNat,none⟩
def ivalidR_s (inV:LLA→Int) (itC:List AV→List AV→Int) (itE:Int→ByteArray→Int→Int→Int→Int→Int→LLA→Int→Int→Int):Sp
 | [.sl 10 f l]=>some (ItsP l,.int .i64 (inV l))
 | _=>none
def ivalidR_T (inV:LLA→Int) (itC:List AV→List AV→Int) (itE:Int→ByteArray→Int→Int→Int→Int→Int→LLA→Int→Int→Int) (gpE:Int→ByteArray→Int→Int→Int→Int→Int→LLA→Int) (inB:Int→Bool) (rdC:LLA→LLA→Int) (cmpI:Int→Int→Int) (cmpS:ByteArray→ByteArray→Int):Prop :=
  ∀ (gl:Glob) (l:List (List AV)) (f:Bool),ItsP l→True→bif decide ((150:Int) < (↑l.length:Int)) then (2:Int)=inV l else (∃ x,Va1 l x∧(((bif f then f=true else True)∧l=l)∧(0:Int)=0∧(0:Int)=x∧True)∧True)∧∀ (x:Int),Va1 l x→bif decide (x < (↑l.length:Int)) then bif decide (0≤x∧x < (↑l.length:Int)) then ∃ n s n_1 n_2 n_3 n_4 n_5 xs n_6 n_7,List.take [AV.int .i64 n,.str s,.int .i64 n_1,.int
 .i64 n_2,.int .i64 n_3,.int .i64 n_4,.int .i64 n_5,.sl (2:Nat) false xs,.int .i64 n_6,.int .i64 n_7].length (l.getD x.toNat [])=[AV.int .i64 n,.str s,.int .i64 n_1,.int .i64 n_2,.int .i64 n_3,.int .i64 n_4,.int .i64 n_5,.sl (2:Nat) false xs,.int .i64 n_6,.int .i64 n_7]∧RdsP xs∧bif decide ¬itE n s n_1 n_2 n_3 n_4 n_5 xs n_6 n_7=(0:Int) then itE n s n_1 n_2 n_3 n_4 n_5 xs n_6 n_7=inV l else bif
 decide (rng .i64 (x+(1:Int))) then ∃ y,Va1 l y∧(ra4 f l).m y < (ra4 f l).m x∧(((bif f then f=true else True)∧l=l)∧(0:Int)=0∧x+(1:Int)=y∧True)∧True else False else False else (∃ x,Va2 l x∧(((bif f then f=true else True)∧l=l)∧(0:Int)=0∧(1:Int)=x∧True)∧True)∧∀ (x:Int),Va2 l x→bif decide (x < (↑l.length:Int)) then bif decide (rng .i64 (x - (1:Int))) then bif decide (0≤x - (1:Int)∧x -
 (1:Int) < (↑l.length:Int)) then ∃ n s n_1 n_2 n_3 n_4 n_5 xs n_6 n_7,List.take [AV.int .i64 n,.str s,.int .i64 n_1,.int .i64 n_2,.int .i64 n_3,.int .i64 n_4,.int .i64 n_5,.sl (2:Nat) false xs,.int .i64 n_6,.int .i64 n_7].length (l.getD (x - (1:Int)).toNat [])=[AV.int .i64 n,.str s,.int .i64 n_1,.int .i64 n_2,.int .i64 n_3,.int .i64 n_4,.int .i64 n_5,.sl (2:Nat) false xs,.int .i64 n_6,.int .i64
 n_7]∧bif decide (0≤x∧x < (↑l.length:Int)) then ∃ n_8 s_1 n_9 n_10 n_11 n_12 n_13 xs_1 n_14 n_15,List.take [AV.int .i64 n_8,.str s_1,.int .i64 n_9,.int .i64 n_10,.int .i64 n_11,.int .i64 n_12,.int .i64 n_13,.sl (2:Nat) false xs_1,.int .i64 n_14,.int .i64 n_15].length (l.getD x.toNat [])=[AV.int .i64 n_8,.str s_1,.int .i64 n_9,.int .i64 n_10,.int .i64 n_11,.int .i64 n_12,.int .i64 n_13,.sl
 (2:Nat) false xs_1,.int .i64 n_14,.int .i64 n_15]∧(RdsP xs∧RdsP xs_1)∧bif decide (0≤itC (itA n s n_1 n_2 n_3 n_4 n_5 xs n_6 n_7) (itA n_8 s_1 n_9 n_10 n_11 n_12 n_13 xs_1 n_14 n_15)) then (8:Int)=inV l else bif decide (rng .i64 (x+(1:Int))) then ∃ y,Va2 l y∧(va11 (5:Nat) f l).m y < (va11 (5:Nat) f l).m x∧(((bif f then f=true else True)∧l=l)∧(0:Int)=0∧x+(1:Int)=y∧True)∧True else False
 else False else False else False else (0:Int)=inV l
theorem ivalidR_P:ivalidR_T inV itC itE gpE inB rdC cmpI cmpS:=by
 unfold ivalidR_T
 intro gl l f hl _
 have ln:=hl.fl
 have bf:cond f (f=true) True:=by cases f <;> trivial
 refine csx (fun hb=>by unfold inV; rw [if_pos (by omega)]) (fun hb=>⟨⟨0,⟨by decide,by omega,fun j hj=>by omega⟩,by (repeat' (first | exact trivial | exact rfl | assumption | apply And.intro))⟩,?_⟩)
 have hv:inV l=if firE l=0 then (if adjB l then 0 else 8) else firE l:=by unfold inV; rw [if_neg (by omega)]
 rintro i ⟨i0,i1,iz⟩
 refine csx (fun hi=>cd1 (by omega) ?_) (fun hi=>⟨⟨1,⟨by decide,by omega,fun j _ hj=>.inl (by omega),firE_zero fun j hj=>iz j (by omega)⟩,by (repeat' (first | exact trivial | exact rfl | assumption | apply And.intro))⟩,?_⟩)
 ·obtain ⟨k,nm,t,a1,a,b,c,rd,co,ar,hr,hrd⟩:=hl.fr i.toNat (by omega)
  have hc:ckR (l.getD i.toNat [])=itE k nm t a1 a b c rd co ar:=by rw [hr]; rfl
  refine ⟨k,nm,t,a1,a,b,c,rd,co,ar,by rw [hr]; rfl,hrd,csx (fun q=>?_) (fun q=>cdI (by omega) ⟨i+1,⟨by omega,by omega,fun j hj=>?_⟩,by simp only [ra4]; omega,by (repeat' (first | exact trivial | exact rfl | assumption | apply And.intro))⟩)⟩
  ·have e:=firE_at (l:=l) (i:=i.toNat) (fun j hj=>iz j (by omega)) (by omega) (by rw [hc]; exact q)
   rw [hv,e,hc,if_neg q]
  ·rcases Int.lt_or_le (j:Int) i with w | w
   ·exact iz j w
   ·rw [show j=i.toNat by omega,hc]; exact Decidable.not_not.1 q
 ·rintro i ⟨i0,i1,is,ie⟩
  refine csx (fun hi=>cdI (by omega) (cd1 (by omega) ?_)) (fun hi=>?_)
  ·obtain ⟨k,nm,t,a1,a,b,c,rd,co,ar,hr,hrd⟩:=hl.fr (i - 1).toNat (by omega)
   obtain ⟨k2,nm2,t2,a12,a2,b2,c2,rd2,co2,ar2,hr2,hrd2⟩:=hl.fr i.toNat (by omega)
   refine ⟨k,nm,t,a1,a,b,c,rd,co,ar,by rw [hr]; rfl,cd1 (by omega) ⟨k2,nm2,t2,a12,a2,b2,c2,rd2,co2,ar2,by rw [hr2]; rfl,⟨hrd,hrd2⟩,?_⟩⟩
   rw [← hr,← hr2,show (i - 1).toNat=i.toNat - 1 by omega]
   refine csx (fun q=>?_) (fun q=>cdI (by omega) ⟨i+1,⟨by omega,by omega,fun j hj hji=>?_,ie⟩,by simp only [va11]; omega,by (repeat' (first | exact trivial | exact rfl | assumption | apply And.intro))⟩)
   ·rw [hv,if_pos ie,if_neg]
    unfold adjB
    rw [decide_eq_true_iff]
    intro w
    rcases w i.toNat (by omega) with z | z <;> omega
   ·rcases Int.lt_or_le (j:Int) i with w | w
    ·exact is j hj w
    ·rw [show j=i.toNat by omega]; exact .inr (by omega)
  ·rw [hv,if_pos ie,if_pos]
   unfold adjB
   exact decide_eq_true fun j hj=>is j hj (by omega)
def ivalidR_S (inV:LLA→Int) (itC:List AV→List AV→Int) (itE:Int→ByteArray→Int→Int→Int→Int→Int→LLA→Int→Int→Int) (gpE:Int→ByteArray→Int→Int→Int→Int→Int→LLA→Int) (inB:Int→Bool) (rdC:LLA→LLA→Int) (cmpI:Int→Int→Int) (cmpS:ByteArray→ByteArray→Int):Prop:=∀ (gl:Glob) (l:List (List AV)) (f:Bool),ItsP l→fnK Tryz.prog { glob:=gl,spec:=lk [(36,(ritem_s gpE itE inB)),(37,(ricmp_s rdC cmpI cmpS itC))],specH:=lk [],shape:=[18,33,37],slz:=[(18,[2]),(33,[2]),(37,[2])],nowf:=true } { nt:=40,drop:=drp [(1,192),(4,3584),(5,24576),(6,1015808),(7,1048576),(8,4194304),(10,58720256),(11,402653184),(12,549218942976)] } (invs [(4,ra4 f l),(10,va11 5 f l)]) 6 Tryz.f16 [.sl 10 f l] (.int .i64 (inV l))
theorem ivalidR_e (inV:LLA→Int) (itC:List AV→List AV→Int) (itE:Int→ByteArray→Int→Int→Int→Int→Int→LLA→Int→Int→Int) (gpE:Int→ByteArray→Int→Int→Int→Int→Int→LLA→Int) (inB:Int→Bool) (rdC:LLA→LLA→Int) (cmpI:Int→Int→Int) (cmpS:ByteArray→ByteArray→Int):ivalidR_T inV itC itE gpE inB rdC cmpI cmpS=ivalidR_S inV itC itE gpE inB rdC cmpI cmpS:=by kernel_rfl
theorem ivalidR_v:ivalidR_S inV itC itE gpE inB rdC cmpI cmpS:=Eq.mp (ivalidR_e ..) (ivalidR_P)
theorem ivalidR_ok (gl:Glob):SOK Tryz.prog gl 16 (ivalidR_s inV itC itE):=by
 refine ⟨fok Tryz.func16 (by kernel_rfl) (by kernel_rfl),?_⟩
 intro xs pre r h hp
 unfold ivalidR_s at h
 split at h
 ·simp only [Option.some.injEq,Prod.mk.injEq] at h
  obtain ⟨h1,h2⟩:=h
  subst h1 h2
  exact fnK_sound tyNil (by exact specOK rfl rfl ⟨(ritem_ok gl),(ricmp_ok gl),trivial⟩ trivial) (by kernel_rfl) Tryz.func16 rfl (ivalidR_v gl _ _ hp)
 ·cases h
end Go.Proofs.YtgnnafneglannaaGreatDoor
namespace Go.Proofs.YtgnnafneglannaaGreatDoor
open Go Go.Lib Go.RowKit
set_option linter.unusedVariables false
set_option linter.unusedSimpArgs false
theorem zero_size (zc:Array Value) (k:Nat):(Builtin.zeroCells zc k).size=k*zc.size:=by
 simp [Builtin.zeroCells]
theorem run_copyN {P:Program} (w:World) (dT sT ty elem s:Nat) (b o dLen dCap:Nat) (a:Addr) (sLen sCap:Nat) (cs:List Value)
  (hu:P.underlying dT=some (.slice elem)) (hs:(P.info? elem).map (·.size)=some s) (hn:cs.length=Nat.min sLen dLen*s)
  (hsrc:∀ j v,cs[j]?=some v→w.cell? (a.add j)=some v) (hc:∀ j,j < cs.length→(w.cell? ⟨b,o+j,none⟩).isSome=true) (hf:∀ j,j < cs.length→w.frozen? ⟨b,o+j,none⟩=false) (h1:∀ v ∈ cs,v.oneCell'=true) :
  (Builtin.copy_ #[dT,sT] ty #[.slice (some ⟨b,o,none⟩) dLen dCap,.slice (some a) sLen sCap]).run P w=.ok (goInt (Nat.min sLen dLen)) (w.setCells b o cs):=by
 have hl:=run_loadCells_list (P:=P) w a cs hsrc
 have hst:=run_storeCells_cells (P:=P) b o cs 0 w (by simpa using hc) (by simpa using hf) h1
 cases hq:P.info? elem with
 | none=>simp [hq] at hs
 | some i =>
  have hi:i.size=s:=by simpa [hq] using hs
  simp [Builtin.copy_,run_underlying hu,Builtin.lenOf,Builtin.firstCells,sizeOf,typeInfo,hq,hi,← hn,hl,hst]
theorem t_it:Tryz.prog.underlying 22=some (.slice 29):=by kernel_rfl
theorem i_it:∃ i z,Tryz.prog.info? 29=some i∧i.zero=some z∧i.size=10∧z.cells.size=10∧i.bytes=104:=by
 have h:(Tryz.prog.info? 29).map (fun i=>(i.zero.map (·.cells.size),i.size,i.bytes))=some (some 10,10,104):=by kernel_rfl
 cases e:Tryz.prog.info? 29 with
 | none=>rw [e] at h; cases h
 | some i =>
  rw [e] at h
  simp only [Option.map_some,Option.some.injEq,Prod.mk.injEq] at h
  obtain ⟨h1,h2,h3⟩:=h
  cases hz:i.zero with
  | none=>rw [hz] at h1; cases h1
  | some z =>
   rw [hz] at h1
   exact ⟨i,z,rfl,hz,h2,by simpa using h1,h3⟩
set_option maxHeartbeats 4000000 in
theorem ins_end_room (b off n c vb voff m vc:Nat) (vs:List Value) (w:World) (hm:0 < m) (hroom:n+m≤c) (hc63:c≤9223372036854775807)
  (hvl:vs.length=m*10) (hsp:∀ j,j < m*10→(w.cell? ⟨b,off+n*10+j,none⟩).isSome=true) (hfz:∀ j,j < m*10→w.frozen? ⟨b,off+n*10+j,none⟩=false)
  (hvs:∀ j v,vs[j]?=some v→w.cell? ⟨vb,voff+j,none⟩=some v) (h1v:∀ v ∈ vs,v.oneCell'=true) :
  Calls Tryz.prog 60 #[.slice (some ⟨b,off,none⟩) n c,.int .i64 n,.slice (some ⟨vb,voff,none⟩) m vc] w fun e w' =>
   e=.returned (.slice (some ⟨b,off,none⟩) (n+m) c)∧w'=w.setCells b (off+n*10) vs:=by
 obtain ⟨i0,z0,hi0,hz0,hzs,hzc,hzb⟩:=i_it
 have hz1:¬ ((m:Int)=0):=by omega
 have hsrc:_root_.Go.Src Tryz.prog i0.size 22 (.slice (some ⟨vb,voff,none⟩) m vc) m vs w:=by
  rw [hzs]
  exact _root_.Go.Src.ofSlice w t_it ⟨vb,voff,none⟩ m vc vs (by omega) (fun j u hj=>by rw [Addr.add_lit]; exact hvs j u hj) h1v
 have hrun:∀ ty,(Builtin.append_ #[22,22] ty #[.slice (some ⟨b,off,none⟩) n c,.slice (some ⟨vb,voff,none⟩) m vc]).run Tryz.prog w=.ok (.slice (some ⟨b,off,none⟩) (n+m) c) (w.setCells b (off+n*10) vs):=fun ty=>by
  have:=run_append_room_src (w:=w) 22 22 ty 29 i0 t_it hi0 b off n c (.slice (some ⟨vb,voff,none⟩) m vc) m vs hsrc hroom (by rw [hzs,hvl]; exact hsp) (by rw [hzs,hvl]; exact hfz)
  rw [hzs] at this
  exact this
 go_enter Tryz.func60,Tryz.ntmps60
 go_wp2_with (at_builtin; refine Lib.wpList_append_run _ rfl _ _ _ _ rfl _ _ rfl rfl _ _ (hrun _) ?_)
 go_ret
 exact ⟨rfl,rfl⟩
set_option maxHeartbeats 4000000 in
theorem ins_end_grow (base:Option Addr) (n c vb voff m vc:Nat) (cs vs:List Value) (w:World) (hm:0 < m) (hnc:n≤c) (hroom:c < n+m) (hbig:n+m≤1000)
  (hcl:cs.length=n*10) (hvl:vs.length=m*10) (hnil:base=none→n=0)
  (hcs:∀ a,base=some a→∀ j v,cs[j]?=some v→w.cell? (a.add j)=some v)
  (hvs:∀ j v,vs[j]?=some v→w.cell? ⟨vb,voff+j,none⟩=some v) (h1v:∀ v ∈ vs,v.oneCell'=true) (zc:Array Value) (hzc:∀ i z,Tryz.prog.info? 29=some i→i.zero=some z→z.cells=zc) :
  Calls Tryz.prog 60 #[.slice base n c,.int .i64 n,.slice (some ⟨vb,voff,none⟩) m vc] w fun e w' =>
   e=.returned (.slice (some ⟨w.heap.size,0,none⟩) (n+m) (grownCap w (n+m) c 29)) ∧
   w'=w.drew.alloc (.cells ((cs++vs).toArray++Builtin.zeroCells zc (grownCap w (n+m) c 29 - (n+m))) 29):=by
 obtain ⟨i0,z0,hi0,hz0,hzs,hzc1,hzb⟩:=i_it
 have hzc2:=hzc i0 z0 hi0 hz0
 have hz1:¬ ((m:Int)=0):=by omega
 have hsrc:_root_.Go.Src Tryz.prog i0.size 22 (.slice (some ⟨vb,voff,none⟩) m vc) m vs w:=by
  rw [hzs]
  exact _root_.Go.Src.ofSlice w t_it ⟨vb,voff,none⟩ m vc vs (by omega) (fun j u hj=>by rw [Addr.add_lit]; exact hvs j u hj) h1v
 have hold:(Builtin.firstCells i0.size n (.slice base n c)).run Tryz.prog w.drew=.ok cs.toArray w.drew:=by
  rw [hzs]
  cases base with
  | none =>
   have h0:=hnil rfl
   subst h0
   have hcs0:cs=[]:=List.length_eq_zero_iff.1 (by simpa using hcl)
   rw [hcs0]
   exact run_firstCells_none w.drew 10 0 0 c
  | some a=>exact run_firstCells_some w.drew 10 n a n c cs (by omega) (fun j v hj=>hcs a rfl j v hj)
 have hrun:∀ ty,(Builtin.append_ #[22,22] ty #[.slice base n c,.slice (some ⟨vb,voff,none⟩) m vc]).run Tryz.prog w=.ok (.slice (some ⟨w.heap.size,0,none⟩) (n+m) (grownCap w (n+m) c 29)) (w.drew.alloc (.cells ((cs++vs).toArray++Builtin.zeroCells zc (grownCap w (n+m) c 29 - (n+m))) 29)):=fun ty=>by
  have:=run_append_grow_src w 22 22 ty 29 i0 z0 t_it hi0 hz0 base n c cs hold (.slice (some ⟨vb,voff,none⟩) m vc) m vs hsrc hroom (by omega) (by rw [hzb]; exact growslice_fits hroom (by omega))
  rw [hzc2] at this
  exact this
 go_enter Tryz.func60,Tryz.ntmps60
 cases base with
 | none =>
  have h0:=hnil rfl
  subst h0
  go_wp2_with (at_builtin; refine Lib.wpList_append_run _ rfl _ _ _ _ rfl _ _ rfl rfl _ _ (hrun _) ?_)
  go_ret
  exact ⟨rfl,rfl⟩
 | some a =>
  obtain ⟨ab,ao,asp⟩:=a
  go_wp2_with (at_builtin; refine Lib.wpList_append_run _ rfl _ _ _ _ rfl _ _ rfl rfl _ _ (hrun _) ?_)
  all_goals (go_ret; exact ⟨rfl,rfl⟩)
set_option maxHeartbeats 4000000 in
theorem ins_shift (b off n c i vb voff m vc:Nat) (cs vs:List Value) (w:World) (hi:i < n) (hm:0 < m) (hroom:n+m≤c) (hc63:c≤9223372036854775807) (hvb:vb≠b)
  (hcl:cs.length=n*10) (hvl:vs.length=m*10)
  (hcs:∀ j v,cs[j]?=some v→w.cell? ⟨b,off+j,none⟩=some v) (hsp:∀ j,j < (n+m)*10→(w.cell? ⟨b,off+j,none⟩).isSome=true) (hfz:∀ j,j < (n+m)*10→w.frozen? ⟨b,off+j,none⟩=false)
  (hvs:∀ j v,vs[j]?=some v→w.cell? ⟨vb,voff+j,none⟩=some v) (h1c:∀ v ∈ cs,v.oneCell'=true) (h1v:∀ v ∈ vs,v.oneCell'=true)
  (tA tB:TypeId) (kA kB:Nat) (hsa:w.shape? vb=some (tA,kA)) (hsb:w.shape? b=some (tB,kB)) (hkB:kB≠0) (hfa:w.frozen? ⟨vb,voff,none⟩=false) (hfe:w.frozen? ⟨vb,kA,none⟩=false) :
  Calls Tryz.prog 60 #[.slice (some ⟨b,off,none⟩) n c,.int .i64 i,.slice (some ⟨vb,voff,none⟩) m vc] w fun e w' =>
   e=.returned (.slice (some ⟨b,off,none⟩) (n+m) c)∧w'=(w.drew.setCells b (off+(i+m)*10) (cs.drop (i*10))).setCells b (off+i*10) vs:=by
 obtain ⟨i0,z0,hi0,hz0,hzs,hzc1,hzb⟩:=i_it
 have hz1:¬ ((m:Int)=0):=by omega
 have hz2:¬ ((i:Int)=(n:Int)):=by omega
 have hsz:(Tryz.prog.info? 29).map (·.size)=some 10:=by rw [hi0]; simp [hzs]
 have hso:∀ w,(Go.sizeOf 29).run Tryz.prog w=.ok 10 w:=fun w=>by simp [sizeOf,typeInfo,hi0,hzs]
 have hov:∀ lb cb,(callFunc 78 #[.slice (some ⟨vb,voff,none⟩) m vc,.slice (some ⟨b,off+(i+m)*10,none⟩) lb cb]).run Tryz.prog w=.ok (.value (.bool false)) w:=fun lb cb=>by
  rw [run_callFunc_extern Tryz.func78 (by kernel_rfl) (by kernel_rfl) (by kernel_rfl) (e:=Extern.SlicesOverlaps.overlaps #[22,22] #[4]) (by kernel_rfl),
   Lib.run_overlaps_apart w 22 4 29 t_it 10 hso ⟨vb,voff,none⟩ ⟨b,off+(i+m)*10,none⟩ m vc lb cb hvb tA tB kA kB hsa hsb hkB hfa hfe]
  rfl
 have mixed:Tryz.prog.follows Departure.mixedOrders=true:=by kernel_rfl
 have hdl:(cs.drop (i*10)).length=(n - i)*10:=by rw [List.length_drop,hcl]; omega
 have hw1:IntKind.i64.wrap ((i:Int)+(m:Int))=(i:Int)+(m:Int):=by rw [IntKind.wrap_i64]; omega
 have hb1:(0:Int)≤(i:Int)+(m:Int):=by omega
 have hin:i≤n:=by omega
 have htn:((i:Int)+(m:Int)).toNat=i+m:=by omega
 have hb2:¬ (c=i+m):=by omega
 have hb3:(i:Int)≤(n:Int)+(m:Int):=by omega
 have hb4:¬ (c=i):=by omega
 have hmn1:Nat.min (n+m - i) (n+m - (i+m))=n - i:=by simp only [Nat.min_def]; split <;> omega
 have hmn2:Nat.min m (n+m - i)=m:=by simp only [Nat.min_def]; split <;> omega
 have hcp1:∀ ty dc sc,(Builtin.copy_ #[22,22] ty #[.slice (some ⟨b,off+(i+m)*10,none⟩) (n+m - (i+m)) dc,.slice (some ⟨b,off+i*10,none⟩) (n+m - i) sc]).run Tryz.prog w.drew=.ok (goInt ((n - i:Nat):Int)) (w.drew.setCells b (off+(i+m)*10) (cs.drop (i*10))):=fun ty dc sc=>by
  have:=run_copyN w.drew 22 22 ty 29 10 b (off+(i+m)*10) (n+m - (i+m)) dc ⟨b,off+i*10,none⟩ (n+m - i) sc (cs.drop (i*10)) t_it hsz (by rw [hdl,hmn1])
   (fun j v hj=>by rw [Addr.add_lit,Nat.add_assoc]; exact hcs (i*10+j) v (by rwa [List.getElem?_drop] at hj))
   (fun j hj=>by rw [Nat.add_assoc]; exact hsp _ (by omega)) (fun j hj=>by rw [Nat.add_assoc]; exact hfz _ (by omega)) (fun v hv=>h1c v (List.mem_of_mem_drop hv))
  rw [hmn1] at this
  exact this
 obtain ⟨W1,hW1⟩:∃ W1,W1=w.drew.setCells b (off+(i+m)*10) (cs.drop (i*10)):=⟨_,rfl⟩
 have hsp1:∀ k,k < (n+m)*10→(W1.cell? ⟨b,off+k,none⟩).isSome=true:=fun k hk=>by
  rw [hW1]
  exact isSome_setCells b _ _ _ (fun j hj=>by rw [Nat.add_assoc]; exact hsp _ (by omega)) _ (hsp k hk)
 have hcp2:∀ (W:World),(∀ x,W.cell? x=W1.cell? x)→(∀ x,W.frozen? x=W1.frozen? x)→∀ ty dc,(Builtin.copy_ #[22,22] ty #[.slice (some ⟨b,off+i*10,none⟩) (n+m - i) dc,.slice (some ⟨vb,voff,none⟩) m vc]).run Tryz.prog W=.ok (goInt (m:Int)) (W.setCells b (off+i*10) vs):=fun W hWc hWf ty dc=>by
  have:=run_copyN W 22 22 ty 29 10 b (off+i*10) (n+m - i) dc ⟨vb,voff,none⟩ m vc vs t_it hsz (by rw [hvl,hmn2])
   (fun j v hj=>by
    rw [Addr.add_lit,hWc,hW1,World.cell?_setCells_out b _ _ _ _ (fun h _=>absurd h hvb)]
    exact hvs j v hj)
   (fun j hj=>by rw [hWc,Nat.add_assoc]; exact hsp1 _ (by omega)) (fun j hj=>by rw [hWf,hW1,World.frozen?_setCells,Nat.add_assoc]; exact hfz _ (by omega)) h1v
  rw [hmn2] at this
  exact this
 rw [← hW1] at hcp1
 go_enter Tryz.func60,Tryz.ntmps60
 go_wp2_with (simp only [hov])
 go_region_law_o (refine step_copy_runI rfl _ _ 22 22 rfl _ _ (by simp [Act.eval,Act.put]) (by simp [Act.eval,Act.put]) (hcp1 _ _ _) ?_)
 go_wp2_with (at_builtin; refine wpList_copy_runI _ rfl _ _ 22 22 rfl _ _ rfl rfl (hcp2 _ (fun _=>rfl) (fun _=>rfl) _ _) ?_)
 go_ret
 first | exact ⟨rfl,rfl⟩ | exact ⟨rfl,by rw [hW1]⟩
set_option maxHeartbeats 4000000 in
theorem ins_grow (b off n c i vb voff m vc:Nat) (cs vs:List Value) (w:World) (hi:i < n) (hm:0 < m) (hnc:n≤c) (hroom:c < n+m) (hbig:n+m≤1000)
  (hcl:cs.length=n*10) (hvl:vs.length=m*10)
  (hcs:∀ j v,cs[j]?=some v→w.cell? ⟨b,off+j,none⟩=some v)
  (hvs:∀ j v,vs[j]?=some v→w.cell? ⟨vb,voff+j,none⟩=some v) (h1c:∀ v ∈ cs,v.oneCell'=true) (h1v:∀ v ∈ vs,v.oneCell'=true) (zc:Array Value) (hzcc:∀ i z,Tryz.prog.info? 29=some i→i.zero=some z→z.cells=zc) :
  Calls Tryz.prog 60 #[.slice (some ⟨b,off,none⟩) n c,.int .i64 i,.slice (some ⟨vb,voff,none⟩) m vc] w fun e w' =>
   e=.returned (.slice (some ⟨w.heap.size,0,none⟩) (n+m) (grownCap w (n+m) c 29)) ∧
   w'=(((w.alloc (.cells ((cs.take (i*10)).toArray++Builtin.zeroCells zc (n+m - i)++Builtin.zeroCells zc (grownCap w (n+m) c 29 - (n+m))) 29)).drew.setCells w.heap.size (i*10) vs).drew).setCells w.heap.size ((i+m)*10) (cs.drop (i*10)):=by
 obtain ⟨i0,z0,hi0,hz0,hzs,hzc1,hzb⟩:=i_it
 have hzc2:=hzcc i0 z0 hi0 hz0
 have hzl:zc.size=10:=by rw [← hzc2]; exact hzc1
 have mixed:Tryz.prog.follows Departure.mixedOrders=true:=by kernel_rfl
 have hz1:¬ ((m:Int)=0):=by omega
 have hz2:¬ ((i:Int)=(n:Int)):=by omega
 have hz3:(c:Int) < (n:Int)+(m:Int):=by omega
 have hsz:(Tryz.prog.info? 29).map (·.size)=some 10:=by rw [hi0]; simp [hzs]
 have hbw:b < w.heap.size:=World.block_lt_of_cell? w _ (hcs 0 _ (List.getElem?_eq_getElem (by omega)))
 have hvw:vb < w.heap.size:=World.block_lt_of_cell? w _ (hvs 0 _ (List.getElem?_eq_getElem (by omega)))
 have hkk:(n:Int)+(m:Int) - (i:Int)=((n+m - i:Nat):Int):=by omega
 have hik:i+(n+m - i)=n+m:=by omega
 have hold:(Builtin.firstCells i0.size i (.slice (some ⟨b,off,none⟩) i c)).run Tryz.prog w.drew=.ok (cs.take (i*10)).toArray w.drew:=by
  rw [hzs]
  exact run_firstCells_some w.drew 10 i ⟨b,off,none⟩ i c (cs.take (i*10)) (by rw [List.length_take,hcl]; omega) (fun j v hj=>by
   rw [Addr.add_lit]
   rw [List.getElem?_take] at hj
   split at hj
   ·exact hcs j v hj
   ·cases hj)
 have hrz:∀ ty,(Builtin.append_ #[22,3] ty #[.slice (some ⟨b,off,none⟩) i c,.int .i64 ((n:Int)+(m:Int) - (i:Int))]).run Tryz.prog w =
   .ok (.slice (some ⟨w.heap.size,0,none⟩) (n+m) (grownCap w (n+m) c 29)) (w.drew.alloc (.cells ((cs.take (i*10)).toArray++Builtin.zeroCells zc (n+m - i)++Builtin.zeroCells zc (grownCap w (n+m) c 29 - (n+m))) 29)):=fun ty=>by
  have h:=Lib.run_append_grow_zeros w 22 3 ty 29 i0 z0 .i64 .i64 t_it (by kernel_rfl) hi0 hz0 (some ⟨b,off,none⟩) i c (cs.take (i*10)) hold (n+m - i) (by omega) (by omega) (by omega) (by omega) (by rw [hzb]; omega) (by rw [hzb,hik]; exact growslice_fits hroom (by omega))
  rw [hik,hzc2] at h
  rw [hkk]
  exact h
 obtain ⟨G,hG⟩:∃ G,G=grownCap w (n+m) c 29:=⟨_,rfl⟩
 obtain ⟨ROW,hROW⟩:∃ ROW:Array Value,ROW=(cs.take (i*10)).toArray++Builtin.zeroCells zc (n+m - i)++Builtin.zeroCells zc (G - (n+m)):=⟨_,rfl⟩
 rw [← hG] at hrz ⊢
 rw [← hROW] at hrz ⊢
 have hRl:(n+m)*10≤ROW.size:=by
  rw [hROW,Array.size_append,Array.size_append,zero_size,zero_size,hzl]
  simp only [List.size_toArray,List.length_take,hcl]
  omega
 obtain ⟨W1,hW1⟩:∃ W1,W1=w.drew.alloc (.cells ROW 29):=⟨_,rfl⟩
 rw [← hW1] at hrz
 have hN:∀ j,j < (n+m)*10→(W1.cell? ⟨w.heap.size,j,none⟩).isSome=true:=fun j hj=>by
  rw [hW1,World.cell?_alloc_at (w:=w.drew) ROW _ w.heap.size j rfl,Array.getElem?_eq_getElem (by omega)]; rfl
 have hNf:∀ j,W1.frozen? ⟨w.heap.size,j,none⟩=false:=fun j=>by rw [hW1]; exact World.frozen?_alloc_at (w:=w.drew) ROW _ w.heap.size j rfl
 have hOb:∀ j v,w.cell? ⟨b,j,none⟩=some v→W1.cell? ⟨b,j,none⟩=some v:=fun j v h=>by rw [hW1,World.cell?_alloc_past (w:=w.drew) _ b j hbw]; exact h
 have hOv:∀ j v,w.cell? ⟨vb,j,none⟩=some v→W1.cell? ⟨vb,j,none⟩=some v:=fun j v h=>by rw [hW1,World.cell?_alloc_past (w:=w.drew) _ vb j hvw]; exact h
 have hmnA:Nat.min m (n+m - i)=m:=by simp only [Nat.min_def]; split <;> omega
 have hmnB:Nat.min (n - i) (n+m - (i+m))=n - i:=by simp only [Nat.min_def]; split <;> omega
 have hcpA:∀ (W:World),(∀ x,W.cell? x=W1.cell? x)→(∀ x,W.frozen? x=W1.frozen? x)→∀ ty dc,(Builtin.copy_ #[22,22] ty #[.slice (some ⟨w.heap.size,i*10,none⟩) (n+m - i) dc,.slice (some ⟨vb,voff,none⟩) m vc]).run Tryz.prog W=.ok (goInt (m:Int)) (W.setCells w.heap.size (i*10) vs):=fun W hWc hWf ty dc=>by
  have:=run_copyN W 22 22 ty 29 10 w.heap.size (i*10) (n+m - i) dc ⟨vb,voff,none⟩ m vc vs t_it hsz (by rw [hvl,hmnA])
   (fun j v hj=>by rw [Addr.add_lit,hWc]; exact hOv _ v (hvs j v hj))
   (fun j hj=>by rw [hWc]; exact hN _ (by omega)) (fun j hj=>by rw [hWf]; exact hNf _) h1v
  rw [hmnA] at this
  exact this
 have hGn:n+m≤G:=by rw [hG]; exact grownCap_ge w _ _ _
 have hG63:G≤9223372036854775807:=by
  have:=grownCap_le_maxLen w (n+m) c 29 (by unfold maxLen; omega)
  rw [← hG] at this
  unfold maxLen at this
  omega
 have hGi:¬ (G=i):=by omega
 have hGim:¬ (G=i+m):=by omega
 have hci:¬ (c=i):=by omega
 have hbN:b≠w.heap.size:=by omega
 have hdl:(cs.drop (i*10)).length=(n - i)*10:=by rw [List.length_drop,hcl]; omega
 have hcpB:∀ (W:World),(∀ x,W.cell? x=(W1.setCells w.heap.size (i*10) vs).cell? x)→(∀ x,W.frozen? x=(W1.setCells w.heap.size (i*10) vs).frozen? x)→∀ ty dc sc,(Builtin.copy_ #[22,22] ty #[.slice (some ⟨w.heap.size,(i+m)*10,none⟩) (n+m - (i+m)) dc,.slice (some ⟨b,off+i*10,none⟩) (n - i) sc]).run Tryz.prog W=.ok (goInt ((n - i:Nat):Int)) (W.setCells w.heap.size ((i+m)*10) (cs.drop (i*10))):=fun W hWc hWf ty dc sc=>by
  have:=run_copyN W 22 22 ty 29 10 w.heap.size ((i+m)*10) (n+m - (i+m)) dc ⟨b,off+i*10,none⟩ (n - i) sc (cs.drop (i*10)) t_it hsz (by rw [hdl,hmnB])
   (fun j v hj=>by
    rw [Addr.add_lit,hWc,World.cell?_setCells_out _ _ _ _ _ (fun h _=>absurd h hbN),Nat.add_assoc]
    exact hOb _ v (hcs (i*10+j) v (by rwa [List.getElem?_drop] at hj)))
   (fun j hj=>by rw [hWc]; exact isSome_setCells _ _ _ _ (fun t ht=>hN _ (by omega)) _ (hN _ (by omega)))
   (fun j hj=>by rw [hWf,World.frozen?_setCells]; exact hNf _) (fun v hv=>h1c v (List.mem_of_mem_drop hv))
  rw [hmnB] at this
  exact this
 subst hW1
 have hE1:∀ x,((w.alloc (.cells ROW 29)).drew).cell? x=(w.drew.alloc (.cells ROW 29)).cell? x:=fun x=>rfl
 have hE2:∀ x,((w.alloc (.cells ROW 29)).drew).frozen? x=(w.drew.alloc (.cells ROW 29)).frozen? x:=fun x=>rfl
 have hF1:∀ x,(((w.alloc (.cells ROW 29)).drew.setCells w.heap.size (i*10) vs).drew).cell? x=((w.drew.alloc (.cells ROW 29)).setCells w.heap.size (i*10) vs).cell? x:=fun x=>rfl
 have hF2:∀ x,(((w.alloc (.cells ROW 29)).drew.setCells w.heap.size (i*10) vs).drew).frozen? x=((w.drew.alloc (.cells ROW 29)).setCells w.heap.size (i*10) vs).frozen? x:=fun x=>rfl
 have hw1:IntKind.i64.wrap ((i:Int)+(m:Int))=(i:Int)+(m:Int):=by rw [IntKind.wrap_i64]; omega
 have hb1:(0:Int)≤(i:Int)+(m:Int):=by omega
 have hin:i≤n:=by omega
 have htn:((i:Int)+(m:Int)).toNat=i+m:=by omega
 have hb3:(i:Int)≤(n:Int):=by omega
 clear hkk hik hold hROW hG hRl
 go_enter Tryz.func60,Tryz.ntmps60
 go_wp2_with (first
  | (at_builtin; refine Lib.wpList_append_run _ rfl _ _ _ _ rfl _ _ rfl rfl _ _ (hrz _) ?_)
  | (at_builtin; refine wpList_copy_runI _ rfl _ _ 22 22 rfl _ _ rfl rfl (hcpA _ hE1 hE2 _ _) ?_)
  | (at_builtin; refine wpList_copy_runI _ rfl _ _ 22 22 rfl _ _ rfl rfl (hcpB _ (fun _=>rfl) (fun _=>rfl) _ _ _) ?_))
 go_region_law_o (refine step_copy_runI rfl _ _ 22 22 rfl (.slice (some ⟨w.heap.size,(i+m)*10,none⟩) (n+m - (i+m)) (G - (i+m))) (.slice (some ⟨b,off+i*10,none⟩) (n - i) (c - i)) (by simp [Act.eval,Act.put]) (by simp [Act.eval,Act.put]) (hcpB _ hF1 hF2 3 (G - (i+m)) (c - i)) ?_)
 go_wp2
 go_ret
 exact ⟨rfl,rfl⟩
end Go.Proofs.YtgnnafneglannaaGreatDoor
