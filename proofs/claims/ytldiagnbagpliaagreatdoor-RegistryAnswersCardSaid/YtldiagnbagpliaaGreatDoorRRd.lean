import Derived.Test.YtldiagnbagpliaaGreatDoorRRc
import Derived.Test.YtldiagnbagpliaaGreatDoorProg
set_option maxRecDepth 100000
namespace Go.Proofs.YtldiagnbagpliaaGreatDoor
open Go
set_option linter.unusedVariables false
set_option linter.unusedSimpArgs false
def mod_s:Sp
 | [.int .i64 x,.int .i64 n]=>some (True,.int .i64 (modZ x n))
 | _=>none
def mod_T:Prop :=
 ∀ (gl:Glob) (x n:Int),IR9 x→IR9 n→bif decide (n < (1:Int)) then (0:Int)=modZ x n else bif decide ¬n=(0:Int) then bif decide (x.tmod n < (0:Int)) then bif decide (rng .i64 (x.tmod n+n)) then x.tmod n+n=modZ x n else False else x.tmod n=modZ x n else False
theorem mod_P:mod_T:=by
 unfold mod_T
 intro gl x n hx hn
 rw [ccond]
 simp only [decide_eq_true_eq,decide_eq_false_iff_not]
 refine ⟨fun h=>by unfold modZ; rw [if_pos h],fun h=>?_⟩
 have h1:=modZ_go x n (by omega)
 have h2:=tmod_bd x n (by omega)
 simp only [↓cdecF,cdec]
 simp only [rng]
 refine ⟨by omega,fun h3=>⟨by omega,(h1.1 h3).symm⟩,fun h3=>(h1.2 h3).symm⟩
def mod_S:Prop:=∀ (gl:Glob) (x n:Int),fnK Tryz.prog { glob:=gl,spec:=lk [],specH:=lk [] } { nt:=16,drop:=drp [(1,32),(3,896),(4,1024),(5,28672),(6,32768)] } (fun _ _=>none) 6 Tryz.f38 [.int .i64 x,.int .i64 n] (.int .i64 (modZ x n))
theorem mod_e:mod_T=mod_S:=by kernel_rfl
theorem mod_v:mod_S:=Eq.mp (mod_e ..) (mod_P)
theorem mod_ok (gl:Glob):SOK Tryz.prog gl 38 mod_s:=by
 refine ⟨fok Tryz.func38 (by kernel_rfl) (by kernel_rfl),?_⟩
 intro xs pre r h hp
 unfold mod_s at h
 split at h
 ·simp only [Option.some.injEq,Prod.mk.injEq] at h
  obtain ⟨h1,h2⟩:=h
  subst h1 h2
  exact fnK_sound tyNil (by exact specOK rfl rfl trivial trivial) (by kernel_rfl) Tryz.func38 rfl (mod_v gl _ _)
 ·cases h
def raw_s:SpH
 | [.ptr 0 0],[.cells [.sl 1 false xs,.int .i64 i]]=>some (SrcI xs∧0≤i,.int .i64 (rawV xs i),[.cells [.sl 1 false xs,.int .i64 (rawA xs i)]])
 | _,_=>none
def raw_T:Prop :=
  ∀ (gl:Glob) (xs:List (List AV)) (i:Int),SrcI xs∧0≤i→True→True→IR9 i→bif decide ((↑xs.length:Int)≤i) then (0:Int)=rawV xs i∧((True∧xs=xs)∧i=rawA xs i∧True)∧True else bif decide (rng .i64 (i+(1:Int))) then bif decide (rng .i64 (i+(1:Int) - (1:Int))) then bif decide (0≤i+(1:Int) - (1:Int)∧i+(1:Int) - (1:Int) <
 (↑xs.length:Int)) then ∃ n,List.take [AV.int .i64 n].length (xs.getD (i+(1:Int) - (1:Int)).toNat [])=[AV.int .i64 n]∧n=rawV xs i∧((True∧xs=xs)∧i+(1:Int)=rawA xs i∧True)∧True else False else False else False
theorem raw_P:raw_T:=by
 unfold raw_T
 intro gl xs i ⟨h,h0⟩ _ _ hi
 simp only [↓cdecF,cdec]
 simp only [rng]
 refine ⟨fun h1=>⟨?_,?_,trivial⟩,fun h1=>?_⟩
 ·unfold rawV; rw [if_pos h1]
 ·exact ⟨⟨trivial,trivial⟩,by unfold rawA; rw [if_pos h1],trivial⟩
 ·have hl:=h.short
  have hlt:i.toNat < xs.length:=by omega
  obtain ⟨n,hn,hr⟩:=h.ints xs[i.toNat] (List.getElem_mem hlt)
  have hg:xs.getD i.toNat []=[.int .i64 n]:=by rw [List.getD_eq_getElem?_getD,List.getElem?_eq_getElem hlt,hn]; rfl
  refine ⟨by omega,by omega,by omega,n,?_,?_,⟨⟨trivial,trivial⟩,?_,trivial⟩,trivial⟩
  ·rw [show i+1 - 1=i by omega,hg]; rfl
  ·unfold rawV; rw [if_neg h1,hg]; rfl
  ·unfold rawA; rw [if_neg h1]
def raw_S:Prop:=∀ (gl:Glob) (xs:List (List AV)) (i:Int),SrcI xs∧0≤i→fnH Tryz.prog { glob:=gl,spec:=lk [],specH:=lk [],shape:=[30] } { nt:=31,drop:=drp [(1,4088),(3,1040384),(4,2146435072)],fr:=1000,kp:=[0] } (fun _ _=>none) 6 Tryz.f39 [.ptr 0 0] [.cells [.sl 1 false xs,.int .i64 i]] (.int .i64 (rawV xs i)) [.cells [.sl 1 false xs,.int .i64 (rawA xs i)]]
theorem raw_e:raw_T=raw_S:=by kernel_rfl
theorem raw_v:raw_S:=Eq.mp (raw_e ..) (raw_P)
theorem raw_ok (gl:Glob):HOK Tryz.prog gl 39 raw_s:=by
 refine ⟨fok Tryz.func39 (by kernel_rfl) (by kernel_rfl),?_⟩
 intro xs bs pre r bs2 h hp
 unfold raw_s at h
 split at h
 ·simp only [Option.some.injEq,Prod.mk.injEq] at h
  obtain ⟨h1,h2,h3⟩:=h
  subst h1 h2 h3
  exact fnH_sound tyNil (by exact specOK rfl rfl trivial trivial) (by kernel_rfl) Tryz.func39 (raw_v gl _ _ hp)
 ·cases h
def srcn_s:SpH
 | [.ptr 0 0,.int .i64 n],[.cells [.sl 1 false xs,.int .i64 i]]=>some (SrcI xs∧0≤i,.int .i64 (srcN xs i n),[.cells [.sl 1 false xs,.int .i64 (rawA xs i)]])
 | _,_=>none
def srcn_T:Prop :=
  ∀ (gl:Glob) (xs:List (List AV)) (i n:Int),SrcI xs∧0≤i→True→IR9 n→True→IR9 i→(SrcI xs∧0≤i)∧((-9223372036854775808:Int)≤rawV xs i∧rawV xs i≤(9223372036854775807:Int)→True∧((-9223372036854775808:Int)≤modZ (rawV xs i) n∧modZ (rawV xs i) n ≤
 (9223372036854775807:Int)→modZ (rawV xs i) n=srcN xs i n∧((True∧xs=xs)∧rawA xs i=rawA xs i∧True)∧True))
theorem srcn_P:srcn_T:=by
 unfold srcn_T
 intro gl xs i n h _ hn _ hi
 exact ⟨h,fun _=>⟨trivial,fun _=>⟨rfl,⟨⟨trivial,rfl⟩,rfl,trivial⟩,trivial⟩⟩⟩
def srcn_S:Prop:=∀ (gl:Glob) (xs:List (List AV)) (i n:Int),SrcI xs∧0≤i→fnH Tryz.prog { glob:=gl,spec:=lk [(38,mod_s)],specH:=lk [(39,raw_s)] } { nt:=9,drop:=drp [(1,480)],fr:=1000,kp:=[0] } (fun _ _=>none) 6 Tryz.f37 [.ptr 0 0,.int .i64 n] [.cells [.sl 1 false xs,.int .i64 i]] (.int .i64 (srcN xs i n)) [.cells [.sl 1 false xs,.int .i64 (rawA xs i)]]
theorem srcn_e:srcn_T=srcn_S:=by kernel_rfl
theorem srcn_v:srcn_S:=Eq.mp (srcn_e ..) (srcn_P)
theorem srcn_ok (gl:Glob):HOK Tryz.prog gl 37 srcn_s:=by
 refine ⟨fok Tryz.func37 (by kernel_rfl) (by kernel_rfl),?_⟩
 intro xs bs pre r bs2 h hp
 unfold srcn_s at h
 split at h
 ·simp only [Option.some.injEq,Prod.mk.injEq] at h
  obtain ⟨h1,h2,h3⟩:=h
  subst h1 h2 h3
  exact fnH_sound tyNil (by exact specOK rfl rfl ⟨(mod_ok gl),trivial⟩ ⟨(raw_ok gl),trivial⟩) (by kernel_rfl) Tryz.func37 (srcn_v gl _ _ _ hp)
 ·cases h
def newsrc_s:SpH
 | [.sl 1 false xs],[]=>some (True,.ptr 0 0,[.cells [.sl 1 false (xs.take 2000),.int .i64 0]])
 | _,_=>none
def newsrc_T:Prop :=
 ∀ (gl:Glob) (xs:List (List AV)),True→bif decide (0≤min (↑xs.length:Int) (2000:Int)∧min (↑xs.length:Int) (2000:Int)≤(↑xs.length:Int)) then bif decide ((0:Int)≤(0:Int)∧0≤min (↑xs.length:Int) (2000:Int)) then (0:Nat)=0∧((True∧List.drop (0:Nat) (List.take (min (↑xs.length:Int) (2000:Int)).toNat xs)=List.take (2000:Nat) xs)∧(0:Int)=0∧True)∧True else False else False
theorem newsrc_P:newsrc_T:=by
 unfold newsrc_T
 intro gl xs _
 simp only [↓cdecF]
 refine ⟨by omega,by omega,by trivial,⟨⟨trivial,?_⟩,by trivial,trivial⟩,trivial⟩
 rw [List.drop_zero]
 by_cases h:xs.length≤2000
 ·rw [List.take_of_length_le (by omega),List.take_of_length_le h]
 ·rw [show (min (xs.length:Int) 2000).toNat=2000 by omega]
def newsrc_S:Prop:=∀ (gl:Glob) (xs:List (List AV)),fnH Tryz.prog { glob:=gl,spec:=lk [],specH:=lk [] } { nt:=10,drop:=drp [(1,1016)],fr:=1000,kp:=[] } (fun _ _=>none) 6 Tryz.f10 [.sl 1 false xs] [] (.ptr 0 0) [.cells [.sl 1 false (xs.take 2000),.int .i64 0]]
theorem newsrc_e:newsrc_T=newsrc_S:=by kernel_rfl
theorem newsrc_v:newsrc_S:=Eq.mp (newsrc_e ..) (newsrc_P)
theorem newsrc_ok (gl:Glob):HOK Tryz.prog gl 10 newsrc_s:=by
 refine ⟨fok Tryz.func10 (by kernel_rfl) (by kernel_rfl),?_⟩
 intro xs bs pre r bs2 h hp
 unfold newsrc_s at h
 split at h
 ·simp only [Option.some.injEq,Prod.mk.injEq] at h
  obtain ⟨h1,h2,h3⟩:=h
  subst h1 h2 h3
  exact fnH_sound tyNil (by exact specOK rfl rfl trivial trivial) (by kernel_rfl) Tryz.func10 (newsrc_v gl _)
 ·cases h
end Go.Proofs.YtldiagnbagpliaaGreatDoor
namespace Go.Proofs.YtldiagnbagpliaaGreatDoor
open Go
set_option linter.unusedVariables false
set_option linter.unusedSimpArgs false
structure SrcQ (xs:List (List AV)) (i:Int):Prop where
 s:SrcI xs
 lo:0≤i
structure RawQ (v j:Int):Prop where
 fv:-9223372036854775808≤v∧v≤9223372036854775807
 fj:0≤j
structure NumQ (n v j:Int):Prop where
 fv:1≤n→0≤v∧v < n
 fz:n < 1→v=0
 fj:0≤j
def qraw_s:SpQ
 | [.ptr 0 0],[.cells [.sl 1 false xs,.int .i64 i]]=>some (fun K=>SrcQ xs i∧∀ v j:Int,RawQ v j→K (.int .i64 v) [.cells [.sl 1 false xs,.int .i64 j]])
 | _,_=>none
theorem rawV_rng {xs:List (List AV)} (h:IntsA xs) (i:Int):rng .i64 (rawV xs i):=by
 unfold rawV
 split
 ·show _∧_; omega
 ·rename_i hi
  rcases Nat.lt_or_ge i.toNat xs.length with hl | hl
  ·rw [List.getD_eq_getElem?_getD,List.getElem?_eq_getElem hl]
   obtain ⟨n,e,hn⟩:=h _ (List.getElem_mem hl)
   simp only [Option.getD_some,e]
   exact hn
  ·rw [List.getD_eq_getElem?_getD,List.getElem?_eq_none hl]
   show _∧_
   simp only [Option.getD_none,cellI]
   omega
theorem qraw_ok (gl:Glob):QOK Tryz.prog gl 39 qraw_s:=by
 refine ⟨(raw_ok gl).1,fun xs bs T h K hT=>?_⟩
 unfold qraw_s at h
 split at h
 ·simp only [Option.some.injEq] at h
  subst h
  obtain ⟨hp,hK⟩:=hT
  exact ⟨_,_,hK _ _ ⟨rawV_rng hp.s.ints _,rawA_le hp.lo⟩,(raw_ok gl).2 _ _ _ _ _ rfl ⟨hp.s,hp.lo⟩⟩
 ·cases h
def qn_s:SpQ
 | [.ptr 0 0,.int .i64 n],[.cells [.sl 1 false xs,.int .i64 i]]=>some (fun K=>SrcQ xs i∧∀ v j:Int,NumQ n v j→K (.int .i64 v) [.cells [.sl 1 false xs,.int .i64 j]])
 | _,_=>none
theorem qn_ok (gl:Glob):QOK Tryz.prog gl 37 qn_s:=by
 refine ⟨(srcn_ok gl).1,fun xs bs T h K hT=>?_⟩
 unfold qn_s at h
 split at h
 ·simp only [Option.some.injEq] at h
  subst h
  obtain ⟨hp,hK⟩:=hT
  refine ⟨_,_,hK _ _ ⟨fun h=>srcN_lt h,fun h=>?_,rawA_le hp.lo⟩,(srcn_ok gl).2 _ _ _ _ _ rfl ⟨hp.s,hp.lo⟩⟩
  unfold srcN modZ
  rw [if_pos h]
 ·cases h
def qrange_s:SpQ
 | [.ptr 0 0,.int .i64 lo,.int .i64 hi],[.cells [.sl 1 false xs,.int .i64 i]]=>some (fun K=>(SrcQ xs i∧lo≤hi∧-1000000000≤lo∧hi≤1000000000)∧(∀ (v j:Int),((lo≤v∧v≤hi)∧0≤j)→K (.int .i64 v) [.cells [.sl 1 false xs,.int .i64 j]]))
 | _,_=>none
def qrange_T:Prop :=
  ∀ (gl:Glob) (xs:List (List AV)) (i lo hi:Int),SrcQ xs i∧lo≤hi∧(-1000000000:Int)≤lo∧hi≤(1000000000:Int)→bif decide (rng .i64 (hi - lo)) then bif decide (rng .i64 (hi - lo+(1:Int))) then SrcQ xs i∧∀ (v j:Int),NumQ (hi - lo+(1:Int)) v j→bif decide (rng .i64 (lo+v)) then ∃ v_1 j_1,((lo≤v_1∧v_1≤hi)∧0≤j_1)∧lo+v=v_1∧((True∧xs=xs)∧j=j_1∧True)∧True else False else False else
 False
theorem qrange_P:qrange_T:=by
 unfold qrange_T
 intro gl xs i lo hi ⟨hs,h1,h2,h3⟩
 refine cdI (by omega) (cdI (by omega) ⟨hs,fun v j hq=>?_⟩)
 have hv:=hq.fv (by omega)
 have hj:=hq.fj
 exact cdI (by omega) ⟨_,_,⟨by omega,hj⟩,rfl,⟨⟨trivial,rfl⟩,rfl,trivial⟩,trivial⟩
def qrange_S:Prop:=∀ (gl:Glob) (xs:List (List AV)) (i lo hi:Int),SrcQ xs i∧lo≤hi∧-1000000000≤lo∧hi≤1000000000→fnQ Tryz.prog { glob:=gl,spec:=lk [],specH:=lk [],specQ:=lk [(37,qn_s)],nowf:=true } { nt:=15,drop:=drp [(1,32640)],fr:=1000,kp:=[0] } (fun _ _=>none) 6 Tryz.f24 [.ptr 0 0,.int .i64 lo,.int .i64 hi] [.cells [.sl 1 false xs,.int .i64 i]] (fun r2 bs2=>∃ (v j:Int),((lo≤v∧v≤hi)∧0≤j)∧le r2 (.int .i64 v)∧leBs bs2 [.cells [.sl 1 false xs,.int .i64 j]])
theorem qrange_e:qrange_T=qrange_S:=by kernel_rfl
theorem qrange_v:qrange_S:=Eq.mp (qrange_e ..) (qrange_P)
theorem qrange_ok (gl:Glob):QOK Tryz.prog gl 24 qrange_s:=by
 refine ⟨fok Tryz.func24 (by kernel_rfl) (by kernel_rfl),?_⟩
 intro xs bs T h K hT
 unfold qrange_s at h
 split at h
 ·simp only [Option.some.injEq] at h
  subst h
  obtain ⟨hp,hK⟩:=hT
  obtain ⟨r,bs2,⟨o0,o1,hq,hl,hb⟩,hC⟩:=fnQ_sound tyNil (by exact specOK rfl rfl trivial trivial (d:=qsOf rfl ⟨(qn_ok gl),trivial⟩)) (by kernel_rfl) Tryz.func24 (qrange_v gl _ _ _ _ hp)
  exact ⟨_,_,hK o0 o1 hq,hC.le hl hb⟩
 ·cases h
structure IntsB (ys:List (List AV)):Prop where
 fi:∀ x ∈ ys,∃ n:Int,x=[.int .i64 n]∧rng .i64 n
structure PickQ (ys:List (List AV)) (v:AV) (j:Int):Prop where
 fm:[v] ∈ ys
 fj:0≤j
def qpick_s:SpQ
 | [.ptr 0 0,.rw 1 1 n],[.cells [.sl 1 false xs,.int .i64 i],.row 3 1 ys]=>some (fun K=>(SrcQ xs i∧(n=ys.length∧1≤n∧n≤1000)∧IntsB ys)∧(∀ (v j:Int),(PickQ ys (.int .i64 v) j)→K (.int .i64 v) [.cells [.sl 1 false xs,.int .i64 j],.row 3 1 ys]))
 | _,_=>none
def qpick_T:Prop :=
  ∀ (gl:Glob) (xs ys:List (List AV)) (i:Int) (n:Nat),SrcQ xs i∧(n=ys.length∧1≤n∧n≤(1000:Nat))∧IntsB ys→SrcQ xs i∧∀ (v j:Int),NumQ (↑n:Int) v j→bif decide (0≤v∧v < (↑n:Int)) then bif decide (n=ys.length∧v.toNat < ys.length) then ∃ n,List.take [AV.int .i64 n].length (List.drop (0:Nat) (ys.getD v.toNat []))=[AV.int .i64 n]∧∃ v j_1,PickQ ys (AV.int .i64 v)
 j_1∧n=v∧((True∧xs=xs)∧j=j_1∧True)∧ys=ys∧True else False else False
theorem qpick_P:qpick_T:=by
 unfold qpick_T
 intro gl xs ys i n ⟨hs,⟨h1,h2,h3⟩,hi⟩
 refine ⟨hs,fun v j hq=>?_⟩
 have hv:=hq.fv (by omega)
 have hj:=hq.fj
 have hl:v.toNat < ys.length:=by omega
 have hm:ys.getD v.toNat [] ∈ ys:=by
  rw [List.getD_eq_getElem?_getD,List.getElem?_eq_getElem hl]; exact List.getElem_mem hl
 obtain ⟨z,hz,hr⟩:=hi.fi _ hm
 refine cd1 (by omega) (cd1 ⟨h1,hl⟩ ⟨z,by rw [hz]; rfl,z,j,⟨by rw [← hz]; exact hm,hj⟩,rfl,⟨⟨trivial,rfl⟩,rfl,trivial⟩,rfl,trivial⟩)
def qpick_S:Prop:=∀ (gl:Glob) (xs ys:List (List AV)) (i:Int) (n:Nat),SrcQ xs i∧(n=ys.length∧1≤n∧n≤1000)∧IntsB ys→fnQ Tryz.prog { glob:=gl,spec:=lk [],specH:=lk [],specQ:=lk [(37,qn_s)],shape:=[11],nowf:=true } { nt:=12,drop:=drp [(1,4064)],fr:=1000,kp:=[0,1] } (fun _ _=>none) 6 Tryz.f40 [.ptr 0 0,.rw 1 1 n] [.cells [.sl 1 false xs,.int .i64 i],.row 3 1 ys] (fun r2 bs2=>∃ (v j:Int),(PickQ ys (.int .i64 v) j)∧le r2 (.int .i64 v)∧leBs bs2 [.cells [.sl 1 false xs,.int .i64 j],.row 3 1 ys])
theorem qpick_e:qpick_T=qpick_S:=by kernel_rfl
theorem qpick_v:qpick_S:=Eq.mp (qpick_e ..) (qpick_P)
theorem qpick_ok (gl:Glob):QOK Tryz.prog gl 40 qpick_s:=by
 refine ⟨fok Tryz.func40 (by kernel_rfl) (by kernel_rfl),?_⟩
 intro xs bs T h K hT
 unfold qpick_s at h
 split at h
 ·simp only [Option.some.injEq] at h
  subst h
  obtain ⟨hp,hK⟩:=hT
  obtain ⟨r,bs2,⟨o0,o1,hq,hl,hb⟩,hC⟩:=fnQ_sound tyNil (by exact specOK rfl rfl trivial trivial (d:=qsOf rfl ⟨(qn_ok gl),trivial⟩)) (by kernel_rfl) Tryz.func40 (qpick_v gl _ _ _ _ hp)
  exact ⟨_,_,hK o0 o1 hq,hC.le hl hb⟩
 ·cases h
theorem pick_of (l:List Int) {v j:Int} (h:PickQ (irow l) (.int .i64 v) j):v ∈ l:=by
 have:=h.fm
 unfold irow at this
 simp only [List.mem_map] at this
 obtain ⟨n,hn,e⟩:=this
 simp only [List.cons.injEq,AV.int.injEq,true_and,and_true] at e
 exact e ▸ hn
theorem ints_of (l:List Int) (h:∀ n ∈ l,rng .i64 n):IntsB (irow l):=by
 refine ⟨fun x hx=>?_⟩
 unfold irow at hx
 simp only [List.mem_map] at hx
 obtain ⟨n,hn,rfl⟩:=hx
 exact ⟨n,rfl,h n hn⟩
end Go.Proofs.YtldiagnbagpliaaGreatDoor
namespace Go.Proofs.YtldiagnbagpliaaGreatDoor
open Go
def crnT:List Int:=[0,1,2,0,2,3,0,3,4,0,4,5,0,5,1,
 1,6,2,2,7,3,3,8,4,4,9,5,5,10,1,
 6,7,2,7,8,3,8,9,4,9,10,5,10,6,1,
 11,7,6,11,8,7,11,9,8,11,10,9,11,6,10]
def bndT:List Int:=[8000,11000,1800,3300,1800,3300,-1000,1000,-1000,1000,900,1700,2000,3200,2400,3400,2000,3000,4400,6200,2000,2900]
def glb:Glob:=fun g=>cond (Nat.beq g 0) (some (bndT.map (AV.int .i64))) (cond (Nat.beq g 1) (some (crnT.map (AV.int .i64))) none)
end Go.Proofs.YtldiagnbagpliaaGreatDoor
namespace Go.Proofs.YtldiagnbagpliaaGreatDoor
open Go
set_option linter.unusedVariables false
set_option linter.unusedSimpArgs false
theorem cs {p:Prop} [Decidable p] {A B:Prop} (h:p→A) (k:¬ p→B):cond (decide p) A B:=csplit (fun q=>h (of_decide_eq_true q)) (fun q=>k (of_decide_eq_false q))
def dgL:Nat→Int→List Int
 | 0,_=>[]
 | n+1,x=>dgL n (x / 10)++[48+x % 10]
def numR (s:ByteArray):Nat→Int
 | 0=>0
 | k+1=>10*numR s k+IntKind.u8.wrap (byteI s k - 48)
structure NumP (s:ByteArray) (x:Int × Int):Prop where
 lo:0≤x.1
 hi:x.1≤s.size
 v:x.2=numR s x.1.toNat
structure NumS (s:ByteArray):Prop where
 small:s.size≤8
def dgS (n:Int) (w:Nat):ByteArray:=strOfNums (dgL w n)
structure RdgP (n:Int) (w:Nat) (x:Int × Int × ByteArray):Prop where
 lo:0≤x.1
 hi:x.1≤w
 pos:0≤x.2.1
 big:x.2.1≤9999
 eq:dgS n w=strOfNums (dgL (w - x.1.toNat) x.2.1)++x.2.2
 sz:x.2.2.size=x.1.toNat
end Go.Proofs.YtldiagnbagpliaaGreatDoor
namespace Go.Proofs.YtldiagnbagpliaaGreatDoor
open Go
set_option linter.unusedVariables false
set_option linter.unusedSimpArgs false
def letC:ByteArray:=⟨#[80,84,68,69,78,65,66,70,71,74,75]⟩
def okC (c:Int):Bool:=decide (1≤c∧c≤11)
def inLo (c:Int):Int:=if okC c then bndT.getD (2*(c - 1).toNat) 0 else 0
def inHi (c:Int):Int:=if okC c then bndT.getD (2*(c - 1).toNat+1) 0 else 0
def iL (c:Int):ByteArray:=if okC c then Utf8.encode (byteI letC (c - 1).toNat) else ⟨#[]⟩
def inD (c:Int):Int:=if okC c then (if c=1 then 5 else 4) else 0
def inE (c:Int):Int:=if okC c then 0 else 4
theorem okC_cases {c:Int} (h:okC c=true):c=1∨c=2∨c=3∨c=4∨c=5∨c=6∨c=7∨c=8∨c=9∨c=10∨c=11:=by
 have:1≤c∧c≤11:=of_decide_eq_true h
 omega
def edesc_s (iL:Int→ByteArray) (inLo:Int→Int) (inHi:Int→Int) (inD:Int→Int) (inE:Int→Int):Sp
 | [.int .i64 c]=>some (True,.tup [.agg [.str (iL c),.int .i64 (inLo c),.int .i64 (inHi c),.int .i64 (inD c)],.int .i64 (inE c)])
 | _=>none
def edesc_T (iL:Int→ByteArray) (inLo:Int→Int) (inHi:Int→Int) (inD:Int→Int) (inE:Int→Int):Prop :=
  ∀ (c:Int),IR9 c→bif decide (c < (1:Int)) then ((⟨#[]⟩:ByteArray)=iL c∧(0:Int)=inLo c∧(0:Int)=inHi c∧(0:Int)=inD c∧True)∧(4:Int)=inE c∧True else bif decide (11 < c) then ((⟨#[]⟩:ByteArray)=iL c∧(0:Int)=inLo c∧(0:Int)=inHi c∧(0:Int)=inD c∧True)∧(4:Int)=inE c∧True else bif decide (rng .i64 (c - (1:Int))) then bif decide (0≤c -
 (1:Int)∧c - (1:Int) < (11:Int)) then ∃ n n_1,List.take [AV.int .i64 n,.int .i64 n_1].length (List.drop ((c - (1:Int)).toNat*(2:Nat)) (List.map (AV.int .i64) bndT))=[AV.int .i64 n,.int .i64 n_1]∧bif decide (rng .i64 (c - (1:Int))) then bif decide (0≤c - (1:Int)∧c - (1:Int) < (11:Int)) then bif decide (c=(1:Int)) then (Utf8.encode (byteI { data:=#[(80:UInt8),(84:UInt8),(68 :
 UInt8),(69:UInt8),(78:UInt8),(65:UInt8),(66:UInt8),(70:UInt8),(71:UInt8),(74:UInt8),(75:UInt8)] } (c - (1:Int)).toNat)=iL c∧n=inLo c∧n_1=inHi c∧(5:Int)=inD c∧True)∧(0:Int)=inE c∧True else (Utf8.encode (byteI { data:=#[(80:UInt8),(84:UInt8),(68:UInt8),(69:UInt8),(78:UInt8),(65:UInt8),(66:UInt8),(70:UInt8),(71:UInt8),(74:UInt8),(75:UInt8)] } (c -
 (1:Int)).toNat)=iL c∧n=inLo c∧n_1=inHi c∧(4:Int)=inD c∧True)∧(0:Int)=inE c∧True else False else False else False else False
theorem edesc_P:edesc_T iL inLo inHi inD inE:=by
 unfold edesc_T
 intro c hc
 have hn:okC c=false→((⟨#[]⟩:ByteArray)=iL c∧0=inLo c∧0=inHi c∧0=inD c∧True)∧4=inE c∧True:=by
  intro h; unfold iL inLo inHi inD inE; rw [h]; exact ⟨⟨rfl,rfl,rfl,rfl,trivial⟩,rfl,trivial⟩
 refine cs (fun h=>hn (decide_eq_false (by omega))) (fun h1=>cs (fun h=>hn (decide_eq_false (by omega))) (fun h2=>?_))
 have hk:okC c=true:=decide_eq_true (by omega)
 refine cdI (by omega) (cd1 (by omega) ⟨inLo c,inHi c,?_,cdI (by omega) (cd1 (by omega) ?_)⟩)
 ·rcases okC_cases hk with rfl | rfl | rfl | rfl | rfl | rfl | rfl | rfl | rfl | rfl | rfl <;> rfl
 ·unfold iL inD inE
  rw [hk]
  simp only [if_true]
  refine cs (fun h=>?_) (fun h=>?_)
  ·rw [if_pos h]; exact (by repeat' (first | apply And.intro | exact trivial | exact rfl))
  ·rw [if_neg h]; exact (by repeat' (first | apply And.intro | exact trivial | exact rfl))
def edesc_S (iL:Int→ByteArray) (inLo:Int→Int) (inHi:Int→Int) (inD:Int→Int) (inE:Int→Int):Prop:=∀ (c:Int),fnK Tryz.prog { glob:=glb,spec:=lk [],specH:=lk [],shape:=[16],nowf:=true } { nt:=30,drop:=drp [(1,1984),(2,4096),(3,122880),(4,66977792),(5,67108864),(6,268435456),(7,536870912)] } (fun _ _=>none) 6 Tryz.f96 [.int .i64 c] (.tup [.agg [.str (iL c),.int .i64 (inLo c),.int .i64 (inHi c),.int .i64 (inD c)],.int .i64 (inE c)])
theorem edesc_e (iL:Int→ByteArray) (inLo:Int→Int) (inHi:Int→Int) (inD:Int→Int) (inE:Int→Int):edesc_T iL inLo inHi inD inE=edesc_S iL inLo inHi inD inE:=by kernel_rfl
theorem edesc_v:edesc_S iL inLo inHi inD inE:=Eq.mp (edesc_e ..) (edesc_P)
theorem edesc_ok:SOK Tryz.prog glb 96 (edesc_s iL inLo inHi inD inE):=by
 refine ⟨fok Tryz.func96 (by kernel_rfl) (by kernel_rfl),?_⟩
 intro xs pre r h hp
 unfold edesc_s at h
 split at h
 ·simp only [Option.some.injEq,Prod.mk.injEq] at h
  obtain ⟨h1,h2⟩:=h
  subst h1 h2
  exact fnK_sound tyNil (by exact specOK rfl rfl trivial trivial) (by kernel_rfl) Tryz.func96 rfl (edesc_v  _)
 ·cases h
def ck (e v:Int):Int:=if okC e then (if v < inLo e∨inHi e < v then 1 else 0) else 4
def echeck_s (ck:Int→Int→Int):Sp
 | [.agg [.int .i64 e,.int .i64 v]]=>some (True,.int .i64 (ck e v))
 | _=>none
def echeck_T (ck:Int→Int→Int) (iL:Int→ByteArray) (inLo:Int→Int) (inHi:Int→Int) (inD:Int→Int) (inE:Int→Int):Prop :=
 ∀ (e v:Int),(IR9 e)∧(IR9 v)∧True→True∧bif decide (inE e=(0:Int)) then bif decide (v < inLo e) then (1:Int)=ck e v else bif decide (inHi e < v) then (1:Int)=ck e v else inE e=ck e v else inE e=ck e v
theorem echeck_P:echeck_T ck iL inLo inHi inD inE:=by
 unfold echeck_T
 intro e v h
 refine ⟨trivial,?_⟩
 unfold ck inE
 cases hk:okC e with
 | false=>exact cd0 (by decide) rfl
 | true =>
  simp only [if_true]
  refine cd1 (by trivial) (cs (fun q=>?_) (fun q=>cs (fun r=>?_) (fun r=>?_)))
  ·rw [if_pos (.inl q)]
  ·rw [if_pos (.inr r)]
  ·rw [if_neg (by omega)]
def echeck_S (ck:Int→Int→Int) (iL:Int→ByteArray) (inLo:Int→Int) (inHi:Int→Int) (inD:Int→Int) (inE:Int→Int):Prop:=∀ (e v:Int),fnK Tryz.prog { glob:=glb,spec:=lk [(96,(edesc_s iL inLo inHi inD inE))],specH:=lk [],nowf:=true } { nt:=28,drop:=drp [(1,2016),(2,67106816),(4,134217728)] } (fun _ _=>none) 6 Tryz.f87 [.agg [.int .i64 e,.int .i64 v]] (.int .i64 (ck e v))
theorem echeck_e (ck:Int→Int→Int) (iL:Int→ByteArray) (inLo:Int→Int) (inHi:Int→Int) (inD:Int→Int) (inE:Int→Int):echeck_T ck iL inLo inHi inD inE=echeck_S ck iL inLo inHi inD inE:=by kernel_rfl
theorem echeck_v:echeck_S ck iL inLo inHi inD inE:=Eq.mp (echeck_e ..) (echeck_P)
theorem echeck_ok:SOK Tryz.prog glb 87 (echeck_s ck):=by
 refine ⟨fok Tryz.func87 (by kernel_rfl) (by kernel_rfl),?_⟩
 intro xs pre r h hp
 unfold echeck_s at h
 split at h
 ·simp only [Option.some.injEq,Prod.mk.injEq] at h
  obtain ⟨h1,h2⟩:=h
  subst h1 h2
  exact fnK_sound tyNil (by exact specOK rfl rfl ⟨(edesc_ok),trivial⟩ trivial) (by kernel_rfl) Tryz.func87 rfl (echeck_v  _ _)
 ·cases h
def idxP (p:List AV→Bool) (xs:List (List AV)):Int:=if xs.any p then (xs.findIdx p:Int) else -1
theorem idx_some {p:List AV→Bool} {xs:List (List AV)} {i:Nat} (hi:i < xs.length) (h:p (xs.getD i [])=true) (hn:∀ j,j < i→p (xs.getD j [])=false):(i:Int)=idxP p xs:=by
 have e:∀ j (hj:j < xs.length),xs.getD j []=xs[j]:=fun j hj=>by rw [List.getD_eq_getElem?_getD,List.getElem?_eq_getElem hj]; rfl
 unfold idxP
 rw [if_pos (List.any_eq_true.2 ⟨xs[i],List.getElem_mem hi,by rw [← e i hi]; exact h⟩)]
 rw [(List.findIdx_eq hi).2 ⟨by rw [← e i hi]; exact h,fun j hj=>by rw [← e j (by omega)]; exact hn j hj⟩]
theorem idx_none {p:List AV→Bool} {xs:List (List AV)} (hn:∀ j,j < xs.length→p (xs.getD j [])=false):-1=idxP p xs:=by
 unfold idxP
 rw [if_neg]
 intro h
 obtain ⟨x,hx,hp⟩:=List.any_eq_true.1 h
 obtain ⟨j,hj,rfl⟩:=List.mem_iff_getElem.1 hx
 have:=hn j hj
 rw [List.getD_eq_getElem?_getD,List.getElem?_eq_getElem hj] at this
 rw [show (some xs[j]).getD []=xs[j] from rfl,hp] at this
 cases this
theorem idx_ge {p:List AV→Bool} {xs:List (List AV)}:decide (0≤idxP p xs)=xs.any p:=by
 unfold idxP
 cases h:xs.any p with
 | true=>rw [if_pos rfl]; exact decide_eq_true (by omega)
 | false=>rw [if_neg (by simp)]; rfl
structure RdsP (xs:List (List AV)):Prop where
 row:∀ i,i < xs.length→∃ e v:Int,xs.getD i []=[.int .i64 e,.int .i64 v]∧rng .i64 e∧rng .i64 v
 sm:xs.length≤9223372036854775807
def rE (r:List AV):Int:=cellI (r.take 1)
def rV (r:List AV):Int:=cellI (r.drop 1)
def ckP (bad:Int) (r:List AV):Bool:=decide (ck (rE r) (rV r)=bad)
def cdP (code:Int) (r:List AV):Bool:=decide (rE r=code)
def ckI (bad:Int) (xs:List (List AV)):Int:=idxP (ckP bad) xs
def ckA (bad:Int) (xs:List (List AV)):Bool:=xs.any (ckP bad)
def cdI' (code:Int) (xs:List (List AV)):Int:=idxP (cdP code) xs
def evc29_s (ck:Int→Int→Int):SpH
 | [.agg [.int .i64 e,.int .i64 v],.ptr 0 0],[.cells [.int .i64 bad]]=>some (True,.bool (decide (ck e v=bad)),[.cells [.int .i64 bad]])
 | _,_=>none
def evc29_T (ck:Int→Int→Int):Prop :=
 ∀ (e v bad:Int),(IR9 e)∧(IR9 v)∧True→True→IR9 bad→True∧decide (ck e v=bad)=decide (ck e v=bad)∧(bad=bad∧True)∧True
theorem evc29_P:evc29_T ck:=by
 unfold evc29_T
 intro e v bad h _ hb
 exact ⟨trivial,rfl,⟨rfl,trivial⟩,trivial⟩
def evc29_S (ck:Int→Int→Int):Prop:=∀ (e v bad:Int),fnH Tryz.prog { glob:=glb,spec:=lk [(87,(echeck_s ck))],specH:=lk [],nowf:=true } { nt:=8,drop:=drp [(1,240)],fr:=1000,kp:=[0] } (fun _ _=>none) 6 Tryz.f86 [.agg [.int .i64 e,.int .i64 v],.ptr 0 0] [.cells [.int .i64 bad]] (.bool (decide (ck e v=bad))) [.cells [.int .i64 bad]]
theorem evc29_e (ck:Int→Int→Int):evc29_T ck=evc29_S ck:=by kernel_rfl
theorem evc29_v:evc29_S ck:=Eq.mp (evc29_e ..) (evc29_P)
theorem evc29_ok:HOK Tryz.prog glb 86 (evc29_s ck):=by
 refine ⟨fok Tryz.func86 (by kernel_rfl) (by kernel_rfl),?_⟩
 intro xs bs pre r bs2 h hp
 unfold evc29_s at h
 split at h
 ·simp only [Option.some.injEq,Prod.mk.injEq] at h
  obtain ⟨h1,h2,h3⟩:=h
  subst h1 h2 h3
  exact fnH_sound tyNil (by exact specOK rfl rfl ⟨(echeck_ok),trivial⟩ trivial) (by kernel_rfl) Tryz.func86 (evc29_v  _ _ _)
 ·cases h
structure IdxI (p:List AV→Bool) (xs:List (List AV)) (i:Int):Prop where
 lo:0≤i
 hi:i≤xs.length
 no:∀ j:Nat,(j:Int) < i→p (xs.getD j [])=false
def ixI (k:Nat) (p:List AV→Bool) (f:Bool) (bad:Int) (xs:List (List AV)):LInv:=⟨Int,fun i=>⟨[(0,.sl 2 f xs),(1,.fn k [.ptr 0 0]),(7,.int .i64 xs.length),(8,.int .i64 i)],[(0,.cells [.int .i64 bad])]⟩,IdxI p xs,fun i=>(xs.length - i).toNat,none⟩
def eix_s (ck:Int→Int→Int) (ckI:Int→List (List AV)→Int):SpH
 | [.sl 2 f xs,.fn 86 [.ptr 0 0]],[.cells [.int .i64 bad]]=>some (RdsP xs,.int .i64 (ckI bad xs),[.cells [.int .i64 bad]])
 | _,_=>none
def eix_T (ck:Int→Int→Int) (ckI:Int→List (List AV)→Int):Prop :=
  ∀ (f:Bool) (xs:List (List AV)) (bad:Int),RdsP xs→True→True→IR9 bad→(∃ x,IdxI (ckP bad) xs x∧(((bif f then f=true else True)∧xs=xs)∧((0:Nat)=0∧True)∧(↑xs.length:Int)=(↑xs.length:Int)∧(0:Int)=x∧True)∧(bad=bad∧True)∧True)∧∀ (x:Int),IdxI (ckP bad) xs x→bif decide (x < (↑xs.length:Int)) then bif decide (0≤x∧x < (↑xs.length:Int)) then
 ∃ n n_1,List.take [AV.int .i64 n,.int .i64 n_1].length (xs.getD x.toNat [])=[AV.int .i64 n,.int .i64 n_1]∧True∧bif decide (ck n n_1=bad) then x=ckI bad xs∧(bad=bad∧True)∧True else bif decide (rng .i64 (x+(1:Int))) then ∃ y,IdxI (ckP bad) xs y∧(ixI (71:Nat) (ckP bad) f bad xs).m y < (ixI (71:Nat) (ckP bad) f bad xs).m x∧(((bif f then f=true else
 True)∧xs=xs)∧((0:Nat)=0∧True)∧(↑xs.length:Int)=(↑xs.length:Int)∧x+(1:Int)=y∧True)∧(bad=bad∧True)∧True else False else False else (-1:Int)=ckI bad xs∧(bad=bad∧True)∧True
theorem eix_P:eix_T ck ckI:=by
 unfold eix_T
 intro f xs bad ⟨hr,hs⟩ _ _ hb
 have bf:cond f (f=true) True:=by cases f <;> trivial
 refine ⟨⟨0,⟨by decide,by omega,fun j h=>by omega⟩,⟨⟨bf,rfl⟩,⟨rfl,trivial⟩,rfl,rfl,trivial⟩,⟨rfl,trivial⟩,trivial⟩,?_⟩
 rintro i ⟨h0,h1,hn⟩
 have ei:((i.toNat:Nat):Int)=i:=by omega
 refine cs (fun hl=>?_) (fun hl=>?_)
 ·obtain ⟨e,v,he,_,_⟩:=hr i.toNat (by omega)
  refine cd1 ⟨h0,hl⟩ ⟨e,v,by rw [he]; rfl,trivial,cs (fun q=>?_) (fun q=>?_)⟩
  ·have:=idx_some (p:=ckP bad) (xs:=xs) (i:=i.toNat) (by omega) (by rw [he]; exact decide_eq_true q) (fun j hj=>hn j (by omega))
   exact ⟨ei.symm.trans this,⟨rfl,trivial⟩,trivial⟩
  ·refine cdI (by omega) ⟨i+1,⟨by omega,by omega,fun j hj=>?_⟩,by simp only [ixI]; omega,⟨⟨bf,rfl⟩,⟨rfl,trivial⟩,rfl,rfl,trivial⟩,⟨rfl,trivial⟩,trivial⟩
   rcases Nat.lt_or_ge j i.toNat with k | k
   ·exact hn j (by omega)
   ·rw [show j=i.toNat by omega,he]; exact decide_eq_false q
 ·exact ⟨idx_none fun j hj=>hn j (by omega),⟨rfl,trivial⟩,trivial⟩
def eix_S (ck:Int→Int→Int) (ckI:Int→List (List AV)→Int):Prop:=∀ (f:Bool) (xs:List (List AV)) (bad:Int),RdsP xs→fnH Tryz.prog { glob:=glb,spec:=lk [],specH:=lk [(86,(evc29_s ck))],shape:=[15],nowf:=true } { nt:=19,drop:=drp [(1,64),(3,1024),(4,63488),(5,131072),(6,262144)],fr:=1000,kp:=[0] } (invs [(2,ixI 86 (ckP bad) f bad xs)]) 6 Tryz.f112 [.sl 2 f xs,.fn 86 [.ptr 0 0]] [.cells [.int .i64 bad]] (.int .i64 (ckI bad xs)) [.cells [.int .i64 bad]]
theorem eix_e (ck:Int→Int→Int) (ckI:Int→List (List AV)→Int):eix_T ck ckI=eix_S ck ckI:=by kernel_rfl
theorem eix_v:eix_S ck ckI:=Eq.mp (eix_e ..) (eix_P)
theorem eix_ok:HOK Tryz.prog glb 112 (eix_s ck ckI):=by
 refine ⟨fok Tryz.func112 (by kernel_rfl) (by kernel_rfl),?_⟩
 intro xs bs pre r bs2 h hp
 unfold eix_s at h
 split at h
 ·simp only [Option.some.injEq,Prod.mk.injEq] at h
  obtain ⟨h1,h2,h3⟩:=h
  subst h1 h2 h3
  exact fnH_sound tyNil (by exact specOK rfl rfl trivial ⟨(evc29_ok),trivial⟩) (by kernel_rfl) Tryz.func112 (eix_v  _ _ _ hp)
 ·cases h
def ecf_s (ckA:Int→List (List AV)→Bool):SpH
 | [.sl 2 f xs,.fn 86 [.ptr 0 0]],[.cells [.int .i64 bad]]=>some (RdsP xs,.bool (ckA bad xs),[.cells [.int .i64 bad]])
 | _,_=>none
def ecf_T (ckA:Int→List (List AV)→Bool) (ck:Int→Int→Int) (ckI:Int→List (List AV)→Int):Prop :=
 ∀ (f:Bool) (xs:List (List AV)) (bad:Int),RdsP xs→True→True→IR9 bad→RdsP xs∧decide (0≤ckI bad xs)=ckA bad xs∧(bad=bad∧True)∧True
theorem ecf_P:ecf_T ckA ck ckI:=by
 unfold ecf_T
 intro f xs bad h _ _ hb
 exact ⟨h,idx_ge,⟨rfl,trivial⟩,trivial⟩
def ecf_S (ckA:Int→List (List AV)→Bool) (ck:Int→Int→Int) (ckI:Int→List (List AV)→Int):Prop:=∀ (f:Bool) (xs:List (List AV)) (bad:Int),RdsP xs→fnH Tryz.prog { glob:=glb,spec:=lk [],specH:=lk [(112,(eix_s ck ckI))],nowf:=true } { nt:=9,drop:=drp [(1,480)],fr:=1000,kp:=[0] } (fun _ _=>none) 6 Tryz.f85 [.sl 2 f xs,.fn 86 [.ptr 0 0]] [.cells [.int .i64 bad]] (.bool (ckA bad xs)) [.cells [.int .i64 bad]]
theorem ecf_e (ckA:Int→List (List AV)→Bool) (ck:Int→Int→Int) (ckI:Int→List (List AV)→Int):ecf_T ckA ck ckI=ecf_S ckA ck ckI:=by kernel_rfl
theorem ecf_v:ecf_S ckA ck ckI:=Eq.mp (ecf_e ..) (ecf_P)
theorem ecf_ok:HOK Tryz.prog glb 85 (ecf_s ckA):=by
 refine ⟨fok Tryz.func85 (by kernel_rfl) (by kernel_rfl),?_⟩
 intro xs bs pre r bs2 h hp
 unfold ecf_s at h
 split at h
 ·simp only [Option.some.injEq,Prod.mk.injEq] at h
  obtain ⟨h1,h2,h3⟩:=h
  subst h1 h2 h3
  exact fnH_sound tyNil (by exact specOK rfl rfl trivial ⟨(eix_ok),trivial⟩) (by kernel_rfl) Tryz.func85 (ecf_v  _ _ _ hp)
 ·cases h
def evc27_s:SpH
 | [.int .i64 bad,.ptr 0 0],[.cells [.sl 2 f xs]]=>some (RdsP xs,.bool (ckA bad xs),[.cells [.sl 2 f xs]])
 | _,_=>none
def evc27_T (ckA:Int→List (List AV)→Bool):Prop :=
 ∀ (f:Bool) (xs:List (List AV)) (bad:Int),RdsP xs→IR9 bad→True→True→RdsP xs∧ckA bad xs=ckA bad xs∧(((bif f then f=true else True)∧xs=xs)∧True)∧True
theorem evc27_P:evc27_T ckA:=by
 unfold evc27_T
 intro f xs bad h _ _ _
 have bf:cond f (f=true) True:=by cases f <;> trivial
 exact ⟨h,rfl,⟨⟨bf,rfl⟩,trivial⟩,trivial⟩
def evc27_S (ckA:Int→List (List AV)→Bool):Prop:=∀ (f:Bool) (xs:List (List AV)) (bad:Int),RdsP xs→fnH Tryz.prog { glob:=glb,spec:=lk [],specH:=lk [(85,(ecf_s ckA))],nowf:=true } { nt:=7,drop:=drp [(1,112)],fr:=1000,kp:=[0] } (fun _ _=>none) 6 Tryz.f84 [.int .i64 bad,.ptr 0 0] [.cells [.sl 2 f xs]] (.bool (ckA bad xs)) [.cells [.sl 2 f xs]]
theorem evc27_e (ckA:Int→List (List AV)→Bool):evc27_T ckA=evc27_S ckA:=by kernel_rfl
theorem evc27_v:evc27_S ckA:=Eq.mp (evc27_e ..) (evc27_P)
theorem evc27_ok:HOK Tryz.prog glb 84 evc27_s:=by
 refine ⟨fok Tryz.func84 (by kernel_rfl) (by kernel_rfl),?_⟩
 intro xs bs pre r bs2 h hp
 unfold evc27_s at h
 split at h
 ·simp only [Option.some.injEq,Prod.mk.injEq] at h
  obtain ⟨h1,h2,h3⟩:=h
  subst h1 h2 h3
  exact fnH_sound tyNil (by exact specOK rfl rfl trivial ⟨(ecf_ok),trivial⟩) (by kernel_rfl) Tryz.func84 (evc27_v  _ _ _ hp)
 ·cases h
def ascB (xs:List (List AV)):Bool:=decide (∀ j,j < xs.length→j=0∨rE (xs.getD (j - 1) []) < rE (xs.getD j []))
def vdE (xs:List (List AV)):Int:=if ckA 4 xs then 4 else if ckA 1 xs then 1 else if ascB xs then 0 else 8
structure AscI (xs:List (List AV)) (i:Int):Prop where
 lo:1≤i
 hi:i≤xs.length∨i=1
 asc:∀ j:Nat,(j:Int) < i→j < xs.length→j=0∨rE (xs.getD (j - 1) []) < rE (xs.getD j [])
def ascL (f:Bool) (xs:List (List AV)):LInv:=⟨Int,fun i=>⟨[(1,.ptr 1 0),(4,.int .i64 i)],[(1,.cells [.sl 2 f xs])]⟩,AscI xs,fun i=>(xs.length+1 - i).toNat,none⟩
def evalid_s (vdE:List (List AV)→Int):Sp
 | [.sl 2 f xs]=>some (RdsP xs,.int .i64 (vdE xs))
 | _=>none
def evalid_T (vdE:List (List AV)→Int):Prop :=
  ∀ (f:Bool) (xs:List (List AV)),RdsP xs→True→RdsP xs∧bif ckA (4:Int) xs then (4:Int)=vdE xs else RdsP xs∧bif ckA (1:Int) xs then (1:Int)=vdE xs else (∃ x,AscI xs x∧((0:Nat)=0∧(1:Int)=x∧True)∧(((bif f then f=true else True)∧xs=xs)∧True)∧True)∧∀ (x:Int),AscI xs x→bif decide (x < (↑xs.length:Int)) then bif decide (rng .i64 (x - (1:Int))) then bif decide (0≤x - (1:Int)∧x - (1:Int) <
 (↑xs.length:Int)) then ∃ n,List.take [AV.int .i64 n].length (List.drop (0:Nat) (xs.getD (x - (1:Int)).toNat []))=[AV.int .i64 n]∧bif decide (0≤x∧x < (↑xs.length:Int)) then ∃ n_1,List.take [AV.int .i64 n_1].length (List.drop (0:Nat) (xs.getD x.toNat []))=[AV.int .i64 n_1]∧bif decide (n_1≤n) then (8:Int)=vdE xs else bif decide (rng .i64 (x+(1:Int))) then ∃ y,AscI xs y∧(ascL f xs).m y <
 (ascL f xs).m x∧((0:Nat)=0∧x+(1:Int)=y∧True)∧(((bif f then f=true else True)∧xs=xs)∧True)∧True else False else False else False else False else (0:Int)=vdE xs
theorem evalid_P:evalid_T vdE:=by
 unfold evalid_T
 intro f xs ⟨hr,hs⟩ _
 have bf:cond f (f=true) True:=by cases f <;> trivial
 refine ⟨⟨hr,hs⟩,csplit (fun h4=>?_) (fun h4=>⟨⟨hr,hs⟩,csplit (fun h1=>?_) (fun h1=>?_)⟩)⟩
 ·unfold vdE; rw [h4]; rfl
 ·unfold vdE; rw [h4,h1]; rfl
 have hv:vdE xs=if ascB xs then 0 else 8:=by unfold vdE; rw [h4,h1]; rfl
 rw [hv]
 refine ⟨⟨1,⟨by decide,.inr rfl,fun j hj _=>.inl (by omega)⟩,⟨rfl,rfl,trivial⟩,⟨⟨bf,rfl⟩,trivial⟩,trivial⟩,?_⟩
 rintro i ⟨h0,h2,hn⟩
 refine cs (fun hl=>?_) (fun hl=>?_)
 ·obtain ⟨e,v,he,_,_⟩:=hr (i - 1).toNat (by omega)
  obtain ⟨e',v',he',_,_⟩:=hr i.toNat (by omega)
  have hi:i.toNat - 1=(i - 1).toNat:=by omega
  have q1:rE (xs.getD (i.toNat - 1) [])=e:=by rw [hi,he]; rfl
  have q2:rE (xs.getD i.toNat [])=e':=by rw [he']; rfl
  refine cdI (by omega) (cd1 (by omega) ⟨e,by rw [he]; rfl,cd1 (by omega) ⟨e',by rw [he']; rfl,cs (fun q=>?_) (fun q=>?_)⟩⟩)
  ·have:ascB xs=false:=by
    refine decide_eq_false fun h=>?_
    rcases h i.toNat (by omega) with k | k
    ·omega
    ·rw [q1,q2] at k; omega
   rw [this]; rfl
  ·refine cdI (by omega) ⟨i+1,⟨by omega,.inl (by omega),fun j hj hlj=>?_⟩,by simp only [ascL]; omega,⟨rfl,rfl,trivial⟩,⟨⟨bf,rfl⟩,trivial⟩,trivial⟩
   rcases Nat.lt_or_ge j i.toNat with k | k
   ·exact hn j (by omega) hlj
   ·rw [show j=i.toNat by omega,q1,q2]; exact .inr (by omega)
 ·have:ascB xs=true:=decide_eq_true fun j hj=>hn j (by omega) hj
  rw [this]; rfl
def evalid_S (vdE:List (List AV)→Int):Prop:=∀ (f:Bool) (xs:List (List AV)),RdsP xs→fnK Tryz.prog { glob:=glb,spec:=lk [],specH:=lk [(84,evc27_s)],shape:=[23,28],nowf:=true } { nt:=30,drop:=drp [(1,32),(2,384),(4,3072),(7,28672),(8,196608),(9,536608768)] } (invs [(7,ascL f xs)]) 6 Tryz.f46 [.sl 2 f xs] (.int .i64 (vdE xs))
theorem evalid_e (vdE:List (List AV)→Int):evalid_T vdE=evalid_S vdE:=by kernel_rfl
theorem evalid_v:evalid_S vdE:=Eq.mp (evalid_e ..) (evalid_P)
theorem evalid_ok:SOK Tryz.prog glb 46 (evalid_s vdE):=by
 refine ⟨fok Tryz.func46 (by kernel_rfl) (by kernel_rfl),?_⟩
 intro xs pre r h hp
 unfold evalid_s at h
 split at h
 ·simp only [Option.some.injEq,Prod.mk.injEq] at h
  obtain ⟨h1,h2⟩:=h
  subst h1 h2
  exact fnK_sound tyNil (by exact specOK rfl rfl trivial ⟨(evc27_ok),trivial⟩) (by kernel_rfl) Tryz.func46 rfl (evalid_v  _ _ hp)
 ·cases h
def efc_s:SpH
 | [.agg [.int .i64 e,.int .i64 v],.ptr 0 0],[.cells [.int .i64 code]]=>some (True,.bool (decide (e=code)),[.cells [.int .i64 code]])
 | _,_=>none
def efc_T:Prop :=
 ∀ (gl:Glob) (e v code:Int),(IR9 e)∧(IR9 v)∧True→True→IR9 code→decide (e=code)=decide (e=code)∧(code=code∧True)∧True
theorem efc_P:efc_T:=by
 unfold efc_T
 intro gl e v code h _ hb
 exact ⟨rfl,⟨rfl,trivial⟩,trivial⟩
def efc_S:Prop:=∀ (gl:Glob) (e v code:Int),fnH Tryz.prog { glob:=gl,spec:=lk [],specH:=lk [],nowf:=true } { nt:=8,drop:=drp [(1,240)],fr:=1000,kp:=[0] } (fun _ _=>none) 6 Tryz.f117 [.agg [.int .i64 e,.int .i64 v],.ptr 0 0] [.cells [.int .i64 code]] (.bool (decide (e=code))) [.cells [.int .i64 code]]
theorem efc_e:efc_T=efc_S:=by kernel_rfl
theorem efc_v:efc_S:=Eq.mp (efc_e ..) (efc_P)
theorem efc_ok (gl:Glob):HOK Tryz.prog gl 117 efc_s:=by
 refine ⟨fok Tryz.func117 (by kernel_rfl) (by kernel_rfl),?_⟩
 intro xs bs pre r bs2 h hp
 unfold efc_s at h
 split at h
 ·simp only [Option.some.injEq,Prod.mk.injEq] at h
  obtain ⟨h1,h2,h3⟩:=h
  subst h1 h2 h3
  exact fnH_sound tyNil (by exact specOK rfl rfl trivial trivial) (by kernel_rfl) Tryz.func117 (efc_v gl _ _ _)
 ·cases h
def eixF_s (cdI':Int→List (List AV)→Int):SpH
 | [.sl 2 f xs,.fn 117 [.ptr 0 0]],[.cells [.int .i64 code]]=>some (RdsP xs,.int .i64 (cdI' code xs),[.cells [.int .i64 code]])
 | _,_=>none
def eixF_T (cdI':Int→List (List AV)→Int):Prop :=
  ∀ (gl:Glob) (f:Bool) (xs:List (List AV)) (code:Int),RdsP xs→True→True→IR9 code→(∃ x,IdxI (cdP code) xs x∧(((bif f then f=true else True)∧xs=xs)∧((0:Nat)=0∧True)∧(↑xs.length:Int)=(↑xs.length:Int)∧(0:Int)=x∧True)∧(code=code∧True)∧True)∧∀ (x:Int),IdxI (cdP code) xs x→bif decide (x < (↑xs.length:Int)) then bif decide (0≤x∧x <
 (↑xs.length:Int)) then ∃ n n_1,List.take [AV.int .i64 n,.int .i64 n_1].length (xs.getD x.toNat [])=[AV.int .i64 n,.int .i64 n_1]∧True∧bif decide (n=code) then x=cdI' code xs∧(code=code∧True)∧True else bif decide (rng .i64 (x+(1:Int))) then ∃ y,IdxI (cdP code) xs y∧(ixI (92:Nat) (cdP code) f code xs).m y < (ixI (92:Nat) (cdP code) f code xs).m x∧(((bif f then f=true else
 True)∧xs=xs)∧((0:Nat)=0∧True)∧(↑xs.length:Int)=(↑xs.length:Int)∧x+(1:Int)=y∧True)∧(code=code∧True)∧True else False else False else (-1:Int)=cdI' code xs∧(code=code∧True)∧True
theorem eixF_P:eixF_T cdI':=by
 unfold eixF_T
 intro gl f xs bad ⟨hr,hs⟩ _ _ hb
 have bf:cond f (f=true) True:=by cases f <;> trivial
 refine ⟨⟨0,⟨by decide,by omega,fun j h=>by omega⟩,⟨⟨bf,rfl⟩,⟨rfl,trivial⟩,rfl,rfl,trivial⟩,⟨rfl,trivial⟩,trivial⟩,?_⟩
 rintro i ⟨h0,h1,hn⟩
 have ei:((i.toNat:Nat):Int)=i:=by omega
 refine cs (fun hl=>?_) (fun hl=>?_)
 ·obtain ⟨e,v,he,_,_⟩:=hr i.toNat (by omega)
  refine cd1 ⟨h0,hl⟩ ⟨e,v,by rw [he]; rfl,trivial,cs (fun q=>?_) (fun q=>?_)⟩
  ·have:=idx_some (p:=cdP bad) (xs:=xs) (i:=i.toNat) (by omega) (by rw [he]; exact decide_eq_true q) (fun j hj=>hn j (by omega))
   exact ⟨ei.symm.trans this,⟨rfl,trivial⟩,trivial⟩
  ·refine cdI (by omega) ⟨i+1,⟨by omega,by omega,fun j hj=>?_⟩,by simp only [ixI]; omega,⟨⟨bf,rfl⟩,⟨rfl,trivial⟩,rfl,rfl,trivial⟩,⟨rfl,trivial⟩,trivial⟩
   rcases Nat.lt_or_ge j i.toNat with k | k
   ·exact hn j (by omega)
   ·rw [show j=i.toNat by omega,he]; exact decide_eq_false q
 ·exact ⟨idx_none fun j hj=>hn j (by omega),⟨rfl,trivial⟩,trivial⟩
def eixF_S (cdI':Int→List (List AV)→Int):Prop:=∀ (gl:Glob) (f:Bool) (xs:List (List AV)) (code:Int),RdsP xs→fnH Tryz.prog { glob:=gl,spec:=lk [],specH:=lk [(117,efc_s)],shape:=[15],nowf:=true } { nt:=19,drop:=drp [(1,64),(3,1024),(4,63488),(5,131072),(6,262144)],fr:=1000,kp:=[0] } (invs [(2,ixI 117 (cdP code) f code xs)]) 6 Tryz.f112 [.sl 2 f xs,.fn 117 [.ptr 0 0]] [.cells [.int .i64 code]] (.int .i64 (cdI' code xs)) [.cells [.int .i64 code]]
theorem eixF_e (cdI':Int→List (List AV)→Int):eixF_T cdI'=eixF_S cdI':=by kernel_rfl
theorem eixF_v:eixF_S cdI':=Eq.mp (eixF_e ..) (eixF_P)
theorem eixF_ok (gl:Glob):HOK Tryz.prog gl 112 (eixF_s cdI'):=by
 refine ⟨fok Tryz.func112 (by kernel_rfl) (by kernel_rfl),?_⟩
 intro xs bs pre r bs2 h hp
 unfold eixF_s at h
 split at h
 ·simp only [Option.some.injEq,Prod.mk.injEq] at h
  obtain ⟨h1,h2,h3⟩:=h
  subst h1 h2 h3
  exact fnH_sound tyNil (by exact specOK rfl rfl trivial ⟨(efc_ok gl),trivial⟩) (by kernel_rfl) Tryz.func112 (eixF_v gl _ _ _ hp)
 ·cases h
def fdB (xs:List (List AV)) (code:Int):Bool:=decide (0≤cdI' code xs)
def fdV (xs:List (List AV)) (code:Int):Int:=if fdB xs code then rV (xs.getD (cdI' code xs).toNat []) else 0
def efind_s (fdV:List (List AV)→Int→Int) (fdB:List (List AV)→Int→Bool):Sp
 | [.sl 2 f xs,.int .i64 code]=>some (RdsP xs,.tup [.int .i64 (fdV xs code),.bool (fdB xs code)])
 | _=>none
def efind_T (fdV:List (List AV)→Int→Int) (fdB:List (List AV)→Int→Bool) (cdI':Int→List (List AV)→Int):Prop :=
  ∀ (gl:Glob) (f:Bool) (xs:List (List AV)) (code:Int),RdsP xs→True→IR9 code→RdsP xs∧bif decide (cdI' code xs < (0:Int)) then (0:Int)=fdV xs code∧false=fdB xs code∧True else bif decide (0≤cdI' code xs∧cdI' code xs < (↑xs.length:Int)) then ∃ n,List.take [AV.int .i64 n].length (List.drop (1:Nat) (xs.getD (cdI' code xs).toNat
 []))=[AV.int .i64 n]∧n=fdV xs code∧true=fdB xs code∧True else False
theorem efind_P:efind_T fdV fdB cdI':=by
 unfold efind_T
 intro gl f xs code ⟨hr,hs⟩ _ _
 refine ⟨⟨hr,hs⟩,cs (fun q=>?_) (fun q=>?_)⟩
 ·have:fdB xs code=false:=decide_eq_false (by omega)
  unfold fdV; rw [this]; exact ⟨rfl,rfl,trivial⟩
 ·have hb:fdB xs code=true:=decide_eq_true (by omega)
  have hl:cdI' code xs < (xs.length:Int):=by
   unfold cdI' idxP
   split
   ·next h=>have:=List.findIdx_lt_length_of_exists (p:=cdP code) (xs:=xs) (by simpa [List.any_eq_true] using h); omega
   ·omega
  obtain ⟨e,v,he,_,_⟩:=hr (cdI' code xs).toNat (by omega)
  refine cd1 ⟨by omega,hl⟩ ⟨v,by rw [he]; rfl,?_,hb.symm,trivial⟩
  unfold fdV; rw [if_pos hb,he]; rfl
def efind_S (fdV:List (List AV)→Int→Int) (fdB:List (List AV)→Int→Bool) (cdI':Int→List (List AV)→Int):Prop:=∀ (gl:Glob) (f:Bool) (xs:List (List AV)) (code:Int),RdsP xs→fnK Tryz.prog { glob:=gl,spec:=lk [],specH:=lk [(112,(eixF_s cdI'))],shape:=[16],nowf:=true } { nt:=17,drop:=drp [(1,896),(2,1024),(4,126976)] } (fun _ _=>none) 6 Tryz.f92 [.sl 2 f xs,.int .i64 code] (.tup [.int .i64 (fdV xs code),.bool (fdB xs code)])
theorem efind_e (fdV:List (List AV)→Int→Int) (fdB:List (List AV)→Int→Bool) (cdI':Int→List (List AV)→Int):efind_T fdV fdB cdI'=efind_S fdV fdB cdI':=by kernel_rfl
theorem efind_v:efind_S fdV fdB cdI':=Eq.mp (efind_e ..) (efind_P)
theorem efind_ok (gl:Glob):SOK Tryz.prog gl 92 (efind_s fdV fdB):=by
 refine ⟨fok Tryz.func92 (by kernel_rfl) (by kernel_rfl),?_⟩
 intro xs pre r h hp
 unfold efind_s at h
 split at h
 ·simp only [Option.some.injEq,Prod.mk.injEq] at h
  obtain ⟨h1,h2⟩:=h
  subst h1 h2
  exact fnK_sound tyNil (by exact specOK rfl rfl trivial ⟨(eixF_ok gl),trivial⟩) (by kernel_rfl) Tryz.func92 rfl (efind_v gl _ _ _ hp)
 ·cases h
end Go.Proofs.YtldiagnbagpliaaGreatDoor
namespace Go.Proofs.YtldiagnbagpliaaGreatDoor
open Go
set_option linter.unusedVariables false
set_option linter.unusedSimpArgs false
def rdesc_s (iL:Int→ByteArray) (inLo:Int→Int) (inHi:Int→Int) (inD:Int→Int) (inE:Int→Int):Sp
 | [.int .i64 c]=>some (True,.tup [.agg [.str (iL c),.int .i64 (inLo c),.int .i64 (inHi c),.int .i64 (inD c)],.int .i64 (inE c)])
 | _=>none
def rdesc_T (iL:Int→ByteArray) (inLo:Int→Int) (inHi:Int→Int) (inD:Int→Int) (inE:Int→Int):Prop :=
  ∀ (gl:Glob) (c:Int),IR9 c→bif decide (c < (1:Int)) then ((⟨#[]⟩:ByteArray)=iL c∧(0:Int)=inLo c∧(0:Int)=inHi c∧(0:Int)=inD c∧True)∧(4:Int)=inE c∧True else bif decide (11 < c) then ((⟨#[]⟩:ByteArray)=iL c∧(0:Int)=inLo c∧(0:Int)=inHi c∧(0:Int)=inD c∧True)∧(4:Int)=inE c∧True else bif decide (rng .i64 (c - (1:Int))) then bif decide
 (0≤c - (1:Int)∧c - (1:Int) < (11:Int)) then bif decide ((11:Nat)=11∧(c - (1:Int)).toNat < (11:Nat)) then ∃ s n n_1 n_2,List.take [AV.str s,.int .i64 n,.int .i64 n_1,.int .i64 n_2].length (List.drop (0:Nat) ([[AV.str { data:=#[(80:UInt8)] },.int .i64 (8000:Int),.int .i64 (11000:Int),.int .i64 (5:Int)],[AV.str { data:=#[(84:UInt8)] },.int .i64 (1800:Int),.int .i64 (3300:Int),.int .i64
 (4:Int)],[AV.str { data:=#[(68:UInt8)] },.int .i64 (1800:Int),.int .i64 (3300:Int),.int .i64 (4:Int)],[AV.str { data:=#[(69:UInt8)] },.int .i64 (-1000:Int),.int .i64 (1000:Int),.int .i64 (4:Int)],[AV.str { data:=#[(78:UInt8)] },.int .i64 (-1000:Int),.int .i64 (1000:Int),.int .i64 (4:Int)],[AV.str { data:=#[(65:UInt8)] },.int .i64 (900:Int),.int .i64 (1700:Int),.int .i64
 (4:Int)],[AV.str { data:=#[(66:UInt8)] },.int .i64 (2000:Int),.int .i64 (3200:Int),.int .i64 (4:Int)],[AV.str { data:=#[(70:UInt8)] },.int .i64 (2400:Int),.int .i64 (3400:Int),.int .i64 (4:Int)],[AV.str { data:=#[(71:UInt8)] },.int .i64 (2000:Int),.int .i64 (3000:Int),.int .i64 (4:Int)],[AV.str { data:=#[(74:UInt8)] },.int .i64 (4400:Int),.int .i64 (6200:Int),.int .i64
 (4:Int)],[AV.str { data:=#[(75:UInt8)] },.int .i64 (2000:Int),.int .i64 (2900:Int),.int .i64 (4:Int)]].getD (c - (1:Int)).toNat []))=[AV.str s,.int .i64 n,.int .i64 n_1,.int .i64 n_2]∧(s=iL c∧n=inLo c∧n_1=inHi c∧n_2=inD c∧True)∧(0:Int)=inE c∧True else False else False else False
theorem rdesc_P:rdesc_T iL inLo inHi inD inE:=by
 unfold rdesc_T
 intro gl c hc
 have hn:okC c=false→((⟨#[]⟩:ByteArray)=iL c∧0=inLo c∧0=inHi c∧0=inD c∧True)∧4=inE c∧True:=by
  intro h; unfold iL inLo inHi inD inE; rw [h]; exact ⟨⟨rfl,rfl,rfl,rfl,trivial⟩,rfl,trivial⟩
 refine cs (fun h=>hn (decide_eq_false (by omega))) (fun h1=>cs (fun h=>hn (decide_eq_false (by omega))) (fun h2=>?_))
 have hk:okC c=true:=decide_eq_true (by omega)
 refine cdI (by omega) (cd1 (by omega) (cd1 (by omega) ⟨iL c,inLo c,inHi c,inD c,?_,⟨rfl,rfl,rfl,rfl,trivial⟩,?_,trivial⟩))
 ·rcases okC_cases hk with rfl | rfl | rfl | rfl | rfl | rfl | rfl | rfl | rfl | rfl | rfl <;> kernel_rfl
 ·unfold inE; rw [hk]; rfl
def rdesc_S (iL:Int→ByteArray) (inLo:Int→Int) (inHi:Int→Int) (inD:Int→Int) (inE:Int→Int):Prop:=∀ (gl:Glob) (c:Int),fnK Tryz.prog { glob:=gl,spec:=lk [],specH:=lk [],shape:=[26],nowf:=true } { nt:=27,drop:=drp [(1,496),(2,1024),(3,134215680)] } (fun _ _=>none) 6 Tryz.f53 [.int .i64 c] (.tup [.agg [.str (iL c),.int .i64 (inLo c),.int .i64 (inHi c),.int .i64 (inD c)],.int .i64 (inE c)])
theorem rdesc_e (iL:Int→ByteArray) (inLo:Int→Int) (inHi:Int→Int) (inD:Int→Int) (inE:Int→Int):rdesc_T iL inLo inHi inD inE=rdesc_S iL inLo inHi inD inE:=by kernel_rfl
theorem rdesc_v:rdesc_S iL inLo inHi inD inE:=Eq.mp (rdesc_e ..) (rdesc_P)
theorem rdesc_ok (gl:Glob):SOK Tryz.prog gl 53 (rdesc_s iL inLo inHi inD inE):=by
 refine ⟨fok Tryz.func53 (by kernel_rfl) (by kernel_rfl),?_⟩
 intro xs pre r h hp
 unfold rdesc_s at h
 split at h
 ·simp only [Option.some.injEq,Prod.mk.injEq] at h
  obtain ⟨h1,h2⟩:=h
  subst h1 h2
  exact fnK_sound tyNil (by exact specOK rfl rfl trivial trivial) (by kernel_rfl) Tryz.func53 rfl (rdesc_v gl _)
 ·cases h
structure RviI (p:List AV→Bool) (xs:List (List AV)) (i:Int):Prop where
 lo:0≤i
 hi:i≤xs.length
 no:∀ j:Nat,(j:Int) < i→p (xs.getD j [])=false
structure NoK (xs:List (List AV)) (u:Unit):Prop where
 no:∀ j:Nat,j < xs.length→ckP 4 (xs.getD j [])=false
end Go.Proofs.YtldiagnbagpliaaGreatDoor
namespace Go.Proofs.YtldiagnbagpliaaGreatDoor
open Go
set_option linter.unusedVariables false
set_option linter.unusedSimpArgs false
def crn (f:Int) (k:Nat):Int:=crnT.getD (3*f.toNat+k) 0
def fcs:List Int:=[0,1,2,3,4,5,6,7,8,9,10,11,12,13,14,15,16,17,18,19]
def allN:List Int→(Int→Prop)→Prop
 | [],_=>True
 | x::l,p=>p x∧allN l p
theorem allN_get {p:Int→Prop}:∀ {l:List Int} {f:Int},allN l p→f ∈ l→p f
 | [],f,_,h=>by simp at h
 | x::l,f,h,hf=>by
  simp only [allN] at h
  rcases List.mem_cons.1 hf with rfl | hf
  ·exact h.1
  ·exact allN_get h.2 hf
theorem mem_fcs {f:Int} (h:0≤f∧f < 20):f ∈ fcs:=by
 simp only [fcs,List.mem_cons,List.not_mem_nil,or_false]; omega
def fac (n:Int):Bool:=decide (0≤n∧n < 20)
structure Vld (f a b c:Int):Prop where
 face:0≤f∧f < 20
 wa:0≤a∧a≤840
 wb:0≤b∧b≤840
 wc:0≤c∧c≤840
 sum:a+b+c=840
theorem vld_iff (f a b c:Int):Vld f a b c↔(0≤f∧f < 20)∧(0≤a∧a≤840)∧(0≤b∧b≤840)∧(0≤c∧c≤840)∧a+b+c=840 :=
 ⟨fun h=>⟨h.1,h.2,h.3,h.4,h.5⟩,fun h=>⟨h.1,h.2.1,h.2.2.1,h.2.2.2.1,h.2.2.2.2⟩⟩
instance (f a b c:Int):Decidable (Vld f a b c):=decidable_of_iff _ (vld_iff f a b c).symm
def vld (f a b c:Int):Bool:=decide (Vld f a b c)
def wt (f a b c v:Int):Int:=if crn f 2=v then c else if crn f 1=v then b else if crn f 0=v then a else 0
def sel (ws:List Int) (i:Int):Int:=ws.getD i.toNat 0
def face_s:Sp
 | [.int .i64 n]=>some (True,.bool (fac n))
 | _=>none
def face_T:Prop :=
 ∀ (gl:Glob) (n:Int),IR9 n→bif decide (0≤n) then decide (n < (20:Int))=fac n else false=fac n
theorem face_P:face_T:=by
 unfold face_T
 intro gl n hn
 unfold fac
 simp only [cdec,decide_eq_decide,Bool.true_eq,Bool.false_eq,decide_eq_true_eq,decide_eq_false_iff_not]
 omega
def face_S:Prop:=∀ (gl:Glob) (n:Int),fnK Tryz.prog { glob:=gl,spec:=lk [],specH:=lk [] } { nt:=9,drop:=drp [(1,504)] } (fun _ _=>none) 6 Tryz.f126 [.int .i64 n] (.bool (fac n))
theorem face_e:face_T=face_S:=by kernel_rfl
theorem face_v:face_S:=Eq.mp (face_e ..) (face_P)
theorem face_ok (gl:Glob):SOK Tryz.prog gl 126 face_s:=by
 refine ⟨fok Tryz.func126 (by kernel_rfl) (by kernel_rfl),?_⟩
 intro xs pre r h hp
 unfold face_s at h
 split at h
 ·simp only [Option.some.injEq,Prod.mk.injEq] at h
  obtain ⟨h1,h2⟩:=h
  subst h1 h2
  exact fnK_sound tyNil (by exact specOK rfl rfl trivial trivial) (by kernel_rfl) Tryz.func126 rfl (face_v gl _)
 ·cases h
def valid_s (vld:Int→Int→Int→Int→Bool):Sp
 | [.agg [.int .i64 f,.int .i64 a,.int .i64 b,.int .i64 c]]=>some (True,.bool (vld f a b c))
 | _=>none
def valid_T (vld:Int→Int→Int→Int→Bool):Prop :=
  ∀ (gl:Glob) (f a b c:Int),(IR9 f)∧(IR9 a)∧(IR9 b)∧(IR9 c)∧True→bif decide (a < (0:Int)) then false=vld f a b c else bif decide (840 < a) then false=vld f a b c else bif
 decide (b < (0:Int)) then false=vld f a b c else bif decide (840 < b) then false=vld f a b c else bif decide (c < (0:Int)) then false=vld f a b c else bif decide (840 < c) then false=vld f a b c else True∧(True→bif fac f then bif decide (rng .i64 (a+b)) then bif decide (rng .i64 (a+b+c)) then decide (a+b+c=(840:Int))=vld f a b c else False else False else false=vld f a b c)
theorem valid_P:valid_T vld:=by
 unfold valid_T
 intro gl f a b c h
 simp only [↓cdecF,cdec,vld,fac]
 simp only [rng,decide_eq_decide,Bool.false_eq,decide_eq_false_iff_not,vld_iff]
 repeat' (first | exact trivial | intro _ | apply And.intro)
 all_goals omega
def valid_S (vld:Int→Int→Int→Int→Bool):Prop:=∀ (gl:Glob) (f a b c:Int),fnK Tryz.prog { glob:=gl,spec:=lk [(126,face_s)],specH:=lk [] } { nt:=36,drop:=drp [(1,2016),(3,16384),(4,1015808),(6,2097152),(7,68715282432)] } (fun _ _=>none) 6 Tryz.f114 [.agg [.int .i64 f,.int .i64 a,.int .i64 b,.int .i64 c]] (.bool (vld f a b c))
theorem valid_e (vld:Int→Int→Int→Int→Bool):valid_T vld=valid_S vld:=by kernel_rfl
theorem valid_v:valid_S vld:=Eq.mp (valid_e ..) (valid_P)
theorem valid_ok (gl:Glob):SOK Tryz.prog gl 114 (valid_s vld):=by
 refine ⟨fok Tryz.func114 (by kernel_rfl) (by kernel_rfl),?_⟩
 intro xs pre r h hp
 unfold valid_s at h
 split at h
 ·simp only [Option.some.injEq,Prod.mk.injEq] at h
  obtain ⟨h1,h2⟩:=h
  subst h1 h2
  exact fnK_sound tyNil (by exact specOK rfl rfl ⟨(face_ok gl),trivial⟩ trivial) (by kernel_rfl) Tryz.func114 rfl (valid_v gl _ _ _ _)
 ·cases h
def of_s:Sp
 | [.agg [.int .i64 f,.int .i64 a,.int .i64 b,.int .i64 c]]=>some (0≤f∧f < 20,.agg [.int .i64 (wt f a b c 0),.int .i64 (wt f a b c 1),.int .i64 (wt f a b c 2),.int .i64 (wt f a b c 3),.int .i64 (wt f a b c 4),.int .i64 (wt f a b c 5),.int .i64 (wt f a b c 6),.int .i64 (wt f a b c 7),.int .i64 (wt f a b c 8),.int .i64 (wt f a b c 9),.int .i64 (wt f a b c 10),.int .i64 (wt f a b c 11)])
 | _=>none
def on_s:Sp
 | [.int .i64 n,.agg [.int .i64 w0,.int .i64 w1,.int .i64 w2,.int .i64 w3,.int .i64 w4,.int .i64 w5,.int .i64 w6,.int .i64 w7,.int .i64 w8,.int .i64 w9,.int .i64 w10,.int .i64 w11]]=>some (0≤n∧n < 20,.tup [.agg [.int .i64 n,.int .i64 (sel [w0,w1,w2,w3,w4,w5,w6,w7,w8,w9,w10,w11] (crn n 0)),.int .i64 (sel [w0,w1,w2,w3,w4,w5,w6,w7,w8,w9,w10,w11] (crn n 1)),.int .i64 (sel [w0,w1,w2,w3,w4,w5,w6,w7,w8,w9,w10,w11] (crn n 2))],.bool (vld n (sel [w0,w1,w2,w3,w4,w5,w6,w7,w8,w9,w10,w11] (crn n 0)) (sel [w0,w1,w2,w3,w4,w5,w6,w7,w8,w9,w10,w11] (crn n 1)) (sel [w0,w1,w2,w3,w4,w5,w6,w7,w8,w9,w10,w11] (crn n 2)))])
 | _=>none
def of20_T:Prop :=
  ∀ (a b c:Int),(((-9223372036854775808:Int)≤(0:Int)∧(0:Int)≤(9223372036854775807:Int))∧(IR9 a)∧(IR9 b)∧(IR9 c)∧True→a=wt (0:Int) a b c (0:Int)∧b=wt (0:Int) a b c (1:Int)∧c=wt (0:Int) a b c (2:Int)∧(0:Int)=wt (0:Int) a b c
 (3:Int)∧(0:Int)=wt (0:Int) a b c (4:Int)∧(0:Int)=wt (0:Int) a b c (5:Int)∧(0:Int)=wt (0:Int) a b c (6:Int)∧(0:Int)=wt (0:Int) a b c (7:Int)∧(0:Int)=wt (0:Int) a b c (8:Int)∧(0:Int)=wt (0:Int) a b c (9:Int)∧(0:Int)=wt (0:Int) a b c (10:Int)∧(0:Int)=wt (0:Int) a b c (11:Int)∧True)∧(((-9223372036854775808:Int)≤(1:Int)∧(1:Int)≤(9223372036854775807:Int))∧((-9223372036854775808:Int)≤a∧a ≤
 (9223372036854775807:Int))∧(IR9 b)∧(IR9 c)∧True→a=wt (1:Int) a b c (0:Int)∧(0:Int)=wt (1:Int) a b c (1:Int)∧b=wt (1:Int) a b c (2:Int)∧c=wt (1:Int) a b c (3:Int)∧(0:Int)=wt (1:Int) a b c (4:Int)∧(0:Int)=wt (1:Int) a b c (5:Int)∧(0:Int)=wt (1:Int) a b c (6:Int)∧(0:Int)=wt (1:Int) a b c
 (7:Int)∧(0:Int)=wt (1:Int) a b c (8:Int)∧(0:Int)=wt (1:Int) a b c (9:Int)∧(0:Int)=wt (1:Int) a b c (10:Int)∧(0:Int)=wt (1:Int) a b c (11:Int)∧True)∧(((-9223372036854775808:Int)≤(2:Int)∧(2:Int)≤(9223372036854775807:Int))∧(IR9 a)∧(IR9 b)∧((-9223372036854775808:Int)≤c∧c ≤
 (9223372036854775807:Int))∧True→a=wt (2:Int) a b c (0:Int)∧(0:Int)=wt (2:Int) a b c (1:Int)∧(0:Int)=wt (2:Int) a b c (2:Int)∧b=wt (2:Int) a b c (3:Int)∧c=wt (2:Int) a b c (4:Int)∧(0:Int)=wt (2:Int) a b c (5:Int)∧(0:Int)=wt (2:Int) a b c (6:Int)∧(0:Int)=wt (2:Int) a b c (7:Int)∧(0:Int)=wt (2:Int) a b c (8:Int)∧(0:Int)=wt (2:Int) a b c (9:Int)∧(0:Int)=wt (2:Int) a b c (10:Int)∧(0:Int)=wt (2:Int) a b
 c (11:Int)∧True)∧(((-9223372036854775808:Int)≤(3:Int)∧(3:Int)≤(9223372036854775807:Int))∧(IR9 a)∧(IR9 b)∧(IR9 c)∧True→a=wt (3:Int) a b c (0:Int)∧(0:Int)=wt (3:Int) a b c (1:Int)∧(0:Int)=wt (3:Int) a b c (2:Int)∧(0:Int)=wt (3:Int) a
 b c (3:Int)∧b=wt (3:Int) a b c (4:Int)∧c=wt (3:Int) a b c (5:Int)∧(0:Int)=wt (3:Int) a b c (6:Int)∧(0:Int)=wt (3:Int) a b c (7:Int)∧(0:Int)=wt (3:Int) a b c (8:Int)∧(0:Int)=wt (3:Int) a b c (9:Int)∧(0:Int)=wt (3:Int) a b c (10:Int)∧(0:Int)=wt (3:Int) a b c (11:Int)∧True)∧(((-9223372036854775808:Int)≤(4:Int)∧(4:Int)≤(9223372036854775807:Int))∧((-9223372036854775808:Int)≤a∧a ≤
 (9223372036854775807:Int))∧(IR9 b)∧(IR9 c)∧True→a=wt (4:Int) a b c (0:Int)∧c=wt (4:Int) a b c (1:Int)∧(0:Int)=wt (4:Int) a b c (2:Int)∧(0:Int)=wt (4:Int) a b c (3:Int)∧(0:Int)=wt (4:Int) a b c (4:Int)∧b=wt (4:Int) a b c (5:Int)∧(0:Int)=wt (4:Int) a b c (6:Int)∧(0:Int)=wt (4:Int) a b c
 (7:Int)∧(0:Int)=wt (4:Int) a b c (8:Int)∧(0:Int)=wt (4:Int) a b c (9:Int)∧(0:Int)=wt (4:Int) a b c (10:Int)∧(0:Int)=wt (4:Int) a b c (11:Int)∧True)∧(((-9223372036854775808:Int)≤(5:Int)∧(5:Int)≤(9223372036854775807:Int))∧(IR9 a)∧(IR9 b)∧((-9223372036854775808:Int)≤c∧c ≤
 (9223372036854775807:Int))∧True→(0:Int)=wt (5:Int) a b c (0:Int)∧a=wt (5:Int) a b c (1:Int)∧c=wt (5:Int) a b c (2:Int)∧(0:Int)=wt (5:Int) a b c (3:Int)∧(0:Int)=wt (5:Int) a b c (4:Int)∧(0:Int)=wt (5:Int) a b c (5:Int)∧b=wt (5:Int) a b c (6:Int)∧(0:Int)=wt (5:Int) a b c (7:Int)∧(0:Int)=wt (5:Int) a b c (8:Int)∧(0:Int)=wt (5:Int) a b c (9:Int)∧(0:Int)=wt (5:Int) a b c (10:Int)∧(0:Int)=wt (5:Int) a b
 c (11:Int)∧True)∧(((-9223372036854775808:Int)≤(6:Int)∧(6:Int)≤(9223372036854775807:Int))∧(IR9 a)∧(IR9 b)∧(IR9 c)∧True→(0:Int)=wt (6:Int) a b c (0:Int)∧(0:Int)=wt (6:Int) a b c (1:Int)∧a=wt (6:Int) a b c (2:Int)∧c=wt (6:Int) a b c
 (3:Int)∧(0:Int)=wt (6:Int) a b c (4:Int)∧(0:Int)=wt (6:Int) a b c (5:Int)∧(0:Int)=wt (6:Int) a b c (6:Int)∧b=wt (6:Int) a b c (7:Int)∧(0:Int)=wt (6:Int) a b c (8:Int)∧(0:Int)=wt (6:Int) a b c (9:Int)∧(0:Int)=wt (6:Int) a b c (10:Int)∧(0:Int)=wt (6:Int) a b c (11:Int)∧True)∧(((-9223372036854775808:Int)≤(7:Int)∧(7:Int)≤(9223372036854775807:Int))∧((-9223372036854775808:Int)≤a∧a ≤
 (9223372036854775807:Int))∧(IR9 b)∧(IR9 c)∧True→(0:Int)=wt (7:Int) a b c (0:Int)∧(0:Int)=wt (7:Int) a b c (1:Int)∧(0:Int)=wt (7:Int) a b c (2:Int)∧a=wt (7:Int) a b c (3:Int)∧c=wt (7:Int) a b c (4:Int)∧(0:Int)=wt (7:Int) a b c (5:Int)∧(0:Int)=wt (7:Int) a b c (6:Int)∧(0:Int)=wt (7:Int) a b c
 (7:Int)∧b=wt (7:Int) a b c (8:Int)∧(0:Int)=wt (7:Int) a b c (9:Int)∧(0:Int)=wt (7:Int) a b c (10:Int)∧(0:Int)=wt (7:Int) a b c (11:Int)∧True)∧(((-9223372036854775808:Int)≤(8:Int)∧(8:Int)≤(9223372036854775807:Int))∧(IR9 a)∧(IR9 b)∧((-9223372036854775808:Int)≤c∧c ≤
 (9223372036854775807:Int))∧True→(0:Int)=wt (8:Int) a b c (0:Int)∧(0:Int)=wt (8:Int) a b c (1:Int)∧(0:Int)=wt (8:Int) a b c (2:Int)∧(0:Int)=wt (8:Int) a b c (3:Int)∧a=wt (8:Int) a b c (4:Int)∧c=wt (8:Int) a b c (5:Int)∧(0:Int)=wt (8:Int) a b c (6:Int)∧(0:Int)=wt (8:Int) a b c (7:Int)∧(0:Int)=wt (8:Int) a b c (8:Int)∧b=wt (8:Int) a b c (9:Int)∧(0:Int)=wt (8:Int) a b c (10:Int)∧(0:Int)=wt (8:Int) a b
 c (11:Int)∧True)∧(((-9223372036854775808:Int)≤(9:Int)∧(9:Int)≤(9223372036854775807:Int))∧(IR9 a)∧(IR9 b)∧(IR9 c)∧True→(0:Int)=wt (9:Int) a b c (0:Int)∧c=wt (9:Int) a b c (1:Int)∧(0:Int)=wt (9:Int) a b c (2:Int)∧(0:Int)=wt (9:Int) a
 b c (3:Int)∧(0:Int)=wt (9:Int) a b c (4:Int)∧a=wt (9:Int) a b c (5:Int)∧(0:Int)=wt (9:Int) a b c (6:Int)∧(0:Int)=wt (9:Int) a b c (7:Int)∧(0:Int)=wt (9:Int) a b c (8:Int)∧(0:Int)=wt (9:Int) a b c (9:Int)∧b=wt (9:Int) a b c (10:Int)∧(0:Int)=wt (9:Int) a b c (11:Int)∧True)∧(((-9223372036854775808:Int)≤(10:Int)∧(10:Int)≤(9223372036854775807:Int))∧((-9223372036854775808:Int)≤a∧a ≤
 (9223372036854775807:Int))∧(IR9 b)∧(IR9 c)∧True→(0:Int)=wt (10:Int) a b c (0:Int)∧(0:Int)=wt (10:Int) a b c (1:Int)∧c=wt (10:Int) a b c (2:Int)∧(0:Int)=wt (10:Int) a b c (3:Int)∧(0:Int)=wt (10:Int) a b c (4:Int)∧(0:Int)=wt (10:Int) a b c (5:Int)∧a=wt (10:Int) a b c (6:Int)∧b=wt (10:Int) a b
 c (7:Int)∧(0:Int)=wt (10:Int) a b c (8:Int)∧(0:Int)=wt (10:Int) a b c (9:Int)∧(0:Int)=wt (10:Int) a b c (10:Int)∧(0:Int)=wt (10:Int) a b c (11:Int)∧True)∧(((-9223372036854775808:Int)≤(11:Int)∧(11:Int)≤(9223372036854775807:Int))∧(IR9 a)∧(IR9 b)∧((-9223372036854775808:Int)≤c∧c ≤
 (9223372036854775807:Int))∧True→(0:Int)=wt (11:Int) a b c (0:Int)∧(0:Int)=wt (11:Int) a b c (1:Int)∧(0:Int)=wt (11:Int) a b c (2:Int)∧c=wt (11:Int) a b c (3:Int)∧(0:Int)=wt (11:Int) a b c (4:Int)∧(0:Int)=wt (11:Int) a b c (5:Int)∧(0:Int)=wt (11:Int) a b c (6:Int)∧a=wt (11:Int) a b c (7:Int)∧b=wt (11:Int) a b c (8:Int)∧(0:Int)=wt (11:Int) a b c (9:Int)∧(0:Int)=wt (11:Int) a b c (10:Int)∧(0:Int)=wt
 (11:Int) a b c (11:Int)∧True)∧(((-9223372036854775808:Int)≤(12:Int)∧(12:Int)≤(9223372036854775807:Int))∧(IR9 a)∧(IR9 b)∧(IR9 c)∧True→(0:Int)=wt (12:Int) a b c (0:Int)∧(0:Int)=wt (12:Int) a b c (1:Int)∧(0:Int)=wt (12:Int) a b c
 (2:Int)∧(0:Int)=wt (12:Int) a b c (3:Int)∧c=wt (12:Int) a b c (4:Int)∧(0:Int)=wt (12:Int) a b c (5:Int)∧(0:Int)=wt (12:Int) a b c (6:Int)∧(0:Int)=wt (12:Int) a b c (7:Int)∧a=wt (12:Int) a b c (8:Int)∧b=wt (12:Int) a b c (9:Int)∧(0:Int)=wt (12:Int) a b c (10:Int)∧(0:Int)=wt (12:Int) a b c (11:Int)∧True)∧(((-9223372036854775808:Int)≤(13:Int)∧(13:Int) ≤
 (9223372036854775807:Int))∧(IR9 a)∧(IR9 b)∧(IR9 c)∧True→(0:Int)=wt (13:Int) a b c (0:Int)∧(0:Int)=wt (13:Int) a b c (1:Int)∧(0:Int)=wt (13:Int) a b c (2:Int)∧(0:Int)=wt (13:Int) a b c (3:Int)∧(0:Int)=wt (13:Int) a b c (4:Int)∧c=wt
 (13:Int) a b c (5:Int)∧(0:Int)=wt (13:Int) a b c (6:Int)∧(0:Int)=wt (13:Int) a b c (7:Int)∧(0:Int)=wt (13:Int) a b c (8:Int)∧a=wt (13:Int) a b c (9:Int)∧b=wt (13:Int) a b c (10:Int)∧(0:Int)=wt (13:Int) a b c (11:Int)∧True)∧(((-9223372036854775808:Int)≤(14:Int)∧(14:Int)≤(9223372036854775807:Int))∧(IR9 a)∧((-9223372036854775808:Int)≤b∧b ≤
 (9223372036854775807:Int))∧(IR9 c)∧True→(0:Int)=wt (14:Int) a b c (0:Int)∧c=wt (14:Int) a b c (1:Int)∧(0:Int)=wt (14:Int) a b c (2:Int)∧(0:Int)=wt (14:Int) a b c (3:Int)∧(0:Int)=wt (14:Int) a b c (4:Int)∧(0:Int)=wt (14:Int) a b c (5:Int)∧b=wt (14:Int) a b c (6:Int)∧(0:Int)=wt (14:Int) a b c (7:Int)∧(0:Int)=wt (14:Int) a b c (8:Int)∧(0:Int)=wt
 (14:Int) a b c (9:Int)∧a=wt (14:Int) a b c (10:Int)∧(0:Int)=wt (14:Int) a b c (11:Int)∧True)∧(((-9223372036854775808:Int)≤(15:Int)∧(15:Int)≤(9223372036854775807:Int))∧(IR9 a)∧(IR9 b)∧(IR9 c)∧True→(0:Int)=wt (15:Int) a b c
 (0:Int)∧(0:Int)=wt (15:Int) a b c (1:Int)∧(0:Int)=wt (15:Int) a b c (2:Int)∧(0:Int)=wt (15:Int) a b c (3:Int)∧(0:Int)=wt (15:Int) a b c (4:Int)∧(0:Int)=wt (15:Int) a b c (5:Int)∧c=wt (15:Int) a b c (6:Int)∧b=wt (15:Int) a b c (7:Int)∧(0:Int)=wt (15:Int) a b c (8:Int)∧(0:Int)=wt (15:Int) a b c (9:Int)∧(0:Int)=wt (15:Int) a b c (10:Int)∧a=wt (15:Int) a b c (11:Int)∧True)∧(((-9223372036854775808:Int)
≤(16:Int)∧(16:Int)≤(9223372036854775807:Int))∧(IR9 a)∧(IR9 b)∧(IR9 c)∧True→(0:Int)=wt (16:Int) a b c (0:Int)∧(0:Int)=wt (16:Int) a b c (1:Int)∧(0:Int)=wt (16:Int) a b c (2:Int)∧(0:Int)=wt (16:Int) a b c (3:Int)∧(0:Int)=wt (16:Int) a
 b c (4:Int)∧(0:Int)=wt (16:Int) a b c (5:Int)∧(0:Int)=wt (16:Int) a b c (6:Int)∧c=wt (16:Int) a b c (7:Int)∧b=wt (16:Int) a b c (8:Int)∧(0:Int)=wt (16:Int) a b c (9:Int)∧(0:Int)=wt (16:Int) a b c (10:Int)∧a=wt (16:Int) a b c (11:Int)∧True)∧(((-9223372036854775808:Int)≤(17:Int)∧(17:Int)≤(9223372036854775807:Int))∧((-9223372036854775808:Int)≤a∧a ≤
 (9223372036854775807:Int))∧(IR9 b)∧(IR9 c)∧True→(0:Int)=wt (17:Int) a b c (0:Int)∧(0:Int)=wt (17:Int) a b c (1:Int)∧(0:Int)=wt (17:Int) a b c (2:Int)∧(0:Int)=wt (17:Int) a b c (3:Int)∧(0:Int)=wt (17:Int) a b c (4:Int)∧(0:Int)=wt (17:Int) a b c (5:Int)∧(0:Int)=wt (17:Int) a b c
 (6:Int)∧(0:Int)=wt (17:Int) a b c (7:Int)∧c=wt (17:Int) a b c (8:Int)∧b=wt (17:Int) a b c (9:Int)∧(0:Int)=wt (17:Int) a b c (10:Int)∧a=wt (17:Int) a b c (11:Int)∧True)∧(((-9223372036854775808:Int)≤(18:Int)∧(18:Int)≤(9223372036854775807:Int))∧(IR9 a)∧(IR9 b)∧((-9223372036854775808:Int) ≤
 c∧c≤(9223372036854775807:Int))∧True→(0:Int)=wt (18:Int) a b c (0:Int)∧(0:Int)=wt (18:Int) a b c (1:Int)∧(0:Int)=wt (18:Int) a b c (2:Int)∧(0:Int)=wt (18:Int) a b c (3:Int)∧(0:Int)=wt (18:Int) a b c (4:Int)∧(0:Int)=wt (18:Int) a b c (5:Int)∧(0:Int)=wt (18:Int) a b c (6:Int)∧(0:Int)=wt (18:Int) a b c (7:Int)∧(0:Int)=wt (18:Int) a b c (8:Int)∧c=wt (18:Int) a b c (9:Int)∧b=wt (18:Int) a b c
 (10:Int)∧a=wt (18:Int) a b c (11:Int)∧True)∧(((-9223372036854775808:Int)≤(19:Int)∧(19:Int)≤(9223372036854775807:Int))∧(IR9 a)∧(IR9 b)∧(IR9 c)∧True→(0:Int)=wt (19:Int) a b c (0:Int)∧(0:Int)=wt (19:Int) a b c (1:Int)∧(0:Int)=wt
 (19:Int) a b c (2:Int)∧(0:Int)=wt (19:Int) a b c (3:Int)∧(0:Int)=wt (19:Int) a b c (4:Int)∧(0:Int)=wt (19:Int) a b c (5:Int)∧b=wt (19:Int) a b c (6:Int)∧(0:Int)=wt (19:Int) a b c (7:Int)∧(0:Int)=wt (19:Int) a b c (8:Int)∧(0:Int)=wt (19:Int) a b c (9:Int)∧c=wt (19:Int) a b c (10:Int)∧a=wt (19:Int) a b c (11:Int)∧True)∧True
theorem of20_P:of20_T:=by
 unfold of20_T
 intro a b c
 repeat' (first | exact trivial | intro _ | rfl | apply And.intro)
def of20_S:Prop:=∀ a b c:Int,allN fcs fun f=>fnK Tryz.prog { glob:=glb } { nt:=25 } (fun _ _=>none) 6 Tryz.f115 [.agg [.int .i64 f,.int .i64 a,.int .i64 b,.int .i64 c]] (.agg [.int .i64 (wt f a b c 0),.int .i64 (wt f a b c 1),.int .i64 (wt f a b c 2),.int .i64 (wt f a b c 3),.int .i64 (wt f a b c 4),.int .i64 (wt f a b c 5),.int .i64 (wt f a b c 6),.int .i64 (wt f a b c 7),.int .i64 (wt f a b c 8),.int .i64 (wt f a b c 9),.int .i64 (wt f a b c 10),.int .i64 (wt f a b c 11)])
theorem of20_e:of20_T=of20_S:=by kernel_rfl
theorem of20:of20_S:=@Eq.mp (of20_T) (of20_S) (of20_e) (of20_P)
def on20_T:Prop :=
  ∀ (w0 w1 w2 w3 w4 w5 w6 w7 w8 w9 w10 w11:Int),((-9223372036854775808:Int)≤(0:Int)∧(0:Int)≤(9223372036854775807:Int)→(IR9 w0)∧(IR9 w1)∧(IR9 w2)∧((-9223372036854775808:Int)≤w3∧w3 ≤
 (9223372036854775807:Int))∧(IR9 w4)∧(IR9 w5)∧(IR9 w6)∧(IR9 w7)∧(IR9 w8)∧((-9223372036854775808:Int)≤w9∧w9 ≤
 (9223372036854775807:Int))∧(IR9 w10)∧(IR9 w11)∧True→True∧((0:Int)=0∧w0=sel [w0,w1,w2,w3,w4,w5,w6,w7,w8,w9,w10,w11] (0:Int)∧w1=sel [w0,w1,w2,w3,w4,w5,w6,w7,w8,w9,w10,w11] (1:Int)∧w2=sel [w0,w1,w2,w3,w4,w5,w6,w7,w8,w9,w10,w11] (2:Int)∧True)∧vld (0:Int) w0 w1 w2=vld (0:Int) (sel
 [w0,w1,w2,w3,w4,w5,w6,w7,w8,w9,w10,w11] (0:Int)) (sel [w0,w1,w2,w3,w4,w5,w6,w7,w8,w9,w10,w11] (1:Int)) (sel [w0,w1,w2,w3,w4,w5,w6,w7,w8,w9,w10,w11] (2:Int))∧True)∧((-9223372036854775808:Int)≤(1:Int)∧(1:Int)≤(9223372036854775807:Int)→(IR9 w0)∧(IR9 w1)∧((-9223372036854775808:Int) ≤
 w2∧w2≤(9223372036854775807:Int))∧(IR9 w3)∧(IR9 w4)∧(IR9 w5)∧(IR9 w6)∧(IR9 w7)∧((-9223372036854775808:Int)≤w8∧w8 ≤
 (9223372036854775807:Int))∧(IR9 w9)∧(IR9 w10)∧(IR9 w11)∧True→True∧((1:Int)=1∧w0=sel [w0,w1,w2,w3,w4,w5,w6,w7,w8,w9,w10,w11] (0:Int)∧w2=sel [w0,w1,w2,w3,w4,w5,w6,w7,w8,w9,w10,w11] (2:Int)∧w3=sel
 [w0,w1,w2,w3,w4,w5,w6,w7,w8,w9,w10,w11] (3:Int)∧True)∧vld (1:Int) w0 w2 w3=vld (1:Int) (sel [w0,w1,w2,w3,w4,w5,w6,w7,w8,w9,w10,w11] (0:Int)) (sel [w0,w1,w2,w3,w4,w5,w6,w7,w8,w9,w10,w11] (2:Int)) (sel [w0,w1,w2,w3,w4,w5,w6,w7,w8,w9,w10,w11] (3:Int))∧True)∧((-9223372036854775808:Int)≤(2:Int)∧(2:Int)≤(9223372036854775807:Int)→((-9223372036854775808:Int)≤w0∧w0 ≤
 (9223372036854775807:Int))∧(IR9 w1)∧(IR9 w2)∧(IR9 w3)∧(IR9 w4)∧(IR9 w5)∧((-9223372036854775808:Int)≤w6∧w6 ≤
 (9223372036854775807:Int))∧(IR9 w7)∧(IR9 w8)∧(IR9 w9)∧(IR9 w10)∧(IR9 w11)∧True→True∧((2:Int)=2∧w0=sel
 [w0,w1,w2,w3,w4,w5,w6,w7,w8,w9,w10,w11] (0:Int)∧w3=sel [w0,w1,w2,w3,w4,w5,w6,w7,w8,w9,w10,w11] (3:Int)∧w4=sel [w0,w1,w2,w3,w4,w5,w6,w7,w8,w9,w10,w11] (4:Int)∧True)∧vld (2:Int) w0 w3 w4=vld (2:Int) (sel [w0,w1,w2,w3,w4,w5,w6,w7,w8,w9,w10,w11] (0:Int)) (sel [w0,w1,w2,w3,w4,w5,w6,w7,w8,w9,w10,w11] (3:Int)) (sel [w0,w1,w2,w3,w4,w5,w6,w7,w8,w9,w10,w11] (4:Int))∧True)∧((-9223372036854775808:Int) ≤
 (3:Int)∧(3:Int)≤(9223372036854775807:Int)→(IR9 w0)∧(IR9 w1)∧(IR9 w2)∧(IR9 w3)∧(IR9 w4)∧((-9223372036854775808:Int) ≤
 w5∧w5≤(9223372036854775807:Int))∧(IR9 w6)∧(IR9 w7)∧(IR9 w8)∧(IR9 w9)∧(IR9 w10)∧((-9223372036854775808:Int)≤w11∧w11 ≤
 (9223372036854775807:Int))∧True→True∧((3:Int)=3∧w0=sel [w0,w1,w2,w3,w4,w5,w6,w7,w8,w9,w10,w11] (0:Int)∧w4=sel [w0,w1,w2,w3,w4,w5,w6,w7,w8,w9,w10,w11] (4:Int)∧w5=sel [w0,w1,w2,w3,w4,w5,w6,w7,w8,w9,w10,w11] (5:Int)∧True)∧vld (3:Int) w0 w4 w5=vld (3:Int) (sel [w0,w1,w2,w3,w4,w5,w6,w7,w8,w9,w10,w11] (0:Int)) (sel [w0,w1,w2,w3,w4,w5,w6,w7,w8,w9,w10,w11] (4:Int)) (sel
 [w0,w1,w2,w3,w4,w5,w6,w7,w8,w9,w10,w11] (5:Int))∧True)∧((-9223372036854775808:Int)≤(4:Int)∧(4:Int)≤(9223372036854775807:Int)→(IR9 w0)∧(IR9 w1)∧(IR9 w2)∧((-9223372036854775808:Int)≤w3∧w3 ≤
 (9223372036854775807:Int))∧(IR9 w4)∧(IR9 w5)∧(IR9 w6)∧(IR9 w7)∧(IR9 w8)∧((-9223372036854775808:Int)≤w9∧w9 ≤
 (9223372036854775807:Int))∧(IR9 w10)∧(IR9 w11)∧True→True∧((4:Int)=4∧w0=sel [w0,w1,w2,w3,w4,w5,w6,w7,w8,w9,w10,w11] (0:Int)∧w5=sel [w0,w1,w2,w3,w4,w5,w6,w7,w8,w9,w10,w11] (5:Int)∧w1=sel [w0,w1,w2,w3,w4,w5,w6,w7,w8,w9,w10,w11] (1:Int)∧True)∧vld (4:Int) w0 w5 w1=vld (4:Int) (sel
 [w0,w1,w2,w3,w4,w5,w6,w7,w8,w9,w10,w11] (0:Int)) (sel [w0,w1,w2,w3,w4,w5,w6,w7,w8,w9,w10,w11] (5:Int)) (sel [w0,w1,w2,w3,w4,w5,w6,w7,w8,w9,w10,w11] (1:Int))∧True)∧((-9223372036854775808:Int)≤(5:Int)∧(5:Int)≤(9223372036854775807:Int)→(IR9 w0)∧(IR9 w1)∧((-9223372036854775808:Int) ≤
 w2∧w2≤(9223372036854775807:Int))∧(IR9 w3)∧(IR9 w4)∧(IR9 w5)∧(IR9 w6)∧(IR9 w7)∧((-9223372036854775808:Int)≤w8∧w8 ≤
 (9223372036854775807:Int))∧(IR9 w9)∧(IR9 w10)∧(IR9 w11)∧True→True∧((5:Int)=5∧w1=sel [w0,w1,w2,w3,w4,w5,w6,w7,w8,w9,w10,w11] (1:Int)∧w6=sel [w0,w1,w2,w3,w4,w5,w6,w7,w8,w9,w10,w11] (6:Int)∧w2=sel
 [w0,w1,w2,w3,w4,w5,w6,w7,w8,w9,w10,w11] (2:Int)∧True)∧vld (5:Int) w1 w6 w2=vld (5:Int) (sel [w0,w1,w2,w3,w4,w5,w6,w7,w8,w9,w10,w11] (1:Int)) (sel [w0,w1,w2,w3,w4,w5,w6,w7,w8,w9,w10,w11] (6:Int)) (sel [w0,w1,w2,w3,w4,w5,w6,w7,w8,w9,w10,w11] (2:Int))∧True)∧((-9223372036854775808:Int)≤(6:Int)∧(6:Int)≤(9223372036854775807:Int)→((-9223372036854775808:Int)≤w0∧w0 ≤
 (9223372036854775807:Int))∧(IR9 w1)∧(IR9 w2)∧(IR9 w3)∧(IR9 w4)∧(IR9 w5)∧((-9223372036854775808:Int)≤w6∧w6 ≤
 (9223372036854775807:Int))∧(IR9 w7)∧(IR9 w8)∧(IR9 w9)∧(IR9 w10)∧(IR9 w11)∧True→True∧((6:Int)=6∧w2=sel
 [w0,w1,w2,w3,w4,w5,w6,w7,w8,w9,w10,w11] (2:Int)∧w7=sel [w0,w1,w2,w3,w4,w5,w6,w7,w8,w9,w10,w11] (7:Int)∧w3=sel [w0,w1,w2,w3,w4,w5,w6,w7,w8,w9,w10,w11] (3:Int)∧True)∧vld (6:Int) w2 w7 w3=vld (6:Int) (sel [w0,w1,w2,w3,w4,w5,w6,w7,w8,w9,w10,w11] (2:Int)) (sel [w0,w1,w2,w3,w4,w5,w6,w7,w8,w9,w10,w11] (7:Int)) (sel [w0,w1,w2,w3,w4,w5,w6,w7,w8,w9,w10,w11] (3:Int))∧True)∧((-9223372036854775808:Int) ≤
 (7:Int)∧(7:Int)≤(9223372036854775807:Int)→(IR9 w0)∧(IR9 w1)∧(IR9 w2)∧(IR9 w3)∧(IR9 w4)∧((-9223372036854775808:Int) ≤
 w5∧w5≤(9223372036854775807:Int))∧(IR9 w6)∧(IR9 w7)∧(IR9 w8)∧(IR9 w9)∧(IR9 w10)∧((-9223372036854775808:Int)≤w11∧w11 ≤
 (9223372036854775807:Int))∧True→True∧((7:Int)=7∧w3=sel [w0,w1,w2,w3,w4,w5,w6,w7,w8,w9,w10,w11] (3:Int)∧w8=sel [w0,w1,w2,w3,w4,w5,w6,w7,w8,w9,w10,w11] (8:Int)∧w4=sel [w0,w1,w2,w3,w4,w5,w6,w7,w8,w9,w10,w11] (4:Int)∧True)∧vld (7:Int) w3 w8 w4=vld (7:Int) (sel [w0,w1,w2,w3,w4,w5,w6,w7,w8,w9,w10,w11] (3:Int)) (sel [w0,w1,w2,w3,w4,w5,w6,w7,w8,w9,w10,w11] (8:Int)) (sel
 [w0,w1,w2,w3,w4,w5,w6,w7,w8,w9,w10,w11] (4:Int))∧True)∧((-9223372036854775808:Int)≤(8:Int)∧(8:Int)≤(9223372036854775807:Int)→(IR9 w0)∧(IR9 w1)∧(IR9 w2)∧((-9223372036854775808:Int)≤w3∧w3 ≤
 (9223372036854775807:Int))∧(IR9 w4)∧(IR9 w5)∧(IR9 w6)∧(IR9 w7)∧(IR9 w8)∧((-9223372036854775808:Int)≤w9∧w9 ≤
 (9223372036854775807:Int))∧(IR9 w10)∧(IR9 w11)∧True→True∧((8:Int)=8∧w4=sel [w0,w1,w2,w3,w4,w5,w6,w7,w8,w9,w10,w11] (4:Int)∧w9=sel [w0,w1,w2,w3,w4,w5,w6,w7,w8,w9,w10,w11] (9:Int)∧w5=sel [w0,w1,w2,w3,w4,w5,w6,w7,w8,w9,w10,w11] (5:Int)∧True)∧vld (8:Int) w4 w9 w5=vld (8:Int) (sel
 [w0,w1,w2,w3,w4,w5,w6,w7,w8,w9,w10,w11] (4:Int)) (sel [w0,w1,w2,w3,w4,w5,w6,w7,w8,w9,w10,w11] (9:Int)) (sel [w0,w1,w2,w3,w4,w5,w6,w7,w8,w9,w10,w11] (5:Int))∧True)∧((-9223372036854775808:Int)≤(9:Int)∧(9:Int)≤(9223372036854775807:Int)→(IR9 w0)∧(IR9 w1)∧((-9223372036854775808:Int) ≤
 w2∧w2≤(9223372036854775807:Int))∧(IR9 w3)∧(IR9 w4)∧(IR9 w5)∧(IR9 w6)∧(IR9 w7)∧((-9223372036854775808:Int)≤w8∧w8 ≤
 (9223372036854775807:Int))∧(IR9 w9)∧(IR9 w10)∧(IR9 w11)∧True→True∧((9:Int)=9∧w5=sel [w0,w1,w2,w3,w4,w5,w6,w7,w8,w9,w10,w11] (5:Int)∧w10=sel [w0,w1,w2,w3,w4,w5,w6,w7,w8,w9,w10,w11] (10:Int)∧w1=sel
 [w0,w1,w2,w3,w4,w5,w6,w7,w8,w9,w10,w11] (1:Int)∧True)∧vld (9:Int) w5 w10 w1=vld (9:Int) (sel [w0,w1,w2,w3,w4,w5,w6,w7,w8,w9,w10,w11] (5:Int)) (sel [w0,w1,w2,w3,w4,w5,w6,w7,w8,w9,w10,w11] (10:Int)) (sel [w0,w1,w2,w3,w4,w5,w6,w7,w8,w9,w10,w11] (1:Int))∧True)∧((-9223372036854775808:Int)≤(10:Int)∧(10:Int)≤(9223372036854775807:Int)→((-9223372036854775808:Int)≤w0∧w0 ≤
 (9223372036854775807:Int))∧(IR9 w1)∧(IR9 w2)∧(IR9 w3)∧(IR9 w4)∧(IR9 w5)∧((-9223372036854775808:Int)≤w6∧w6 ≤
 (9223372036854775807:Int))∧(IR9 w7)∧(IR9 w8)∧(IR9 w9)∧(IR9 w10)∧(IR9 w11)∧True→True∧((10:Int)=10∧w6=sel
 [w0,w1,w2,w3,w4,w5,w6,w7,w8,w9,w10,w11] (6:Int)∧w7=sel [w0,w1,w2,w3,w4,w5,w6,w7,w8,w9,w10,w11] (7:Int)∧w2=sel [w0,w1,w2,w3,w4,w5,w6,w7,w8,w9,w10,w11] (2:Int)∧True)∧vld (10:Int) w6 w7 w2=vld (10:Int) (sel [w0,w1,w2,w3,w4,w5,w6,w7,w8,w9,w10,w11] (6:Int)) (sel [w0,w1,w2,w3,w4,w5,w6,w7,w8,w9,w10,w11] (7:Int)) (sel [w0,w1,w2,w3,w4,w5,w6,w7,w8,w9,w10,w11] (2:Int))∧True)∧((-9223372036854775808:Int) ≤
 (11:Int)∧(11:Int)≤(9223372036854775807:Int)→(IR9 w0)∧(IR9 w1)∧(IR9 w2)∧(IR9 w3)∧(IR9 w4)∧((-9223372036854775808:Int) ≤
 w5∧w5≤(9223372036854775807:Int))∧(IR9 w6)∧(IR9 w7)∧(IR9 w8)∧(IR9 w9)∧(IR9 w10)∧((-9223372036854775808:Int)≤w11∧w11 ≤
 (9223372036854775807:Int))∧True→True∧((11:Int)=11∧w7=sel [w0,w1,w2,w3,w4,w5,w6,w7,w8,w9,w10,w11] (7:Int)∧w8=sel [w0,w1,w2,w3,w4,w5,w6,w7,w8,w9,w10,w11] (8:Int)∧w3=sel [w0,w1,w2,w3,w4,w5,w6,w7,w8,w9,w10,w11] (3:Int)∧True)∧vld (11:Int) w7 w8 w3=vld (11:Int) (sel [w0,w1,w2,w3,w4,w5,w6,w7,w8,w9,w10,w11] (7:Int)) (sel [w0,w1,w2,w3,w4,w5,w6,w7,w8,w9,w10,w11] (8:Int)) (sel
 [w0,w1,w2,w3,w4,w5,w6,w7,w8,w9,w10,w11] (3:Int))∧True)∧((-9223372036854775808:Int)≤(12:Int)∧(12:Int)≤(9223372036854775807:Int)→(IR9 w0)∧(IR9 w1)∧(IR9 w2)∧((-9223372036854775808:Int)≤w3∧w3 ≤
 (9223372036854775807:Int))∧(IR9 w4)∧(IR9 w5)∧(IR9 w6)∧(IR9 w7)∧(IR9 w8)∧((-9223372036854775808:Int)≤w9∧w9 ≤
 (9223372036854775807:Int))∧(IR9 w10)∧(IR9 w11)∧True→True∧((12:Int)=12∧w8=sel [w0,w1,w2,w3,w4,w5,w6,w7,w8,w9,w10,w11] (8:Int)∧w9=sel [w0,w1,w2,w3,w4,w5,w6,w7,w8,w9,w10,w11] (9:Int)∧w4=sel [w0,w1,w2,w3,w4,w5,w6,w7,w8,w9,w10,w11] (4:Int)∧True)∧vld (12:Int) w8 w9 w4=vld (12:Int) (sel
 [w0,w1,w2,w3,w4,w5,w6,w7,w8,w9,w10,w11] (8:Int)) (sel [w0,w1,w2,w3,w4,w5,w6,w7,w8,w9,w10,w11] (9:Int)) (sel [w0,w1,w2,w3,w4,w5,w6,w7,w8,w9,w10,w11] (4:Int))∧True)∧((-9223372036854775808:Int)≤(13:Int)∧(13:Int)≤(9223372036854775807:Int)→(IR9 w0)∧(IR9 w1)∧((-9223372036854775808:Int) ≤
 w2∧w2≤(9223372036854775807:Int))∧(IR9 w3)∧(IR9 w4)∧(IR9 w5)∧(IR9 w6)∧(IR9 w7)∧((-9223372036854775808:Int)≤w8∧w8 ≤
 (9223372036854775807:Int))∧(IR9 w9)∧(IR9 w10)∧(IR9 w11)∧True→True∧((13:Int)=13∧w9=sel [w0,w1,w2,w3,w4,w5,w6,w7,w8,w9,w10,w11] (9:Int)∧w10=sel [w0,w1,w2,w3,w4,w5,w6,w7,w8,w9,w10,w11] (10:Int)∧w5=sel
 [w0,w1,w2,w3,w4,w5,w6,w7,w8,w9,w10,w11] (5:Int)∧True)∧vld (13:Int) w9 w10 w5=vld (13:Int) (sel [w0,w1,w2,w3,w4,w5,w6,w7,w8,w9,w10,w11] (9:Int)) (sel [w0,w1,w2,w3,w4,w5,w6,w7,w8,w9,w10,w11] (10:Int)) (sel [w0,w1,w2,w3,w4,w5,w6,w7,w8,w9,w10,w11] (5:Int))∧True)∧((-9223372036854775808:Int)≤(14:Int)∧(14:Int)≤(9223372036854775807:Int)→((-9223372036854775808:Int)≤w0∧w0 ≤
 (9223372036854775807:Int))∧(IR9 w1)∧(IR9 w2)∧(IR9 w3)∧(IR9 w4)∧(IR9 w5)∧((-9223372036854775808:Int)≤w6∧w6 ≤
 (9223372036854775807:Int))∧(IR9 w7)∧(IR9 w8)∧(IR9 w9)∧(IR9 w10)∧(IR9 w11)∧True→True∧((14:Int)=14∧w10=sel
 [w0,w1,w2,w3,w4,w5,w6,w7,w8,w9,w10,w11] (10:Int)∧w6=sel [w0,w1,w2,w3,w4,w5,w6,w7,w8,w9,w10,w11] (6:Int)∧w1=sel [w0,w1,w2,w3,w4,w5,w6,w7,w8,w9,w10,w11] (1:Int)∧True)∧vld (14:Int) w10 w6 w1=vld (14:Int) (sel [w0,w1,w2,w3,w4,w5,w6,w7,w8,w9,w10,w11] (10:Int)) (sel [w0,w1,w2,w3,w4,w5,w6,w7,w8,w9,w10,w11] (6:Int)) (sel [w0,w1,w2,w3,w4,w5,w6,w7,w8,w9,w10,w11] (1:Int))∧True)∧((-9223372036854775808:Int) ≤
 (15:Int)∧(15:Int)≤(9223372036854775807:Int)→(IR9 w0)∧(IR9 w1)∧(IR9 w2)∧(IR9 w3)∧(IR9 w4)∧((-9223372036854775808:Int) ≤
 w5∧w5≤(9223372036854775807:Int))∧(IR9 w6)∧(IR9 w7)∧(IR9 w8)∧(IR9 w9)∧(IR9 w10)∧((-9223372036854775808:Int)≤w11∧w11 ≤
 (9223372036854775807:Int))∧True→True∧((15:Int)=15∧w11=sel [w0,w1,w2,w3,w4,w5,w6,w7,w8,w9,w10,w11] (11:Int)∧w7=sel [w0,w1,w2,w3,w4,w5,w6,w7,w8,w9,w10,w11] (7:Int)∧w6=sel [w0,w1,w2,w3,w4,w5,w6,w7,w8,w9,w10,w11] (6:Int)∧True)∧vld (15:Int) w11 w7 w6=vld (15:Int) (sel [w0,w1,w2,w3,w4,w5,w6,w7,w8,w9,w10,w11] (11:Int)) (sel [w0,w1,w2,w3,w4,w5,w6,w7,w8,w9,w10,w11] (7:Int)) (sel
 [w0,w1,w2,w3,w4,w5,w6,w7,w8,w9,w10,w11] (6:Int))∧True)∧((-9223372036854775808:Int)≤(16:Int)∧(16:Int)≤(9223372036854775807:Int)→(IR9 w0)∧(IR9 w1)∧(IR9 w2)∧((-9223372036854775808:Int)≤w3∧w3 ≤
 (9223372036854775807:Int))∧(IR9 w4)∧(IR9 w5)∧(IR9 w6)∧(IR9 w7)∧(IR9 w8)∧((-9223372036854775808:Int)≤w9∧w9 ≤
 (9223372036854775807:Int))∧(IR9 w10)∧(IR9 w11)∧True→True∧((16:Int)=16∧w11=sel [w0,w1,w2,w3,w4,w5,w6,w7,w8,w9,w10,w11] (11:Int)∧w8=sel [w0,w1,w2,w3,w4,w5,w6,w7,w8,w9,w10,w11] (8:Int)∧w7=sel [w0,w1,w2,w3,w4,w5,w6,w7,w8,w9,w10,w11] (7:Int)∧True)∧vld (16:Int) w11 w8 w7=vld (16:Int) (sel
 [w0,w1,w2,w3,w4,w5,w6,w7,w8,w9,w10,w11] (11:Int)) (sel [w0,w1,w2,w3,w4,w5,w6,w7,w8,w9,w10,w11] (8:Int)) (sel [w0,w1,w2,w3,w4,w5,w6,w7,w8,w9,w10,w11] (7:Int))∧True)∧((-9223372036854775808:Int)≤(17:Int)∧(17:Int)≤(9223372036854775807:Int)→(IR9 w0)∧(IR9 w1)∧((-9223372036854775808:Int) ≤
 w2∧w2≤(9223372036854775807:Int))∧(IR9 w3)∧(IR9 w4)∧(IR9 w5)∧(IR9 w6)∧(IR9 w7)∧((-9223372036854775808:Int)≤w8∧w8 ≤
 (9223372036854775807:Int))∧(IR9 w9)∧(IR9 w10)∧(IR9 w11)∧True→True∧((17:Int)=17∧w11=sel [w0,w1,w2,w3,w4,w5,w6,w7,w8,w9,w10,w11] (11:Int)∧w9=sel [w0,w1,w2,w3,w4,w5,w6,w7,w8,w9,w10,w11] (9:Int)∧w8=sel
 [w0,w1,w2,w3,w4,w5,w6,w7,w8,w9,w10,w11] (8:Int)∧True)∧vld (17:Int) w11 w9 w8=vld (17:Int) (sel [w0,w1,w2,w3,w4,w5,w6,w7,w8,w9,w10,w11] (11:Int)) (sel [w0,w1,w2,w3,w4,w5,w6,w7,w8,w9,w10,w11] (9:Int)) (sel [w0,w1,w2,w3,w4,w5,w6,w7,w8,w9,w10,w11] (8:Int))∧True)∧((-9223372036854775808:Int)≤(18:Int)∧(18:Int)≤(9223372036854775807:Int)→((-9223372036854775808:Int)≤w0∧w0 ≤
 (9223372036854775807:Int))∧(IR9 w1)∧(IR9 w2)∧(IR9 w3)∧(IR9 w4)∧(IR9 w5)∧((-9223372036854775808:Int)≤w6∧w6 ≤
 (9223372036854775807:Int))∧(IR9 w7)∧(IR9 w8)∧(IR9 w9)∧(IR9 w10)∧(IR9 w11)∧True→True∧((18:Int)=18∧w11=sel
 [w0,w1,w2,w3,w4,w5,w6,w7,w8,w9,w10,w11] (11:Int)∧w10=sel [w0,w1,w2,w3,w4,w5,w6,w7,w8,w9,w10,w11] (10:Int)∧w9=sel [w0,w1,w2,w3,w4,w5,w6,w7,w8,w9,w10,w11] (9:Int)∧True)∧vld (18:Int) w11 w10 w9=vld (18:Int) (sel [w0,w1,w2,w3,w4,w5,w6,w7,w8,w9,w10,w11] (11:Int)) (sel [w0,w1,w2,w3,w4,w5,w6,w7,w8,w9,w10,w11] (10:Int)) (sel [w0,w1,w2,w3,w4,w5,w6,w7,w8,w9,w10,w11] (9:Int))∧True)∧((-9223372036854775808:Int)
≤(19:Int)∧(19:Int)≤(9223372036854775807:Int)→(IR9 w0)∧(IR9 w1)∧(IR9 w2)∧(IR9 w3)∧(IR9 w4)∧((-9223372036854775808:Int)
≤w5∧w5≤(9223372036854775807:Int))∧(IR9 w6)∧(IR9 w7)∧(IR9 w8)∧(IR9 w9)∧(IR9 w10)∧((-9223372036854775808:Int)≤w11∧w11
≤(9223372036854775807:Int))∧True→True∧((19:Int)=19∧w11=sel [w0,w1,w2,w3,w4,w5,w6,w7,w8,w9,w10,w11] (11:Int)∧w6=sel [w0,w1,w2,w3,w4,w5,w6,w7,w8,w9,w10,w11] (6:Int)∧w10=sel [w0,w1,w2,w3,w4,w5,w6,w7,w8,w9,w10,w11] (10:Int)∧True)∧vld (19:Int) w11 w6 w10=vld (19:Int) (sel [w0,w1,w2,w3,w4,w5,w6,w7,w8,w9,w10,w11] (11:Int)) (sel [w0,w1,w2,w3,w4,w5,w6,w7,w8,w9,w10,w11] (6:Int)) (sel
 [w0,w1,w2,w3,w4,w5,w6,w7,w8,w9,w10,w11] (10:Int))∧True)∧True
theorem on20_P:on20_T:=by
 unfold on20_T
 intro w0 w1 w2 w3 w4 w5 w6 w7 w8 w9 w10 w11
 repeat' (first | exact trivial | intro _ | rfl | apply And.intro)
def on20_S:Prop:=∀ w0 w1 w2 w3 w4 w5 w6 w7 w8 w9 w10 w11:Int,allN fcs fun n=>fnK Tryz.prog { glob:=glb,spec:=lk [(114,valid_s vld)] } { nt:=28 } (fun _ _=>none) 6 Tryz.f116 [.int .i64 n,.agg [.int .i64 w0,.int .i64 w1,.int .i64 w2,.int .i64 w3,.int .i64 w4,.int .i64 w5,.int .i64 w6,.int .i64 w7,.int .i64 w8,.int .i64 w9,.int .i64 w10,.int .i64 w11]] (.tup [.agg [.int .i64 n,.int .i64 (sel [w0,w1,w2,w3,w4,w5,w6,w7,w8,w9,w10,w11] (crn n 0)),.int .i64 (sel [w0,w1,w2,w3,w4,w5,w6,w7,w8,w9,w10,w11] (crn n 1)),.int .i64 (sel [w0,w1,w2,w3,w4,w5,w6,w7,w8,w9,w10,w11] (crn n 2))],.bool (vld n (sel [w0,w1,w2,w3,w4,w5,w6,w7,w8,w9,w10,w11] (crn n 0)) (sel [w0,w1,w2,w3,w4,w5,w6,w7,w8,w9,w10,w11] (crn n 1)) (sel [w0,w1,w2,w3,w4,w5,w6,w7,w8,w9,w10,w11] (crn n 2)))])
theorem on20_e:on20_T=on20_S:=by kernel_rfl
theorem on20:on20_S:=@Eq.mp (on20_T) (on20_S) (on20_e) (on20_P)
theorem of_ok:SOK Tryz.prog glb 115 of_s:=by
 refine ⟨fok Tryz.func115 (by kernel_rfl) (by kernel_rfl),?_⟩
 intro xs pre r h hp
 unfold of_s at h
 split at h
 ·simp only [Option.some.injEq,Prod.mk.injEq] at h
  obtain ⟨h1,h2⟩:=h
  subst h1 h2
  exact fnK_sound tyNil (by exact specOK (l:=[]) (l':=[]) rfl rfl trivial trivial) (by kernel_rfl) Tryz.func115 rfl (allN_get (of20 _ _ _) (mem_fcs hp))
 ·cases h
theorem on_ok:SOK Tryz.prog glb 116 on_s:=by
 refine ⟨fok Tryz.func116 (by kernel_rfl) (by kernel_rfl),?_⟩
 intro xs pre r h hp
 unfold on_s at h
 split at h
 ·simp only [Option.some.injEq,Prod.mk.injEq] at h
  obtain ⟨h1,h2⟩:=h
  subst h1 h2
  exact fnK_sound tyNil (by exact specOK (l':=[]) rfl rfl ⟨valid_ok glb,trivial⟩ trivial) (by kernel_rfl) Tryz.func116 rfl (allN_get (on20 _ _ _ _ _ _ _ _ _ _ _ _) (mem_fcs hp))
 ·cases h
end Go.Proofs.YtldiagnbagpliaaGreatDoor
namespace Go.Proofs.YtldiagnbagpliaaGreatDoor
open Go
set_option linter.unusedVariables false
set_option linter.unusedSimpArgs false
def onW (f a b c n:Int) (k:Nat):Int:=wt f a b c (crn n k)
def onV (f a b c n:Int):Bool:=vld n (onW f a b c n 0) (onW f a b c n 1) (onW f a b c n 2)
def wts (f a b c:Int):List Int:=[wt f a b c 0,wt f a b c 1,wt f a b c 2,wt f a b c 3,wt f a b c 4,wt f a b c 5,wt f a b c 6,wt f a b c 7,wt f a b c 8,wt f a b c 9,wt f a b c 10,wt f a b c 11]
theorem sel_wts (f a b c:Int) {n:Int} (h:0≤n∧n < 20):sel (wts f a b c) (crn n 0)=onW f a b c n 0∧sel (wts f a b c) (crn n 1)=onW f a b c n 1∧sel (wts f a b c) (crn n 2)=onW f a b c n 2:=by
 refine allN_get (l:=fcs) (p:=fun n=>sel (wts f a b c) (crn n 0)=onW f a b c n 0∧sel (wts f a b c) (crn n 1)=onW f a b c n 1∧sel (wts f a b c) (crn n 2)=onW f a b c n 2) ?_ (mem_fcs h)
 simp only [allN,fcs]
 repeat' (first | exact trivial | rfl | apply And.intro)
def nrmL (f a b c:Int):List Int→Int × Int × Int × Int
 | []=>(f,a,b,c)
 | n::l=>if onV f a b c n then (n,onW f a b c n 0,onW f a b c n 1,onW f a b c n 2) else nrmL f a b c l
theorem nrmL_t {f a b c n:Int} {l:List Int} (h:onV f a b c n=true):nrmL f a b c (n::l)=(n,onW f a b c n 0,onW f a b c n 1,onW f a b c n 2):=by simp [nrmL,h]
theorem nrmL_f {f a b c n:Int} {l:List Int} (h:onV f a b c n=false):nrmL f a b c (n::l)=nrmL f a b c l:=by simp [nrmL,h]
def nrm (f a b c:Int):Int × Int × Int × Int:=if vld f a b c then nrmL f a b c fcs else (0,0,0,0)
def err (v:Bool):Int:=if v then 0 else 1
def sameW (f a b c f' a' b' c':Int):Bool:=decide (wts f a b c=wts f' a' b' c')
def normal_s (vld:Int→Int→Int→Int→Bool) (nrm:Int→Int→Int→Int→Int × Int × Int × Int):Sp
 | [.agg [.int .i64 f,.int .i64 a,.int .i64 b,.int .i64 c]]=>some (True,.tup [.agg [.int .i64 (nrm f a b c).1,.int .i64 (nrm f a b c).2.1,.int .i64 (nrm f a b c).2.2.1,.int .i64 (nrm f a b c).2.2.2],.int .i64 (err (vld f a b c))])
 | _=>none
abbrev wt12 (f a b c:Int):=[wt f a b c (0:Int),wt f a b c (1:Int),wt f a b c (2:Int),wt f a b c (3:Int),wt f a b c (4:Int),wt f a b c (5:Int),wt f a b c (6:Int),wt f a b c (7:Int),wt f a b c (8:Int),wt f a b c (9:Int),wt f a b c (10:Int),wt f a b c (11:Int)]
def normal_T (vld':Int→Int→Int→Int→Bool) (nrm:Int→Int→Int→Int→Int × Int × Int × Int):Prop :=
  ∀ (f a b c:Int),(IR9 f)∧(IR9 a)∧(IR9 b)∧(IR9 c)∧True→True∧bif !vld f a b c then ((0:Int)=(nrm f a b c).fst∧(0:Int)=(nrm f a b c).snd.fst∧(0:Int)=(nrm f a
 b c).snd.snd.fst∧(0:Int)=(nrm f a b c).snd.snd.snd∧True)∧(1:Int)=err (vld' f a b c)∧True else (0≤f∧f < (20:Int))∧((0:Int)≤(0:Int)∧(0:Int) < (20:Int))∧bif vld (0:Int) (sel (wt12 f a b c) (0:Int)) (sel (wt12 f a b c) (1:Int)) (sel (wt12 f a b c) (2:Int)) then ((0:Int)=(nrm f a b c).fst∧sel (wt12 f a b c) (0:Int)=(nrm f a b c).snd.fst∧sel (wt12 f a b c) (1:Int)=(nrm
 f a b c).snd.snd.fst∧sel (wt12 f a b c) (2:Int)=(nrm f a b c).snd.snd.snd∧True)∧(0:Int)=err (vld' f a b c)∧True else ((0:Int)≤(1:Int)∧(1:Int) < (20:Int))∧bif vld (1:Int) (sel (wt12 f a b c) (0:Int)) (sel (wt12 f a b c) (2:Int)) (sel (wt12 f a b c) (3:Int)) then ((1:Int)=(nrm f a b c).fst∧sel (wt12 f a b c) (0:Int)=(nrm f a b c).snd.fst∧sel (wt12 f a b c) (2:Int)=(nrm f a
 b c).snd.snd.fst∧sel (wt12 f a b c) (3:Int)=(nrm f a b c).snd.snd.snd∧True)∧(0:Int)=err (vld' f a b c)∧True else ((0:Int)≤(2:Int)∧(2:Int) < (20:Int))∧bif vld (2:Int) (sel (wt12 f a b c) (0:Int)) (sel (wt12 f a b c) (3:Int)) (sel (wt12 f a b c) (4:Int)) then ((2:Int)=(nrm f a b c).fst∧sel (wt12 f a b c) (0:Int)=(nrm f a b c).snd.fst∧sel (wt12 f a b c) (3:Int)=(nrm f a b
 c).snd.snd.fst∧sel (wt12 f a b c) (4:Int)=(nrm f a b c).snd.snd.snd∧True)∧(0:Int)=err (vld' f a b c)∧True else ((0:Int)≤(3:Int)∧(3:Int) < (20:Int))∧bif vld (3:Int) (sel (wt12 f a b c) (0:Int)) (sel (wt12 f a b c) (4:Int)) (sel (wt12 f a b c) (5:Int)) then ((3:Int)=(nrm f a b c).fst∧sel (wt12 f a b c) (0:Int)=(nrm f a b c).snd.fst∧sel (wt12 f a b c) (4:Int)=(nrm f a b
 c).snd.snd.fst∧sel (wt12 f a b c) (5:Int)=(nrm f a b c).snd.snd.snd∧True)∧(0:Int)=err (vld' f a b c)∧True else ((0:Int)≤(4:Int)∧(4:Int) < (20:Int))∧bif vld (4:Int) (sel (wt12 f a b c) (0:Int)) (sel (wt12 f a b c) (5:Int)) (sel (wt12 f a b c) (1:Int)) then ((4:Int)=(nrm f a b c).fst∧sel (wt12 f a b c) (0:Int)=(nrm f a b c).snd.fst∧sel (wt12 f a b c) (5:Int)=(nrm f a b
 c).snd.snd.fst∧sel (wt12 f a b c) (1:Int)=(nrm f a b c).snd.snd.snd∧True)∧(0:Int)=err (vld' f a b c)∧True else ((0:Int)≤(5:Int)∧(5:Int) < (20:Int))∧bif vld (5:Int) (sel (wt12 f a b c) (1:Int)) (sel (wt12 f a b c) (6:Int)) (sel (wt12 f a b c) (2:Int)) then ((5:Int)=(nrm f a b c).fst∧sel (wt12 f a b c) (1:Int)=(nrm f a b c).snd.fst∧sel (wt12 f a b c) (6:Int)=(nrm f a b
 c).snd.snd.fst∧sel (wt12 f a b c) (2:Int)=(nrm f a b c).snd.snd.snd∧True)∧(0:Int)=err (vld' f a b c)∧True else ((0:Int)≤(6:Int)∧(6:Int) < (20:Int))∧bif vld (6:Int) (sel (wt12 f a b c) (2:Int)) (sel (wt12 f a b c) (7:Int)) (sel (wt12 f a b c) (3:Int)) then ((6:Int)=(nrm f a b c).fst∧sel (wt12 f a b c) (2:Int)=(nrm f a b c).snd.fst∧sel (wt12 f a b c) (7:Int)=(nrm f a b
 c).snd.snd.fst∧sel (wt12 f a b c) (3:Int)=(nrm f a b c).snd.snd.snd∧True)∧(0:Int)=err (vld' f a b c)∧True else ((0:Int)≤(7:Int)∧(7:Int) < (20:Int))∧bif vld (7:Int) (sel (wt12 f a b c) (3:Int)) (sel (wt12 f a b c) (8:Int)) (sel (wt12 f a b c) (4:Int)) then ((7:Int)=(nrm f a b c).fst∧sel (wt12 f a b c) (3:Int)=(nrm f a b c).snd.fst∧sel (wt12 f a b c) (8:Int)=(nrm f a b
 c).snd.snd.fst∧sel (wt12 f a b c) (4:Int)=(nrm f a b c).snd.snd.snd∧True)∧(0:Int)=err (vld' f a b c)∧True else ((0:Int)≤(8:Int)∧(8:Int) < (20:Int))∧bif vld (8:Int) (sel (wt12 f a b c) (4:Int)) (sel (wt12 f a b c) (9:Int)) (sel (wt12 f a b c) (5:Int)) then ((8:Int)=(nrm f a b c).fst∧sel (wt12 f a b c) (4:Int)=(nrm f a b c).snd.fst∧sel (wt12 f a b c) (9:Int)=(nrm f a b
 c).snd.snd.fst∧sel (wt12 f a b c) (5:Int)=(nrm f a b c).snd.snd.snd∧True)∧(0:Int)=err (vld' f a b c)∧True else ((0:Int)≤(9:Int)∧(9:Int) < (20:Int))∧bif vld (9:Int) (sel (wt12 f a b c) (5:Int)) (sel (wt12 f a b c) (10:Int)) (sel (wt12 f a b c) (1:Int)) then ((9:Int)=(nrm f a b c).fst∧sel (wt12 f a b c) (5:Int)=(nrm f a b c).snd.fst∧sel (wt12 f a b c) (10:Int)=(nrm f a b
 c).snd.snd.fst∧sel (wt12 f a b c) (1:Int)=(nrm f a b c).snd.snd.snd∧True)∧(0:Int)=err (vld' f a b c)∧True else ((0:Int)≤(10:Int)∧(10:Int) < (20:Int))∧bif vld (10:Int) (sel (wt12 f a b c) (6:Int)) (sel (wt12 f a b c) (7:Int)) (sel (wt12 f a b c) (2:Int)) then ((10:Int)=(nrm f a b c).fst∧sel (wt12 f a b c) (6:Int)=(nrm f a b c).snd.fst∧sel (wt12 f a b c) (7:Int)=(nrm f a b
 c).snd.snd.fst∧sel (wt12 f a b c) (2:Int)=(nrm f a b c).snd.snd.snd∧True)∧(0:Int)=err (vld' f a b c)∧True else ((0:Int)≤(11:Int)∧(11:Int) < (20:Int))∧bif vld (11:Int) (sel (wt12 f a b c) (7:Int)) (sel (wt12 f a b c) (8:Int)) (sel (wt12 f a b c) (3:Int)) then ((11:Int)=(nrm f a b c).fst∧sel (wt12 f a b c) (7:Int)=(nrm f a b c).snd.fst∧sel (wt12 f a b c) (8:Int)=(nrm f a b
 c).snd.snd.fst∧sel (wt12 f a b c) (3:Int)=(nrm f a b c).snd.snd.snd∧True)∧(0:Int)=err (vld' f a b c)∧True else ((0:Int)≤(12:Int)∧(12:Int) < (20:Int))∧bif vld (12:Int) (sel (wt12 f a b c) (8:Int)) (sel (wt12 f a b c) (9:Int)) (sel (wt12 f a b c) (4:Int)) then ((12:Int)=(nrm f a b c).fst∧sel (wt12 f a b c) (8:Int)=(nrm f a b c).snd.fst∧sel (wt12 f a b c) (9:Int)=(nrm f a b
 c).snd.snd.fst∧sel (wt12 f a b c) (4:Int)=(nrm f a b c).snd.snd.snd∧True)∧(0:Int)=err (vld' f a b c)∧True else ((0:Int)≤(13:Int)∧(13:Int) < (20:Int))∧bif vld (13:Int) (sel (wt12 f a b c) (9:Int)) (sel (wt12 f a b c) (10:Int)) (sel (wt12 f a b c) (5:Int)) then ((13:Int)=(nrm f a b c).fst∧sel (wt12 f a b c) (9:Int)=(nrm f a b c).snd.fst∧sel (wt12 f a b c) (10:Int)=(nrm f a
 b c).snd.snd.fst∧sel (wt12 f a b c) (5:Int)=(nrm f a b c).snd.snd.snd∧True)∧(0:Int)=err (vld' f a b c)∧True else ((0:Int)≤(14:Int)∧(14:Int) < (20:Int))∧bif vld (14:Int) (sel (wt12 f a b c) (10:Int)) (sel (wt12 f a b c) (6:Int)) (sel (wt12 f a b c) (1:Int)) then ((14:Int)=(nrm f a b c).fst∧sel (wt12 f a b c) (10:Int)=(nrm f a b c).snd.fst∧sel (wt12 f a b c) (6:Int)=(nrm f
 a b c).snd.snd.fst∧sel (wt12 f a b c) (1:Int)=(nrm f a b c).snd.snd.snd∧True)∧(0:Int)=err (vld' f a b c)∧True else ((0:Int)≤(15:Int)∧(15:Int) < (20:Int))∧bif vld (15:Int) (sel (wt12 f a b c) (11:Int)) (sel (wt12 f a b c) (7:Int)) (sel (wt12 f a b c) (6:Int)) then ((15:Int)=(nrm f a b c).fst∧sel (wt12 f a b c) (11:Int)=(nrm f a b c).snd.fst∧sel (wt12 f a b c) (7:Int)=(nrm
 f a b c).snd.snd.fst∧sel (wt12 f a b c) (6:Int)=(nrm f a b c).snd.snd.snd∧True)∧(0:Int)=err (vld' f a b c)∧True else ((0:Int)≤(16:Int)∧(16:Int) < (20:Int))∧bif vld (16:Int) (sel (wt12 f a b c) (11:Int)) (sel (wt12 f a b c) (8:Int)) (sel (wt12 f a b c) (7:Int)) then ((16:Int)=(nrm f a b c).fst∧sel (wt12 f a b c) (11:Int)=(nrm f a b c).snd.fst∧sel (wt12 f a b c)
 (8:Int)=(nrm f a b c).snd.snd.fst∧sel (wt12 f a b c) (7:Int)=(nrm f a b c).snd.snd.snd∧True)∧(0:Int)=err (vld' f a b c)∧True else ((0:Int)≤(17:Int)∧(17:Int) < (20:Int))∧bif vld (17:Int) (sel (wt12 f a b c) (11:Int)) (sel (wt12 f a b c) (9:Int)) (sel (wt12 f a b c) (8:Int)) then ((17:Int)=(nrm f a b c).fst∧sel (wt12 f a b c) (11:Int)=(nrm f a b c).snd.fst∧sel (wt12 f a b
 c) (9:Int)=(nrm f a b c).snd.snd.fst∧sel (wt12 f a b c) (8:Int)=(nrm f a b c).snd.snd.snd∧True)∧(0:Int)=err (vld' f a b c)∧True else ((0:Int)≤(18:Int)∧(18:Int) < (20:Int))∧bif vld (18:Int) (sel (wt12 f a b c) (11:Int)) (sel (wt12 f a b c) (10:Int)) (sel (wt12 f a b c) (9:Int)) then ((18:Int)=(nrm f a b c).fst∧sel (wt12 f a b c) (11:Int)=(nrm f a b c).snd.fst∧sel (wt12 f a
 b c) (10:Int)=(nrm f a b c).snd.snd.fst∧sel (wt12 f a b c) (9:Int)=(nrm f a b c).snd.snd.snd∧True)∧(0:Int)=err (vld' f a b c)∧True else ((0:Int)≤(19:Int)∧(19:Int) < (20:Int))∧bif vld (19:Int) (sel (wt12 f a b c) (11:Int)) (sel (wt12 f a b c) (6:Int)) (sel (wt12 f a b c) (10:Int)) then ((19:Int)=(nrm f a b c).fst∧sel (wt12 f a b c) (11:Int)=(nrm f a b c).snd.fst∧sel (wt12
 f a b c) (6:Int)=(nrm f a b c).snd.snd.fst∧sel (wt12 f a b c) (10:Int)=(nrm f a b c).snd.snd.snd∧True)∧(0:Int)=err (vld' f a b c)∧True else (f=(nrm f a b c).fst∧a=(nrm f a b c).snd.fst∧b=(nrm f a b c).snd.snd.fst∧c=(nrm f a b c).snd.snd.snd∧True)∧(0:Int)=err (vld' f a b c)∧True
theorem normal_P:normal_T vld nrm:=by
  unfold normal_T
  intro f a b c h
  refine ⟨trivial,?_⟩
  unfold nrm err
  cases hv:vld f a b c with
  | false=>exact ⟨⟨rfl,rfl,rfl,rfl,trivial⟩,rfl,trivial⟩
  | true =>
    have v:Vld f a b c:=of_decide_eq_true hv
    rw [if_pos rfl]
    refine ⟨v.face,?_⟩
    unfold fcs
    iterate 20
      (refine ⟨⟨by decide,by decide⟩,csplit (fun h=>?_) (fun h=>?_)⟩
       · rw [nrmL_t (f:=f) (a:=a) (b:=b) (c:=c) h]; exact ⟨⟨rfl,rfl,rfl,rfl,trivial⟩,rfl,trivial⟩
       rw [nrmL_f (f:=f) (a:=a) (b:=b) (c:=c) h])
    exact ⟨⟨rfl,rfl,rfl,rfl,trivial⟩,rfl,trivial⟩
def normal_S (vld:Int→Int→Int→Int→Bool) (nrm:Int→Int→Int→Int→Int × Int × Int × Int):Prop:=∀ (f a b c:Int),fnK Tryz.prog { glob:=glb,spec:=lk [(114,(valid_s Go.Proofs.YtldiagnbagpliaaGreatDoor.vld)),(115,of_s),(116,on_s)],specH:=lk [],nowf:=true } { nt:=27,drop:=drp [(1,768),(2,2048),(3,12288),(6,65536),(7,8257536),(9,16777216),(10,33554432),(11,67108864)] } (fun _ _=>none) 21 Tryz.f91 [.agg [.int .i64 f,.int .i64 a,.int .i64 b,.int .i64 c]] (.tup [.agg [.int .i64 (nrm f a b c).1,.int .i64 (nrm f a b c).2.1,.int .i64 (nrm f a b c).2.2.1,.int .i64 (nrm f a b c).2.2.2],.int .i64 (err (vld f a b c))])
theorem normal_e (vld:Int→Int→Int→Int→Bool) (nrm:Int→Int→Int→Int→Int × Int × Int × Int):normal_T vld nrm=normal_S vld nrm:=by kernel_rfl
theorem normal_v:normal_S vld nrm:=Eq.mp (normal_e ..) (normal_P)
theorem normal_ok:SOK Tryz.prog glb 91 (normal_s vld nrm):=by
 refine ⟨fok Tryz.func91 (by kernel_rfl) (by kernel_rfl),?_⟩
 intro xs pre r h hp
 unfold normal_s at h
 split at h
 ·simp only [Option.some.injEq,Prod.mk.injEq] at h
  obtain ⟨h1,h2⟩:=h
  subst h1 h2
  exact fnK_sound tyNil (by exact specOK rfl rfl ⟨(valid_ok glb),(of_ok),(on_ok),trivial⟩ trivial) (by kernel_rfl) Tryz.func91 rfl (normal_v  _ _ _ _)
 ·cases h
end Go.Proofs.YtldiagnbagpliaaGreatDoor
namespace Go.Proofs.YtldiagnbagpliaaGreatDoor
open Go
set_option linter.unusedVariables false
set_option linter.unusedSimpArgs false
def onRow (f a b c n:Int):List AV:=[.int .i64 n,.int .i64 (onW f a b c n 0),.int .i64 (onW f a b c n 1),.int .i64 (onW f a b c n 2)]
def adrR (f a b c:Int):Nat→List (List AV)
 | 0=>[]
 | n+1=>if onV f a b c n then adrR f a b c n++[onRow f a b c n] else adrR f a b c n
def adr (f a b c:Int):List (List AV):=if vld f a b c then adrR f a b c 20 else []
structure AdrP (f a b c:Int) (x:Int × List (List AV)):Prop where
 lo:0≤x.1
 hi:x.1≤20
 row:x.2=adrR f a b c x.1.toNat
theorem adr_len (f a b c:Int):∀ n,(adrR f a b c n).length≤n
 | 0=>by simp [adrR]
 | n+1=>by
  have:=adr_len f a b c n
  simp only [adrR]
  split
  ·simp; omega
  ·omega
theorem adr_step {f a b c n:Int} (h:0≤n):adrR f a b c (n+1).toNat=if onV f a b c n then adrR f a b c n.toNat++[onRow f a b c n] else adrR f a b c n.toNat:=by
 rw [show (n+1).toNat=n.toNat+1 by omega]
 simp only [adrR]
 rw [show ((n.toNat:Nat):Int)=n by omega]
end Go.Proofs.YtldiagnbagpliaaGreatDoor
namespace Go.Proofs.YtldiagnbagpliaaGreatDoor
open Go
set_option linter.unusedVariables false
set_option linter.unusedSimpArgs false
theorem vld_t {f a b c:Int} (h:Vld f a b c):vld f a b c=true:=decide_eq_true h
def pos (f v:Int):Nat:=if crn f 2=v then 2 else if crn f 1=v then 1 else if crn f 0=v then 0 else 3
def sel3 (a b c:Int) (k:Nat):Int:=match k with | 0=>a | 1=>b | 2=>c | _=>0
theorem wt_pos (f a b c v:Int):wt f a b c v=sel3 a b c (pos f v):=by
 unfold wt pos
 split
 ·rfl
 ·split
  ·rfl
  ·split <;> rfl
def allF (p:Int→Int→Bool):Bool:=fcs.all fun f=>fcs.all fun n=>p f n
theorem allF_get {p:Int→Int→Bool} (h:allF p=true) {f n:Int} (hf:0≤f∧f < 20) (hn:0≤n∧n < 20):p f n=true:=by
 unfold allF at h
 rw [List.all_eq_true] at h
 have h1:=h f (mem_fcs hf)
 rw [List.all_eq_true] at h1
 exact h1 n (mem_fcs hn)
def vts:List Int:=[0,1,2,3,4,5,6,7,8,9,10,11]
def okF (f n:Int):Bool:=decide (pos n (crn n 0)=0)&&decide (pos n (crn n 1)=1)&&decide (pos n (crn n 2)=2) &&
 (vts.all fun v=>decide (pos f v≤3)&&(decide (pos n v=3)||decide (v=crn n (pos n v))) &&
  (decide (pos n v≠3)||decide (pos f v=3)||(decide (pos f (crn n 0)≠pos f v)&&decide (pos f (crn n 1)≠pos f v)&&decide (pos f (crn n 2)≠pos f v)))) &&
 (decide (pos f (crn n 0)=3)||(decide (pos f (crn n 0)≠pos f (crn n 1))&&decide (pos f (crn n 0)≠pos f (crn n 2))))&&(decide (pos f (crn n 1)=3)||decide (pos f (crn n 1)≠pos f (crn n 2))) &&
 decide (pos f (crn n 0)≤3)&&decide (pos f (crn n 1)≤3)&&decide (pos f (crn n 2)≤3)
theorem okF_all:allF okF=true:=by decide +kernel
theorem miss {a b c:Int} (ha:0≤a) (hb:0≤b) (hc:0≤c) (hs:a+b+c=840) {p q r j:Nat} (hp:p≤3) (hq:q≤3) (hr:r≤3) (hj:j≤3)
  (h1:p=3∨(p≠q∧p≠r)) (h2:q=3∨q≠r) (hsum:sel3 a b c p+sel3 a b c q+sel3 a b c r=840) (j3:j=3∨(p≠j∧q≠j∧r≠j)):sel3 a b c j=0:=by
 have e:∀ {k:Nat},k≤3→k=0∨k=1∨k=2∨k=3:=by intro k hk; omega
 rcases e hp with rfl | rfl | rfl | rfl <;> rcases e hq with rfl | rfl | rfl | rfl <;> rcases e hr with rfl | rfl | rfl | rfl <;> rcases e hj with rfl | rfl | rfl | rfl <;> simp only [sel3] at hsum ⊢ <;> omega
theorem row_wt {f a b c n:Int} (hv:Vld f a b c) (hn:0≤n∧n < 20) (ho:onV f a b c n=true) {v:Int} (hvv:v ∈ vts) :
  wt n (onW f a b c n 0) (onW f a b c n 1) (onW f a b c n 2) v=wt f a b c v:=by
 have hV:Vld n (onW f a b c n 0) (onW f a b c n 1) (onW f a b c n 2):=of_decide_eq_true ho
 have ok:=allF_get okF_all hv.face hn
 simp only [okF,Bool.and_eq_true,Bool.or_eq_true,decide_eq_true_eq,List.all_eq_true] at ok
 obtain ⟨⟨⟨⟨⟨⟨⟨⟨o0,o1⟩,o2⟩,oa⟩,ob⟩,oc⟩,l0⟩,l1⟩,l2⟩:=ok
 obtain ⟨⟨m1,m2⟩,m3⟩:=oa v hvv
 have hs:=hV.sum
 simp only [onW,wt_pos] at hs
 rw [wt_pos,wt_pos]
 have pk:pos n v=0∨pos n v=1∨pos n v=2∨pos n v=3:=by unfold pos; (repeat' split) <;> simp
 rcases pk with e | e | e | e
 ·rw [e] at m2 ⊢; simp only [sel3,onW]; rw [wt_pos]; rw [← (m2.resolve_left (by decide))]; rfl
 ·rw [e] at m2 ⊢; simp only [sel3,onW]; rw [wt_pos]; rw [← (m2.resolve_left (by decide))]; rfl
 ·rw [e] at m2 ⊢; simp only [sel3,onW]; rw [wt_pos]; rw [← (m2.resolve_left (by decide))]; rfl
 ·rw [e]
  show (0:Int)=_
  refine (miss hv.wa.1 hv.wb.1 hv.wc.1 hv.sum l0 l1 l2 m1 ?_ ?_ hs ?_).symm
  ·exact ob
  ·exact oc
  ·rcases m3 with (h | h) | h
   ·exact absurd e h
   ·exact .inl h
   ·exact .inr ⟨h.1.1,h.1.2,h.2⟩
theorem crn_vts {n:Int} (hn:0≤n∧n < 20):crn n 0 ∈ vts∧crn n 1 ∈ vts∧crn n 2 ∈ vts:=by
 have:(fcs.all fun n=>decide (crn n 0 ∈ vts)&&decide (crn n 1 ∈ vts)&&decide (crn n 2 ∈ vts))=true:=by decide +kernel
 rw [List.all_eq_true] at this
 have:=this n (mem_fcs hn)
 simpa [and_assoc] using this
theorem onW_congr {f a b c f' a' b' c' n:Int} (hn:0≤n∧n < 20) (h:∀ v ∈ vts,wt f a b c v=wt f' a' b' c' v):onW f a b c n 0=onW f' a' b' c' n 0∧onW f a b c n 1=onW f' a' b' c' n 1∧onW f a b c n 2=onW f' a' b' c' n 2:=by
 obtain ⟨h0,h1,h2⟩:=crn_vts hn
 exact ⟨h _ h0,h _ h1,h _ h2⟩
theorem onV_congr {f a b c f' a' b' c' n:Int} (hn:0≤n∧n < 20) (h:∀ v ∈ vts,wt f a b c v=wt f' a' b' c' v):onV f a b c n=onV f' a' b' c' n:=by
 obtain ⟨h0,h1,h2⟩:=onW_congr hn h
 unfold onV; rw [h0,h1,h2]
theorem own_row {f a b c:Int} (hv:Vld f a b c):onW f a b c f 0=a∧onW f a b c f 1=b∧onW f a b c f 2=c∧onV f a b c f=true:=by
 have ok:=allF_get okF_all hv.face hv.face
 simp only [okF,Bool.and_eq_true,Bool.or_eq_true,decide_eq_true_eq,List.all_eq_true] at ok
 obtain ⟨⟨⟨⟨⟨⟨⟨⟨o0,o1⟩,o2⟩,_⟩,_⟩,_⟩,_⟩,_⟩,_⟩:=ok
 have e0:onW f a b c f 0=a:=by simp only [onW,wt_pos,o0,sel3]
 have e1:onW f a b c f 1=b:=by simp only [onW,wt_pos,o1,sel3]
 have e2:onW f a b c f 2=c:=by simp only [onW,wt_pos,o2,sel3]
 refine ⟨e0,e1,e2,?_⟩
 unfold onV; rw [e0,e1,e2]; exact decide_eq_true hv
theorem nrmL_congr {f a b c f' a' b' c':Int} (h:∀ v ∈ vts,wt f a b c v=wt f' a' b' c' v):∀ (l:List Int),(∀ n ∈ l,0≤n∧n < 20)→(∃ n ∈ l,onV f a b c n=true)→nrmL f a b c l=nrmL f' a' b' c' l
 | [],_,he=>by obtain ⟨n,hn,_⟩:=he; cases hn
 | n::l,hl,he=>by
  have hn:=hl n (List.mem_cons_self ..)
  obtain ⟨h0,h1,h2⟩:=onW_congr hn h
  have hv:=onV_congr hn h
  simp only [nrmL]
  rw [← hv,← h0,← h1,← h2]
  by_cases ho:onV f a b c n=true
  ·rw [if_pos ho,if_pos ho]
  ·rw [if_neg ho,if_neg ho]
   refine nrmL_congr h l (fun m hm=>hl m (List.mem_cons_of_mem _ hm)) ?_
   obtain ⟨m,hm,hmo⟩:=he
   rcases List.mem_cons.1 hm with rfl | hm
   ·exact absurd hmo ho
   ·exact ⟨m,hm,hmo⟩
theorem fcs_rng {n:Int} (h:n ∈ fcs):0≤n∧n < 20:=by simp only [fcs,List.mem_cons,List.not_mem_nil,or_false] at h; omega
theorem nrm_congr {f a b c f' a' b' c':Int} (hv:Vld f a b c) (hv':Vld f' a' b' c') (h:∀ v ∈ vts,wt f a b c v=wt f' a' b' c' v):nrm f a b c=nrm f' a' b' c':=by
 unfold nrm
 rw [if_pos (vld_t hv),if_pos (vld_t hv')]
 exact nrmL_congr h fcs (fun n hn=>fcs_rng hn) ⟨f,mem_fcs hv.face,(own_row hv).2.2.2⟩
theorem nrmL_row {f a b c:Int}:∀ (l:List Int),(∃ n ∈ l,onV f a b c n=true)→∃ n ∈ l,onV f a b c n=true∧nrmL f a b c l=(n,onW f a b c n 0,onW f a b c n 1,onW f a b c n 2)
 | [],he=>by obtain ⟨n,hn,_⟩:=he; cases hn
 | n::l,he=>by
  simp only [nrmL]
  by_cases ho:onV f a b c n=true
  ·exact ⟨n,List.mem_cons_self ..,ho,by rw [if_pos ho]⟩
  ·rw [if_neg ho]
   obtain ⟨m,hm,hmo⟩:=he
   rcases List.mem_cons.1 hm with rfl | hm
   ·exact absurd hmo ho
   ·obtain ⟨k,hk,h1,h2⟩:=nrmL_row l ⟨m,hm,hmo⟩
    exact ⟨k,List.mem_cons_of_mem _ hk,h1,h2⟩
theorem nrm_row {f a b c:Int} (hv:Vld f a b c):∃ n,(0≤n∧n < 20)∧onV f a b c n=true∧nrm f a b c=(n,onW f a b c n 0,onW f a b c n 1,onW f a b c n 2):=by
 unfold nrm
 rw [if_pos (vld_t hv)]
 obtain ⟨n,hn,h1,h2⟩:=nrmL_row (f:=f) (a:=a) (b:=b) (c:=c) fcs ⟨f,mem_fcs hv.face,(own_row hv).2.2.2⟩
 exact ⟨n,fcs_rng hn,h1,h2⟩
theorem sameW_iff (f a b c f' a' b' c':Int):sameW f a b c f' a' b' c'=true↔∀ v ∈ vts,wt f a b c v=wt f' a' b' c' v:=by
 unfold sameW wts vts
 rw [decide_eq_true_eq]
 simp only [List.cons.injEq,and_true,List.mem_cons,List.not_mem_nil,or_false,forall_eq_or_imp,forall_eq]
structure RowOf (f a b c n x y z:Int):Prop where
 vld:Vld n x y z
 nrm:nrm n x y z=nrm f a b c
 same:sameW n x y z f a b c=true
theorem row_of {f a b c n:Int} (hv:Vld f a b c) (hn:0≤n∧n < 20) (ho:onV f a b c n=true):RowOf f a b c n (onW f a b c n 0) (onW f a b c n 1) (onW f a b c n 2) :=
 have hV:Vld n (onW f a b c n 0) (onW f a b c n 1) (onW f a b c n 2):=of_decide_eq_true ho
 ⟨hV,nrm_congr hV hv fun v h=>row_wt hv hn ho h,(sameW_iff ..).2 fun v h=>row_wt hv hn ho h⟩
theorem adrR_eq (f a b c:Int):∀ k:Nat,k≤20→adrR f a b c k=((fcs.take k).filter (onV f a b c)).map (onRow f a b c)
 | 0,_=>rfl
 | k+1,h=>by
  have hk:k < 20:=by omega
  have e:fcs.take (k+1)=fcs.take k++[(k:Int)]:=by
   have:(List.range 20).all (fun k=>decide (fcs.take (k+1)=fcs.take k++[(k:Int)]))=true:=by decide +kernel
   rw [List.all_eq_true] at this
   simpa using this k (List.mem_range.2 hk)
  simp only [adrR]
  rw [adrR_eq f a b c k (by omega),e,List.filter_append]
  split
  ·next ho=>simp [ho]
  ·next ho=>simp [ho]
def fcsOf (f a b c:Int):List Int:=fcs.filter (onV f a b c)
theorem adr_map {f a b c:Int} (hv:Vld f a b c):adr f a b c=(fcsOf f a b c).map (onRow f a b c):=by
 unfold adr
 rw [if_pos (vld_t hv),adrR_eq f a b c 20 (by decide)]
 rfl
theorem fcs_sorted:fcs.Pairwise (· < ·):=by decide
theorem fcsOf_sorted (f a b c:Int):(fcsOf f a b c).Pairwise (· < ·):=fcs_sorted.filter _
theorem fcsOf_mem {f a b c n:Int}:n ∈ fcsOf f a b c↔(0≤n∧n < 20)∧onV f a b c n=true:=by
 unfold fcsOf
 rw [List.mem_filter]
 exact ⟨fun h=>⟨fcs_rng h.1,h.2⟩,fun h=>⟨mem_fcs h.1,h.2⟩⟩
def zc (a:Int):Int:=if a=0 then 1 else 0
def encP (r:Int × Int × Int × Int):List AV:=[.int .i64 r.1,.int .i64 r.2.1,.int .i64 r.2.2.1,.int .i64 r.2.2.2]
theorem nrmL_head {f a b c:Int}:∀ (l:List Int),nrmL f a b c l=((l.filter (onV f a b c)).map fun n=>(n,onW f a b c n 0,onW f a b c n 1,onW f a b c n 2)).headD (f,a,b,c)
 | []=>rfl
 | n::l=>by
  simp only [nrmL]
  by_cases h:onV f a b c n=true
  ·rw [if_pos h,List.filter_cons_of_pos h]; rfl
  ·rw [if_neg h,List.filter_cons_of_neg h]; exact nrmL_head l
structure Rows (f a b c:Int) (l:List (Int × Int × Int × Int)):Prop where
 adr:adr f a b c=l.map encP
 row:∀ r ∈ l,RowOf f a b c r.1 r.2.1 r.2.2.1 r.2.2.2
 asc:l.Pairwise fun r s=>r.1 < s.1
 own:(f,a,b,c) ∈ l
 head:l[0]?=some (nrm f a b c)
theorem adr_rows {f a b c:Int} (hv:Vld f a b c):∃ l,Rows f a b c l:=by
 refine ⟨(fcsOf f a b c).map fun n=>(n,onW f a b c n 0,onW f a b c n 1,onW f a b c n 2),?_,?_,?_,?_,?_⟩
 ·rw [adr_map hv,List.map_map]; rfl
 ·intro r hr
  obtain ⟨n,hn,rfl⟩:=List.mem_map.1 hr
  obtain ⟨h1,h2⟩:=fcsOf_mem.1 hn
  exact row_of hv h1 h2
 ·exact List.pairwise_map.2 (fcsOf_sorted f a b c)
 ·obtain ⟨e0,e1,e2,e3⟩:=own_row hv
  exact List.mem_map.2 ⟨f,fcsOf_mem.2 ⟨hv.face,e3⟩,by rw [e0,e1,e2]⟩
 ·have h1:nrm f a b c=nrmL f a b c fcs:=by unfold nrm; rw [if_pos (vld_t hv)]
  rw [h1,nrmL_head]
  have h2:f ∈ fcsOf f a b c:=fcsOf_mem.2 ⟨hv.face,(own_row hv).2.2.2⟩
  unfold fcsOf at h2 ⊢
  cases hf:fcs.filter (onV f a b c) with
  | nil=>rw [hf] at h2; cases h2
  | cons n l=>rfl
end Go.Proofs.YtldiagnbagpliaaGreatDoor
namespace Go.Proofs.YtldiagnbagpliaaGreatDoor
open Go
set_option linter.unusedVariables false
set_option linter.unusedSimpArgs false
def rValid_s (vld:Int→Int→Int→Int→Bool):Sp
 | [.agg [.int .i64 f,.int .i64 a,.int .i64 b,.int .i64 c]]=>some (True,.bool (vld f a b c))
 | _=>none
def rValid_T (vld:Int→Int→Int→Int→Bool):Prop :=
  ∀ (gl:Glob) (f a b c:Int),(IR9 f)∧(IR9 a)∧(IR9 b)∧(IR9 c)∧True→bif decide (0≤f) then bif decide (f < (20:Int)) then bif decide (0≤a) then bif decide (a ≤
 (840:Int)) then bif decide (0≤b) then bif decide (b≤(840:Int)) then bif decide (0≤c) then bif decide (c≤(840:Int)) then bif decide (rng .i64 (a+b)) then bif decide (rng .i64 (a+b+c)) then decide (a+b+c=(840:Int))=vld f a b c else False else False else false=vld f a b c else false=vld f a b c else false=vld f a b c else false=vld f a b c else false=vld f a b c else
 false=vld f a b c else false=vld f a b c else false=vld f a b c
theorem rValid_P:rValid_T vld:=by
 unfold rValid_T
 intro gl f a b c h
 have hf:∀ {x:Bool},(¬ Vld f a b c→x=false)→(x=false→¬ Vld f a b c)→x=vld f a b c:=by
  intro x h1 h2
  unfold vld
  by_cases q:Vld f a b c
  ·rw [decide_eq_true q]; cases x with
   | true=>rfl
   | false=>exact absurd q (h2 rfl)
  ·rw [decide_eq_false q]; exact h1 q
 rw [vld_iff] at hf
 repeat (first
  | refine cdI (by omega) ?_
  | refine cs (fun q=>?_) (fun q=>hf (fun _=>rfl) (fun _=>by omega)))
 refine hf (fun q=>decide_eq_false (by omega)) (fun q=>?_)
 have q:=of_decide_eq_false q
 omega
def rValid_S (vld:Int→Int→Int→Int→Bool):Prop:=∀ (gl:Glob) (f a b c:Int),fnK Tryz.prog { glob:=gl,spec:=lk [],specH:=lk [] } { nt:=52,drop:=drp [(1,4503599627370488)] } (fun _ _=>none) 6 Tryz.f123 [.agg [.int .i64 f,.int .i64 a,.int .i64 b,.int .i64 c]] (.bool (vld f a b c))
theorem rValid_e (vld:Int→Int→Int→Int→Bool):rValid_T vld=rValid_S vld:=by kernel_rfl
theorem rValid_v:rValid_S vld:=Eq.mp (rValid_e ..) (rValid_P)
theorem rValid_ok (gl:Glob):SOK Tryz.prog gl 123 (rValid_s vld):=by
 refine ⟨fok Tryz.func123 (by kernel_rfl) (by kernel_rfl),?_⟩
 intro xs pre r h hp
 unfold rValid_s at h
 split at h
 ·simp only [Option.some.injEq,Prod.mk.injEq] at h
  obtain ⟨h1,h2⟩:=h
  subst h1 h2
  exact fnK_sound tyNil (by exact specOK rfl rfl trivial trivial) (by kernel_rfl) Tryz.func123 rfl (rValid_v gl _ _ _ _)
 ·cases h
def w64 (x:Int):Int:=IntKind.i64.wrap x
theorem w64_id {x:Int} (h:-9223372036854775808≤x∧x≤9223372036854775807):w64 x=x:=wrap_eq (k:=.i64) h
theorem fcs_cases {n:Int} (h:0≤n∧n < 20):n=0∨n=1∨n=2∨n=3∨n=4∨n=5∨n=6∨n=7∨n=8∨n=9∨n=10∨n=11∨n=12∨n=13∨n=14∨n=15∨n=16∨n=17∨n=18∨n=19:=by omega
def rCorners_s (fac:Int→Bool) (crn:Int→Nat→Int):Sp
 | [.int .i64 n]=>some (True,.tup [.agg [.int .i64 (if fac n then crn n 0 else 0),.int .i64 (if fac n then crn n 1 else 0),.int .i64 (if fac n then crn n 2 else 0)],.int .i64 (if fac n then 0 else 1)])
 | _=>none
def rCorners_T (fac:Int→Bool) (crn:Int→Nat→Int):Prop :=
  ∀ (gl:Glob) (n:Int),IR9 n→bif decide (n < (0:Int)) then (((0:Int)=if fac n=true then crn n (0:Nat) else (0:Int))∧((0:Int)=if fac n=true then crn n (1:Nat) else (0:Int))∧((0:Int)=if fac n=true then crn n (2:Nat) else (0:Int))∧True)∧((1:Int)=if fac n=true then (0:Int) else (1:Int))∧True else bif decide (20≤n) then (((0:Int)=if fac
 n=true then crn n (0:Nat) else (0:Int))∧((0:Int)=if fac n=true then crn n (1:Nat) else (0:Int))∧((0:Int)=if fac n=true then crn n (2:Nat) else (0:Int))∧True)∧((1:Int)=if fac n=true then (0:Int) else (1:Int))∧True else bif decide (rng .i64 (n.tmod (5:Int)+(1:Int))) then bif decide (rng .i64 (n.tdiv (5:Int))) then bif decide (n.tdiv (5:Int)=0) then bif decide (rng .i64 ((1:Int)+n.tmod (5:Int)))
 then bif decide (rng .i64 ((1:Int)+(n.tmod (5:Int)+(1:Int)).tmod (5:Int))) then (((0:Int)=if fac n=true then crn n (0:Nat) else (0:Int))∧((1:Int)+n.tmod (5:Int)=if fac n=true then crn n (1:Nat) else (0:Int))∧((1:Int)+(n.tmod (5:Int)+(1:Int)).tmod (5:Int)=if fac n=true then crn n (2:Nat) else (0:Int))∧True)∧((0:Int)=if fac n=true then (0:Int) else (1:Int))∧True else False else False else
 bif decide (n.tdiv (5:Int)=1) then bif decide (rng .i64 ((1:Int)+n.tmod (5:Int))) then bif decide (rng .i64 ((6:Int)+n.tmod (5:Int))) then bif decide (rng .i64 ((1:Int)+(n.tmod (5:Int)+(1:Int)).tmod (5:Int))) then (((1:Int)+n.tmod (5:Int)=if fac n=true then crn n (0:Nat) else (0:Int))∧((6:Int)+n.tmod (5:Int)=if fac n=true then crn n (1:Nat) else (0:Int))∧((1:Int)+(n.tmod (5:Int) +
 (1:Int)).tmod (5:Int)=if fac n=true then crn n (2:Nat) else (0:Int))∧True)∧((0:Int)=if fac n=true then (0:Int) else (1:Int))∧True else False else False else False else bif decide (n.tdiv (5:Int)=2) then bif decide (rng .i64 ((6:Int)+n.tmod (5:Int))) then bif decide (rng .i64 ((6:Int)+(n.tmod (5:Int)+(1:Int)).tmod (5:Int))) then bif decide (rng .i64 ((1:Int)+(n.tmod (5:Int)+(1:Int)).tmod
 (5:Int))) then (((6:Int)+n.tmod (5:Int)=if fac n=true then crn n (0:Nat) else (0:Int))∧((6:Int)+(n.tmod (5:Int)+(1:Int)).tmod (5:Int)=if fac n=true then crn n (1:Nat) else (0:Int))∧((1:Int)+(n.tmod (5:Int)+(1:Int)).tmod (5:Int)=if fac n=true then crn n (2:Nat) else (0:Int))∧True)∧((0:Int)=if fac n=true then (0:Int) else (1:Int))∧True else False else False else False else bif decide (rng
 .i64 ((6:Int)+(n.tmod (5:Int)+(1:Int)).tmod (5:Int))) then bif decide (rng .i64 ((6:Int)+n.tmod (5:Int))) then (((11:Int)=if fac n=true then crn n (0:Nat) else (0:Int))∧((6:Int)+(n.tmod (5:Int)+(1:Int)).tmod (5:Int)=if fac n=true then crn n (1:Nat) else (0:Int))∧((6:Int)+n.tmod (5:Int)=if fac n=true then crn n (2:Nat) else (0:Int))∧True)∧((0:Int)=if fac n=true then (0:Int) else
 (1:Int))∧True else False else False else False else False
theorem rCorners_P:rCorners_T fac crn:=by
 unfold rCorners_T
 intro gl n hn
 refine cs (fun h=>?_) (fun h1=>cs (fun h=>?_) (fun h2=>?_))
 ·have:fac n=false:=decide_eq_false (by omega)
  rw [this]; exact ⟨⟨rfl,rfl,rfl,trivial⟩,rfl,trivial⟩
 ·have:fac n=false:=decide_eq_false (by omega)
  rw [this]; exact ⟨⟨rfl,rfl,rfl,trivial⟩,rfl,trivial⟩
 have:fac n=true:=decide_eq_true (by omega)
 rw [this]
 rcases fcs_cases (n:=n) (by omega) with rfl | rfl | rfl | rfl | rfl | rfl | rfl | rfl | rfl | rfl | rfl | rfl | rfl | rfl | rfl | rfl | rfl | rfl | rfl | rfl
 all_goals
  repeat (first | refine cdI (by decide) ?_ | refine cd1 (by decide) ?_ | refine cd0 (by decide) ?_)
  exact ⟨⟨by decide,by decide,by decide,trivial⟩,rfl,trivial⟩
def rCorners_S (fac:Int→Bool) (crn:Int→Nat→Int):Prop:=∀ (gl:Glob) (n:Int),fnK Tryz.prog { glob:=gl,spec:=lk [],specH:=lk [],nowf:=true } { nt:=50,drop:=drp [(1,1984),(2,4096),(3,24576),(4,229376),(5,262144),(6,2097152),(7,130023424),(8,268435456),(9,68182605824),(10,137438953472),(11,34909494181888),(12,1090715534753792)] } (fun _ _=>none) 6 Tryz.f130 [.int .i64 n] (.tup [.agg [.int .i64 (if fac n then crn n 0 else 0),.int .i64 (if fac n then crn n 1 else 0),.int .i64 (if fac n then crn n 2 else 0)],.int .i64 (if fac n then 0 else 1)])
theorem rCorners_e (fac:Int→Bool) (crn:Int→Nat→Int):rCorners_T fac crn=rCorners_S fac crn:=by kernel_rfl
theorem rCorners_v:rCorners_S fac crn:=Eq.mp (rCorners_e ..) (rCorners_P)
theorem rCorners_ok (gl:Glob):SOK Tryz.prog gl 130 (rCorners_s fac crn):=by
 refine ⟨fok Tryz.func130 (by kernel_rfl) (by kernel_rfl),?_⟩
 intro xs pre r h hp
 unfold rCorners_s at h
 split at h
 ·simp only [Option.some.injEq,Prod.mk.injEq] at h
  obtain ⟨h1,h2⟩:=h
  subst h1 h2
  exact fnK_sound tyNil (by exact specOK rfl rfl trivial trivial) (by kernel_rfl) Tryz.func130 rfl (rCorners_v gl _)
 ·cases h
def rWeights20_T:Prop :=
  ∀ (gl:Glob) (a b c:Int),(((-9223372036854775808:Int)≤(0:Int)∧(0:Int)≤(9223372036854775807:Int))∧(IR9 a)∧(IR9 b)∧(IR9 c)∧True→True∧a=wt (0:Int) a b c (0:Int)∧b=wt (0:Int) a b c (1:Int)∧c=wt (0:Int) a b c (2:Int)∧(0:Int)=wt (0:Int)
 a b c (3:Int)∧(0:Int)=wt (0:Int) a b c (4:Int)∧(0:Int)=wt (0:Int) a b c (5:Int)∧(0:Int)=wt (0:Int) a b c (6:Int)∧(0:Int)=wt (0:Int) a b c (7:Int)∧(0:Int)=wt (0:Int) a b c (8:Int)∧(0:Int)=wt (0:Int) a b c (9:Int)∧(0:Int)=wt (0:Int) a b c (10:Int)∧(0:Int)=wt (0:Int) a b c (11:Int)∧True)∧(((-9223372036854775808:Int)≤(1:Int)∧(1:Int)≤(9223372036854775807:Int))∧((-9223372036854775808:Int)≤a∧a ≤
 (9223372036854775807:Int))∧(IR9 b)∧(IR9 c)∧True→True∧a=wt (1:Int) a b c (0:Int)∧(0:Int)=wt (1:Int) a b c (1:Int)∧b=wt (1:Int) a b c (2:Int)∧c=wt (1:Int) a b c (3:Int)∧(0:Int)=wt (1:Int) a b c (4:Int)∧(0:Int)=wt (1:Int) a b c (5:Int)∧(0:Int)=wt (1:Int) a b c (6:Int)∧(0:Int)=wt (1:Int) a b c
 (7:Int)∧(0:Int)=wt (1:Int) a b c (8:Int)∧(0:Int)=wt (1:Int) a b c (9:Int)∧(0:Int)=wt (1:Int) a b c (10:Int)∧(0:Int)=wt (1:Int) a b c (11:Int)∧True)∧(((-9223372036854775808:Int)≤(2:Int)∧(2:Int)≤(9223372036854775807:Int))∧(IR9 a)∧(IR9 b)∧((-9223372036854775808:Int)≤c∧c ≤
 (9223372036854775807:Int))∧True→True∧a=wt (2:Int) a b c (0:Int)∧(0:Int)=wt (2:Int) a b c (1:Int)∧(0:Int)=wt (2:Int) a b c (2:Int)∧b=wt (2:Int) a b c (3:Int)∧c=wt (2:Int) a b c (4:Int)∧(0:Int)=wt (2:Int) a b c (5:Int)∧(0:Int)=wt (2:Int) a b c (6:Int)∧(0:Int)=wt (2:Int) a b c (7:Int)∧(0:Int)=wt (2:Int) a b c (8:Int)∧(0:Int)=wt (2:Int) a b c (9:Int)∧(0:Int)=wt (2:Int) a b c (10:Int)∧(0:Int)=wt (2:Int)
 a b c (11:Int)∧True)∧(((-9223372036854775808:Int)≤(3:Int)∧(3:Int)≤(9223372036854775807:Int))∧(IR9 a)∧(IR9 b)∧(IR9 c)∧True→True∧a=wt (3:Int) a b c (0:Int)∧(0:Int)=wt (3:Int) a b c (1:Int)∧(0:Int)=wt (3:Int) a b c (2:Int)∧(0:Int)=wt
 (3:Int) a b c (3:Int)∧b=wt (3:Int) a b c (4:Int)∧c=wt (3:Int) a b c (5:Int)∧(0:Int)=wt (3:Int) a b c (6:Int)∧(0:Int)=wt (3:Int) a b c (7:Int)∧(0:Int)=wt (3:Int) a b c (8:Int)∧(0:Int)=wt (3:Int) a b c (9:Int)∧(0:Int)=wt (3:Int) a b c (10:Int)∧(0:Int)=wt (3:Int) a b c (11:Int)∧True)∧(((-9223372036854775808:Int)≤(4:Int)∧(4:Int)≤(9223372036854775807:Int))∧((-9223372036854775808:Int)≤a∧a ≤
 (9223372036854775807:Int))∧(IR9 b)∧(IR9 c)∧True→True∧a=wt (4:Int) a b c (0:Int)∧c=wt (4:Int) a b c (1:Int)∧(0:Int)=wt (4:Int) a b c (2:Int)∧(0:Int)=wt (4:Int) a b c (3:Int)∧(0:Int)=wt (4:Int) a b c (4:Int)∧b=wt (4:Int) a b c (5:Int)∧(0:Int)=wt (4:Int) a b c (6:Int)∧(0:Int)=wt (4:Int) a b c
 (7:Int)∧(0:Int)=wt (4:Int) a b c (8:Int)∧(0:Int)=wt (4:Int) a b c (9:Int)∧(0:Int)=wt (4:Int) a b c (10:Int)∧(0:Int)=wt (4:Int) a b c (11:Int)∧True)∧(((-9223372036854775808:Int)≤(5:Int)∧(5:Int)≤(9223372036854775807:Int))∧(IR9 a)∧(IR9 b)∧((-9223372036854775808:Int)≤c∧c ≤
 (9223372036854775807:Int))∧True→True∧(0:Int)=wt (5:Int) a b c (0:Int)∧a=wt (5:Int) a b c (1:Int)∧c=wt (5:Int) a b c (2:Int)∧(0:Int)=wt (5:Int) a b c (3:Int)∧(0:Int)=wt (5:Int) a b c (4:Int)∧(0:Int)=wt (5:Int) a b c (5:Int)∧b=wt (5:Int) a b c (6:Int)∧(0:Int)=wt (5:Int) a b c (7:Int)∧(0:Int)=wt (5:Int) a b c (8:Int)∧(0:Int)=wt (5:Int) a b c (9:Int)∧(0:Int)=wt (5:Int) a b c (10:Int)∧(0:Int)=wt (5:Int)
 a b c (11:Int)∧True)∧(((-9223372036854775808:Int)≤(6:Int)∧(6:Int)≤(9223372036854775807:Int))∧(IR9 a)∧(IR9 b)∧(IR9 c)∧True→True∧(0:Int)=wt (6:Int) a b c (0:Int)∧(0:Int)=wt (6:Int) a b c (1:Int)∧a=wt (6:Int) a b c (2:Int)∧c=wt (6:Int)
 a b c (3:Int)∧(0:Int)=wt (6:Int) a b c (4:Int)∧(0:Int)=wt (6:Int) a b c (5:Int)∧(0:Int)=wt (6:Int) a b c (6:Int)∧b=wt (6:Int) a b c (7:Int)∧(0:Int)=wt (6:Int) a b c (8:Int)∧(0:Int)=wt (6:Int) a b c (9:Int)∧(0:Int)=wt (6:Int) a b c (10:Int)∧(0:Int)=wt (6:Int) a b c (11:Int)∧True)∧(((-9223372036854775808:Int)≤(7:Int)∧(7:Int)≤(9223372036854775807:Int))∧((-9223372036854775808:Int)≤a∧a ≤
 (9223372036854775807:Int))∧(IR9 b)∧(IR9 c)∧True→True∧(0:Int)=wt (7:Int) a b c (0:Int)∧(0:Int)=wt (7:Int) a b c (1:Int)∧(0:Int)=wt (7:Int) a b c (2:Int)∧a=wt (7:Int) a b c (3:Int)∧c=wt (7:Int) a b c (4:Int)∧(0:Int)=wt (7:Int) a b c (5:Int)∧(0:Int)=wt (7:Int) a b c (6:Int)∧(0:Int)=wt (7:Int)
 a b c (7:Int)∧b=wt (7:Int) a b c (8:Int)∧(0:Int)=wt (7:Int) a b c (9:Int)∧(0:Int)=wt (7:Int) a b c (10:Int)∧(0:Int)=wt (7:Int) a b c (11:Int)∧True)∧(((-9223372036854775808:Int)≤(8:Int)∧(8:Int)≤(9223372036854775807:Int))∧(IR9 a)∧(IR9 b)∧((-9223372036854775808:Int)≤c∧c ≤
 (9223372036854775807:Int))∧True→True∧(0:Int)=wt (8:Int) a b c (0:Int)∧(0:Int)=wt (8:Int) a b c (1:Int)∧(0:Int)=wt (8:Int) a b c (2:Int)∧(0:Int)=wt (8:Int) a b c (3:Int)∧a=wt (8:Int) a b c (4:Int)∧c=wt (8:Int) a b c (5:Int)∧(0:Int)=wt (8:Int) a b c (6:Int)∧(0:Int)=wt (8:Int) a b c (7:Int)∧(0:Int)=wt (8:Int) a b c (8:Int)∧b=wt (8:Int) a b c (9:Int)∧(0:Int)=wt (8:Int) a b c (10:Int)∧(0:Int)=wt (8:Int)
 a b c (11:Int)∧True)∧(((-9223372036854775808:Int)≤(9:Int)∧(9:Int)≤(9223372036854775807:Int))∧(IR9 a)∧(IR9 b)∧(IR9 c)∧True→True∧(0:Int)=wt (9:Int) a b c (0:Int)∧c=wt (9:Int) a b c (1:Int)∧(0:Int)=wt (9:Int) a b c (2:Int)∧(0:Int)=wt
 (9:Int) a b c (3:Int)∧(0:Int)=wt (9:Int) a b c (4:Int)∧a=wt (9:Int) a b c (5:Int)∧(0:Int)=wt (9:Int) a b c (6:Int)∧(0:Int)=wt (9:Int) a b c (7:Int)∧(0:Int)=wt (9:Int) a b c (8:Int)∧(0:Int)=wt (9:Int) a b c (9:Int)∧b=wt (9:Int) a b c (10:Int)∧(0:Int)=wt (9:Int) a b c (11:Int)∧True)∧(((-9223372036854775808:Int)≤(10:Int)∧(10:Int)≤(9223372036854775807:Int))∧((-9223372036854775808:Int)≤a∧a ≤
 (9223372036854775807:Int))∧(IR9 b)∧(IR9 c)∧True→True∧(0:Int)=wt (10:Int) a b c (0:Int)∧(0:Int)=wt (10:Int) a b c (1:Int)∧c=wt (10:Int) a b c (2:Int)∧(0:Int)=wt (10:Int) a b c (3:Int)∧(0:Int)=wt (10:Int) a b c (4:Int)∧(0:Int)=wt (10:Int) a b c (5:Int)∧a=wt (10:Int) a b c (6:Int)∧b=wt
 (10:Int) a b c (7:Int)∧(0:Int)=wt (10:Int) a b c (8:Int)∧(0:Int)=wt (10:Int) a b c (9:Int)∧(0:Int)=wt (10:Int) a b c (10:Int)∧(0:Int)=wt (10:Int) a b c (11:Int)∧True)∧(((-9223372036854775808:Int)≤(11:Int)∧(11:Int)≤(9223372036854775807:Int))∧(IR9 a)∧(IR9 b)∧((-9223372036854775808:Int) ≤
 c∧c≤(9223372036854775807:Int))∧True→True∧(0:Int)=wt (11:Int) a b c (0:Int)∧(0:Int)=wt (11:Int) a b c (1:Int)∧(0:Int)=wt (11:Int) a b c (2:Int)∧c=wt (11:Int) a b c (3:Int)∧(0:Int)=wt (11:Int) a b c (4:Int)∧(0:Int)=wt (11:Int) a b c (5:Int)∧(0:Int)=wt (11:Int) a b c (6:Int)∧a=wt (11:Int) a b c (7:Int)∧b=wt (11:Int) a b c (8:Int)∧(0:Int)=wt (11:Int) a b c (9:Int)∧(0:Int)=wt (11:Int) a b c
 (10:Int)∧(0:Int)=wt (11:Int) a b c (11:Int)∧True)∧(((-9223372036854775808:Int)≤(12:Int)∧(12:Int)≤(9223372036854775807:Int))∧(IR9 a)∧(IR9 b)∧(IR9 c)∧True→True∧(0:Int)=wt (12:Int) a b c (0:Int)∧(0:Int)=wt (12:Int) a b c
 (1:Int)∧(0:Int)=wt (12:Int) a b c (2:Int)∧(0:Int)=wt (12:Int) a b c (3:Int)∧c=wt (12:Int) a b c (4:Int)∧(0:Int)=wt (12:Int) a b c (5:Int)∧(0:Int)=wt (12:Int) a b c (6:Int)∧(0:Int)=wt (12:Int) a b c (7:Int)∧a=wt (12:Int) a b c (8:Int)∧b=wt (12:Int) a b c (9:Int)∧(0:Int)=wt (12:Int) a b c (10:Int)∧(0:Int)=wt (12:Int) a b c (11:Int)∧True)∧(((-9223372036854775808:Int)≤(13:Int)∧(13:Int) ≤
 (9223372036854775807:Int))∧(IR9 a)∧(IR9 b)∧(IR9 c)∧True→True∧(0:Int)=wt (13:Int) a b c (0:Int)∧(0:Int)=wt (13:Int) a b c (1:Int)∧(0:Int)=wt (13:Int) a b c (2:Int)∧(0:Int)=wt (13:Int) a b c (3:Int)∧(0:Int)=wt (13:Int) a b c (4:Int)∧c=wt
 (13:Int) a b c (5:Int)∧(0:Int)=wt (13:Int) a b c (6:Int)∧(0:Int)=wt (13:Int) a b c (7:Int)∧(0:Int)=wt (13:Int) a b c (8:Int)∧a=wt (13:Int) a b c (9:Int)∧b=wt (13:Int) a b c (10:Int)∧(0:Int)=wt (13:Int) a b c (11:Int)∧True)∧(((-9223372036854775808:Int)≤(14:Int)∧(14:Int)≤(9223372036854775807:Int))∧(IR9 a)∧((-9223372036854775808:Int)≤b∧b ≤
 (9223372036854775807:Int))∧(IR9 c)∧True→True∧(0:Int)=wt (14:Int) a b c (0:Int)∧c=wt (14:Int) a b c (1:Int)∧(0:Int)=wt (14:Int) a b c (2:Int)∧(0:Int)=wt (14:Int) a b c (3:Int)∧(0:Int)=wt (14:Int) a b c (4:Int)∧(0:Int)=wt (14:Int) a b c (5:Int)∧b=wt (14:Int) a b c (6:Int)∧(0:Int)=wt (14:Int) a b c (7:Int)∧(0:Int)=wt (14:Int) a b c
 (8:Int)∧(0:Int)=wt (14:Int) a b c (9:Int)∧a=wt (14:Int) a b c (10:Int)∧(0:Int)=wt (14:Int) a b c (11:Int)∧True)∧(((-9223372036854775808:Int)≤(15:Int)∧(15:Int)≤(9223372036854775807:Int))∧(IR9 a)∧(IR9 b)∧(IR9 c)∧True→True∧(0:Int)=wt
 (15:Int) a b c (0:Int)∧(0:Int)=wt (15:Int) a b c (1:Int)∧(0:Int)=wt (15:Int) a b c (2:Int)∧(0:Int)=wt (15:Int) a b c (3:Int)∧(0:Int)=wt (15:Int) a b c (4:Int)∧(0:Int)=wt (15:Int) a b c (5:Int)∧c=wt (15:Int) a b c (6:Int)∧b=wt (15:Int) a b c (7:Int)∧(0:Int)=wt (15:Int) a b c (8:Int)∧(0:Int)=wt (15:Int) a b c (9:Int)∧(0:Int)=wt (15:Int) a b c (10:Int)∧a=wt (15:Int) a b c
 (11:Int)∧True)∧(((-9223372036854775808:Int)≤(16:Int)∧(16:Int)≤(9223372036854775807:Int))∧(IR9 a)∧(IR9 b)∧(IR9 c)∧True→True∧(0:Int)=wt (16:Int) a b c (0:Int)∧(0:Int)=wt (16:Int) a b c (1:Int)∧(0:Int)=wt (16:Int) a b c
 (2:Int)∧(0:Int)=wt (16:Int) a b c (3:Int)∧(0:Int)=wt (16:Int) a b c (4:Int)∧(0:Int)=wt (16:Int) a b c (5:Int)∧(0:Int)=wt (16:Int) a b c (6:Int)∧c=wt (16:Int) a b c (7:Int)∧b=wt (16:Int) a b c (8:Int)∧(0:Int)=wt (16:Int) a b c (9:Int)∧(0:Int)=wt (16:Int) a b c (10:Int)∧a=wt (16:Int) a b c (11:Int)∧True)∧(((-9223372036854775808:Int)≤(17:Int)∧(17:Int) ≤
 (9223372036854775807:Int))∧(IR9 a)∧(IR9 b)∧(IR9 c)∧True→True∧(0:Int)=wt (17:Int) a b c (0:Int)∧(0:Int)=wt (17:Int) a b c (1:Int)∧(0:Int)=wt (17:Int) a b c (2:Int)∧(0:Int)=wt (17:Int) a b c (3:Int)∧(0:Int)=wt (17:Int) a b c
 (4:Int)∧(0:Int)=wt (17:Int) a b c (5:Int)∧(0:Int)=wt (17:Int) a b c (6:Int)∧(0:Int)=wt (17:Int) a b c (7:Int)∧c=wt (17:Int) a b c (8:Int)∧b=wt (17:Int) a b c (9:Int)∧(0:Int)=wt (17:Int) a b c (10:Int)∧a=wt (17:Int) a b c (11:Int)∧True)∧(((-9223372036854775808:Int)≤(18:Int)∧(18:Int)≤(9223372036854775807:Int))∧((-9223372036854775808:Int)≤a∧a ≤
 (9223372036854775807:Int))∧(IR9 b)∧(IR9 c)∧True→True∧(0:Int)=wt (18:Int) a b c (0:Int)∧(0:Int)=wt (18:Int) a b c (1:Int)∧(0:Int)=wt (18:Int) a b c (2:Int)∧(0:Int)=wt (18:Int) a b c (3:Int)∧(0:Int)=wt (18:Int) a b c (4:Int)∧(0:Int)=wt (18:Int) a b c (5:Int)∧(0:Int)=wt (18:Int) a b c
 (6:Int)∧(0:Int)=wt (18:Int) a b c (7:Int)∧(0:Int)=wt (18:Int) a b c (8:Int)∧c=wt (18:Int) a b c (9:Int)∧b=wt (18:Int) a b c (10:Int)∧a=wt (18:Int) a b c (11:Int)∧True)∧(((-9223372036854775808:Int)≤(19:Int)∧(19:Int)≤(9223372036854775807:Int))∧(IR9 a)∧(IR9 b)∧((-9223372036854775808:Int) ≤
 c∧c≤(9223372036854775807:Int))∧True→True∧(0:Int)=wt (19:Int) a b c (0:Int)∧(0:Int)=wt (19:Int) a b c (1:Int)∧(0:Int)=wt (19:Int) a b c (2:Int)∧(0:Int)=wt (19:Int) a b c (3:Int)∧(0:Int)=wt (19:Int) a b c (4:Int)∧(0:Int)=wt (19:Int) a b c (5:Int)∧b=wt (19:Int) a b c (6:Int)∧(0:Int)=wt (19:Int) a b c (7:Int)∧(0:Int)=wt (19:Int) a b c (8:Int)∧(0:Int)=wt (19:Int) a b c (9:Int)∧c=wt (19:Int) a b c
 (10:Int)∧a=wt (19:Int) a b c (11:Int)∧True)∧True
theorem rWeights20_P:rWeights20_T:=by
 unfold rWeights20_T
 intro gl a b c
 repeat' (first | exact trivial | intro _ | rfl | apply And.intro)
def rWeights20_S:Prop:=∀ (gl:Glob) (a b c:Int),allN fcs fun f=>fnK Tryz.prog { glob:=gl,spec:=lk [(130,rCorners_s fac crn)],nowf:=true } { nt:=28 } (fun _ _=>none) 6 Tryz.f124 [.agg [.int .i64 f,.int .i64 a,.int .i64 b,.int .i64 c]] (.agg [.int .i64 (wt f a b c 0),.int .i64 (wt f a b c 1),.int .i64 (wt f a b c 2),.int .i64 (wt f a b c 3),.int .i64 (wt f a b c 4),.int .i64 (wt f a b c 5),.int .i64 (wt f a b c 6),.int .i64 (wt f a b c 7),.int .i64 (wt f a b c 8),.int .i64 (wt f a b c 9),.int .i64 (wt f a b c 10),.int .i64 (wt f a b c 11)])
theorem rWeights20_e:rWeights20_T=rWeights20_S:=by kernel_rfl
theorem rWeights20:rWeights20_S:=@Eq.mp (rWeights20_T) (rWeights20_S) (rWeights20_e) (rWeights20_P)
def rOn20_T:Prop :=
  ∀ (gl:Glob) (w0 w1 w2 w3 w4 w5 w6 w7 w8 w9 w10 w11:Int),((-9223372036854775808:Int)≤(0:Int)∧(0:Int)≤(9223372036854775807:Int)→(IR9 w0)∧(IR9 w1)∧(IR9 w2)∧((-9223372036854775808:Int)≤w3∧w3 ≤
 (9223372036854775807:Int))∧(IR9 w4)∧(IR9 w5)∧(IR9 w6)∧(IR9 w7)∧(IR9 w8)∧((-9223372036854775808:Int)≤w9∧w9 ≤
 (9223372036854775807:Int))∧(IR9 w10)∧(IR9 w11)∧True→True∧((0:Int)=0∧w0=sel [w0,w1,w2,w3,w4,w5,w6,w7,w8,w9,w10,w11] (0:Int)∧w1=sel [w0,w1,w2,w3,w4,w5,w6,w7,w8,w9,w10,w11] (1:Int)∧w2=sel [w0,w1,w2,w3,w4,w5,w6,w7,w8,w9,w10,w11] (2:Int)∧True)∧decide (IntKind.i64.wrap (IntKind.i64.wrap (w0 +
 w1)+w2)=(840:Int))=decide (w64 (w64 (sel [w0,w1,w2,w3,w4,w5,w6,w7,w8,w9,w10,w11] (0:Int)+sel [w0,w1,w2,w3,w4,w5,w6,w7,w8,w9,w10,w11] (1:Int))+sel [w0,w1,w2,w3,w4,w5,w6,w7,w8,w9,w10,w11] (2:Int))=(840:Int))∧True)∧((-9223372036854775808:Int)≤(1:Int)∧(1:Int)≤(9223372036854775807:Int)→(IR9 w0)∧((-9223372036854775808:Int)≤w1∧w1 ≤
 (9223372036854775807:Int))∧(IR9 w2)∧(IR9 w3)∧(IR9 w4)∧(IR9 w5)∧(IR9 w6)∧((-9223372036854775808:Int)≤w7∧w7 ≤
 (9223372036854775807:Int))∧(IR9 w8)∧(IR9 w9)∧(IR9 w10)∧(IR9 w11)∧True→True∧((1:Int)=1∧w0=sel [w0,w1,w2,w3,w4,w5,w6,w7,w8,w9,w10,w11] (0:Int)∧w2=sel
 [w0,w1,w2,w3,w4,w5,w6,w7,w8,w9,w10,w11] (2:Int)∧w3=sel [w0,w1,w2,w3,w4,w5,w6,w7,w8,w9,w10,w11] (3:Int)∧True)∧decide (IntKind.i64.wrap (IntKind.i64.wrap (w0+w2)+w3)=(840:Int))=decide (w64 (w64 (sel [w0,w1,w2,w3,w4,w5,w6,w7,w8,w9,w10,w11] (0:Int)+sel [w0,w1,w2,w3,w4,w5,w6,w7,w8,w9,w10,w11] (2:Int))+sel [w0,w1,w2,w3,w4,w5,w6,w7,w8,w9,w10,w11]
 (3:Int))=(840:Int))∧True)∧((-9223372036854775808:Int)≤(2:Int)∧(2:Int)≤(9223372036854775807:Int)→(IR9 w0)∧(IR9 w1)∧(IR9 w2)∧(IR9 w3)∧((-9223372036854775808:Int)≤w4∧w4 ≤
 (9223372036854775807:Int))∧(IR9 w5)∧(IR9 w6)∧(IR9 w7)∧(IR9 w8)∧(IR9 w9)∧((-9223372036854775808:Int)≤w10∧w10 ≤
 (9223372036854775807:Int))∧(IR9 w11)∧True→True∧((2:Int)=2∧w0=sel [w0,w1,w2,w3,w4,w5,w6,w7,w8,w9,w10,w11] (0:Int)∧w3=sel [w0,w1,w2,w3,w4,w5,w6,w7,w8,w9,w10,w11] (3:Int)∧w4=sel [w0,w1,w2,w3,w4,w5,w6,w7,w8,w9,w10,w11] (4:Int)∧True)∧decide (IntKind.i64.wrap (IntKind.i64.wrap (w0+w3)+w4)=(840:Int))=decide (w64 (w64 (sel
 [w0,w1,w2,w3,w4,w5,w6,w7,w8,w9,w10,w11] (0:Int)+sel [w0,w1,w2,w3,w4,w5,w6,w7,w8,w9,w10,w11] (3:Int))+sel [w0,w1,w2,w3,w4,w5,w6,w7,w8,w9,w10,w11] (4:Int))=(840:Int))∧True)∧((-9223372036854775808:Int)≤(3:Int)∧(3:Int)≤(9223372036854775807:Int)→(IR9 w0)∧((-9223372036854775808:Int)≤w1∧w1 ≤
 (9223372036854775807:Int))∧(IR9 w2)∧(IR9 w3)∧(IR9 w4)∧(IR9 w5)∧(IR9 w6)∧((-9223372036854775808:Int)≤w7∧w7 ≤
 (9223372036854775807:Int))∧(IR9 w8)∧(IR9 w9)∧(IR9 w10)∧(IR9 w11)∧True→True∧((3:Int)=3∧w0=sel [w0,w1,w2,w3,w4,w5,w6,w7,w8,w9,w10,w11] (0:Int)∧w4=sel
 [w0,w1,w2,w3,w4,w5,w6,w7,w8,w9,w10,w11] (4:Int)∧w5=sel [w0,w1,w2,w3,w4,w5,w6,w7,w8,w9,w10,w11] (5:Int)∧True)∧decide (IntKind.i64.wrap (IntKind.i64.wrap (w0+w4)+w5)=(840:Int))=decide (w64 (w64 (sel [w0,w1,w2,w3,w4,w5,w6,w7,w8,w9,w10,w11] (0:Int)+sel [w0,w1,w2,w3,w4,w5,w6,w7,w8,w9,w10,w11] (4:Int))+sel [w0,w1,w2,w3,w4,w5,w6,w7,w8,w9,w10,w11]
 (5:Int))=(840:Int))∧True)∧((-9223372036854775808:Int)≤(4:Int)∧(4:Int)≤(9223372036854775807:Int)→(IR9 w0)∧(IR9 w1)∧(IR9 w2)∧(IR9 w3)∧((-9223372036854775808:Int)≤w4∧w4 ≤
 (9223372036854775807:Int))∧(IR9 w5)∧(IR9 w6)∧(IR9 w7)∧(IR9 w8)∧(IR9 w9)∧((-9223372036854775808:Int)≤w10∧w10 ≤
 (9223372036854775807:Int))∧(IR9 w11)∧True→True∧((4:Int)=4∧w0=sel [w0,w1,w2,w3,w4,w5,w6,w7,w8,w9,w10,w11] (0:Int)∧w5=sel [w0,w1,w2,w3,w4,w5,w6,w7,w8,w9,w10,w11] (5:Int)∧w1=sel [w0,w1,w2,w3,w4,w5,w6,w7,w8,w9,w10,w11] (1:Int)∧True)∧decide (IntKind.i64.wrap (IntKind.i64.wrap (w0+w5)+w1)=(840:Int))=decide (w64 (w64 (sel
 [w0,w1,w2,w3,w4,w5,w6,w7,w8,w9,w10,w11] (0:Int)+sel [w0,w1,w2,w3,w4,w5,w6,w7,w8,w9,w10,w11] (5:Int))+sel [w0,w1,w2,w3,w4,w5,w6,w7,w8,w9,w10,w11] (1:Int))=(840:Int))∧True)∧((-9223372036854775808:Int)≤(5:Int)∧(5:Int)≤(9223372036854775807:Int)→(IR9 w0)∧((-9223372036854775808:Int)≤w1∧w1 ≤
 (9223372036854775807:Int))∧(IR9 w2)∧(IR9 w3)∧(IR9 w4)∧(IR9 w5)∧(IR9 w6)∧((-9223372036854775808:Int)≤w7∧w7 ≤
 (9223372036854775807:Int))∧(IR9 w8)∧(IR9 w9)∧(IR9 w10)∧(IR9 w11)∧True→True∧((5:Int)=5∧w1=sel [w0,w1,w2,w3,w4,w5,w6,w7,w8,w9,w10,w11] (1:Int)∧w6=sel
 [w0,w1,w2,w3,w4,w5,w6,w7,w8,w9,w10,w11] (6:Int)∧w2=sel [w0,w1,w2,w3,w4,w5,w6,w7,w8,w9,w10,w11] (2:Int)∧True)∧decide (IntKind.i64.wrap (IntKind.i64.wrap (w1+w6)+w2)=(840:Int))=decide (w64 (w64 (sel [w0,w1,w2,w3,w4,w5,w6,w7,w8,w9,w10,w11] (1:Int)+sel [w0,w1,w2,w3,w4,w5,w6,w7,w8,w9,w10,w11] (6:Int))+sel [w0,w1,w2,w3,w4,w5,w6,w7,w8,w9,w10,w11]
 (2:Int))=(840:Int))∧True)∧((-9223372036854775808:Int)≤(6:Int)∧(6:Int)≤(9223372036854775807:Int)→(IR9 w0)∧(IR9 w1)∧(IR9 w2)∧(IR9 w3)∧((-9223372036854775808:Int)≤w4∧w4 ≤
 (9223372036854775807:Int))∧(IR9 w5)∧(IR9 w6)∧(IR9 w7)∧(IR9 w8)∧(IR9 w9)∧((-9223372036854775808:Int)≤w10∧w10 ≤
 (9223372036854775807:Int))∧(IR9 w11)∧True→True∧((6:Int)=6∧w2=sel [w0,w1,w2,w3,w4,w5,w6,w7,w8,w9,w10,w11] (2:Int)∧w7=sel [w0,w1,w2,w3,w4,w5,w6,w7,w8,w9,w10,w11] (7:Int)∧w3=sel [w0,w1,w2,w3,w4,w5,w6,w7,w8,w9,w10,w11] (3:Int)∧True)∧decide (IntKind.i64.wrap (IntKind.i64.wrap (w2+w7)+w3)=(840:Int))=decide (w64 (w64 (sel
 [w0,w1,w2,w3,w4,w5,w6,w7,w8,w9,w10,w11] (2:Int)+sel [w0,w1,w2,w3,w4,w5,w6,w7,w8,w9,w10,w11] (7:Int))+sel [w0,w1,w2,w3,w4,w5,w6,w7,w8,w9,w10,w11] (3:Int))=(840:Int))∧True)∧((-9223372036854775808:Int)≤(7:Int)∧(7:Int)≤(9223372036854775807:Int)→(IR9 w0)∧((-9223372036854775808:Int)≤w1∧w1 ≤
 (9223372036854775807:Int))∧(IR9 w2)∧(IR9 w3)∧(IR9 w4)∧(IR9 w5)∧(IR9 w6)∧((-9223372036854775808:Int)≤w7∧w7 ≤
 (9223372036854775807:Int))∧(IR9 w8)∧(IR9 w9)∧(IR9 w10)∧(IR9 w11)∧True→True∧((7:Int)=7∧w3=sel [w0,w1,w2,w3,w4,w5,w6,w7,w8,w9,w10,w11] (3:Int)∧w8=sel
 [w0,w1,w2,w3,w4,w5,w6,w7,w8,w9,w10,w11] (8:Int)∧w4=sel [w0,w1,w2,w3,w4,w5,w6,w7,w8,w9,w10,w11] (4:Int)∧True)∧decide (IntKind.i64.wrap (IntKind.i64.wrap (w3+w8)+w4)=(840:Int))=decide (w64 (w64 (sel [w0,w1,w2,w3,w4,w5,w6,w7,w8,w9,w10,w11] (3:Int)+sel [w0,w1,w2,w3,w4,w5,w6,w7,w8,w9,w10,w11] (8:Int))+sel [w0,w1,w2,w3,w4,w5,w6,w7,w8,w9,w10,w11]
 (4:Int))=(840:Int))∧True)∧((-9223372036854775808:Int)≤(8:Int)∧(8:Int)≤(9223372036854775807:Int)→(IR9 w0)∧(IR9 w1)∧(IR9 w2)∧(IR9 w3)∧((-9223372036854775808:Int)≤w4∧w4 ≤
 (9223372036854775807:Int))∧(IR9 w5)∧(IR9 w6)∧(IR9 w7)∧(IR9 w8)∧(IR9 w9)∧((-9223372036854775808:Int)≤w10∧w10 ≤
 (9223372036854775807:Int))∧(IR9 w11)∧True→True∧((8:Int)=8∧w4=sel [w0,w1,w2,w3,w4,w5,w6,w7,w8,w9,w10,w11] (4:Int)∧w9=sel [w0,w1,w2,w3,w4,w5,w6,w7,w8,w9,w10,w11] (9:Int)∧w5=sel [w0,w1,w2,w3,w4,w5,w6,w7,w8,w9,w10,w11] (5:Int)∧True)∧decide (IntKind.i64.wrap (IntKind.i64.wrap (w4+w9)+w5)=(840:Int))=decide (w64 (w64 (sel
 [w0,w1,w2,w3,w4,w5,w6,w7,w8,w9,w10,w11] (4:Int)+sel [w0,w1,w2,w3,w4,w5,w6,w7,w8,w9,w10,w11] (9:Int))+sel [w0,w1,w2,w3,w4,w5,w6,w7,w8,w9,w10,w11] (5:Int))=(840:Int))∧True)∧((-9223372036854775808:Int)≤(9:Int)∧(9:Int)≤(9223372036854775807:Int)→(IR9 w0)∧((-9223372036854775808:Int)≤w1∧w1 ≤
 (9223372036854775807:Int))∧(IR9 w2)∧(IR9 w3)∧(IR9 w4)∧(IR9 w5)∧(IR9 w6)∧((-9223372036854775808:Int)≤w7∧w7 ≤
 (9223372036854775807:Int))∧(IR9 w8)∧(IR9 w9)∧(IR9 w10)∧(IR9 w11)∧True→True∧((9:Int)=9∧w5=sel [w0,w1,w2,w3,w4,w5,w6,w7,w8,w9,w10,w11] (5:Int)∧w10=sel
 [w0,w1,w2,w3,w4,w5,w6,w7,w8,w9,w10,w11] (10:Int)∧w1=sel [w0,w1,w2,w3,w4,w5,w6,w7,w8,w9,w10,w11] (1:Int)∧True)∧decide (IntKind.i64.wrap (IntKind.i64.wrap (w5+w10)+w1)=(840:Int))=decide (w64 (w64 (sel [w0,w1,w2,w3,w4,w5,w6,w7,w8,w9,w10,w11] (5:Int)+sel [w0,w1,w2,w3,w4,w5,w6,w7,w8,w9,w10,w11] (10:Int))+sel [w0,w1,w2,w3,w4,w5,w6,w7,w8,w9,w10,w11]
 (1:Int))=(840:Int))∧True)∧((-9223372036854775808:Int)≤(10:Int)∧(10:Int)≤(9223372036854775807:Int)→(IR9 w0)∧(IR9 w1)∧(IR9 w2)∧(IR9 w3)∧((-9223372036854775808:Int)≤w4∧w4 ≤
 (9223372036854775807:Int))∧(IR9 w5)∧(IR9 w6)∧(IR9 w7)∧(IR9 w8)∧(IR9 w9)∧((-9223372036854775808:Int)≤w10∧w10 ≤
 (9223372036854775807:Int))∧(IR9 w11)∧True→True∧((10:Int)=10∧w6=sel [w0,w1,w2,w3,w4,w5,w6,w7,w8,w9,w10,w11] (6:Int)∧w7=sel [w0,w1,w2,w3,w4,w5,w6,w7,w8,w9,w10,w11] (7:Int)∧w2=sel [w0,w1,w2,w3,w4,w5,w6,w7,w8,w9,w10,w11] (2:Int)∧True)∧decide (IntKind.i64.wrap (IntKind.i64.wrap (w6+w7)+w2)=(840:Int))=decide (w64 (w64 (sel
 [w0,w1,w2,w3,w4,w5,w6,w7,w8,w9,w10,w11] (6:Int)+sel [w0,w1,w2,w3,w4,w5,w6,w7,w8,w9,w10,w11] (7:Int))+sel [w0,w1,w2,w3,w4,w5,w6,w7,w8,w9,w10,w11] (2:Int))=(840:Int))∧True)∧((-9223372036854775808:Int)≤(11:Int)∧(11:Int)≤(9223372036854775807:Int)→(IR9 w0)∧((-9223372036854775808:Int)≤w1∧w1 ≤
 (9223372036854775807:Int))∧(IR9 w2)∧(IR9 w3)∧(IR9 w4)∧(IR9 w5)∧(IR9 w6)∧((-9223372036854775808:Int)≤w7∧w7 ≤
 (9223372036854775807:Int))∧(IR9 w8)∧(IR9 w9)∧(IR9 w10)∧(IR9 w11)∧True→True∧((11:Int)=11∧w7=sel [w0,w1,w2,w3,w4,w5,w6,w7,w8,w9,w10,w11] (7:Int)∧w8=sel
 [w0,w1,w2,w3,w4,w5,w6,w7,w8,w9,w10,w11] (8:Int)∧w3=sel [w0,w1,w2,w3,w4,w5,w6,w7,w8,w9,w10,w11] (3:Int)∧True)∧decide (IntKind.i64.wrap (IntKind.i64.wrap (w7+w8)+w3)=(840:Int))=decide (w64 (w64 (sel [w0,w1,w2,w3,w4,w5,w6,w7,w8,w9,w10,w11] (7:Int)+sel [w0,w1,w2,w3,w4,w5,w6,w7,w8,w9,w10,w11] (8:Int))+sel [w0,w1,w2,w3,w4,w5,w6,w7,w8,w9,w10,w11]
 (3:Int))=(840:Int))∧True)∧((-9223372036854775808:Int)≤(12:Int)∧(12:Int)≤(9223372036854775807:Int)→(IR9 w0)∧(IR9 w1)∧(IR9 w2)∧(IR9 w3)∧((-9223372036854775808:Int)≤w4∧w4 ≤
 (9223372036854775807:Int))∧(IR9 w5)∧(IR9 w6)∧(IR9 w7)∧(IR9 w8)∧(IR9 w9)∧((-9223372036854775808:Int)≤w10∧w10 ≤
 (9223372036854775807:Int))∧(IR9 w11)∧True→True∧((12:Int)=12∧w8=sel [w0,w1,w2,w3,w4,w5,w6,w7,w8,w9,w10,w11] (8:Int)∧w9=sel [w0,w1,w2,w3,w4,w5,w6,w7,w8,w9,w10,w11] (9:Int)∧w4=sel [w0,w1,w2,w3,w4,w5,w6,w7,w8,w9,w10,w11] (4:Int)∧True)∧decide (IntKind.i64.wrap (IntKind.i64.wrap (w8+w9)+w4)=(840:Int))=decide (w64 (w64 (sel
 [w0,w1,w2,w3,w4,w5,w6,w7,w8,w9,w10,w11] (8:Int)+sel [w0,w1,w2,w3,w4,w5,w6,w7,w8,w9,w10,w11] (9:Int))+sel [w0,w1,w2,w3,w4,w5,w6,w7,w8,w9,w10,w11] (4:Int))=(840:Int))∧True)∧((-9223372036854775808:Int)≤(13:Int)∧(13:Int)≤(9223372036854775807:Int)→(IR9 w0)∧((-9223372036854775808:Int)≤w1∧w1 ≤
 (9223372036854775807:Int))∧(IR9 w2)∧(IR9 w3)∧(IR9 w4)∧(IR9 w5)∧(IR9 w6)∧((-9223372036854775808:Int)≤w7∧w7 ≤
 (9223372036854775807:Int))∧(IR9 w8)∧(IR9 w9)∧(IR9 w10)∧(IR9 w11)∧True→True∧((13:Int)=13∧w9=sel [w0,w1,w2,w3,w4,w5,w6,w7,w8,w9,w10,w11] (9:Int)∧w10=sel
 [w0,w1,w2,w3,w4,w5,w6,w7,w8,w9,w10,w11] (10:Int)∧w5=sel [w0,w1,w2,w3,w4,w5,w6,w7,w8,w9,w10,w11] (5:Int)∧True)∧decide (IntKind.i64.wrap (IntKind.i64.wrap (w9+w10)+w5)=(840:Int))=decide (w64 (w64 (sel [w0,w1,w2,w3,w4,w5,w6,w7,w8,w9,w10,w11] (9:Int)+sel [w0,w1,w2,w3,w4,w5,w6,w7,w8,w9,w10,w11] (10:Int))+sel [w0,w1,w2,w3,w4,w5,w6,w7,w8,w9,w10,w11]
 (5:Int))=(840:Int))∧True)∧((-9223372036854775808:Int)≤(14:Int)∧(14:Int)≤(9223372036854775807:Int)→(IR9 w0)∧(IR9 w1)∧(IR9 w2)∧(IR9 w3)∧((-9223372036854775808:Int)≤w4∧w4 ≤
 (9223372036854775807:Int))∧(IR9 w5)∧(IR9 w6)∧(IR9 w7)∧(IR9 w8)∧(IR9 w9)∧((-9223372036854775808:Int)≤w10∧w10 ≤
 (9223372036854775807:Int))∧(IR9 w11)∧True→True∧((14:Int)=14∧w10=sel [w0,w1,w2,w3,w4,w5,w6,w7,w8,w9,w10,w11] (10:Int)∧w6=sel [w0,w1,w2,w3,w4,w5,w6,w7,w8,w9,w10,w11] (6:Int)∧w1=sel [w0,w1,w2,w3,w4,w5,w6,w7,w8,w9,w10,w11] (1:Int)∧True)∧decide (IntKind.i64.wrap (IntKind.i64.wrap (w10+w6)+w1)=(840:Int))=decide (w64 (w64 (sel
 [w0,w1,w2,w3,w4,w5,w6,w7,w8,w9,w10,w11] (10:Int)+sel [w0,w1,w2,w3,w4,w5,w6,w7,w8,w9,w10,w11] (6:Int))+sel [w0,w1,w2,w3,w4,w5,w6,w7,w8,w9,w10,w11] (1:Int))=(840:Int))∧True)∧((-9223372036854775808:Int)≤(15:Int)∧(15:Int)≤(9223372036854775807:Int)→(IR9 w0)∧((-9223372036854775808:Int)≤w1∧w1 ≤
 (9223372036854775807:Int))∧(IR9 w2)∧(IR9 w3)∧(IR9 w4)∧(IR9 w5)∧(IR9 w6)∧((-9223372036854775808:Int)≤w7∧w7 ≤
 (9223372036854775807:Int))∧(IR9 w8)∧(IR9 w9)∧(IR9 w10)∧(IR9 w11)∧True→True∧((15:Int)=15∧w11=sel [w0,w1,w2,w3,w4,w5,w6,w7,w8,w9,w10,w11] (11:Int)∧w7=sel
 [w0,w1,w2,w3,w4,w5,w6,w7,w8,w9,w10,w11] (7:Int)∧w6=sel [w0,w1,w2,w3,w4,w5,w6,w7,w8,w9,w10,w11] (6:Int)∧True)∧decide (IntKind.i64.wrap (IntKind.i64.wrap (w11+w7)+w6)=(840:Int))=decide (w64 (w64 (sel [w0,w1,w2,w3,w4,w5,w6,w7,w8,w9,w10,w11] (11:Int)+sel [w0,w1,w2,w3,w4,w5,w6,w7,w8,w9,w10,w11] (7:Int))+sel [w0,w1,w2,w3,w4,w5,w6,w7,w8,w9,w10,w11]
 (6:Int))=(840:Int))∧True)∧((-9223372036854775808:Int)≤(16:Int)∧(16:Int)≤(9223372036854775807:Int)→(IR9 w0)∧(IR9 w1)∧(IR9 w2)∧(IR9 w3)∧((-9223372036854775808:Int)≤w4∧w4 ≤
 (9223372036854775807:Int))∧(IR9 w5)∧(IR9 w6)∧(IR9 w7)∧(IR9 w8)∧(IR9 w9)∧((-9223372036854775808:Int)≤w10∧w10 ≤
 (9223372036854775807:Int))∧(IR9 w11)∧True→True∧((16:Int)=16∧w11=sel [w0,w1,w2,w3,w4,w5,w6,w7,w8,w9,w10,w11] (11:Int)∧w8=sel [w0,w1,w2,w3,w4,w5,w6,w7,w8,w9,w10,w11] (8:Int)∧w7=sel [w0,w1,w2,w3,w4,w5,w6,w7,w8,w9,w10,w11] (7:Int)∧True)∧decide (IntKind.i64.wrap (IntKind.i64.wrap (w11+w8)+w7)=(840:Int))=decide (w64 (w64 (sel
 [w0,w1,w2,w3,w4,w5,w6,w7,w8,w9,w10,w11] (11:Int)+sel [w0,w1,w2,w3,w4,w5,w6,w7,w8,w9,w10,w11] (8:Int))+sel [w0,w1,w2,w3,w4,w5,w6,w7,w8,w9,w10,w11] (7:Int))=(840:Int))∧True)∧((-9223372036854775808:Int)≤(17:Int)∧(17:Int)≤(9223372036854775807:Int)→(IR9 w0)∧((-9223372036854775808:Int)≤w1∧w1 ≤
 (9223372036854775807:Int))∧(IR9 w2)∧(IR9 w3)∧(IR9 w4)∧(IR9 w5)∧(IR9 w6)∧((-9223372036854775808:Int)≤w7∧w7 ≤
 (9223372036854775807:Int))∧(IR9 w8)∧(IR9 w9)∧(IR9 w10)∧(IR9 w11)∧True→True∧((17:Int)=17∧w11=sel [w0,w1,w2,w3,w4,w5,w6,w7,w8,w9,w10,w11] (11:Int)∧w9=sel
 [w0,w1,w2,w3,w4,w5,w6,w7,w8,w9,w10,w11] (9:Int)∧w8=sel [w0,w1,w2,w3,w4,w5,w6,w7,w8,w9,w10,w11] (8:Int)∧True)∧decide (IntKind.i64.wrap (IntKind.i64.wrap (w11+w9)+w8)=(840:Int))=decide (w64 (w64 (sel [w0,w1,w2,w3,w4,w5,w6,w7,w8,w9,w10,w11] (11:Int)+sel [w0,w1,w2,w3,w4,w5,w6,w7,w8,w9,w10,w11] (9:Int))+sel [w0,w1,w2,w3,w4,w5,w6,w7,w8,w9,w10,w11]
 (8:Int))=(840:Int))∧True)∧((-9223372036854775808:Int)≤(18:Int)∧(18:Int)≤(9223372036854775807:Int)→(IR9 w0)∧(IR9 w1)∧(IR9 w2)∧(IR9 w3)∧((-9223372036854775808:Int)≤w4∧w4 ≤
 (9223372036854775807:Int))∧(IR9 w5)∧(IR9 w6)∧(IR9 w7)∧(IR9 w8)∧(IR9 w9)∧((-9223372036854775808:Int)≤w10∧w10 ≤
 (9223372036854775807:Int))∧(IR9 w11)∧True→True∧((18:Int)=18∧w11=sel [w0,w1,w2,w3,w4,w5,w6,w7,w8,w9,w10,w11] (11:Int)∧w10=sel [w0,w1,w2,w3,w4,w5,w6,w7,w8,w9,w10,w11] (10:Int)∧w9=sel [w0,w1,w2,w3,w4,w5,w6,w7,w8,w9,w10,w11] (9:Int)∧True)∧decide (IntKind.i64.wrap (IntKind.i64.wrap (w11+w10)+w9)=(840:Int))=decide (w64 (w64 (sel
 [w0,w1,w2,w3,w4,w5,w6,w7,w8,w9,w10,w11] (11:Int)+sel [w0,w1,w2,w3,w4,w5,w6,w7,w8,w9,w10,w11] (10:Int))+sel [w0,w1,w2,w3,w4,w5,w6,w7,w8,w9,w10,w11] (9:Int))=(840:Int))∧True)∧((-9223372036854775808:Int)≤(19:Int)∧(19:Int)≤(9223372036854775807:Int)→(IR9 w0)∧((-9223372036854775808:Int)≤w1∧w1 ≤
 (9223372036854775807:Int))∧(IR9 w2)∧(IR9 w3)∧(IR9 w4)∧(IR9 w5)∧(IR9 w6)∧((-9223372036854775808:Int)≤w7∧w7 ≤
 (9223372036854775807:Int))∧(IR9 w8)∧(IR9 w9)∧(IR9 w10)∧(IR9 w11)∧True→True∧((19:Int)=19∧w11=sel [w0,w1,w2,w3,w4,w5,w6,w7,w8,w9,w10,w11] (11:Int)∧w6=sel
 [w0,w1,w2,w3,w4,w5,w6,w7,w8,w9,w10,w11] (6:Int)∧w10=sel [w0,w1,w2,w3,w4,w5,w6,w7,w8,w9,w10,w11] (10:Int)∧True)∧decide (IntKind.i64.wrap (IntKind.i64.wrap (w11+w6)+w10)=(840:Int))=decide (w64 (w64 (sel [w0,w1,w2,w3,w4,w5,w6,w7,w8,w9,w10,w11] (11:Int)+sel [w0,w1,w2,w3,w4,w5,w6,w7,w8,w9,w10,w11] (6:Int))+sel [w0,w1,w2,w3,w4,w5,w6,w7,w8,w9,w10,w11] (10:Int))=(840:Int))∧True)∧True
theorem rOn20_P:rOn20_T:=by
 unfold rOn20_T
 intro gl w0 w1 w2 w3 w4 w5 w6 w7 w8 w9 w10 w11
 repeat' (first | exact trivial | intro _ | rfl | apply And.intro)
def rOn20_S:Prop:=∀ (gl:Glob) (w0 w1 w2 w3 w4 w5 w6 w7 w8 w9 w10 w11:Int),allN fcs fun n=>fnK Tryz.prog { glob:=gl,spec:=lk [(130,rCorners_s fac crn)],nowf:=true,wrap:=true } { nt:=38 } (fun _ _=>none) 6 Tryz.f125 [.int .i64 n,.agg [.int .i64 w0,.int .i64 w1,.int .i64 w2,.int .i64 w3,.int .i64 w4,.int .i64 w5,.int .i64 w6,.int .i64 w7,.int .i64 w8,.int .i64 w9,.int .i64 w10,.int .i64 w11]] (.tup [.agg [.int .i64 n,.int .i64 (sel [w0,w1,w2,w3,w4,w5,w6,w7,w8,w9,w10,w11] (crn n 0)),.int .i64 (sel [w0,w1,w2,w3,w4,w5,w6,w7,w8,w9,w10,w11] (crn n 1)),.int .i64 (sel [w0,w1,w2,w3,w4,w5,w6,w7,w8,w9,w10,w11] (crn n 2))],.bool (decide (w64 (w64 ((sel [w0,w1,w2,w3,w4,w5,w6,w7,w8,w9,w10,w11] (crn n 0))+(sel [w0,w1,w2,w3,w4,w5,w6,w7,w8,w9,w10,w11] (crn n 1)))+(sel [w0,w1,w2,w3,w4,w5,w6,w7,w8,w9,w10,w11] (crn n 2)))=840))])
theorem rOn20_e:rOn20_T=rOn20_S:=by kernel_rfl
theorem rOn20:rOn20_S:=@Eq.mp (rOn20_T) (rOn20_S) (rOn20_e) (rOn20_P)
def rWeights_s:Sp
 | [.agg [.int .i64 f,.int .i64 a,.int .i64 b,.int .i64 c]]=>some (0≤f∧f < 20,.agg [.int .i64 (wt f a b c 0),.int .i64 (wt f a b c 1),.int .i64 (wt f a b c 2),.int .i64 (wt f a b c 3),.int .i64 (wt f a b c 4),.int .i64 (wt f a b c 5),.int .i64 (wt f a b c 6),.int .i64 (wt f a b c 7),.int .i64 (wt f a b c 8),.int .i64 (wt f a b c 9),.int .i64 (wt f a b c 10),.int .i64 (wt f a b c 11)])
 | _=>none
def rOn_s:Sp
 | [.int .i64 n,.agg [.int .i64 w0,.int .i64 w1,.int .i64 w2,.int .i64 w3,.int .i64 w4,.int .i64 w5,.int .i64 w6,.int .i64 w7,.int .i64 w8,.int .i64 w9,.int .i64 w10,.int .i64 w11]]=>some (0≤n∧n < 20,.tup [.agg [.int .i64 n,.int .i64 (sel [w0,w1,w2,w3,w4,w5,w6,w7,w8,w9,w10,w11] (crn n 0)),.int .i64 (sel [w0,w1,w2,w3,w4,w5,w6,w7,w8,w9,w10,w11] (crn n 1)),.int .i64 (sel [w0,w1,w2,w3,w4,w5,w6,w7,w8,w9,w10,w11] (crn n 2))],.bool (decide (w64 (w64 ((sel [w0,w1,w2,w3,w4,w5,w6,w7,w8,w9,w10,w11] (crn n 0))+(sel [w0,w1,w2,w3,w4,w5,w6,w7,w8,w9,w10,w11] (crn n 1)))+(sel [w0,w1,w2,w3,w4,w5,w6,w7,w8,w9,w10,w11] (crn n 2)))=840))])
 | _=>none
theorem rWeights_ok (gl:Glob):SOK Tryz.prog gl 124 rWeights_s:=by
 refine ⟨fok Tryz.func124 (by kernel_rfl) (by kernel_rfl),?_⟩
 intro xs pre r h hp
 unfold rWeights_s at h
 split at h
 ·simp only [Option.some.injEq,Prod.mk.injEq] at h
  obtain ⟨h1,h2⟩:=h
  subst h1 h2
  exact fnK_sound tyNil (by exact specOK (l':=[]) rfl rfl ⟨rCorners_ok gl,trivial⟩ trivial) (by kernel_rfl) Tryz.func124 rfl (allN_get (rWeights20 _ _ _ _) (mem_fcs hp))
 ·cases h
theorem rOn_ok (gl:Glob):SOK Tryz.prog gl 125 rOn_s:=by
 refine ⟨fok Tryz.func125 (by kernel_rfl) (by kernel_rfl),?_⟩
 intro xs pre r h hp
 unfold rOn_s at h
 split at h
 ·simp only [Option.some.injEq,Prod.mk.injEq] at h
  obtain ⟨h1,h2⟩:=h
  subst h1 h2
  exact fnK_sound tyNil (by exact specOK (l':=[]) rfl rfl ⟨rCorners_ok gl,trivial⟩ trivial) (by kernel_rfl) Tryz.func125 rfl (allN_get (rOn20 _ _ _ _ _ _ _ _ _ _ _ _ _) (mem_fcs hp))
 ·cases h
theorem onS_eq {f a b c n:Int} (hv:Vld f a b c) (hn:0≤n∧n < 20):decide (w64 (w64 (onW f a b c n 0+onW f a b c n 1)+onW f a b c n 2)=840)=onV f a b c n:=by
 have hb:∀ v,0≤wt f a b c v∧wt f a b c v≤840:=by
  intro v
  obtain ⟨_,ha,hb,hc,_⟩:=hv
  unfold wt
  split
  ·exact hc
  ·split
   ·exact hb
   ·split
    ·exact ha
    ·omega
 have h0:0≤onW f a b c n 0∧onW f a b c n 0≤840:=hb _
 have h1:0≤onW f a b c n 1∧onW f a b c n 1≤840:=hb _
 have h2:0≤onW f a b c n 2∧onW f a b c n 2≤840:=hb _
 unfold onV vld
 rw [w64_id (x:=onW f a b c n 0+onW f a b c n 1) (by omega),w64_id (by omega)]
 refine decide_eq_decide.2 ?_
 rw [vld_iff]
 exact ⟨fun h=>⟨hn,h0,h1,h2,h⟩,fun h=>h.2.2.2.2⟩
def adrJ (f a b c:Int):LInv:=⟨Int × List (List AV),fun x=>⟨[(4,.ptr 4 0),(5,.rw 500 4 x.2.length),(6,.int .i64 x.1)],[(4,.cells [.int .i64 (wt f a b c 0),.int .i64 (wt f a b c 1),.int .i64 (wt f a b c 2),.int .i64 (wt f a b c 3),.int .i64 (wt f a b c 4),.int .i64 (wt f a b c 5),.int .i64 (wt f a b c 6),.int .i64 (wt f a b c 7),.int .i64 (wt f a b c 8),.int .i64 (wt f a b c 9),.int .i64 (wt f a b c 10),.int .i64 (wt f a b c 11)]),(500,.row 26 4 x.2)]⟩,
 AdrP f a b c,fun x=>(20 - x.1).toNat,none⟩
def rAddresses_s (vld:Int→Int→Int→Int→Bool) (adr:Int→Int→Int→Int→List (List AV)):Sp
 | [.agg [.int .i64 f,.int .i64 a,.int .i64 b,.int .i64 c]]=>some (True,.tup [.sl 4 false (adr f a b c),.int .i64 (err (vld f a b c))])
 | _=>none
def rAddresses_T (vld':Int→Int→Int→Int→Bool) (adr:Int→Int→Int→Int→List (List AV)):Prop :=
  ∀ (gl:Glob) (f a b c:Int),(IR9 f)∧(IR9 a)∧(IR9 b)∧(IR9 c)∧True→True∧bif !vld f a b c then adr f a b c=[]∧(1:Int)=err (vld' f a b c)∧True else ((0:Int) ≤
 f∧f < (20:Int))∧(∃ x,AdrP f a b c x∧((0:Nat)=0∧(0:Nat)=x.snd.length∧(0:Int)=x.fst∧True)∧(wt f a b c (0:Int)=wt f a b c (0:Int)∧wt f a b c (1:Int)=wt f a b c (1:Int)∧wt f a b c (2:Int)=wt f a b c (2:Int)∧wt f a b c (3:Int)=wt f a b c (3:Int)∧wt f a b c (4:Int)=wt f a b c (4:Int)∧wt f a b c (5:Int)=wt f a b c (5:Int)∧wt f a b c (6:Int)=wt f a b c (6:Int)∧wt f a b c (7:Int)=wt f a b c (7:Int)∧wt f a b
 c (8:Int)=wt f a b c (8:Int)∧wt f a b c (9:Int)=wt f a b c (9:Int)∧wt f a b c (10:Int)=wt f a b c (10:Int)∧wt f a b c (11:Int)=wt f a b c (11:Int)∧True)∧[]=x.snd∧True)∧∀ (x:Int × List (List AV)),AdrP f a b c x→bif decide (x.fst < (20:Int)) then (0≤x.fst∧x.fst < (20:Int))∧bif decide (w64 (w64 (sel [wt f a b c (0:Int),wt f a b c (1:Int),wt f a b c (2:Int),wt f a b c (3:Int),wt f a b c
 (4:Int),wt f a b c (5:Int),wt f a b c (6:Int),wt f a b c (7:Int),wt f a b c (8:Int),wt f a b c (9:Int),wt f a b c (10:Int),wt f a b c (11:Int)] (crn x.fst (0:Nat))+sel [wt f a b c (0:Int),wt f a b c (1:Int),wt f a b c (2:Int),wt f a b c (3:Int),wt f a b c (4:Int),wt f a b c (5:Int),wt f a b c (6:Int),wt f a b c (7:Int),wt f a b c (8:Int),wt f a b c (9:Int),wt f a b c (10:Int),wt f a b c (11:Int)]
 (crn x.fst (1:Nat)))+sel [wt f a b c (0:Int),wt f a b c (1:Int),wt f a b c (2:Int),wt f a b c (3:Int),wt f a b c (4:Int),wt f a b c (5:Int),wt f a b c (6:Int),wt f a b c (7:Int),wt f a b c (8:Int),wt f a b c (9:Int),wt f a b c (10:Int),wt f a b c (11:Int)] (crn x.fst (2:Nat)))=(840:Int)) then bif decide (x.snd.length=x.snd.length∧x.snd.length+[[AV.int .i64 x.fst,.int .i64 (sel [wt f a b c
 (0:Int),wt f a b c (1:Int),wt f a b c (2:Int),wt f a b c (3:Int),wt f a b c (4:Int),wt f a b c (5:Int),wt f a b c (6:Int),wt f a b c (7:Int),wt f a b c (8:Int),wt f a b c (9:Int),wt f a b c (10:Int),wt f a b c (11:Int)] (crn x.fst (0:Nat))),.int .i64 (sel [wt f a b c (0:Int),wt f a b c (1:Int),wt f a b c (2:Int),wt f a b c (3:Int),wt f a b c (4:Int),wt f a b c (5:Int),wt f a b c (6:Int),wt f a b c
 (7:Int),wt f a b c (8:Int),wt f a b c (9:Int),wt f a b c (10:Int),wt f a b c (11:Int)] (crn x.fst (1:Nat))),.int .i64 (sel [wt f a b c (0:Int),wt f a b c (1:Int),wt f a b c (2:Int),wt f a b c (3:Int),wt f a b c (4:Int),wt f a b c (5:Int),wt f a b c (6:Int),wt f a b c (7:Int),wt f a b c (8:Int),wt f a b c (9:Int),wt f a b c (10:Int),wt f a b c (11:Int)] (crn x.fst (2:Nat)))]].length ≤
 (9223372036854775807:Nat)∧(x.snd.length+[[AV.int .i64 x.fst,.int .i64 (sel [wt f a b c (0:Int),wt f a b c (1:Int),wt f a b c (2:Int),wt f a b c (3:Int),wt f a b c (4:Int),wt f a b c (5:Int),wt f a b c (6:Int),wt f a b c (7:Int),wt f a b c (8:Int),wt f a b c (9:Int),wt f a b c (10:Int),wt f a b c (11:Int)] (crn x.fst (0:Nat))),.int .i64 (sel [wt f a b c (0:Int),wt f a b c (1:Int),wt f a b c
 (2:Int),wt f a b c (3:Int),wt f a b c (4:Int),wt f a b c (5:Int),wt f a b c (6:Int),wt f a b c (7:Int),wt f a b c (8:Int),wt f a b c (9:Int),wt f a b c (10:Int),wt f a b c (11:Int)] (crn x.fst (1:Nat))),.int .i64 (sel [wt f a b c (0:Int),wt f a b c (1:Int),wt f a b c (2:Int),wt f a b c (3:Int),wt f a b c (4:Int),wt f a b c (5:Int),wt f a b c (6:Int),wt f a b c (7:Int),wt f a b c (8:Int),wt f a b c
 (9:Int),wt f a b c (10:Int),wt f a b c (11:Int)] (crn x.fst (2:Nat)))]].length)*(32:Nat)≤(140737488355328:Nat)) then bif decide (rng .i64 (x.fst+(1:Int))) then ∃ y,AdrP f a b c y∧(adrJ f a b c).m y < (adrJ f a b c).m x∧((0:Nat)=0∧(x.snd++[[AV.int .i64 x.fst,.int .i64 (sel [wt f a b c (0:Int),wt f a b c (1:Int),wt f a b c (2:Int),wt f a b c (3:Int),wt f a b c (4:Int),wt f a b c (5:Int),wt f
 a b c (6:Int),wt f a b c (7:Int),wt f a b c (8:Int),wt f a b c (9:Int),wt f a b c (10:Int),wt f a b c (11:Int)] (crn x.fst (0:Nat))),.int .i64 (sel [wt f a b c (0:Int),wt f a b c (1:Int),wt f a b c (2:Int),wt f a b c (3:Int),wt f a b c (4:Int),wt f a b c (5:Int),wt f a b c (6:Int),wt f a b c (7:Int),wt f a b c (8:Int),wt f a b c (9:Int),wt f a b c (10:Int),wt f a b c (11:Int)] (crn x.fst
 (1:Nat))),.int .i64 (sel [wt f a b c (0:Int),wt f a b c (1:Int),wt f a b c (2:Int),wt f a b c (3:Int),wt f a b c (4:Int),wt f a b c (5:Int),wt f a b c (6:Int),wt f a b c (7:Int),wt f a b c (8:Int),wt f a b c (9:Int),wt f a b c (10:Int),wt f a b c (11:Int)] (crn x.fst (2:Nat)))]]).length=y.snd.length∧x.fst+(1:Int)=y.fst∧True)∧(wt f a b c (0:Int)=wt f a b c (0:Int)∧wt f a b c (1:Int)=wt f a b c
 (1:Int)∧wt f a b c (2:Int)=wt f a b c (2:Int)∧wt f a b c (3:Int)=wt f a b c (3:Int)∧wt f a b c (4:Int)=wt f a b c (4:Int)∧wt f a b c (5:Int)=wt f a b c (5:Int)∧wt f a b c (6:Int)=wt f a b c (6:Int)∧wt f a b c (7:Int)=wt f a b c (7:Int)∧wt f a b c (8:Int)=wt f a b c (8:Int)∧wt f a b c (9:Int)=wt f a b c (9:Int)∧wt f a b c (10:Int)=wt f a b c (10:Int)∧wt f a b c (11:Int)=wt f a b c
 (11:Int)∧True)∧x.snd++[[AV.int .i64 x.fst,.int .i64 (sel [wt f a b c (0:Int),wt f a b c (1:Int),wt f a b c (2:Int),wt f a b c (3:Int),wt f a b c (4:Int),wt f a b c (5:Int),wt f a b c (6:Int),wt f a b c (7:Int),wt f a b c (8:Int),wt f a b c (9:Int),wt f a b c (10:Int),wt f a b c (11:Int)] (crn x.fst (0:Nat))),.int .i64 (sel [wt f a b c (0:Int),wt f a b c (1:Int),wt f a b c (2:Int),wt f a b c
 (3:Int),wt f a b c (4:Int),wt f a b c (5:Int),wt f a b c (6:Int),wt f a b c (7:Int),wt f a b c (8:Int),wt f a b c (9:Int),wt f a b c (10:Int),wt f a b c (11:Int)] (crn x.fst (1:Nat))),.int .i64 (sel [wt f a b c (0:Int),wt f a b c (1:Int),wt f a b c (2:Int),wt f a b c (3:Int),wt f a b c (4:Int),wt f a b c (5:Int),wt f a b c (6:Int),wt f a b c (7:Int),wt f a b c (8:Int),wt f a b c (9:Int),wt f a b c
 (10:Int),wt f a b c (11:Int)] (crn x.fst (2:Nat)))]]=y.snd∧True else False else False else bif decide (rng .i64 (x.fst+(1:Int))) then ∃ y,AdrP f a b c y∧(adrJ f a b c).m y < (adrJ f a b c).m x∧((0:Nat)=0∧x.snd.length=y.snd.length∧x.fst+(1:Int)=y.fst∧True)∧(wt f a b c (0:Int)=wt f a b c (0:Int)∧wt f a b c (1:Int)=wt f a b c (1:Int)∧wt f a b c (2:Int)=wt f a b c (2:Int)∧wt f a b c (3:Int)=wt f a
 b c (3:Int)∧wt f a b c (4:Int)=wt f a b c (4:Int)∧wt f a b c (5:Int)=wt f a b c (5:Int)∧wt f a b c (6:Int)=wt f a b c (6:Int)∧wt f a b c (7:Int)=wt f a b c (7:Int)∧wt f a b c (8:Int)=wt f a b c (8:Int)∧wt f a b c (9:Int)=wt f a b c (9:Int)∧wt f a b c (10:Int)=wt f a b c (10:Int)∧wt f a b c (11:Int)=wt f a b c (11:Int)∧True)∧x.snd=y.snd∧True else False else bif decide (x.snd.length=x.snd.length)
 then (True∧x.snd=adr f a b c)∧(0:Int)=err (vld' f a b c)∧True else False
theorem rAddresses_P:rAddresses_T vld adr:=by
 unfold rAddresses_T
 intro gl f a b c h
 refine ⟨trivial,?_⟩
 unfold adr err
 cases hv:vld f a b c with
 | false=>exact ⟨rfl,rfl,trivial⟩
 | true =>
  have v:Vld f a b c:=of_decide_eq_true hv
  refine ⟨v.face,⟨(0,[]),⟨by decide,by decide,rfl⟩,⟨rfl,rfl,rfl,trivial⟩,⟨rfl,rfl,rfl,rfl,rfl,rfl,rfl,rfl,rfl,rfl,rfl,rfl,trivial⟩,rfl,trivial⟩,?_⟩
  rintro ⟨n,xs⟩ ⟨h0,h1,hx⟩
  simp only at h0 h1 hx
  have hlen:=adr_len f a b c n.toNat
  rw [← hx] at hlen
  refine csplit (fun hn=>?_) (fun hn=>?_)
  ·have hn:n < 20:=of_decide_eq_true hn
   obtain ⟨e0,e1,e2⟩:=sel_wts f a b c ⟨h0,hn⟩
   unfold wts at e0 e1 e2
   simp only [e0,e1,e2]
   refine ⟨⟨h0,hn⟩,?_⟩
   rw [onS_eq v ⟨h0,hn⟩]
   refine csplit (fun hv=>?_) (fun hv=>?_)
   ·have hv:onV f a b c n=true:=hv
    simp only [↓cdecF,rng,List.length_singleton]
    refine ⟨⟨by trivial,by omega,by omega⟩,by omega,(n+1,xs++[onRow f a b c n]),⟨by simp only; omega,by simp only; omega,?_⟩,by simp only [adrJ]; omega,⟨by trivial,rfl,rfl,trivial⟩,?_,rfl,trivial⟩
    ·simp only; rw [adr_step h0,if_pos hv,hx]
    ·repeat' (first | exact trivial | rfl | apply And.intro)
   ·have hv:onV f a b c n=false:=hv
    simp only [↓cdecF,rng]
    refine ⟨by omega,(n+1,xs),⟨by simp only; omega,by simp only; omega,?_⟩,by simp only [adrJ]; omega,⟨by trivial,by trivial,rfl,trivial⟩,?_,rfl,trivial⟩
    ·simp only; rw [adr_step h0,if_neg (by rw [hv]; simp),hx]
    ·repeat' (first | exact trivial | rfl | apply And.intro)
  ·have hn:¬ n < 20:=of_decide_eq_false hn
   have:n=20:=by omega
   subst this
   simp only [↓cdecF]
   exact ⟨by trivial,⟨trivial,by rw [hx]; rfl⟩,rfl,trivial⟩
def rAddresses_S (vld:Int→Int→Int→Int→Bool) (adr:Int→Int→Int→Int→List (List AV)):Prop:=∀ (gl:Glob) (f a b c:Int),fnK Tryz.prog { glob:=gl,spec:=lk [(123,(rValid_s Go.Proofs.YtldiagnbagpliaaGreatDoor.vld)),(124,rWeights_s),(125,rOn_s)],specH:=lk [],nowf:=true } { nt:=30,drop:=drp [(1,1536),(3,12288),(6,16384),(7,196608),(8,16515072),(10,503316480),(11,536870912)],emp:=fun id=>cond (Nat.beq id 5) [(5,500,26,4)] [] } (invs [(6,adrJ f a b c)]) 6 Tryz.f111 [.agg [.int .i64 f,.int .i64 a,.int .i64 b,.int .i64 c]] (.tup [.sl 4 false (adr f a b c),.int .i64 (err (vld f a b c))])
theorem rAddresses_e (vld:Int→Int→Int→Int→Bool) (adr:Int→Int→Int→Int→List (List AV)):rAddresses_T vld adr=rAddresses_S vld adr:=by kernel_rfl
theorem rAddresses_v:rAddresses_S vld adr:=Eq.mp (rAddresses_e ..) (rAddresses_P)
theorem rAddresses_ok (gl:Glob):SOK Tryz.prog gl 111 (rAddresses_s vld adr):=by
 refine ⟨fok Tryz.func111 (by kernel_rfl) (by kernel_rfl),?_⟩
 intro xs pre r h hp
 unfold rAddresses_s at h
 split at h
 ·simp only [Option.some.injEq,Prod.mk.injEq] at h
  obtain ⟨h1,h2⟩:=h
  subst h1 h2
  exact fnK_sound tyNil (by exact specOK rfl rfl ⟨(rValid_ok gl),(rWeights_ok gl),(rOn_ok gl),trivial⟩ trivial) (by kernel_rfl) Tryz.func111 rfl (rAddresses_v gl _ _ _ _)
 ·cases h
def rNormal_s (vld:Int→Int→Int→Int→Bool) (adr:Int→Int→Int→Int→List (List AV)) (nrm:Int→Int→Int→Int→Int × Int × Int × Int):Sp
 | [.agg [.int .i64 f,.int .i64 a,.int .i64 b,.int .i64 c]]=>some (True,.tup [.agg [.int .i64 (nrm f a b c).1,.int .i64 (nrm f a b c).2.1,.int .i64 (nrm f a b c).2.2.1,.int .i64 (nrm f a b c).2.2.2],.int .i64 (err (vld f a b c))])
 | _=>none
def rNormal_T (vld:Int→Int→Int→Int→Bool) (adr:Int→Int→Int→Int→List (List AV)) (nrm:Int→Int→Int→Int→Int × Int × Int × Int):Prop :=
  ∀ (gl:Glob) (f a b c:Int),(IR9 f)∧(IR9 a)∧(IR9 b)∧(IR9 c)∧True→True∧bif decide ¬err (vld f a b c)=(0:Int) then ((0:Int)=(nrm f a b c).fst∧(0:Int)=(nrm f a b
 c).snd.fst∧(0:Int)=(nrm f a b c).snd.snd.fst∧(0:Int)=(nrm f a b c).snd.snd.snd∧True)∧err (vld f a b c)=err (vld f a b c)∧True else bif decide ((0:Int)≤(0:Int)∧(0:Int) < (↑(adr f a b c).length:Int)) then ∃ n n_1 n_2 n_3,List.take [AV.int .i64 n,.int .i64 n_1,.int .i64 n_2,.int .i64 n_3].length ((adr f a b c).getD (0:Nat) [])=[AV.int .i64 n,.int .i64 n_1,.int .i64 n_2,.int .i64 n_3]∧(n=(nrm f a b
 c).fst∧n_1=(nrm f a b c).snd.fst∧n_2=(nrm f a b c).snd.snd.fst∧n_3=(nrm f a b c).snd.snd.snd∧True)∧(0:Int)=err (vld f a b c)∧True else False
theorem rNormal_P:rNormal_T vld adr nrm:=by
 unfold rNormal_T
 intro gl f a b c h
 refine ⟨trivial,?_⟩
 cases hv:vld f a b c with
 | false =>
  have e:nrm f a b c=(0,0,0,0):=by unfold nrm; rw [hv]; rfl
  rw [e]
  exact cd1 (by decide) ⟨⟨rfl,rfl,rfl,rfl,trivial⟩,rfl,trivial⟩
 | true =>
  have v:Vld f a b c:=of_decide_eq_true hv
  obtain ⟨l,hl⟩:=adr_rows v
  have hh:=hl.head
  have hp:0 < l.length:=by
   cases l with
   | nil=>cases hh
   | cons x l=>simp
  have e0:(adr f a b c).getD 0 []=encP (nrm f a b c):=by
   rw [hl.adr,List.getD_eq_getElem?_getD,List.getElem?_map,hh]; rfl
  refine cd0 (by decide) (cd1 ⟨by decide,by rw [hl.adr,List.length_map]; omega⟩ ⟨_,_,_,_,by rw [e0]; rfl,⟨rfl,rfl,rfl,rfl,trivial⟩,rfl,trivial⟩)
def rNormal_S (vld:Int→Int→Int→Int→Bool) (adr:Int→Int→Int→Int→List (List AV)) (nrm:Int→Int→Int→Int→Int × Int × Int × Int):Prop:=∀ (gl:Glob) (f a b c:Int),fnK Tryz.prog { glob:=gl,spec:=lk [(111,(rAddresses_s vld adr))],specH:=lk [],shape:=[17],nowf:=true } { nt:=18,drop:=drp [(1,1984),(2,2048),(3,24576),(4,229376)] } (fun _ _=>none) 6 Tryz.f83 [.agg [.int .i64 f,.int .i64 a,.int .i64 b,.int .i64 c]] (.tup [.agg [.int .i64 (nrm f a b c).1,.int .i64 (nrm f a b c).2.1,.int .i64 (nrm f a b c).2.2.1,.int .i64 (nrm f a b c).2.2.2],.int .i64 (err (vld f a b c))])
theorem rNormal_e (vld:Int→Int→Int→Int→Bool) (adr:Int→Int→Int→Int→List (List AV)) (nrm:Int→Int→Int→Int→Int × Int × Int × Int):rNormal_T vld adr nrm=rNormal_S vld adr nrm:=by kernel_rfl
theorem rNormal_v:rNormal_S vld adr nrm:=Eq.mp (rNormal_e ..) (rNormal_P)
theorem rNormal_ok (gl:Glob):SOK Tryz.prog gl 83 (rNormal_s vld adr nrm):=by
 refine ⟨fok Tryz.func83 (by kernel_rfl) (by kernel_rfl),?_⟩
 intro xs pre r h hp
 unfold rNormal_s at h
 split at h
 ·simp only [Option.some.injEq,Prod.mk.injEq] at h
  obtain ⟨h1,h2⟩:=h
  subst h1 h2
  exact fnK_sound tyNil (by exact specOK rfl rfl ⟨(rAddresses_ok gl),trivial⟩ trivial) (by kernel_rfl) Tryz.func83 rfl (rNormal_v gl _ _ _ _)
 ·cases h
def isN (f a b c:Int):Bool:=vld f a b c&&(decide (f=(nrm f a b c).1)&&(decide (a=(nrm f a b c).2.1)&&(decide (b=(nrm f a b c).2.2.1)&&(decide (c=(nrm f a b c).2.2.2)&&true))))
def rIsN_s (nrm:Int→Int→Int→Int→Int × Int × Int × Int) (vld:Int→Int→Int→Int→Bool) (isN:Int→Int→Int→Int→Bool):Sp
 | [.agg [.int .i64 f,.int .i64 a,.int .i64 b,.int .i64 c]]=>some (True,.bool (isN f a b c))
 | _=>none
def rIsN_T (nrm:Int→Int→Int→Int→Int × Int × Int × Int) (vld:Int→Int→Int→Int→Bool) (isN:Int→Int→Int→Int→Bool) (adr:Int→Int→Int→Int→List (List AV)):Prop :=
 ∀ (gl:Glob) (f a b c:Int),(IR9 f)∧(IR9 a)∧(IR9 b)∧(IR9 c)∧True→True∧bif decide (err (vld f a b c)=(0:Int)) then (decide (f=(nrm f a b c).fst)&&(decide (a=(nrm f a b c).snd.fst)
&&(decide (b=(nrm f a b c).snd.snd.fst)&&(decide (c=(nrm f a b c).snd.snd.snd)&&true))))=isN f a b c else false=isN f a b c
theorem rIsN_P:rIsN_T nrm vld isN adr:=by
 unfold rIsN_T
 intro gl f a b c _
 refine ⟨trivial,?_⟩
 unfold isN
 cases vld f a b c with
 | true=>exact rfl
 | false=>exact rfl
def rIsN_S (nrm:Int→Int→Int→Int→Int × Int × Int × Int) (vld:Int→Int→Int→Int→Bool) (isN:Int→Int→Int→Int→Bool) (adr:Int→Int→Int→Int→List (List AV)):Prop:=∀ (gl:Glob) (f a b c:Int),fnK Tryz.prog { glob:=gl,spec:=lk [(83,(rNormal_s vld adr nrm))],specH:=lk [],nowf:=true } { nt:=17,drop:=drp [(1,992),(2,130048)],tys:=[26] } (fun _ _=>none) 6 Tryz.f52 [.agg [.int .i64 f,.int .i64 a,.int .i64 b,.int .i64 c]] (.bool (isN f a b c))
theorem rIsN_e (nrm:Int→Int→Int→Int→Int × Int × Int × Int) (vld:Int→Int→Int→Int→Bool) (isN:Int→Int→Int→Int→Bool) (adr:Int→Int→Int→Int→List (List AV)):rIsN_T nrm vld isN adr=rIsN_S nrm vld isN adr:=by kernel_rfl
theorem rIsN_v:rIsN_S nrm vld isN adr:=Eq.mp (rIsN_e ..) (rIsN_P)
theorem rIsN_ok (gl:Glob):SOK Tryz.prog gl 52 (rIsN_s nrm vld isN):=by
 refine ⟨fok Tryz.func52 (by kernel_rfl) (by kernel_rfl),?_⟩
 intro xs pre r h hp
 unfold rIsN_s at h
 split at h
 ·simp only [Option.some.injEq,Prod.mk.injEq] at h
  obtain ⟨h1,h2⟩:=h
  subst h1 h2
  exact fnK_sound (tyOf (by kernel_rfl)) (by exact specOK rfl rfl ⟨(rNormal_ok gl),trivial⟩ trivial) (by kernel_rfl) Tryz.func52 rfl (rIsN_v gl _ _ _ _)
 ·cases h
end Go.Proofs.YtldiagnbagpliaaGreatDoor
namespace Go.Proofs.YtldiagnbagpliaaGreatDoor
open Go
set_option linter.unusedVariables false
set_option linter.unusedSimpArgs false
def lp (y:Int):Int:=if y % 4=0 then 1 else 0
def len12 (y:Int):List Int:=[31,28+lp y,31,30,31,30,31,31,30,31,30,31]
def inB (t:Int):Bool:=decide (0≤t∧t≤52595999)
def cum (y:Int):Nat→Int
 | 0=>0
 | k+1=>cum y k+(len12 y).getD k 0
def fst' (y:Int):Int:=1440*(365*(y - 2000)+(y - 2000+3) / 4)
def mns (y m d h i:Int):Int:=fst' y+1440*(d - 1+cum y (m - 1).toNat)+60*h+i
structure VldC (y m d h i:Int):Prop where
 yr:2000≤y∧y≤2099
 mo:1≤m∧m≤12
 dy:1≤d∧d≤(len12 y).getD (m - 1).toNat 0
 hr:0≤h∧h < 24
 mi:0≤i∧i < 60
structure DateP (t y m d h i:Int):Prop where
 vld:VldC y m d h i
 eq:mns y m d h i=t
end Go.Proofs.YtldiagnbagpliaaGreatDoor
namespace Go.Proofs.YtldiagnbagpliaaGreatDoor
open Go
set_option linter.unusedVariables false
set_option linter.unusedSimpArgs false
structure YrR (y:Int):Prop where
 lo:2000≤y
 hi:y≤2100
structure MinP (y m d:Int) (x:Int × Int):Prop where
 lo:0≤x.1
 hi:x.1≤m - 1
 days:x.2=d - 1+cum y x.1.toNat
end Go.Proofs.YtldiagnbagpliaaGreatDoor
namespace Go.Proofs.YtldiagnbagpliaaGreatDoor
open Go
set_option linter.unusedVariables false
set_option linter.unusedSimpArgs false
structure DatP (t y:Int):Prop where
 lo:2000≤y
 hi:y≤2099
 le:fst' y≤t
structure DatQ (y r k:Int):Prop where
 lo:0≤k
 hi:k≤12
 le:cum y k.toNat≤r
end Go.Proofs.YtldiagnbagpliaaGreatDoor
namespace Go.Proofs.YtldiagnbagpliaaGreatDoor
open Go
set_option linter.unusedVariables false
set_option linter.unusedSimpArgs false
def rIn_s (inB:Int→Bool):Sp
 | [.int .i64 t]=>some (True,.bool (inB t))
 | _=>none
def rIn_T (inB:Int→Bool):Prop :=
 ∀ (gl:Glob) (t:Int),IR9 t→bif decide (0≤t) then decide (t≤(52595999:Int))=inB t else false=inB t
theorem rIn_P:rIn_T inB:=by
 unfold rIn_T
 intro gl t _
 unfold inB
 refine csplit (fun h1=>?_) (fun h1=>?_)
 ·have h1:=of_decide_eq_true h1; simp [h1]
 ·have h1:=of_decide_eq_false h1; simp [h1]
def rIn_S (inB:Int→Bool):Prop:=∀ (gl:Glob) (t:Int),fnK Tryz.prog { glob:=gl,spec:=lk [],specH:=lk [] } { nt:=9,drop:=drp [(1,504)] } (fun _ _=>none) 6 Tryz.f108 [.int .i64 t] (.bool (inB t))
theorem rIn_e (inB:Int→Bool):rIn_T inB=rIn_S inB:=by kernel_rfl
theorem rIn_v:rIn_S inB:=Eq.mp (rIn_e ..) (rIn_P)
theorem rIn_ok (gl:Glob):SOK Tryz.prog gl 108 (rIn_s inB):=by
 refine ⟨fok Tryz.func108 (by kernel_rfl) (by kernel_rfl),?_⟩
 intro xs pre r h hp
 unfold rIn_s at h
 split at h
 ·simp only [Option.some.injEq,Prod.mk.injEq] at h
  obtain ⟨h1,h2⟩:=h
  subst h1 h2
  exact fnK_sound tyNil (by exact specOK rfl rfl trivial trivial) (by kernel_rfl) Tryz.func108 rfl (rIn_v gl _)
 ·cases h
structure BefP (y:Int) (x:Int × Int):Prop where
 lo:2000≤x.2
 hi:x.2≤y
 eq:1440*x.1=fst' x.2
structure BefQ (y m:Int) (x:Int × Int):Prop where
 lo:1≤x.2
 hi:x.2≤m
 eq:1440*x.1=fst' y+1440*cum y (x.2 - 1).toNat
structure RdtP (t y:Int):Prop where
 lo:2000≤y
 hi:y≤2099
 le:fst' y≤t
structure RdtQ (y r k:Int):Prop where
 lo:1≤k
 hi:k≤12
 le:cum y (k - 1).toNat≤r
structure OneP (x:Unit):Prop where
 ok:True
structure RrsP (d h i near k:Int):Prop where
 lo:-3≤k
 hi:k≤4
end Go.Proofs.YtldiagnbagpliaaGreatDoor
namespace Go.Proofs.YtldiagnbagpliaaGreatDoor
open Go
set_option linter.unusedVariables false
set_option linter.unusedSimpArgs false
structure StrsA (ys:List (List AV)):Prop where
 fs:∀ x ∈ ys,∃ s:ByteArray,x=[.str s]
def qtext_s:SpQ
 | [.ptr 0 0,.rw 1 1 n],[.cells [.sl 1 false xs,.int .i64 i],.row 9 1 ys]=>some (fun K=>(SrcQ xs i∧(n=ys.length∧1≤n∧n≤1000)∧StrsA ys)∧(∀ (v:ByteArray) (j:Int),(PickQ ys (.str v) j)→K (.str v) [.cells [.sl 1 false xs,.int .i64 j],.row 9 1 ys]))
 | _,_=>none
def qtext_T:Prop :=
  ∀ (gl:Glob) (xs ys:List (List AV)) (i:Int) (n:Nat),SrcQ xs i∧(n=ys.length∧1≤n∧n≤(1000:Nat))∧StrsA ys→SrcQ xs i∧∀ (v j:Int),NumQ (↑n:Int) v j→bif decide (0≤v∧v < (↑n:Int)) then bif decide (n=ys.length∧v.toNat < ys.length) then ∃ s,List.take [AV.str s].length (List.drop (0:Nat) (ys.getD v.toNat []))=[AV.str s]∧∃ v j_1,PickQ ys (AV.str v)
 j_1∧s=v∧((True∧xs=xs)∧j=j_1∧True)∧ys=ys∧True else False else False
theorem qtext_P:qtext_T:=by
 unfold qtext_T
 intro gl xs ys i n ⟨hs,⟨h1,h2,h3⟩,hi⟩
 refine ⟨hs,fun v j hq=>?_⟩
 have hv:=hq.fv (by omega)
 have hj:=hq.fj
 have hl:v.toNat < ys.length:=by omega
 have hm:ys.getD v.toNat [] ∈ ys:=by
  rw [List.getD_eq_getElem?_getD,List.getElem?_eq_getElem hl]; exact List.getElem_mem hl
 obtain ⟨z,hz⟩:=hi.fs _ hm
 refine cd1 (by omega) (cd1 ⟨h1,hl⟩ ⟨z,by rw [hz]; rfl,z,j,⟨by rw [← hz]; exact hm,hj⟩,rfl,⟨⟨trivial,rfl⟩,rfl,trivial⟩,rfl,trivial⟩)
def qtext_S:Prop:=∀ (gl:Glob) (xs ys:List (List AV)) (i:Int) (n:Nat),SrcQ xs i∧(n=ys.length∧1≤n∧n≤1000)∧StrsA ys→fnQ Tryz.prog { glob:=gl,spec:=lk [],specH:=lk [],specQ:=lk [(37,qn_s)],shape:=[11],nowf:=true } { nt:=12,drop:=drp [(1,4064)],fr:=1000,kp:=[0,1] } (fun _ _=>none) 6 Tryz.f44 [.ptr 0 0,.rw 1 1 n] [.cells [.sl 1 false xs,.int .i64 i],.row 9 1 ys] (fun r2 bs2=>∃ (v:ByteArray) (j:Int),(PickQ ys (.str v) j)∧le r2 (.str v)∧leBs bs2 [.cells [.sl 1 false xs,.int .i64 j],.row 9 1 ys])
theorem qtext_e:qtext_T=qtext_S:=by kernel_rfl
theorem qtext_v:qtext_S:=Eq.mp (qtext_e ..) (qtext_P)
theorem qtext_ok (gl:Glob):QOK Tryz.prog gl 44 qtext_s:=by
 refine ⟨fok Tryz.func44 (by kernel_rfl) (by kernel_rfl),?_⟩
 intro xs bs T h K hT
 unfold qtext_s at h
 split at h
 ·simp only [Option.some.injEq] at h
  subst h
  obtain ⟨hp,hK⟩:=hT
  obtain ⟨r,bs2,⟨o0,o1,hq,hl,hb⟩,hC⟩:=fnQ_sound tyNil (by exact specOK rfl rfl trivial trivial (d:=qsOf rfl ⟨(qn_ok gl),trivial⟩)) (by kernel_rfl) Tryz.func44 (qtext_v gl _ _ _ _ hp)
  exact ⟨_,_,hK o0 o1 hq,hC.le hl hb⟩
 ·cases h
structure MinQ (m j:Int):Prop where
 fm:0≤m∧m≤52595999
 fj:0≤j
def qminute_s:SpQ
 | [.ptr 0 0],[.cells [.sl 1 false xs,.int .i64 i]]=>some (fun K=>(SrcQ xs i)∧(∀ (m j:Int),(MinQ m j)→K (.int .i64 m) [.cells [.sl 1 false xs,.int .i64 j]]))
 | _,_=>none
def qminute_T:Prop :=
  ∀ (gl:Glob) (xs:List (List AV)) (i:Int),SrcQ xs i→SrcQ xs i∧∀ (v j:Int),NumQ (6:Int) v j→bif decide (v=(0:Int)) then SrcQ xs j∧∀ (v j:Int),RawQ v j→SrcQ xs j∧∀ (v_1 j:Int),RawQ v_1 j→True∧∃ m j_1,MinQ m j_1∧modZ (IntKind.i64.wrap (IntKind.i64.wrap (v*(7919:Int))+v_1)) (52596000:Int)=m∧((True∧xs=xs)∧j=j_1∧True)∧True else bif decide (v=(1:Int)) then (SrcQ xs j∧((4:Nat)=4∧(1:Nat) ≤
 (4:Nat)∧(4:Nat)≤(1000:Nat))∧IntsB [[AV.int .i64 (0:Int)],[AV.int .i64 (52595999:Int)],[AV.int .i64 (20160:Int)],[AV.int .i64 (52575839:Int)]])∧∀ (v j:Int),PickQ [[AV.int .i64 (0:Int)],[AV.int .i64 (52595999:Int)],[AV.int .i64 (20160:Int)],[AV.int .i64 (52575839:Int)]] (AV.int .i64 v) j→∃ m j_1,MinQ m j_1∧v=m∧((True∧xs=xs)∧j=j_1∧True)∧True else SrcQ xs j∧∀ (v j:Int),NumQ (2000:Int) v j→∃ m
 j_1,MinQ m j_1∧IntKind.i64.wrap ((14000000:Int)+IntKind.i64.wrap (v*(60:Int)))=m∧((True∧xs=xs)∧j=j_1∧True)∧True
theorem qminute_P:qminute_T:=by
 unfold qminute_T
 intro gl xs i hs
 have s:=hs.s
 refine ⟨hs,fun v j hq=>cs (fun h=>⟨⟨s,hq.fj⟩,fun v j q1=>⟨⟨s,q1.fj⟩,fun v2 j q2=>⟨trivial,_,_,⟨?_,q2.fj⟩,rfl,⟨⟨trivial,rfl⟩,rfl,trivial⟩,trivial⟩⟩⟩) (fun h=>cs (fun h=>⟨⟨⟨s,hq.fj⟩,⟨rfl,by decide,by decide⟩,ints_of [0,52595999,20160,52575839] (by decide)⟩,fun v j q1=>⟨_,_,⟨?_,q1.fj⟩,rfl,⟨⟨trivial,rfl⟩,rfl,trivial⟩,trivial⟩⟩) (fun h=>⟨⟨s,hq.fj⟩,fun v j q1=>⟨_,_,⟨?_,q1.fj⟩,rfl,⟨⟨trivial,rfl⟩,rfl,trivial⟩,trivial⟩⟩))⟩
 ·have:∀ z:Int,0≤modZ z 52596000∧modZ z 52596000≤52595999:=by
   intro z
   unfold modZ
   rw [if_neg (by decide)]
   omega
  exact this _
 ·have:=pick_of [0,52595999,20160,52575839] q1
  simp only [List.mem_cons,List.not_mem_nil,or_false] at this
  omega
 ·have hv:=q1.fv (by decide)
  rw [wrap_eq (k:=.i64) (n:=v*60) (by show _∧_; omega),wrap_eq (k:=.i64) (by show _∧_; omega)]
  omega
def qminute_S:Prop:=∀ (gl:Glob) (xs:List (List AV)) (i:Int),SrcQ xs i→fnQ Tryz.prog { glob:=gl,spec:=lk [(38,mod_s)],specH:=lk [],specQ:=lk [(37,qn_s),(39,qraw_s),(40,qpick_s)],nowf:=true,wrap:=true } { nt:=23,drop:=drp [(1,8),(2,64),(3,16256),(4,32768),(5,458752),(6,7864320)],fr:=1000,kp:=[0] } (fun _ _=>none) 6 Tryz.f11 [.ptr 0 0] [.cells [.sl 1 false xs,.int .i64 i]] (fun r2 bs2=>∃ (m j:Int),(MinQ m j)∧le r2 (.int .i64 m)∧leBs bs2 [.cells [.sl 1 false xs,.int .i64 j]])
theorem qminute_e:qminute_T=qminute_S:=by kernel_rfl
theorem qminute_v:qminute_S:=Eq.mp (qminute_e ..) (qminute_P)
theorem qminute_ok (gl:Glob):QOK Tryz.prog gl 11 qminute_s:=by
 refine ⟨fok Tryz.func11 (by kernel_rfl) (by kernel_rfl),?_⟩
 intro xs bs T h K hT
 unfold qminute_s at h
 split at h
 ·simp only [Option.some.injEq] at h
  subst h
  obtain ⟨hp,hK⟩:=hT
  obtain ⟨r,bs2,⟨o0,o1,hq,hl,hb⟩,hC⟩:=fnQ_sound tyNil (by exact specOK rfl rfl ⟨(mod_ok gl),trivial⟩ trivial (d:=qsOf rfl ⟨(qn_ok gl),(qraw_ok gl),(qpick_ok gl),trivial⟩)) (by kernel_rfl) Tryz.func11 (qminute_v gl _ _ hp)
  exact ⟨_,_,hK o0 o1 hq,hC.le hl hb⟩
 ·cases h
def qnear_s:SpQ
 | [.ptr 0 0,.int .i64 near],[.cells [.sl 1 false xs,.int .i64 i]]=>some (fun K=>(SrcQ xs i∧0≤near∧near≤52595999)∧(∀ (m j:Int),(MinQ m j)→K (.int .i64 m) [.cells [.sl 1 false xs,.int .i64 j]]))
 | _,_=>none
def qnear_T:Prop :=
  ∀ (gl:Glob) (xs:List (List AV)) (i near:Int),SrcQ xs i∧0≤near∧near≤(52595999:Int)→(SrcQ xs i∧(-600:Int)≤(600:Int)∧(-1000000000:Int)≤(-600:Int)∧(600:Int)≤(1000000000:Int))∧∀ (v j:Int),((-600:Int)≤v∧v≤(600:Int))∧0≤j→(SrcQ xs j∧(-20159:Int)≤(20159:Int)∧(-1000000000:Int)≤(-20159:Int)∧(20159:Int)≤(1000000000:Int))∧∀ (v_1 j:Int),((-20159:Int)≤v_1∧v_1 ≤
 (20159:Int))∧0≤j→(SrcQ xs j∧((3:Nat)=[[AV.int .i64 (0:Int)],[AV.int .i64 v],[AV.int .i64 v_1]].length∧(1:Nat)≤(3:Nat)∧(3:Nat)≤(1000:Nat))∧IntsB [[AV.int .i64 (0:Int)],[AV.int .i64 v],[AV.int .i64 v_1]])∧∀ (v_2 j:Int),PickQ [[AV.int .i64 (0:Int)],[AV.int .i64 v],[AV.int .i64 v_1]] (AV.int .i64 v_2) j→bif decide (rng .i64 (near+v_2)) then ∃ m j_1,MinQ m j_1∧max (0:Int) (min
 (52595999:Int) (near+v_2))=m∧((True∧xs=xs)∧j=j_1∧True)∧True else False
theorem qnear_P:qnear_T:=by
 unfold qnear_T
 intro gl xs i near ⟨hs,h1,h2⟩
 have s:=hs.s
 refine ⟨⟨hs,by decide,by decide,by decide⟩,fun v j q1=>⟨⟨⟨s,q1.2⟩,by decide,by decide,by decide⟩,fun v2 j q2=>⟨⟨⟨s,q2.2⟩,⟨rfl,by decide,by decide⟩,ints_of [0,v,v2] ?_⟩,fun v3 j q3=>?_⟩⟩⟩
 ·intro n hn
  simp only [List.mem_cons,List.not_mem_nil,or_false] at hn
  show _∧_
  omega
 ·have:=pick_of [0,v,v2] q3
  simp only [List.mem_cons,List.not_mem_nil,or_false] at this
  exact cdI (by omega) ⟨_,_,⟨by omega,q3.fj⟩,rfl,⟨⟨trivial,rfl⟩,rfl,trivial⟩,trivial⟩
def qnear_S:Prop:=∀ (gl:Glob) (xs:List (List AV)) (i near:Int),SrcQ xs i∧0≤near∧near≤52595999→fnQ Tryz.prog { glob:=gl,spec:=lk [],specH:=lk [],specQ:=lk [(24,qrange_s),(40,qpick_s)],nowf:=true } { nt:=16,drop:=drp [(1,65504)],fr:=1000,kp:=[0] } (fun _ _=>none) 6 Tryz.f29 [.ptr 0 0,.int .i64 near] [.cells [.sl 1 false xs,.int .i64 i]] (fun r2 bs2=>∃ (m j:Int),(MinQ m j)∧le r2 (.int .i64 m)∧leBs bs2 [.cells [.sl 1 false xs,.int .i64 j]])
theorem qnear_e:qnear_T=qnear_S:=by kernel_rfl
theorem qnear_v:qnear_S:=Eq.mp (qnear_e ..) (qnear_P)
theorem qnear_ok (gl:Glob):QOK Tryz.prog gl 29 qnear_s:=by
 refine ⟨fok Tryz.func29 (by kernel_rfl) (by kernel_rfl),?_⟩
 intro xs bs T h K hT
 unfold qnear_s at h
 split at h
 ·simp only [Option.some.injEq] at h
  subst h
  obtain ⟨hp,hK⟩:=hT
  obtain ⟨r,bs2,⟨o0,o1,hq,hl,hb⟩,hC⟩:=fnQ_sound tyNil (by exact specOK rfl rfl trivial trivial (d:=qsOf rfl ⟨(qrange_ok gl),(qpick_ok gl),trivial⟩)) (by kernel_rfl) Tryz.func29 (qnear_v gl _ _ _ hp)
  exact ⟨_,_,hK o0 o1 hq,hC.le hl hb⟩
 ·cases h
theorem nrm_ok {f a b c:Int} (hv:Vld f a b c):Vld (nrm f a b c).1 (nrm f a b c).2.1 (nrm f a b c).2.2.1 (nrm f a b c).2.2.2∧isN (nrm f a b c).1 (nrm f a b c).2.1 (nrm f a b c).2.2.1 (nrm f a b c).2.2.2=true:=by
 obtain ⟨n,hn,ho,e⟩:=nrm_row hv
 have r:=row_of hv hn ho
 rw [e]
 refine ⟨r.vld,?_⟩
 unfold isN
 rw [r.nrm,e,vld_t r.vld]
 simp
structure PlaQ (f a b c j:Int):Prop where
 fv:Vld f a b c
 fn:isN f a b c=true
 fj:0≤j
structure PlaC (x:Int × Int × Int):Prop where
 ff:0≤x.1∧x.1 < 20
 fa:0≤x.2.1∧x.2.1≤840
 fj:0≤x.2.2
def plaC (xs:List (List AV)):LInv:=⟨Int × Int × Int,fun x=>⟨[(0,.ptr 0 0),(2,.ptr 1002 0),(3,.ptr 1003 0)],[(0,.cells [.sl 1 false xs,.int .i64 x.2.2]),(1002,.cells [.int .i64 0,.int .i64 0,.int .i64 0,.int .i64 0]),(1003,.cells [.int .i64 x.1,.int .i64 x.2.1,.int .i64 0,.int .i64 0])]⟩,PlaC,fun _=>0,none⟩
def qplace_s:SpQ
 | [.ptr 0 0],[.cells [.sl 1 false xs,.int .i64 i]]=>some (fun K=>(SrcQ xs i)∧(∀ (f a b c j:Int),(PlaQ f a b c j)→K (.agg [.int .i64 f,.int .i64 a,.int .i64 b,.int .i64 c]) [.cells [.sl 1 false xs,.int .i64 j]]))
 | _,_=>none
def qplace_T (vld:Int→Int→Int→Int→Bool) (adr:Int→Int→Int→Int→List (List AV)) (nrm:Int→Int→Int→Int→Int × Int × Int × Int):Prop :=
  ∀ (gl:Glob) (xs:List (List AV)) (i:Int),SrcQ xs i→SrcQ xs i∧∀ (v j:Int),NumQ (20:Int) v j→SrcQ xs j∧∀ (v_1 j:Int),NumQ (841:Int) v_1 j→(SrcQ xs j∧∀ (v_2 j:Int),NumQ (4:Int) v_2 j→bif decide (v_2=(0:Int)) then SrcQ xs j∧∀ (v_3 j:Int),NumQ (9:Int) v_3 j→bif decide (rng .i64 ((105:Int)*v_3)) then ∃ x,PlaC
 x∧((0:Nat)=0∧(0:Nat)=0∧(0:Nat)=0∧True)∧((True∧xs=xs)∧j=x.snd.snd∧True)∧((0:Int)=0∧(0:Int)=0∧(0:Int)=0∧(0:Int)=0∧True)∧(v=x.fst∧(105:Int)*v_3=x.snd.fst∧(0:Int)=0∧(0:Int)=0∧True)∧True else False else bif decide (v_2=(1:Int)) then SrcQ xs j∧∀ (v_3 j:Int),NumQ (5:Int) v_3 j→bif decide (rng .i64 ((210:Int)*v_3)) then ∃ x,PlaC
 x∧((0:Nat)=0∧(0:Nat)=0∧(0:Nat)=0∧True)∧((True∧xs=xs)∧j=x.snd.snd∧True)∧((0:Int)=0∧(0:Int)=0∧(0:Int)=0∧(0:Int)=0∧True)∧(v=x.fst∧(210:Int)*v_3=x.snd.fst∧(0:Int)=0∧(0:Int)=0∧True)∧True else False else ∃ x,PlaC x∧((0:Nat)=0∧(0:Nat)=0∧(0:Nat)=0∧True)∧((True∧xs=xs)∧j=x.snd.snd∧True)∧((0:Int)=0∧(0:Int)=0∧(0:Int)=0∧(0:Int)=0∧True)∧(v=x.fst∧v_1=x.snd.fst∧(0:Int)=0∧(0:Int)=0∧True)∧True)∧∀ (x:Int × Int ×
 Int),PlaC x→bif decide (rng .i64 ((840:Int) - x.snd.fst)) then bif decide (rng .i64 ((840:Int) - x.snd.fst+(1:Int))) then SrcQ xs x.snd.snd∧∀ (v j:Int),NumQ ((840:Int) - x.snd.fst+(1:Int)) v j→SrcQ xs j∧∀ (v_2 j:Int),NumQ (3:Int) v_2 j→bif decide (v_2=(0:Int)) then bif decide (rng .i64 (v - v.tmod (105:Int))) then bif decide (rng .i64 ((840:Int) - x.snd.fst)) then bif decide (rng .i64
 ((840:Int) - x.snd.fst - (v - v.tmod (105:Int)))) then True∧∃ f a b c j_1,PlaQ f a b c j_1∧((nrm x.fst x.snd.fst (v - v.tmod (105:Int)) ((840:Int) - x.snd.fst - (v - v.tmod (105:Int)))).fst=f∧(nrm x.fst x.snd.fst (v - v.tmod (105:Int)) ((840:Int) - x.snd.fst - (v - v.tmod (105:Int)))).snd.fst=a∧(nrm x.fst x.snd.fst (v - v.tmod (105:Int)) ((840:Int) - x.snd.fst - (v - v.tmod
 (105:Int)))).snd.snd.fst=b∧(nrm x.fst x.snd.fst (v - v.tmod (105:Int)) ((840:Int) - x.snd.fst - (v - v.tmod (105:Int)))).snd.snd.snd=c∧True)∧((True∧xs=xs)∧j=j_1∧True)∧True else False else False else False else bif decide (rng .i64 ((840:Int) - x.snd.fst)) then bif decide (rng .i64 ((840:Int) - x.snd.fst - v)) then True∧∃ f a b c j_1,PlaQ f a b c j_1∧((nrm x.fst x.snd.fst v ((840:Int) - x.snd.fst -
 v)).fst=f∧(nrm x.fst x.snd.fst v ((840:Int) - x.snd.fst - v)).snd.fst=a∧(nrm x.fst x.snd.fst v ((840:Int) - x.snd.fst - v)).snd.snd.fst=b∧(nrm x.fst x.snd.fst v ((840:Int) - x.snd.fst - v)).snd.snd.snd=c∧True)∧((True∧xs=xs)∧j=j_1∧True)∧True else False else False else False else False
theorem qplace_P:qplace_T vld adr nrm:=by
 unfold qplace_T
 intro gl xs i hs
 have s:=hs.s
 refine ⟨hs,fun v j q1=>⟨⟨s,q1.fj⟩,fun v1 j q2=>⟨⟨⟨s,q2.fj⟩,fun v2 j q3=>?_⟩,?_⟩⟩⟩
 ·have h1:=q1.fv (by decide)
  have h2:=q2.fv (by decide)
  refine cs (fun _=>⟨⟨s,q3.fj⟩,fun v3 j q4=>?_⟩) (fun _=>cs (fun _=>⟨⟨s,q3.fj⟩,fun v3 j q4=>?_⟩) (fun _=>?_))
  ·have h3:=q4.fv (by decide)
   exact cdI (by omega) ⟨(v,105*v3,j),⟨by simp only; omega,by simp only; omega,q4.fj⟩,⟨rfl,rfl,rfl,trivial⟩,⟨⟨trivial,rfl⟩,rfl,trivial⟩,⟨rfl,rfl,rfl,rfl,trivial⟩,⟨rfl,rfl,rfl,rfl,trivial⟩,trivial⟩
  ·have h3:=q4.fv (by decide)
   exact cdI (by omega) ⟨(v,210*v3,j),⟨by simp only; omega,by simp only; omega,q4.fj⟩,⟨rfl,rfl,rfl,trivial⟩,⟨⟨trivial,rfl⟩,rfl,trivial⟩,⟨rfl,rfl,rfl,rfl,trivial⟩,⟨rfl,rfl,rfl,rfl,trivial⟩,trivial⟩
  ·exact ⟨(v,v1,j),⟨by simp only; omega,by simp only; omega,q3.fj⟩,⟨rfl,rfl,rfl,trivial⟩,⟨⟨trivial,rfl⟩,rfl,trivial⟩,⟨rfl,rfl,rfl,rfl,trivial⟩,⟨rfl,rfl,rfl,rfl,trivial⟩,trivial⟩
 ·rintro ⟨f,a,j⟩ ⟨hf,ha,hj⟩
  simp only at hf ha hj
  dsimp only
  refine cdI (by omega) (cdI (by omega) ⟨⟨s,hj⟩,fun b j q1=>⟨⟨s,q1.fj⟩,fun v2 j q2=>?_⟩⟩)
  have hb:=q1.fv (by omega)
  refine cs (fun _=>?_) (fun _=>?_)
  ·have e:b.tmod 105=b % 105:=Int.tmod_eq_emod_of_nonneg hb.1
   rw [e]
   have hn:=nrm_ok (f:=f) (a:=a) (b:=b - b % 105) (c:=840 - a - (b - b % 105)) ⟨hf,by omega,by omega,by omega,by omega⟩
   exact cdI (by omega) (cdI (by omega) (cdI (by omega) ⟨trivial,_,_,_,_,_,⟨hn.1,hn.2,q2.fj⟩,⟨rfl,rfl,rfl,rfl,trivial⟩,⟨⟨trivial,rfl⟩,rfl,trivial⟩,trivial⟩))
  ·have hn:=nrm_ok (f:=f) (a:=a) (b:=b) (c:=840 - a - b) ⟨hf,by omega,by omega,by omega,by omega⟩
   exact cdI (by omega) (cdI (by omega) ⟨trivial,_,_,_,_,_,⟨hn.1,hn.2,q2.fj⟩,⟨rfl,rfl,rfl,rfl,trivial⟩,⟨⟨trivial,rfl⟩,rfl,trivial⟩,trivial⟩)
def qplace_S (vld:Int→Int→Int→Int→Bool) (adr:Int→Int→Int→Int→List (List AV)) (nrm:Int→Int→Int→Int→Int × Int × Int × Int):Prop:=∀ (gl:Glob) (xs:List (List AV)) (i:Int),SrcQ xs i→fnQ Tryz.prog { glob:=gl,spec:=lk [(83,(rNormal_s vld adr nrm))],specH:=lk [],specQ:=lk [(37,qn_s)],nowf:=true } { nt:=55,drop:=drp [(1,1984),(2,2048),(3,16384),(4,491520),(5,1048576),(6,31457280),(7,4261412864),(8,12884901888),(9,4363686772736),(10,558551906910208),(11,17451448556060672),(12,18014398509481984)],fr:=1000,kp:=[0] } (invs [(100007,plaC xs)]) 6 Tryz.f43 [.ptr 0 0] [.cells [.sl 1 false xs,.int .i64 i]] (fun r2 bs2=>∃ (f a b c j:Int),(PlaQ f a b c j)∧le r2 (.agg [.int .i64 f,.int .i64 a,.int .i64 b,.int .i64 c])∧leBs bs2 [.cells [.sl 1 false xs,.int .i64 j]])
theorem qplace_e (vld:Int→Int→Int→Int→Bool) (adr:Int→Int→Int→Int→List (List AV)) (nrm:Int→Int→Int→Int→Int × Int × Int × Int):qplace_T vld adr nrm=qplace_S vld adr nrm:=by kernel_rfl
theorem qplace_v:qplace_S vld adr nrm:=Eq.mp (qplace_e ..) (qplace_P)
theorem qplace_ok (gl:Glob):QOK Tryz.prog gl 43 qplace_s:=by
 refine ⟨fok Tryz.func43 (by kernel_rfl) (by kernel_rfl),?_⟩
 intro xs bs T h K hT
 unfold qplace_s at h
 split at h
 ·simp only [Option.some.injEq] at h
  subst h
  obtain ⟨hp,hK⟩:=hT
  obtain ⟨r,bs2,⟨o0,o1,o2,o3,o4,hq,hl,hb⟩,hC⟩:=fnQ_sound tyNil (by exact specOK rfl rfl ⟨(rNormal_ok gl),trivial⟩ trivial (d:=qsOf rfl ⟨(qn_ok gl),trivial⟩)) (by kernel_rfl) Tryz.func43 (qplace_v gl _ _ hp)
  exact ⟨_,_,hK o0 o1 o2 o3 o4 hq,hC.le hl hb⟩
 ·cases h
end Go.Proofs.YtldiagnbagpliaaGreatDoor
namespace Go.Proofs.YtldiagnbagpliaaGreatDoor
open Go
set_option linter.unusedVariables false
set_option linter.unusedSimpArgs false
def nam6:List ByteArray:=[⟨#[65,76,80,72,65]⟩,⟨#[66,82,65,86,79]⟩,⟨#[48,49,50,51,52]⟩,⟨#[68,69,76,84,65]⟩,⟨#[69,67,72,79,55]⟩,⟨#[55,55,55,55,55]⟩]
theorem sT {xs:List (List AV)} {j:Int}:((True∧xs=xs)∧j=j∧True)∧True:=⟨⟨⟨trivial,rfl⟩,rfl,trivial⟩,trivial⟩
theorem in_bd {c:Int} (h:1≤c∧c≤11):-1000≤inLo c∧inLo c+1≤inHi c∧inHi c≤11000∧inLo c+40≤(inLo c+inHi c).tdiv 2∧(inLo c+inHi c).tdiv 2+40≤inHi c:=by
 have hc:c=1∨c=2∨c=3∨c=4∨c=5∨c=6∨c=7∨c=8∨c=9∨c=10∨c=11:=by omega
 rcases hc with rfl | rfl | rfl | rfl | rfl | rfl | rfl | rfl | rfl | rfl | rfl <;> decide
structure NamQ (s:ByteArray) (j:Int):Prop where
 fs:s ∈ nam6
 fj:0≤j
def qname_s:SpQ
 | [.ptr 0 0],[.cells [.sl 1 false xs,.int .i64 i]]=>some (fun K=>(SrcQ xs i)∧(∀ (s:ByteArray) (j:Int),(NamQ s j)→K (.str s) [.cells [.sl 1 false xs,.int .i64 j]]))
 | _,_=>none
def qname_T:Prop :=
  ∀ (gl:Glob) (xs:List (List AV)) (i:Int),SrcQ xs i→(SrcQ xs i∧((6:Nat)=6∧(1:Nat)≤(6:Nat)∧(6:Nat)≤(1000:Nat))∧StrsA [[AV.str { data:=#[(65:UInt8),(76:UInt8),(80:UInt8),(72:UInt8),(65:UInt8)] }],[AV.str { data:=#[(66:UInt8),(82:UInt8),(65:UInt8),(86:UInt8),(79:UInt8)] }],[AV.str { data:=#[(48:UInt8),(49:UInt8),(50:UInt8),(51:UInt8),(52:UInt8)] }],[AV.str {
 data:=#[(68:UInt8),(69:UInt8),(76:UInt8),(84:UInt8),(65:UInt8)] }],[AV.str { data:=#[(69:UInt8),(67:UInt8),(72:UInt8),(79:UInt8),(55:UInt8)] }],[AV.str { data:=#[(55:UInt8),(55:UInt8),(55:UInt8),(55:UInt8),(55:UInt8)] }]])∧∀ (v:ByteArray) (j:Int),PickQ [[AV.str { data:=#[(65:UInt8),(76:UInt8),(80:UInt8),(72:UInt8),(65:UInt8)] }],[AV.str { data :=
 #[(66:UInt8),(82:UInt8),(65:UInt8),(86:UInt8),(79:UInt8)] }],[AV.str { data:=#[(48:UInt8),(49:UInt8),(50:UInt8),(51:UInt8),(52:UInt8)] }],[AV.str { data:=#[(68:UInt8),(69:UInt8),(76:UInt8),(84:UInt8),(65:UInt8)] }],[AV.str { data:=#[(69:UInt8),(67:UInt8),(72:UInt8),(79:UInt8),(55:UInt8)] }],[AV.str { data:=#[(55:UInt8),(55:UInt8),(55:UInt8),(55
:UInt8),(55:UInt8)] }]] (AV.str v) j→∃ s j_1,NamQ s j_1∧v=s∧((True∧xs=xs)∧j=j_1∧True)∧True
theorem qname_P:qname_T:=by
 unfold qname_T
 intro gl xs i hs
 refine ⟨⟨hs,⟨rfl,by decide,by decide⟩,⟨fun x hx=>?_⟩⟩,fun v j q=>⟨_,_,⟨?_,q.fj⟩,rfl,sT⟩⟩
 ·simp only [List.mem_cons,List.not_mem_nil,or_false] at hx
  rcases hx with rfl | rfl | rfl | rfl | rfl | rfl <;> exact ⟨_,rfl⟩
 ·have:=q.fm
  simp only [List.mem_cons,List.cons.injEq,AV.str.injEq,and_true,List.not_mem_nil,or_false] at this
  unfold nam6
  simp only [List.mem_cons,List.not_mem_nil,or_false]
  exact this
def qname_S:Prop:=∀ (gl:Glob) (xs:List (List AV)) (i:Int),SrcQ xs i→fnQ Tryz.prog { glob:=gl,spec:=lk [],specH:=lk [],specQ:=lk [(44,qtext_s)],nowf:=true } { nt:=6,drop:=drp [(1,56)],fr:=1000,kp:=[0] } (fun _ _=>none) 6 Tryz.f22 [.ptr 0 0] [.cells [.sl 1 false xs,.int .i64 i]] (fun r2 bs2=>∃ (s:ByteArray) (j:Int),(NamQ s j)∧le r2 (.str s)∧leBs bs2 [.cells [.sl 1 false xs,.int .i64 j]])
theorem qname_e:qname_T=qname_S:=by kernel_rfl
theorem qname_v:qname_S:=Eq.mp (qname_e ..) (qname_P)
theorem qname_ok (gl:Glob):QOK Tryz.prog gl 22 qname_s:=by
 refine ⟨fok Tryz.func22 (by kernel_rfl) (by kernel_rfl),?_⟩
 intro xs bs T h K hT
 unfold qname_s at h
 split at h
 ·simp only [Option.some.injEq] at h
  subst h
  obtain ⟨hp,hK⟩:=hT
  obtain ⟨r,bs2,⟨o0,o1,hq,hl,hb⟩,hC⟩:=fnQ_sound tyNil (by exact specOK rfl rfl trivial trivial (d:=qsOf rfl ⟨(qtext_ok gl),trivial⟩)) (by kernel_rfl) Tryz.func22 (qname_v gl _ _ hp)
  exact ⟨_,_,hK o0 o1 hq,hC.le hl hb⟩
 ·cases h
structure SomQ (c v j:Int):Prop where
 fv:inLo c≤v∧v≤inHi c
 fj:0≤j
structure RdV (c:Int) (ys:List (List AV)):Prop where
 frow:∀ i,i < ys.length→∃ e v:Int,ys.getD i []=[.int .i64 e,.int .i64 v]∧(1≤e∧e < c)∧inLo e≤v∧v≤inHi e
 fasc:∀ i j:Nat,i < j→j < ys.length→rE (ys.getD i []) < rE (ys.getD j [])
 flen:(ys.length:Int)≤c - 1
theorem gD_app {α:Type} {xs ys:List α} {d:α} {i:Nat}:(xs++ys).getD i d=if i < xs.length then xs.getD i d else ys.getD (i - xs.length) d:=by
 rw [List.getD_eq_getElem?_getD,List.getD_eq_getElem?_getD,List.getD_eq_getElem?_getD]
 by_cases h:i < xs.length
 ·rw [if_pos h,List.getElem?_append_left h]
 ·rw [if_neg h,List.getElem?_append_right (by omega)]
structure LstP (x:Int × Int × List (List AV)):Prop where
 fc:1≤x.1∧x.1≤12
 fj:0≤x.2.1
 fr:RdV x.1 x.2.2
structure RdQ (ys:List (List AV)) (j:Int):Prop where
 fr:RdV 12 ys
 fj:0≤j
structure RepQ (k:Int) (nm:ByteArray) (t f a b c:Int) (ys:List (List AV)) (j:Int):Prop where
 fk:1≤k∧k≤3
 fn:nm ∈ nam6
 ft:0≤t∧t≤52595999
 fl:k=1→f=0∧a=0∧b=0∧c=0
 fp:¬ k=1→Vld f a b c∧isN f a b c=true
 fr:RdV 12 ys
 fj:0≤j
end Go.Proofs.YtldiagnbagpliaaGreatDoor
namespace Go.Proofs.YtldiagnbagpliaaGreatDoor
open Go
set_option linter.unusedVariables false
set_option linter.unusedSimpArgs false
def cmpI (a b:Int):Int:=if a < b then -1 else if b < a then 1 else 0
theorem cmp_lt {a b:Int} (h:a < b):cmpI a b=-1:=by unfold cmpI; rw [if_pos h]
theorem cmp_eq {a b:Int} (h:a=b):cmpI a b=0:=by unfold cmpI; rw [if_neg (by omega),if_neg (by omega)]
theorem cmp_gt {a b:Int} (h:b < a):cmpI a b=1:=by unfold cmpI; rw [if_neg (by omega),if_pos h]
theorem cmp_neg (p q:Int):cmpI p q < 0↔p < q:=by unfold cmpI; split <;> (try split) <;> omega
theorem cmp_zero (p q:Int):cmpI p q=0↔p=q:=by unfold cmpI; split <;> (try split) <;> omega
def nanI_s:Sp
 | [.int .i64 a]=>some (True,.bool false)
 | _=>none
def nanI_T:Prop :=
 ∀ (gl:Glob) (a:Int),IR9 a→(decide ¬a=a)=false
theorem nanI_P:nanI_T:=by
 unfold nanI_T
 intro gl a _
 exact decide_eq_false (fun h=>h rfl)
def nanI_S:Prop:=∀ (gl:Glob) (a:Int),fnK Tryz.prog { glob:=gl,spec:=lk [],specH:=lk [] } { nt:=6,drop:=drp [(1,56)] } (fun _ _=>none) 6 Tryz.f120 [.int .i64 a] (.bool false)
theorem nanI_e:nanI_T=nanI_S:=by kernel_rfl
theorem nanI_v:nanI_S:=Eq.mp (nanI_e ..) (nanI_P)
theorem nanI_ok (gl:Glob):SOK Tryz.prog gl 120 nanI_s:=by
 refine ⟨fok Tryz.func120 (by kernel_rfl) (by kernel_rfl),?_⟩
 intro xs pre r h hp
 unfold nanI_s at h
 split at h
 ·simp only [Option.some.injEq,Prod.mk.injEq] at h
  obtain ⟨h1,h2⟩:=h
  subst h1 h2
  exact fnK_sound tyNil (by exact specOK rfl rfl trivial trivial) (by kernel_rfl) Tryz.func120 rfl (nanI_v gl _)
 ·cases h
def fcmpI_s (cmpI:Int→Int→Int):Sp
 | [.int .i64 a,.int .i64 b]=>some (True,.int .i64 (cmpI a b))
 | _=>none
def fcmpI_T (cmpI:Int→Int→Int):Prop :=
 ∀ (gl:Glob) (a b:Int),IR9 a→IR9 b→True∧True∧bif decide (a < b) then (-1:Int)=cmpI a b else bif decide (b < a) then (1:Int)=cmpI a b else (0:Int)=cmpI a b
theorem fcmpI_P:fcmpI_T cmpI:=by
 unfold fcmpI_T
 intro gl a b _ _
 unfold cmpI
 refine ⟨trivial,trivial,cs (fun h=>?_) (fun h=>cs (fun k=>?_) (fun k=>?_))⟩
 ·rw [if_pos h]
 ·rw [if_neg h,if_pos k]
 ·rw [if_neg h,if_neg k]
def fcmpI_S (cmpI:Int→Int→Int):Prop:=∀ (gl:Glob) (a b:Int),fnK Tryz.prog { glob:=gl,spec:=lk [(120,nanI_s)],specH:=lk [],nowf:=true } { nt:=20,drop:=drp [(1,384),(2,1536),(9,49152),(11,393216)] } (fun _ _=>none) 6 Tryz.f103 [.int .i64 a,.int .i64 b] (.int .i64 (cmpI a b))
theorem fcmpI_e (cmpI:Int→Int→Int):fcmpI_T cmpI=fcmpI_S cmpI:=by kernel_rfl
theorem fcmpI_v:fcmpI_S cmpI:=Eq.mp (fcmpI_e ..) (fcmpI_P)
theorem fcmpI_ok (gl:Glob):SOK Tryz.prog gl 103 (fcmpI_s cmpI):=by
 refine ⟨fok Tryz.func103 (by kernel_rfl) (by kernel_rfl),?_⟩
 intro xs pre r h hp
 unfold fcmpI_s at h
 split at h
 ·simp only [Option.some.injEq,Prod.mk.injEq] at h
  obtain ⟨h1,h2⟩:=h
  subst h1 h2
  exact fnK_sound tyNil (by exact specOK rfl rfl ⟨(nanI_ok gl),trivial⟩ trivial) (by kernel_rfl) Tryz.func103 rfl (fcmpI_v gl _ _)
 ·cases h
def orI (a b:Int):Int:=if a=0 then b else a
structure OrP (ys:List (List AV)) (i:Int):Prop where
 flo:0≤i
 fhi:i≤ys.length
 fz:∀ j:Nat,(j:Int) < i→cellI (ys.getD j [])=0
structure OrI (ys:List (List AV)) (n:Nat):Prop where
 fn:n=ys.length
 fl:n≤1000
 fi:∀ x ∈ ys,∃ z:Int,x=[.int .i64 z]
end Go.Proofs.YtldiagnbagpliaaGreatDoor
