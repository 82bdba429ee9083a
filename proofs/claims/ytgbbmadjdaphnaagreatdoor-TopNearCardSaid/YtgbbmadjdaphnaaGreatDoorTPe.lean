import Derived.Shelf.Sort.Plain
import Derived.Shelf.Slices.In.SortNone
import Derived.Test.YtgbbmadjdaphnaaGreatDoorTPd
set_option maxRecDepth 100000
namespace Go.Proofs.YtgbbmadjdaphnaaGreatDoor
open Go Go.Shelf
def lays189_ren:Go.Shelf.Ren:=⟨fun | 189=>93 | 125=>139 | 257=>142 | 128=>165 | 129=>166 | 294=>175 | 295=>176 | 296=>177 | 297=>178 | 298=>179 | 299=>180 | 216=>181 | 300=>182 | 301=>183 | 328=>207 | 329=>200 | 330=>201 | 331=>208 | 332=>209 | 215=>140 | 343=>217 | n=>n,fun | 28=>22 | 3=>3 | 46=>73 | 0=>0 | 51=>244 | 53=>67 | 4=>4 | 183=>238 | 182=>237 | 131=>157 | 5=>5 | 9=>9 | 218=>268 | 222=>272 | 228=>281 | 229=>282 | n=>n,fun | n=>n⟩
theorem lays189:Go.Proofs.Lays.n189 Tryz.prog lays189_ren:={
 mixed:=by kernel_rfl
 f125:=Tryz.func139.trans (congrArg some (by kernel_rfl))
 f128:=Tryz.func165.trans (congrArg some (by kernel_rfl))
 f129:=Tryz.func166.trans (congrArg some (by kernel_rfl))
 f189:=Tryz.func93.trans (congrArg some (by kernel_rfl))
 f215:=Tryz.func140.trans (congrArg some (by kernel_rfl))
 f216:=Tryz.func181.trans (congrArg some (by kernel_rfl))
 f257:=Tryz.func142.trans (congrArg some (by kernel_rfl))
 f294:=Tryz.func175.trans (congrArg some (by kernel_rfl))
 f295:=Tryz.func176.trans (congrArg some (by kernel_rfl))
 f296:=Tryz.func177.trans (congrArg some (by kernel_rfl))
 f297:=Tryz.func178.trans (congrArg some (by kernel_rfl))
 f298:=Tryz.func179.trans (congrArg some (by kernel_rfl))
 f299:=Tryz.func180.trans (congrArg some (by kernel_rfl))
 f300:=Tryz.func182.trans (congrArg some (by kernel_rfl))
 f301:=Tryz.func183.trans (congrArg some (by kernel_rfl))
 f328:=Tryz.func207.trans (congrArg some (by kernel_rfl))
 f329:=Tryz.func200.trans (congrArg some (by kernel_rfl))
 f330:=Tryz.func201.trans (congrArg some (by kernel_rfl))
 f331:=Tryz.func208.trans (congrArg some (by kernel_rfl))
 f332:=Tryz.func209.trans (congrArg some (by kernel_rfl))
 f343:=Tryz.func217.trans (congrArg some (by kernel_rfl))
 t0:=Tryz.underlying0
 a0:=Tryz.isAgg0
 z0:=Tryz.sizeOf0
 v0:=Tryz.zeroValue0
 t3:=Tryz.underlying3
 a3:=Tryz.isAgg3
 z3:=Tryz.sizeOf3
 v3:=Tryz.zeroValue3
 t4:=Tryz.underlying4
 a4:=Tryz.isAgg4
 z4:=Tryz.sizeOf4
 v4:=Tryz.zeroValue4
 t5:=Tryz.underlying5
 a5:=Tryz.isAgg5
 z5:=Tryz.sizeOf5
 v5:=Tryz.zeroValue5
 t9:=Tryz.underlying9
 a9:=Tryz.isAgg9
 z9:=Tryz.sizeOf9
 v9:=Tryz.zeroValue9
 t28:=Tryz.underlying22
 a28:=Tryz.isAgg22
 z28:=Tryz.sizeOf22
 v28:=Tryz.zeroValue22
 t46:=Tryz.underlying73
 a46:=Tryz.isAgg73
 z46:=Tryz.sizeOf73
 v46:=Tryz.zeroValue73
 t51:=Tryz.underlying244
 a51:=Tryz.isAgg244
 z51:=Tryz.sizeOf244
 v51:=Tryz.zeroValue244
 t53:=Tryz.underlying67
 a53:=Tryz.isAgg67
 z53:=Tryz.sizeOf67
 v53:=Tryz.zeroValue67
 t131:=Tryz.underlying157
 a131:=Tryz.isAgg157
 z131:=Tryz.sizeOf157
 v131:=Tryz.zeroValue157
 t182:=Tryz.underlying237
 a182:=Tryz.isAgg237
 z182:=Tryz.sizeOf237
 v182:=Tryz.zeroValue237
 t183:=Tryz.underlying238
 a183:=Tryz.isAgg238
 z183:=Tryz.sizeOf238
 v183:=Tryz.zeroValue238
 t218:=Tryz.underlying268
 a218:=Tryz.isAgg268
 z218:=Tryz.sizeOf268
 v218:=Tryz.zeroValue268
 t222:=Tryz.underlying272
 a222:=Tryz.isAgg272
 z222:=Tryz.sizeOf272
 v222:=Tryz.zeroValue272
 t228:=Tryz.underlying281
 a228:=Tryz.isAgg281
 z228:=Tryz.sizeOf281
 v228:=Tryz.zeroValue281
 t229:=Tryz.underlying282
 a229:=Tryz.isAgg282
 z229:=Tryz.sizeOf282
 v229:=Tryz.zeroValue282 }
open Go.Sort Go.RowKit in
theorem sortI_any (blk off cap:Nat) (zs:List Int) (w:World) (hH:Holds (Value.int .i64) w blk off zs.toArray) (hblk:blk < w.heap.size) (hsz:zs.length < 4611686018427387904) :
  Calls Tryz.prog 93 #[.slice (some ⟨blk,off,none⟩) zs.length cap] w fun e w' =>
   e=.returned (.tuple #[])∧∃ n os,w'=grow (putRow (Value.int .i64) (Sort.ahead w n) blk off (zs.mergeSort fun x y=>decide (x≤y)).toArray) os:=Any.slices_Sort_int lays189 blk off cap zs w hH hblk hsz
open Go.RowKit Go.Sort in
theorem sortI_none (p:Option Addr) (cap:Nat) (w:World) :
  Calls Tryz.prog 93 #[.slice p 0 cap] w fun e w'=>e=.returned (.tuple #[])∧w'=w:=Any.slices_Sort_int_none lays189 p cap w
open Go.Sort
set_option linter.unusedVariables false
set_option linter.unusedSimpArgs false
@[irreducible] def s3 (a b c:Int) (i:Nat):Int:=(([a,b,c].mergeSort fun x y=>decide (x≤y)).getD i 0)
theorem s3_all (a b c:Int):([a,b,c].mergeSort fun x y=>decide (x≤y))=[s3 a b c 0,s3 a b c 1,s3 a b c 2]:=by
 have hl:([a,b,c].mergeSort fun x y=>decide (x≤y)).length=3:=by rw [List.length_mergeSort]; rfl
 unfold s3
 match h:([a,b,c].mergeSort fun x y=>decide (x≤y)),hl with
 | [x,y,z],_=>rfl
theorem s3_mem (a b c:Int) {i:Nat} (hi:i < 3):s3 a b c i=a∨s3 a b c i=b∨s3 a b c i=c:=by
 have hp:=List.mergeSort_perm [a,b,c] fun x y=>decide (x≤y)
 rw [s3_all] at hp
 have:s3 a b c i ∈ [s3 a b c 0,s3 a b c 1,s3 a b c 2]:=by
  rcases (by omega:i=0∨i=1∨i=2) with rfl | rfl | rfl <;> simp
 have:=hp.mem_iff.1 this
 simpa using this
def srt3_s:SpH
 | [.ms 0 0 3 3 1],[.cells [.int .i64 a,.int .i64 b,.int .i64 c]]=>some (True,.tup [],[.cells [.int .i64 (s3 a b c 0),.int .i64 (s3 a b c 1),.int .i64 (s3 a b c 2)]])
 | _,_=>none
theorem sort3_hc {gl:Glob} {a b c:Int}:HC Tryz.prog gl 93 [.ms 0 0 3 3 1] [.cells [.int .i64 a,.int .i64 b,.int .i64 c]] (.tup []) [.cells [.int .i64 (s3 a b c 0),.int .i64 (s3 a b c 1),.int .i64 (s3 a b c 2)]]:=by
 intro w S m vs hG hA hnm hheld hinj hv
 obtain ⟨L0,hL0⟩:∃ L0:List Value,L0=vs.toList:=⟨_,rfl⟩
 rw [← hL0] at hv
 simp only [CVl,CV] at hv
 obtain ⟨v0,l1,e0,⟨g,o,h1,rfl,h2,_,_⟩,rfl⟩:=hv
 have h2:=h2 (by decide)
 subst h2
 have hvs:vs=#[.slice (some ⟨g,0,none⟩) 3 3]:=by rw [← Array.toArray_toList (xs:=vs),← hL0,e0]
 subst hvs
 obtain ⟨g',arr,t,a1,a2,a3,a4⟩:=hheld 0 _ rfl
 rw [h1] at a1
 simp only [Option.some.injEq,Value.pointer.injEq,Addr.mk.injEq,and_self,and_true] at a1
 subst a1
 obtain ⟨La,hLa⟩:∃ La,La=arr.toList:=⟨_,rfl⟩
 rw [← hLa] at a3
 simp only [CVl,CV] at a3
 obtain ⟨u0,k0,e1,⟨rfl,ra⟩,u1,k1,rfl,⟨rfl,rb⟩,u2,k2,rfl,⟨rfl,rc⟩,rfl⟩:=a3
 have harr:arr=#[.int .i64 a,.int .i64 b,.int .i64 c]:=by rw [← Array.toArray_toList (xs:=arr),← hLa,e1]
 subst harr
 have hg:g < w.heap.size:=(Array.getElem?_eq_some_iff.1 a2).1
 have hH:Holds (Value.int .i64) w g 0 ([a,b,c]:List Int).toArray:=by
  intro j hj
  refine ⟨?_,by simp [World.frozen?,a2]⟩
  simp only [World.cell?,a2,Nat.zero_add]
  have hj:j < 3:=by simpa using hj
  rcases (by omega:j=0∨j=1∨j=2) with rfl | rfl | rfl <;> rfl
 refine (sortI_any g 0 3 [a,b,c] w hH hg (by simp)).mono ?_
 rintro e w' ⟨rfl,n,os,rfl⟩
 rw [s3_all]
 obtain ⟨D,hD⟩:∃ D:Array Int,D=#[s3 a b c 0,s3 a b c 1,s3 a b c 2]:=⟨_,rfl⟩
 have hcell:putCells (Value.int .i64) 0 ([s3 a b c 0,s3 a b c 1,s3 a b c 2]:List Int).toArray #[.int .i64 a,.int .i64 b,.int .i64 c]=#[.int .i64 (s3 a b c 0),.int .i64 (s3 a b c 1),.int .i64 (s3 a b c 2)]:=by
  unfold putCells
  rfl
 have heap:∀ i,i < w.heap.size→(grow (putRow (Value.int .i64) (Sort.ahead w n) g 0 ([s3 a b c 0,s3 a b c 1,s3 a b c 2]:List Int).toArray) os).heap[i]?=if g=i then some (.cells #[.int .i64 (s3 a b c 0),.int .i64 (s3 a b c 1),.int .i64 (s3 a b c 2)] t (0,0)) else w.heap[i]?:=by
  intro i hi
  unfold putRow mapBlock grow Sort.ahead
  simp only
  rw [Array.getElem?_append_left (by simpa using hi),Array.getElem?_modify]
  by_cases h:g=i
  ·subst h
   rw [if_pos rfl,if_pos rfl,a2]
   simp only [Option.map_some,onCells,hcell]
  ·rw [if_neg h,if_neg h]
 have hMb:Mof 1 m g:=⟨0,_,by decide,h1,rfl⟩
 have hb:∀ i,i < 3→rng .i64 (s3 a b c i):=fun i hi=>by
  rcases s3_mem a b c hi with e | e | e <;> rw [e] <;> assumption
 refine ⟨.tuple #[],S,m,rfl,rfl,rfl,rfl,?_,Ext.refl S,?_,?_,?_,hinj,?_,MLe.refl m,?_⟩
 ·unfold putRow mapBlock grow Sort.ahead
  simp
 ·intro i hi hn
  refine ⟨?_,fun _=>rfl⟩
  rw [heap i hi,if_neg (fun e:g=i=>hn (by subst e; exact hMb))]
 ·intro i o v e
  obtain ⟨h1,h2⟩:=hA i o v e
  refine ⟨?_,h2⟩
  have hi:i < w.heap.size:=hA.lt e
  have hne:g≠i:=fun q=>by subst q; rw [a4 o] at e; cases e
  simp only [World.cell?] at h1 ⊢
  rw [heap i hi,if_neg hne]; exact h1
 ·intro q bb hq
  cases q with
  | succ q=>simp at hq
  | zero =>
   simp only [List.getElem?_cons_zero,Option.some.injEq] at hq
   subst hq
   refine ⟨g,_,t,h1,by rw [heap g hg,if_pos rfl],?_,a4⟩
   simp only [CVl,CV]
   exact ⟨_,_,rfl,⟨rfl,hb 0 (by decide)⟩,_,_,rfl,⟨rfl,hb 1 (by decide)⟩,_,_,rfl,⟨rfl,hb 2 (by decide)⟩,rfl⟩
 ·intro q u g' hq hu hg
  exact .inr ⟨q,u,hq,hu,hg⟩
 ·simp only [CV,CVl]; exact ⟨#[],rfl,rfl⟩
theorem srt3_ok (gl:Glob):HOK Tryz.prog gl 93 srt3_s:=by
 refine ⟨fok Tryz.func93 (by kernel_rfl) (by kernel_rfl),?_⟩
 intro xs bs pre r bs2 h hp
 unfold srt3_s at h
 split at h
 ·simp only [Option.some.injEq,Prod.mk.injEq] at h
  obtain ⟨h1,h2,h3⟩:=h
  subst h1 h2 h3
  exact sort3_hc
 ·cases h
end Go.Proofs.YtgbbmadjdaphnaaGreatDoor
namespace Go.Proofs.YtgbbmadjdaphnaaGreatDoor
open Go
set_option linter.unusedVariables false
set_option linter.unusedSimpArgs false
def celR (x y z:Int):List AV:=[.int .i64 (s3 x y z 0),.int .i64 (s3 x y z 1),.int .i64 (s3 x y z 2)]
def celL (nrm:Int→Int→Int→Int→Int × Int × Int × Int) (l:List (Int × AV)) (f a b c f' a' b' c' f'' a'' b'' c'':Int):List AV:=celR (atV nrm l f a b c) (atV nrm l f' a' b' c') (atV nrm l f'' a'' b'' c'')
def mcell_s (nrm:Int→Int→Int→Int→Int × Int × Int × Int) (vld:Int→Int→Int→Int→Bool):SpH
 | [.ptr 0 0,.agg [.int .i64 f,.int .i64 a,.int .i64 b,.int .i64 c,.int .i64 f',.int .i64 a',.int .i64 b',.int .i64 c',.int .i64 f'',.int .i64 a'',.int .i64 b'',.int .i64 c'']],[.cells [.int .i64 n,.int .i64 h,.sl 4 g nd,.mpv 1,.rw 2 3 m,.nils,.nils],.mp 27 3 l,.row 162 3 cs]=>some (m=cs.length∧cs.length≤1000,.tup [],[.cells [.int .i64 n,.int .i64 h,.sl 4 g nd,.mpv 1,.rw 2 3 (m+1),.nils,.nils],.mp 27 3 l,.row 162 3 (cs++[celL nrm l f a b c f' a' b' c' f'' a'' b'' c''])])
 | _,_=>none
def mcell_T (nrm:Int→Int→Int→Int→Int × Int × Int × Int) (vld:Int→Int→Int→Int→Bool):Prop :=
  ∀ (n h f a b c f' a' b' c' f'' a'' b'' c'':Int) (g:Bool) (nd cs:List (List AV)) (l:List (Int × AV)) (m:Nat),m=cs.length∧cs.length≤(1000:Nat)→True →
  ((-9223372036854775808:Int)≤f∧f≤(9223372036854775807:Int))∧((-9223372036854775808:Int)≤a∧a≤(9223372036854775807:Int))∧((-9223372036854775808:Int)≤b∧b
 ≤(9223372036854775807:Int))∧((-9223372036854775808:Int)≤c∧c≤(9223372036854775807:Int))∧((-9223372036854775808:Int)≤f'∧f'≤(9223372036854775807:Int)) ∧
  ((-9223372036854775808:Int)≤a'∧a'≤(9223372036854775807:Int))∧((-9223372036854775808:Int)≤b'∧b'≤(9223372036854775807:Int))∧((-9223372036854775808:Int)≤c'
 ∧c'≤(9223372036854775807:Int))∧((-9223372036854775808:Int)≤f''∧f''≤(9223372036854775807:Int))∧((-9223372036854775808:Int)≤a''∧a''≤(9223372036854775807 :
  Int))∧((-9223372036854775808:Int)≤b''∧b''≤(9223372036854775807:Int))∧((-9223372036854775808:Int)≤c''∧c''≤(9223372036854775807:Int))∧True →
  (-9223372036854775808:Int)≤n∧n≤(9223372036854775807:Int)→(-9223372036854775808:Int)≤h∧h≤(9223372036854775807:Int)→True→True→True→True→True→True ∧
  True∧True∧True∧bif decide (m=cs.length∧cs.length+[[AV.int IntKind.i64 (s3 (atV nrm l f a b c) (atV nrm l f' a' b' c') (atV nrm l f'' a'' b'' c'') (0:Nat)),AV.int
  IntKind.i64 (s3 (atV nrm l f a b c) (atV nrm l f' a' b' c') (atV nrm l f'' a'' b'' c'') (1:Nat)),AV.int IntKind.i64 (s3 (atV nrm l f a b c) (atV nrm l f' a' b' c') (atV nrm l
  f'' a'' b'' c'') (2:Nat))]].length≤(9223372036854775807:Nat)∧(cs.length+[[AV.int IntKind.i64 (s3 (atV nrm l f a b c) (atV nrm l f' a' b' c') (atV nrm l f'' a'' b'' c'')
  (0:Nat)),AV.int IntKind.i64 (s3 (atV nrm l f a b c) (atV nrm l f' a' b' c') (atV nrm l f'' a'' b'' c'') (1:Nat)),AV.int IntKind.i64 (s3 (atV nrm l f a b c) (atV nrm l f' a'
  b' c') (atV nrm l f'' a'' b'' c'') (2:Nat))]].length)*(24:Nat)≤(140737488355328:Nat)) then True∧(n=n∧h=h∧((bif g then g=true else True)∧nd=nd)∧True ∧
  (cs++[[AV.int IntKind.i64 (s3 (atV nrm l f a b c) (atV nrm l f' a' b' c') (atV nrm l f'' a'' b'' c'') (0:Nat)),AV.int IntKind.i64 (s3 (atV nrm l f a b c) (atV nrm l f' a' b'
  c') (atV nrm l f'' a'' b'' c'') (1:Nat)),AV.int IntKind.i64 (s3 (atV nrm l f a b c) (atV nrm l f' a' b' c') (atV nrm l f'' a'' b'' c'') (2:Nat))]]).length=m+(1:Nat) ∧
  True∧True∧True)∧l=l∧cs++[[AV.int IntKind.i64 (s3 (atV nrm l f a b c) (atV nrm l f' a' b' c') (atV nrm l f'' a'' b'' c'') (0:Nat)),AV.int IntKind.i64 (s3 (atV nrm l f
  a b c) (atV nrm l f' a' b' c') (atV nrm l f'' a'' b'' c'') (1:Nat)),AV.int IntKind.i64 (s3 (atV nrm l f a b c) (atV nrm l f' a' b' c') (atV nrm l f'' a'' b'' c'') (2:Nat))]] =
  cs++[celL nrm l f a b c f' a' b' c' f'' a'' b'' c'']∧True else False
theorem mcell_P:mcell_T nrm vld:=by
 unfold mcell_T
 intro n h f a b c f' a' b' c' f'' a'' b'' c'' g nd cs l m ⟨hm,hl⟩
 intros
 have e:(cs++[celL nrm l f a b c f' a' b' c' f'' a'' b'' c'']).length=m+1:=by rw [List.length_append,hm]; rfl
 refine ⟨trivial,trivial,trivial,trivial,cd1 ⟨hm,by simp only [List.length_singleton]; omega,by simp only [List.length_singleton]; omega⟩ ?_⟩
 (repeat' (first | exact trivial | exact rfl | exact gg _ | assumption | apply And.intro))
def mcell_S (nrm:Int→Int→Int→Int→Int × Int × Int × Int) (vld:Int→Int→Int→Int→Bool):Prop:=∀ (n h f a b c f' a' b' c' f'' a'' b'' c'':Int) (g:Bool) (nd cs:List (List AV)) (l:List (Int × AV)) (m:Nat),m=cs.length∧cs.length≤1000→fnH Tryz.prog { glob:=glb,spec:=lk [],specH:=lk [(93,srt3_s),(124,(matA_s nrm vld))],nowf:=true } { nt:=36,drop:=drp [(4,3072),(5,126976),(6,131072),(7,262144),(8,68718428160)],fr:=1000,kp:=[0,1,2] } (fun _ _=>none) 6 Tryz.f137 [.ptr 0 0,.agg [.int .i64 f,.int .i64 a,.int .i64 b,.int .i64 c,.int .i64 f',.int .i64 a',.int .i64 b',.int .i64 c',.int .i64 f'',.int .i64 a'',.int .i64 b'',.int .i64 c'']] [.cells [.int .i64 n,.int .i64 h,.sl 4 g nd,.mpv 1,.rw 2 3 m,.nils,.nils],.mp 27 3 l,.row 162 3 cs] (.tup []) [.cells [.int .i64 n,.int .i64 h,.sl 4 g nd,.mpv 1,.rw 2 3 (m+1),.nils,.nils],.mp 27 3 l,.row 162 3 (cs++[celL nrm l f a b c f' a' b' c' f'' a'' b'' c''])]
theorem mcell_e (nrm:Int→Int→Int→Int→Int × Int × Int × Int) (vld:Int→Int→Int→Int→Bool):mcell_T nrm vld=mcell_S nrm vld:=by kernel_rfl
theorem mcell_v:mcell_S nrm vld:=Eq.mp (mcell_e ..) (mcell_P)
theorem mcell_ok:HOK Tryz.prog glb 137 (mcell_s nrm vld):=by
 refine ⟨fok Tryz.func137 (by kernel_rfl) (by kernel_rfl),?_⟩
 intro xs bs pre r bs2 h hp
 unfold mcell_s at h
 split at h
 ·simp only [Option.some.injEq,Prod.mk.injEq] at h
  obtain ⟨h1,h2,h3⟩:=h
  subst h1 h2 h3
  exact fnH_sound tyNil (by exact specOK rfl rfl trivial ⟨(srt3_ok glb),(matA_ok),trivial⟩) (by kernel_rfl) Tryz.func137 (mcell_v  _ _ _ _ _ _ _ _ _ _ _ _ _ _ _ _ _ _ _ hp)
 ·cases h
def celU (nrm:Int→Int→Int→Int→Int × Int × Int × Int) (l:List (Int × AV)) (h f a b c:Int):List AV:=celL nrm l f (a+h) b c f a (b+h) c f a b (c+h)
def celD (nrm:Int→Int→Int→Int→Int × Int × Int × Int) (l:List (Int × AV)) (h f a b c:Int):List AV:=celL nrm l f (a+0) (b+0+h) (c+(0 - h)+h) f (a+0+h) (b+0) (c+(0 - h)+h) f (a+0+h) (b+0+h) (c+(0 - h))
def celN (nrm:Int→Int→Int→Int→Int × Int × Int × Int) (l:List (Int × AV)) (h f a b c:Int):List (List AV):=if h≤c then [celU nrm l h f a b c,celD nrm l h f a b c] else [celU nrm l h f a b c]
theorem celN_t {nrm:Int→Int→Int→Int→Int × Int × Int × Int} {l:List (Int × AV)} {h f a b c:Int} (q:h≤c) (cs:List (List AV)):cs++[celU nrm l h f a b c]++[celD nrm l h f a b c]=cs++celN nrm l h f a b c:=by unfold celN; rw [if_pos q,List.append_assoc]; rfl
theorem celN_f {nrm:Int→Int→Int→Int→Int × Int × Int × Int} {l:List (Int × AV)} {h f a b c:Int} (q:¬ h≤c) (cs:List (List AV)):cs++[celU nrm l h f a b c]=cs++celN nrm l h f a b c:=by unfold celN; rw [if_neg q]
def mcells_s (nrm:Int→Int→Int→Int→Int × Int × Int × Int) (vld:Int→Int→Int→Int→Bool):SpH
 | [.ptr 0 0,.agg [.int .i64 f,.int .i64 a,.int .i64 b,.int .i64 c]],[.cells [.int .i64 n,.int .i64 h,.sl 4 g nd,.mpv 1,.rw 2 3 m,.nils,.nils],.mp 27 3 l,.row 162 3 cs]=>some ((m=cs.length∧cs.length≤999)∧(0≤h∧h≤840)∧(0≤f∧f < 20)∧(0≤a∧a≤840)∧(0≤b∧b≤840)∧0≤c∧c≤840,.tup [],[.cells [.int .i64 n,.int .i64 h,.sl 4 g nd,.mpv 1,.rw 2 3 (cs++celN nrm l h f a b c).length,.nils,.nils],.mp 27 3 l,.row 162 3 (cs++celN nrm l h f a b c)])
 | _,_=>none
def mcells_T (nrm:Int→Int→Int→Int→Int × Int × Int × Int) (vld:Int→Int→Int→Int→Bool):Prop :=
  ∀ (n h f a b c:Int) (g:Bool) (nd cs:List (List AV)) (l:List (Int × AV)) (m:Nat),(m=cs.length∧cs.length≤(999:Nat))∧((0:Int)≤h∧h≤(840:Int))∧((0 :
  Int)≤f∧f < (20:Int))∧((0:Int)≤a∧a≤(840:Int))∧((0:Int)≤b∧b≤(840:Int))∧(0:Int)≤c∧c≤(840:Int)→True→((-9223372036854775808:Int)≤f∧f
 ≤(9223372036854775807:Int))∧((-9223372036854775808:Int)≤a∧a≤(9223372036854775807:Int))∧((-9223372036854775808:Int)≤b∧b≤(9223372036854775807:Int)) ∧
  ((-9223372036854775808:Int)≤c∧c≤(9223372036854775807:Int))∧True→(-9223372036854775808:Int)≤n∧n≤(9223372036854775807:Int)→(-9223372036854775808:Int)≤h
 ∧h≤(9223372036854775807:Int)→True→True→True→True→True→(PlS f a b c∧(0:Int)≤h∧h≤(840:Int))∧(m=cs.length∧cs.length≤(1000:Nat))∧bif decide (h
 ≤c) then bif decide (rng IntKind.i64 ((0:Int) - h)) then (PlS f a b c∧PlS f (0:Int) (0:Int) ((0:Int) - h))∧(PlS f (a+(0:Int)) (b+(0:Int)) (c+((0:Int) - h))
 ∧(0:Int)≤h∧h≤(840:Int))∧(m+(1:Nat)=(cs++[celL nrm l f (a+h) b c f a (b+h) c f a b (c+h)]).length∧(cs++[celL nrm l f (a+h) b c f a (b+h) c f a b
  (c+h)]).length≤(1000:Nat))∧True∧(n=n∧h=h∧((bif g then g=true else True)∧nd=nd)∧True∧m+(1:Nat)+(1:Nat)=(cs++celN nrm l h f a b c).length ∧
  True∧True∧True)∧l=l∧cs++[celL nrm l f (a+h) b c f a (b+h) c f a b (c+h)]++[celL nrm l f (a+(0:Int)) (b+(0:Int)+h) (c+((0:Int) - h)+h) f (a+(0
 :Int)+h) (b+(0:Int)) (c+((0:Int) - h)+h) f (a+(0:Int)+h) (b+(0:Int)+h) (c+((0:Int) - h))]=cs++celN nrm l h f a b c∧True else False else True∧(n
 =n∧h=h∧((bif g then g=true else True)∧nd=nd)∧True∧m+(1:Nat)=(cs++celN nrm l h f a b c).length∧True∧True∧True)∧l=l∧cs++[celL nrm l f (a+h) b
  c f a (b+h) c f a b (c+h)]=cs++celN nrm l h f a b c∧True
theorem mcells_P:mcells_T nrm vld:=by
 unfold mcells_T
 intro n h f a b c g nd cs l m ⟨⟨hm,hl⟩,⟨h0,h8⟩,hf,ha,hb,hc0,hc8⟩
 intros
 have q1:PlS f a b c:=⟨hf,by omega,by omega,by omega⟩
 have q2:PlS f 0 0 (0 - h):=⟨hf,by omega,by omega,by omega⟩
 have q3:PlS f (a+0) (b+0) (c+(0 - h)):=⟨hf,by omega,by omega,by omega⟩
 have e1:(cs++[celU nrm l h f a b c]).length=cs.length+1:=by rw [List.length_append]; rfl
 refine ⟨⟨q1,h0,h8⟩,⟨hm,by omega⟩,csp (fun q=>cdI (by omega) ⟨⟨q1,q2⟩,⟨q3,h0,h8⟩,⟨by rw [hm]; exact e1.symm,by have:=e1; simp only [celU] at this; omega⟩,?_⟩) (fun q=>?_)⟩
 ·have e2:m+1+1=(cs++celN nrm l h f a b c).length:=by rw [← celN_t q,List.length_append,e1,hm]; rfl
  have e3:=celN_t (nrm:=nrm) (l:=l) (f:=f) (a:=a) (b:=b) q cs
  simp only [celU,celD] at e3
  (repeat' (first | exact trivial | exact rfl | exact gg _ | assumption | apply And.intro))
 ·have e2:m+1=(cs++celN nrm l h f a b c).length:=by rw [← celN_f q,e1,hm]
  have e3:=celN_f (nrm:=nrm) (l:=l) (f:=f) (a:=a) (b:=b) q cs
  simp only [celU] at e3
  (repeat' (first | exact trivial | exact rfl | exact gg _ | assumption | apply And.intro))
def mcells_S (nrm:Int→Int→Int→Int→Int × Int × Int × Int) (vld:Int→Int→Int→Int→Bool):Prop:=∀ (n h f a b c:Int) (g:Bool) (nd cs:List (List AV)) (l:List (Int × AV)) (m:Nat),(m=cs.length∧cs.length≤999)∧(0≤h∧h≤840)∧(0≤f∧f < 20)∧(0≤a∧a≤840)∧(0≤b∧b≤840)∧0≤c∧c≤840→fnH Tryz.prog { glob:=glb,spec:=lk [(123,mmoved_s)],specH:=lk [(137,(mcell_s nrm vld)),(125,mupA_s),(126,mdnA_s)],nowf:=true } { nt:=27,drop:=drp [(1,240),(2,32256),(3,67043328)],fr:=1000,kp:=[0,1,2] } (fun _ _=>none) 6 Tryz.f85 [.ptr 0 0,.agg [.int .i64 f,.int .i64 a,.int .i64 b,.int .i64 c]] [.cells [.int .i64 n,.int .i64 h,.sl 4 g nd,.mpv 1,.rw 2 3 m,.nils,.nils],.mp 27 3 l,.row 162 3 cs] (.tup []) [.cells [.int .i64 n,.int .i64 h,.sl 4 g nd,.mpv 1,.rw 2 3 (cs++celN nrm l h f a b c).length,.nils,.nils],.mp 27 3 l,.row 162 3 (cs++celN nrm l h f a b c)]
theorem mcells_e (nrm:Int→Int→Int→Int→Int × Int × Int × Int) (vld:Int→Int→Int→Int→Bool):mcells_T nrm vld=mcells_S nrm vld:=by kernel_rfl
theorem mcells_v:mcells_S nrm vld:=Eq.mp (mcells_e ..) (mcells_P)
theorem mcells_ok:HOK Tryz.prog glb 85 (mcells_s nrm vld):=by
 refine ⟨fok Tryz.func85 (by kernel_rfl) (by kernel_rfl),?_⟩
 intro xs bs pre r bs2 h hp
 unfold mcells_s at h
 split at h
 ·simp only [Option.some.injEq,Prod.mk.injEq] at h
  obtain ⟨h1,h2,h3⟩:=h
  subst h1 h2 h3
  exact fnH_sound tyNil (by exact specOK rfl rfl ⟨(mmoved_ok glb),trivial⟩ ⟨(mcell_ok),(mupA_ok glb),(mdnA_ok glb),trivial⟩) (by kernel_rfl) Tryz.func85 (mcells_v  _ _ _ _ _ _ _ _ _ _ _ hp)
 ·cases h
end Go.Proofs.YtgbbmadjdaphnaaGreatDoor
namespace Go.Proofs.YtgbbmadjdaphnaaGreatDoor
open Go
set_option linter.unusedVariables false
set_option linter.unusedSimpArgs false
def eqE (r q:List AV):Bool:=decide (nI r 0=nI q 0)&&(decide (nI r 1=nI q 1)&&true)
def cmpB:List AV→List (List AV)→List (List AV)
 | _,[]=>[]
 | p,x::l=>if eqE x p=true then cmpB x l else x::cmpB x l
def cmpct:List (List AV)→List (List AV)
 | []=>[]
 | x::l=>x::cmpB x l
structure EdR (xs:List (List AV)):Prop where
 fr:∀ i,i < xs.length→∃ a b,xs.getD i []=[.int .i64 a,.int .i64 b]
 le:xs.length≤1000000
def DupE (xs:List (List AV)):Prop:=(cmpct xs).length < xs.length
structure CoP (xs:List (List AV)) (k:Int):Prop where
 lo:1≤k
 hi:k≤xs.length
 eq:cmpct xs=xs.take k.toNat++cmpB (xs.getD (k.toNat - 1) []) (xs.drop k.toNat)
theorem gD {l:List (List AV)} {i:Nat} (h:i < l.length):l.getD i []=l[i]:=by rw [List.getD_eq_getElem?_getD,List.getElem?_eq_getElem h]; rfl
theorem dropC {l:List (List AV)} {i:Nat} (h:i < l.length):l.drop i=l.getD i []::l.drop (i+1):=by rw [gD h]; exact List.drop_eq_getElem_cons h
theorem takeC {l:List (List AV)} {i:Nat} (h:i < l.length):l.take (i+1)=l.take i++[l.getD i []]:=by rw [gD h,List.take_append_getElem]
theorem cmp1 {xs:List (List AV)} (h:1≤xs.length):cmpct xs=xs.take 1++cmpB (xs.getD 0 []) (xs.drop 1):=by
 cases xs with
 | nil=>simp at h
 | cons x l=>rfl
theorem dup2 {xs:List (List AV)} (h:DupE xs):2≤xs.length:=by
 unfold DupE at h
 match xs,h with
 | [],h=>simp [cmpct] at h
 | [_],h=>simp [cmpct,cmpB] at h
 | _::_::_,_=>simp
theorem cmpB_t {p x:List AV} {l:List (List AV)} (h:eqE x p=true):cmpB p (x::l)=cmpB x l:=if_pos h
theorem cmpB_f {p x:List AV} {l:List (List AV)} (h:eqE x p=false):cmpB p (x::l)=x::cmpB x l:=if_neg (by rw [h]; decide)
theorem eqE_at {r q:List AV} {a b c d:Int} (h:r=[.int .i64 a,.int .i64 b]) (k:q=[.int .i64 c,.int .i64 d]):eqE r q=(decide (a=c)&&(decide (b=d)&&true)):=by subst h; subst k; rfl
structure CoQ (xs:List (List AV)) (x:Int × Int × Nat × List (List AV)):Prop where
 l1:x.2.2.2.length=xs.length
 lo:1≤x.2.1
 kl:1≤x.1
 k0:x.1+1≤x.2.2.1+x.2.1
 hi:x.2.2.1+x.2.1≤xs.length
 eq:cmpct xs=x.2.2.2.take x.1.toNat++cmpB (xs.getD (x.2.2.1+x.2.1.toNat - 1) []) (xs.drop (x.2.2.1+x.2.1.toNat))
 fr:EdR x.2.2.2
 sm:∀ i,x.2.2.1+x.2.1.toNat≤i+1→x.2.2.2.getD i []=xs.getD i []
def co4 (xs:List (List AV)) (n:Nat):LInv:=⟨Int,fun k=>⟨[(0,.rw 0 2 n),(3,.int .i64 k)],[(0,.row 143 2 xs)]⟩,CoP xs,fun k=>(n - k).toNat,none⟩
def co9 (xs:List (List AV)) (n:Nat):LInv:=⟨Int × Int × Nat × List (List AV),fun x=>⟨[(0,.rw 0 2 n),(3,.int .i64 x.1),(4,.mw 0 2 n x.2.2.1 (n - x.2.2.1) false),(5,.int .i64 x.2.1)],[(0,.row 143 2 x.2.2.2)]⟩,CoQ xs,fun x=>(n - (x.2.2.1+x.2.1)).toNat,none⟩
def mcomp_s:SpH
 | [.rw 0 2 n],[.row 143 2 xs]=>some (n=xs.length∧EdR xs∧DupE xs,.mw 0 2 n 0 (cmpct xs).length false,[.row 143 2 (cmpct xs++List.replicate (n - (cmpct xs).length) [.int .i64 0,.int .i64 0])])
 | _,_=>none
def mcomp_T:Prop :=
  ∀ (gl:Glob) (n:Nat) (xs:List (List AV)),n=xs.length∧EdR xs∧(cmpct xs).length.succ.le xs.length→True→bif decide ((↑n:Int) < (2:Int)) then False else (∃ x,CoP
  xs x∧(n=n∧(1:Int)=x∧True)∧xs=xs∧True)∧∀ (x:Int),CoP xs x→bif decide (x < (↑n:Int)) then bif decide ((0:Int)≤x∧x < (↑n:Int)) then bif decide (n =
  xs.length∧x.toNat < xs.length) then ∃ n_1 n_2,List.take [AV.int IntKind.i64 n_1,AV.int IntKind.i64 n_2].length (List.drop (0:Nat) (xs.getD x.toNat []))=[AV.int IntKind.i64
  n_1,AV.int IntKind.i64 n_2]∧bif decide (rng IntKind.i64 (x - (1:Int))) then bif decide ((0:Int)≤x - (1:Int)∧x - (1:Int) < (↑n:Int)) then bif decide (n=xs.length
 ∧(x - (1:Int)).toNat < xs.length) then ∃ n_3 n_4,List.take [AV.int IntKind.i64 n_3,AV.int IntKind.i64 n_4].length (List.drop (0:Nat) (xs.getD (x - (1:Int)).toNat [])) =
  [AV.int IntKind.i64 n_3,AV.int IntKind.i64 n_4]∧bif decide (n_1=n_3)&&(decide (n_2=n_4)&&true) then bif decide ((0:Int)≤(↑n:Int)∧(↑n:Int)≤(↑n:Int)) then
  bif decide ((0:Int)≤x∧x≤(↑n:Int)) then (∃ x_1,CoQ xs x_1∧(n=n∧x=x_1.fst∧(n=n∧(0:Nat)+x.toNat=x_1.snd.snd.fst∧(↑n:Int).toNat - x.toNat=n -
  x_1.snd.snd.fst∧True)∧(1:Int)=x_1.snd.fst∧True)∧xs=x_1.snd.snd.snd∧True)∧∀ (x:Int × Int × Nat × List (List AV)),CoQ xs x→bif decide (x.snd.fst < (↑(n -
  x.snd.snd.fst):Int)) then bif decide ((0:Int)≤x.snd.fst∧x.snd.fst < (↑(n - x.snd.snd.fst):Int)) then bif decide (n=x.snd.snd.snd.length∧x.snd.snd.fst +
  x.snd.fst.toNat < x.snd.snd.snd.length) then ∃ n_5 n_6,List.take [AV.int IntKind.i64 n_5,AV.int IntKind.i64 n_6].length (List.drop (0:Nat) (x.snd.snd.snd.getD (x.snd.snd.fst +
  x.snd.fst.toNat) []))=[AV.int IntKind.i64 n_5,AV.int IntKind.i64 n_6]∧bif decide (rng IntKind.i64 (x.snd.fst - (1:Int))) then bif decide ((0:Int)≤x.snd.fst - (1:Int) ∧
  x.snd.fst - (1:Int) < (↑(n - x.snd.snd.fst):Int)) then bif decide (n=x.snd.snd.snd.length∧x.snd.snd.fst+(x.snd.fst - (1:Int)).toNat < x.snd.snd.snd.length) then ∃ n_7
  n_8,List.take [AV.int IntKind.i64 n_7,AV.int IntKind.i64 n_8].length (List.drop (0:Nat) (x.snd.snd.snd.getD (x.snd.snd.fst+(x.snd.fst - (1:Int)).toNat) []))=[AV.int
  IntKind.i64 n_7,AV.int IntKind.i64 n_8]∧bif !(decide (n_5=n_7)&&(decide (n_6=n_8)&&true)) then bif decide ((0:Int)≤x.snd.fst∧x.snd.fst < (↑(n - x.snd.snd.fst) :
  Int)) then bif decide (n=x.snd.snd.snd.length∧x.snd.snd.fst+x.snd.fst.toNat < x.snd.snd.snd.length) then ∃ n_9 n_10,List.take [AV.int IntKind.i64 n_9,AV.int IntKind.i64
  n_10].length (List.drop (0:Nat) (x.snd.snd.snd.getD (x.snd.snd.fst+x.snd.fst.toNat) []))=[AV.int IntKind.i64 n_9,AV.int IntKind.i64 n_10]∧bif decide ((0:Int)≤x.fst ∧
  x.fst < (↑n:Int)) then bif decide (n=x.snd.snd.snd.length∧x.fst.toNat < x.snd.snd.snd.length) then bif decide (rng IntKind.i64 (x.fst+(1:Int))) then bif decide (rng
  IntKind.i64 (x.snd.fst+(1:Int))) then ∃ y,CoQ xs y∧(co9 xs n).m y < (co9 xs n).m x∧(n=n∧x.fst+(1:Int)=y.fst∧(n=n∧x.snd.snd.fst=y.snd.snd.fst∧n -
  x.snd.snd.fst=n - y.snd.snd.fst∧True)∧x.snd.fst+(1:Int)=y.snd.fst∧True)∧setEl x.snd.snd.snd x.fst.toNat (0:Nat) [AV.int IntKind.i64 n_9,AV.int IntKind.i64 n_10]
 =y.snd.snd.snd∧True else False else False else False else False else False else False else bif decide (rng IntKind.i64 (x.snd.fst+(1:Int))) then ∃ y,CoQ xs y∧(co9 xs n).m
  y < (co9 xs n).m x∧(n=n∧x.fst=y.fst∧(n=n∧x.snd.snd.fst=y.snd.snd.fst∧n - x.snd.snd.fst=n - y.snd.snd.fst∧True)∧x.snd.fst+(1:Int)=y.snd.fst∧True) ∧
  x.snd.snd.snd=y.snd.snd.snd∧True else False else False else False else False else False else False else bif decide ((0:Int)≤(↑n:Int)∧(↑n:Int)≤(↑n:Int)) then bif
  decide ((0:Int)≤x.fst∧x.fst≤(↑n:Int)) then bif decide (n=x.snd.snd.snd.length∧(0:Nat)+x.fst.toNat+((↑n:Int).toNat - x.fst.toNat)=x.snd.snd.snd.length) then
  bif decide ((0:Int)≤x.fst∧x.fst≤(↑n:Int)) then bif decide ((0:Int)≤(0:Int)∧(0:Int)≤x.fst) then (n=n∧(0:Nat)=(0:Nat)∧x.fst.toNat - (0:Nat) =
  (cmpct xs).length∧True)∧List.take ((0:Nat)+x.fst.toNat) x.snd.snd.snd++List.replicate ((↑n:Int).toNat - x.fst.toNat) (List.replicate (2:Nat) (AV.int IntKind.i64 (0 :
  Int)))=cmpct xs++List.replicate (n - (cmpct xs).length) [AV.int IntKind.i64 (0:Int),AV.int IntKind.i64 (0:Int)]∧True else False else False else False else False else
  False else False else False else bif decide (rng IntKind.i64 (x+(1:Int))) then ∃ y,CoP xs y∧(co4 xs n).m y < (co4 xs n).m x∧(n=n∧x+(1:Int)=y∧True)∧xs=xs ∧
  True else False else False else False else False else False else False else False
theorem mcomp_P:mcomp_T:=by
 unfold mcomp_T
 intro gl n xs ⟨hn,hE,hD⟩ _
 subst hn
 have h2:=dup2 hD
 have hle:=hE.le
 have ld:∀ {ys:List (List AV)} {i:Nat} {a b:Int},ys.getD i []=[.int .i64 a,.int .i64 b]→List.take [AV.int .i64 a,AV.int .i64 b].length (List.drop 0 (ys.getD i []))=[.int .i64 a,.int .i64 b]:=fun e=>by rw [e]; rfl
 refine csp (fun h=>by omega) (fun h=>⟨⟨1,⟨by decide,by omega,cmp1 (by omega)⟩,by (repeat' (first | exact trivial | exact rfl | assumption | apply And.intro))⟩,?_⟩)
 intro k ⟨k1,kh,ke⟩
 refine csp (fun h=>?_) (fun h=>?_)
 ·obtain ⟨a,b,hab⟩:=hE.fr k.toNat (by omega)
  obtain ⟨c,d,hcd⟩:=hE.fr (k - 1).toNat (by omega)
  have e1:(k - 1).toNat=k.toNat - 1:=by omega
  have hkl:k.toNat < xs.length:=by omega
  rw [dropC hkl] at ke
  refine cd1 (by omega) (cd1 ⟨rfl,hkl⟩ ⟨a,b,ld hab,cdI (by omega) (cd1 (by omega) (cd1 ⟨rfl,by omega⟩ ⟨c,d,ld hcd,csplit (fun q=>?_) (fun q=>?_)⟩))⟩)
  ·rw [← eqE_at hab hcd,e1] at q
   rw [cmpB_t q] at ke
   refine cd1 (by omega) (cd1 (by omega) ⟨⟨(k,1,k.toNat,xs),⟨rfl,Int.le_refl 1,k1,by simp only; omega,by simp only; omega,by simpa using ke,hE,fun _ _=>rfl⟩,⟨⟨rfl,rfl,⟨rfl,by simp,by simp,trivial⟩,rfl,trivial⟩,rfl,trivial⟩⟩,?_⟩)
   clear ke q hab hcd e1 hkl h kh k1
   rintro ⟨k,k2,k0,ys⟩ ⟨l1,lo,kl,hk0,hi,he,hF,sm⟩
   simp only at l1 lo kl hk0 hi he sm hF
   refine csp (fun h=>?_) (fun h=>?_)
   ·simp only at h
    have hkl:k0+k2.toNat < xs.length:=by omega
    have g1:ys.getD (k0+k2.toNat) []=xs.getD (k0+k2.toNat) []:=sm _ (by omega)
    have e1:k0+(k2 - 1).toNat=k0+k2.toNat - 1:=by omega
    have g2:ys.getD (k0+(k2 - 1).toNat) []=xs.getD (k0+k2.toNat - 1) []:=by rw [e1]; exact sm _ (by omega)
    obtain ⟨a,b,hab⟩:=hE.fr (k0+k2.toNat) hkl
    obtain ⟨c,d,hcd⟩:=hE.fr (k0+k2.toNat - 1) (by omega)
    rw [dropC hkl] at he
    refine cd1 (by simp only; omega) (cd1 ⟨l1.symm,by simp only; omega⟩ ⟨a,b,ld (g1.trans hab),cdI (by simp only; omega) (cd1 (by simp only; omega) (cd1 ⟨l1.symm,by simp only; omega⟩ ⟨c,d,ld (g2.trans hcd),csplit (fun q=>?_) (fun q=>?_)⟩))⟩)
    ·rw [← eqE_at hab hcd] at q
     have q:eqE (xs.getD (k0+k2.toNat) []) (xs.getD (k0+k2.toNat - 1) [])=false:=by simpa using q
     rw [cmpB_f q] at he
     have hky:k.toNat < ys.length:=by omega
     have hset:setEl ys k.toNat 0 [.int .i64 a,.int .i64 b]=ys.set k.toNat (xs.getD (k0+k2.toNat) []):=by
      obtain ⟨u,v,huv⟩:=hF.fr k.toNat hky
      unfold setEl
      rw [huv,hab]; rfl
     refine cd1 (by simp only; omega) (cd1 ⟨l1.symm,by simp only; omega⟩ ⟨a,b,ld (g1.trans hab),cd1 (by simp only; omega) (cd1 ⟨l1.symm,hky⟩ (cdI (by simp only; omega) (cdI (by simp only; omega) ⟨(k+1,k2+1,k0,setEl ys k.toNat 0 [.int .i64 a,.int .i64 b]),⟨?_,by simp only; omega,by simp only; omega,by simp only; omega,by simp only; omega,?_,?_,?_⟩,by simp only [co9]; omega,by (repeat' (first | exact trivial | exact rfl | assumption | apply And.intro))⟩)))⟩)
     ·simp only [hset,List.length_set]; exact l1
     ·simp only [hset]
      rw [show (k+1).toNat=k.toNat+1 by omega,show (k2+1).toNat=k2.toNat+1 by omega,takeC (by rw [List.length_set]; exact hky),List.take_set_of_le (Nat.le_refl _),List.getD_eq_getElem?_getD,List.getElem?_set_self hky,Option.getD_some,List.append_assoc]
      exact he
     ·simp only [hset]
      refine ⟨fun i hi=>?_,by rw [List.length_set]; omega⟩
      rw [List.length_set] at hi
      by_cases hik:k.toNat=i
      ·subst hik
       exact ⟨a,b,by rw [List.getD_eq_getElem?_getD,List.getElem?_set_self hky,Option.getD_some]; exact hab⟩
      ·rw [List.getD_eq_getElem?_getD,List.getElem?_set_ne hik,← List.getD_eq_getElem?_getD]
       exact hF.fr i hi
     ·intro i hi
      simp only [hset] at hi ⊢
      rw [List.getD_eq_getElem?_getD,List.getElem?_set_ne (by omega),← List.getD_eq_getElem?_getD]
      exact sm i (by omega)
    ·rw [← eqE_at hab hcd] at q
     have q:eqE (xs.getD (k0+k2.toNat) []) (xs.getD (k0+k2.toNat - 1) [])=true:=by simpa using q
     rw [cmpB_t q] at he
     refine cdI (by simp only; omega) ⟨(k,k2+1,k0,ys),⟨l1,by simp only; omega,kl,by simp only; omega,by simp only; omega,?_,hF,fun i hi=>sm i (by simp only at hi; omega)⟩,by simp only [co9]; omega,by (repeat' (first | exact trivial | exact rfl | assumption | apply And.intro))⟩
     simp only
     rw [show (k2+1).toNat=k2.toNat+1 by omega]
     exact he
   ·simp only at h
    have hz:k0+k2.toNat=xs.length:=by omega
    rw [hz,List.drop_length] at he
    simp only [cmpB,List.append_nil] at he
    have hcl:(cmpct xs).length=k.toNat:=by rw [he,List.length_take]; omega
    refine cd1 (by omega) (cd1 (by simp only; omega) (cd1 ⟨l1.symm,by simp only; omega⟩ (cd1 (by simp only; omega) (cd1 (by simp only; omega) ⟨⟨rfl,rfl,by rw [hcl]; rfl,trivial⟩,?_,trivial⟩))))
    simp only
    rw [hcl,he,Nat.zero_add,Int.toNat_natCast]; rfl
  ·rw [← eqE_at hab hcd,e1] at q
   rw [cmpB_f q] at ke
   refine cdI (by omega) ⟨k+1,⟨by omega,by omega,?_⟩,by simp only [co4]; omega,by (repeat' (first | exact trivial | exact rfl | assumption | apply And.intro))⟩
   rw [show (k+1).toNat=k.toNat+1 by omega,takeC hkl,List.append_assoc]
   exact ke
 ·have hk:k.toNat=xs.length:=by omega
  rw [hk,List.drop_length,List.take_length] at ke
  simp only [cmpB,List.append_nil] at ke
  have hD:(cmpct xs).length < xs.length:=hD
  rw [ke] at hD
  exact absurd hD (Nat.lt_irrefl _)
def mcomp_S:Prop:=∀ (gl:Glob) (n:Nat) (xs:List (List AV)),n=xs.length∧EdR xs∧DupE xs→fnH Tryz.prog { glob:=gl,spec:=lk [],specH:=lk [],shape:=[19,24,38,43,50],nowf:=true } { nt:=61,drop:=drp [(1,192),(2,512),(4,7168),(5,49152),(6,33488896),(7,469762048),(9,3758096384),(10,25769803776),(11,17557826306048),(12,4468415255281664),(13,13510798882111488),(14,126100789566373888),(15,1008806316530991104),(16,1152921504606846976)],fr:=1000,kp:=[0],tys:=[143] } (invs [(4,co4 xs n),(9,co9 xs n)]) 6 Tryz.f92 [.rw 0 2 n] [.row 143 2 xs] (.mw 0 2 n 0 (cmpct xs).length false) [.row 143 2 (cmpct xs++List.replicate (n - (cmpct xs).length) [.int .i64 0,.int .i64 0])]
theorem mcomp_e:mcomp_T=mcomp_S:=by kernel_rfl
theorem mcomp_v:mcomp_S:=Eq.mp (mcomp_e ..) (mcomp_P)
theorem mcomp_ok (gl:Glob):HOK Tryz.prog gl 92 mcomp_s:=by
 refine ⟨fok Tryz.func92 (by kernel_rfl) (by kernel_rfl),?_⟩
 intro xs bs pre r bs2 h hp
 unfold mcomp_s at h
 split at h
 ·simp only [Option.some.injEq,Prod.mk.injEq] at h
  obtain ⟨h1,h2,h3⟩:=h
  subst h1 h2 h3
  exact fnH_sound (tyOf (by kernel_rfl)) (by exact specOK rfl rfl trivial trivial) (by kernel_rfl) Tryz.func92 (mcomp_v gl _ _ hp)
 ·cases h
end Go.Proofs.YtgbbmadjdaphnaaGreatDoor
namespace Go.Proofs.YtgbbmadjdaphnaaGreatDoor
open Go
set_option linter.unusedVariables false
set_option linter.unusedSimpArgs false
theorem hc_frz {P:Program} {gl:Glob} {f:FuncId} {xs:List AV} {bs:List Blk} {q m e s:Nat} {ys:List (List AV)} (he:e < 2000000) (hq:q=ys.length) (hm:m≤ys.length) (h:HC P gl f xs bs (.mw 0 s q 0 m false) [.row e s ys]):HC P gl f xs bs (.sl s false (ys.take m)) [.gone]:=by
 intro w S mm vs hG hA hnm hheld hinj hv
 refine (h w S mm vs hG hA hnm hheld hinj hv).mono ?_
 rintro ed w' ⟨u,S1,m1,e1,a1,a2,a3,a4,hE,hF,hAg,hH,hI,hO,hM,hcv⟩
 obtain ⟨A,c,h1,h2,h3,hlen,h4,vals,h5,h6,h7,h9,h8⟩:=(hH 0 _ rfl).vals
 rw [rowNm_lo he] at h6
 let S':Pin:=fun b o=>if A=some ⟨b,0,none⟩∧o < vals.length then vals[o]? else S1 b o
 have hun:∀ b,A=some ⟨b,0,none⟩→∀ o,S1 b o=none:=by
  intro b hb o
  rcases h4 with ⟨e1,_⟩ | ⟨g,cur,fr,e1,_,_,_,e2⟩
  ·rw [hb] at e1; cases e1
  ·rw [hb] at e1
   injection e1 with e1
   injection e1 with e1
   subst e1
   exact e2 o
 have hS:Ext S1 S':=by
  intro b o v e1
  show (if A=some ⟨b,0,none⟩∧o < vals.length then vals[o]? else S1 b o)=some v
  rw [if_neg]
  ·exact e1
  ·rintro ⟨hb,_⟩
   rw [hun b hb] at e1; cases e1
 have hfar:∀ b,A≠some ⟨b,0,none⟩→∀ o,S' b o=S1 b o:=by
  intro b hb o
  show (if A=some ⟨b,0,none⟩∧o < vals.length then vals[o]? else S1 b o)=S1 b o
  rw [if_neg (fun q=>hb q.1)]
 refine ⟨u,S',m1,e1,a1,a2,a3,a4,hE.trans hS,fun b hb hn=>⟨(hF b hb hn).1,fun o=>?_⟩,?_,?_,hI,hO,hM,?_⟩
 ·by_cases hA:A=some ⟨b,0,none⟩
  ·rcases hO 0 _ b (by simp) h1 (by rw [hA]; rfl) with z | z
   ·omega
   ·exact absurd z hn
  ·rw [hfar b hA]; exact (hF b hb hn).2 o
 ·intro b o v e1
  by_cases hA:A=some ⟨b,0,none⟩∧o < vals.length
  ·have e2:vals[o]?=some v:=by
    have:S' b o=vals[o]?:=by show (if A=some ⟨b,0,none⟩∧o < vals.length then vals[o]? else S1 b o)=_; rw [if_pos hA]
    rw [← this]; exact e1
   exact ⟨h8 b hA.1 o v e2,h7 v (List.mem_of_getElem? e2)⟩
  ·have:S' b o=S1 b o:=by show (if A=some ⟨b,0,none⟩∧o < vals.length then vals[o]? else S1 b o)=_; rw [if_neg hA]
   rw [this] at e1
   exact hAg b o v e1
 ·intro k b hk
  cases k with
  | succ k=>simp at hk
  | zero =>
   simp only [List.getElem?_cons_zero,Option.some.injEq] at hk
   subst hk
   exact ⟨_,h1,fun g hg=>(hH 0 _ rfl).lt h1 hg⟩
 ·simp only [CV] at hcv ⊢
  obtain ⟨B,d,rfl,p1,p2,p3,p4,p5,A2,q2,c2,p6,p7,p8⟩:=hcv
  rw [h1] at p6
  simp only [Option.some.injEq,Value.iface.injEq,Value.slice.injEq,true_and] at p6
  obtain ⟨rfl,rfl,rfl⟩:=p6
  have hml:(ys.take m).length=m:=by rw [List.length_take]; omega
  refine ⟨B,d,by rw [hml],by rw [hml]; exact p1,p2,(fun e=>by cases e),p3,fun a ha=>⟨fun hd=>p4 a ha,?_⟩⟩
  by_cases hd:d=0
  ·have hm0:m=0:=by omega
   subst hm0
   simp only [List.take_zero,CE]
  ·obtain ⟨g,rfl,hB⟩:=p8 hq hd
   rw [ha] at hB
   injection hB with hB
   subst hB
   simp only [Nat.zero_mul]
   refine CE.mk fun j x hj=>?_
   have hj2:ys[j]?=some x:=by
    rw [List.getElem?_take] at hj
    split at hj
    ·exact hj
    ·cases hj
   have hxl:=hlen x (List.mem_of_getElem? hj2)
   refine ⟨hxl,CC.mk fun i y hi=>?_⟩
   obtain ⟨v,hv,hy⟩:=h6.get (flat_get hlen hj2 hi)
   have hlt:j*s+i < vals.length:=(List.getElem?_eq_some_iff.1 hv).1
   refine ⟨v,?_,hy.ext hS (MLe.refl _)⟩
   show (if some (⟨g,0,none⟩:Addr)=some ⟨g,0,none⟩∧0+j*s+i < vals.length then vals[0+j*s+i]? else S1 g (0+j*s+i))=some v
   rw [Nat.zero_add,if_pos ⟨rfl,hlt⟩]
   exact hv
def mcompF_s:SpH
 | [.rw 0 2 n],[.row 143 2 xs]=>some (n=xs.length∧EdR xs∧DupE xs,.sl 2 false (cmpct xs),[.gone])
 | _,_=>none
theorem mcompF_ok (gl:Glob):HOK Tryz.prog gl 92 mcompF_s:=by
 refine ⟨(mcomp_ok gl).1,?_⟩
 intro xs bs pre r bs2 h hp
 unfold mcompF_s at h
 split at h
 ·rename_i n ys
  simp only [Option.some.injEq,Prod.mk.injEq] at h
  obtain ⟨h1,h2,h3⟩:=h
  subst h1 h2 h3
  have hl:(cmpct ys).length≤n:=by have:(cmpct ys).length < ys.length:=hp.2.2; omega
  have hc:=(mcomp_ok gl).2 [.rw 0 2 n] [.row 143 2 ys] _ _ _ rfl hp
  have:=hc_frz (by decide) (by rw [List.length_append,List.length_replicate]; omega) (by rw [List.length_append]; omega) hc
  rwa [List.take_left] at this
 ·cases h
end Go.Proofs.YtgbbmadjdaphnaaGreatDoor
namespace Go.Proofs.YtgbbmadjdaphnaaGreatDoor
open Go
set_option linter.unusedVariables false
set_option linter.unusedSimpArgs false
abbrev NrT:=Int→Int→Int→Int→Int × Int × Int × Int
def preK:Nat→Code→List Code
 | k+1,.seq a b=>a::preK k b
 | _,_=>[]
def tailK:Nat→Code→Code
 | k+1,.seq _ b=>tailK k b
 | _,c=>c
def bodyC (fn:Func):Code:=match fn.body with
 | some c=>c
 | none=>.skip
def acodeL (P:Program) (E:Env) (C:Cx) (inv:Nat→St→Option LInv) (fuel:Nat):List Code→St→(St→Prop)→Prop
 | [],st,K=>K st
 | c::l,st,K=>acode P E C inv fuel c st (fun st'=>acodeL P E C inv fuel l st' K) (fun _ _=>False) (fun _=>False)
def clB (nrm:NrT) (l:List (Int × AV)) (n f a b:Int) (cs:List (List AV)):List (List AV):=upto (fun b cs=>cs++celN nrm l (hN n) f (a*hN n) (b*hN n) ((n - 1 - a - b)*hN n)) b (n - a) cs
def clA (nrm:NrT) (l:List (Int × AV)) (n f a:Int) (cs:List (List AV)):List (List AV):=upto (fun a cs=>clB nrm l n f a 0 cs) a n cs
def clF (nrm:NrT) (l:List (Int × AV)) (n f:Int) (cs:List (List AV)):List (List AV):=upto (fun f cs=>clA nrm l n f 0 cs) f 20 cs
def clG (nrm:NrT) (n:Int):List (List AV):=clF nrm (ptG nrm n).2 n 0 []
def edR (r:List AV):List (List AV):=[[.int .i64 (nI r 0),.int .i64 (nI r 1)],[.int .i64 (nI r 0),.int .i64 (nI r 2)],[.int .i64 (nI r 1),.int .i64 (nI r 2)]]
def edL (cs:List (List AV)):List (List AV):=cs.flatMap edR
def celG (nrm:NrT) (n:Int):List (List AV):=sortR 3 cf3 (clG nrm n)
def edgS (nrm:NrT) (n:Int):List (List AV):=sortR 2 cf2 (edL (celG nrm n))
def edgG (nrm:NrT) (n:Int):List (List AV):=cmpct (edgS nrm n)
structure BldP (nrm:NrT) (n:Int):Prop where
 lo:1≤n
 hi:n≤4
 rg:∀ q,0≤mInt (ptG nrm n).2 q∧mInt (ptG nrm n).2 q < 1000
 dup:DupE (edgS nrm n)
structure RowB (cs:List (List AV)) (m:Int):Prop where
 ok:∀ r ∈ cs,okR 3 r=true
 le:(cs.length:Int)≤m
structure BlX (nrm:NrT) (n:Int) (x:Int × List (List AV)):Prop where
 lo:0≤x.1
 hi:x.1≤20
 go:clF nrm (ptG nrm n).2 n x.1 x.2=clG nrm n
 sm:RowB x.2 (32*x.1)
 ne:x.2=[]→x.1=0
structure BlY (nrm:NrT) (n f:Int) (x:Int × List (List AV)):Prop where
 fl:0≤f
 fh:f < 20
 lo:0≤x.1
 hi:x.1≤n
 go:clF nrm (ptG nrm n).2 n (f+1) (clA nrm (ptG nrm n).2 n f x.1 x.2)=clG nrm n
 sm:RowB x.2 (32*f+8*x.1)
 ne:x.2=[]→x.1=0
structure BlZ (nrm:NrT) (n f a:Int) (x:Int × List (List AV)):Prop where
 fl:0≤f
 fh:f < 20
 al:0≤a
 ah:a < n
 lo:0≤x.1
 hi:x.1≤n - a
 go:clF nrm (ptG nrm n).2 n (f+1) (clA nrm (ptG nrm n).2 n f (a+1) (clB nrm (ptG nrm n).2 n f a x.1 x.2))=clG nrm n
 sm:RowB x.2 (32*f+8*a+2*x.1)
 ne:x.2=[]→x.1=0
structure BlE (cs:List (List AV)) (x:Int × List (List AV)):Prop where
 lo:0≤x.1
 hi:x.1≤cs.length
 eq:x.2=edL (cs.take x.1.toNat)
def blH (nrm:NrT) (n:Int) (cs:List (List AV)):List (Nat × Blk):=[(1014,.cells [.int .i64 n,.int .i64 (hN n),.sl 4 false (ptG nrm n).1,.mpv 2014,.rw 1600 3 cs.length,.nils,.nils]),(2014,.mp 27 3 (ptG nrm n).2),(1600,.row 162 3 cs)]
def bl3 (nrm:NrT) (n:Int):LInv:=⟨Int × List (List AV),fun x=>⟨[(0,.int .i64 n),(3,.ptr 1014 0),(15,.int .i64 x.1)],blH nrm n x.2⟩,BlX nrm n,fun x=>(20 - x.1).toNat,none⟩
def bl6 (nrm:NrT) (n f:Int):LInv:=⟨Int × List (List AV),fun x=>⟨[(0,.int .i64 n),(3,.ptr 1014 0),(15,.int .i64 f),(4,.int .i64 f),(5,.int .i64 x.1)],blH nrm n x.2⟩,BlY nrm n f,fun x=>(n - x.1).toNat,none⟩
def bl9 (nrm:NrT) (n f a:Int):LInv:=⟨Int × List (List AV),fun x=>⟨[(0,.int .i64 n),(3,.ptr 1014 0),(15,.int .i64 f),(4,.int .i64 f),(5,.int .i64 a),(6,.int .i64 x.1)],blH nrm n x.2⟩,BlZ nrm n f a,fun x=>(n - a - x.1).toNat,none⟩
def bl15 (nrm:NrT) (n:Int):LInv:=⟨Int × List (List AV),fun x=>⟨[(0,.int .i64 n),(3,.ptr 1014 0),(66,.rw 1600 3 (celG nrm n).length),(67,.int .i64 (celG nrm n).length),(68,.int .i64 x.1)],
 [(1014,.cells [.int .i64 n,.int .i64 (hN n),.sl 4 false (ptG nrm n).1,.mpv 2014,.rw 1600 3 (celG nrm n).length,.rw 1700 2 x.2.length,.nils]),(2014,.mp 27 3 (ptG nrm n).2),(1600,.row 162 3 (celG nrm n)),(1700,.row 143 2 x.2)]⟩,BlE (celG nrm n),fun x=>((celG nrm n).length - x.1).toNat,none⟩
theorem at_b {nrm:NrT} {l:List (Int × AV)} (h:∀ q,0≤mInt l q∧mInt l q < 1000) (f a b c:Int):0≤atV nrm l f a b c∧atV nrm l f a b c < 1000:=h _
theorem celR_ok {x y z:Int} (hx:0≤x∧x < 1000) (hy:0≤y∧y < 1000) (hz:0≤z∧z < 1000):okR 3 (celR x y z)=true:=by
 have hb:∀ i,i < 3→-1000000≤s3 x y z i∧s3 x y z i≤1000000:=fun i hi=>by rcases s3_mem x y z hi with e | e | e <;> rw [e] <;> omega
 unfold okR celR
 simp only [List.length_cons,List.length_nil,List.all_cons,List.all_nil,okA,Bool.and_true,decide_eq_true (hb 0 (by decide)),decide_eq_true (hb 1 (by decide)),decide_eq_true (hb 2 (by decide))]
 rfl
theorem celN_ok {nrm:NrT} {l:List (Int × AV)} (hl:∀ q,0≤mInt l q∧mInt l q < 1000) (h f a b c:Int):(∀ r ∈ celN nrm l h f a b c,okR 3 r=true)∧1≤(celN nrm l h f a b c).length∧(celN nrm l h f a b c).length≤2:=by
 have hc:∀ f a b c f' a' b' c' f'' a'' b'' c'',okR 3 (celL nrm l f a b c f' a' b' c' f'' a'' b'' c'')=true:=fun _ _ _ _ _ _ _ _ _ _ _ _=>celR_ok (at_b hl _ _ _ _) (at_b hl _ _ _ _) (at_b hl _ _ _ _)
 unfold celN
 split
 ·refine ⟨fun r hr=>?_,by simp,by simp⟩
  simp only [List.mem_cons,List.not_mem_nil,or_false] at hr
  rcases hr with rfl | rfl <;> exact hc _ _ _ _ _ _ _ _ _ _ _ _
 ·refine ⟨fun r hr=>?_,by simp,by simp⟩
  simp only [List.mem_cons,List.not_mem_nil,or_false] at hr
  subst hr; exact hc _ _ _ _ _ _ _ _ _ _ _ _
theorem ok3 {r:List AV} (h:okR 3 r=true):r=[.int .i64 (nI r 0),.int .i64 (nI r 1),.int .i64 (nI r 2)]∧∀ i,i < 3→-1000000≤nI r i∧nI r i≤1000000:=by
 have hb:=fun i hi=>nI_b (⟨r,h⟩:RwT 3) (i:=i) hi
 have hl:r.length=3:=by have:=encR_len (⟨r,h⟩:RwT 3); simpa [encR] using this
 refine ⟨?_,hb⟩
 match r,hl with
 | [a,b,c],_ =>
  have ha:=(okR_at h (i:=0) rfl).2.1
  have hb:=(okR_at h (i:=1) rfl).2.1
  have hc:=(okR_at h (i:=2) rfl).2.1
  show [a,b,c]=[.int .i64 (aI a),.int .i64 (aI b),.int .i64 (aI c)]
  rw [← ha,← hb,← hc]
theorem ok2 {r:List AV} (h:okR 2 r=true):r=[.int .i64 (nI r 0),.int .i64 (nI r 1)]∧∀ i,i < 2→-1000000≤nI r i∧nI r i≤1000000:=by
 have hb:=fun i hi=>nI_b (⟨r,h⟩:RwT 2) (i:=i) hi
 have hl:r.length=2:=by have:=encR_len (⟨r,h⟩:RwT 2); simpa [encR] using this
 refine ⟨?_,hb⟩
 match r,hl with
 | [a,b],_ =>
  have ha:=(okR_at h (i:=0) rfl).2.1
  have hb:=(okR_at h (i:=1) rfl).2.1
  show [a,b]=[.int .i64 (aI a),.int .i64 (aI b)]
  rw [← ha,← hb]
theorem mk2 {a b:Int} (ha:-1000000≤a∧a≤1000000) (hb:-1000000≤b∧b≤1000000):okR 2 [.int .i64 a,.int .i64 b]=true:=by
 unfold okR
 simp only [List.length_cons,List.length_nil,List.all_cons,List.all_nil,okA,Bool.and_true,decide_eq_true ha,decide_eq_true hb]
 rfl
theorem edR_ok {r:List AV} (h:okR 3 r=true):∀ q ∈ edR r,okR 2 q=true:=by
 have hb:=(ok3 h).2
 intro q hq
 simp only [edR,List.mem_cons,List.not_mem_nil,or_false] at hq
 rcases hq with rfl | rfl | rfl
 ·exact mk2 (hb 0 (by decide)) (hb 1 (by decide))
 ·exact mk2 (hb 0 (by decide)) (hb 2 (by decide))
 ·exact mk2 (hb 1 (by decide)) (hb 2 (by decide))
theorem edL_len (cs:List (List AV)):(edL cs).length=3*cs.length:=by
 induction cs with
 | nil=>rfl
 | cons x l ih=>simp only [edL,List.flatMap_cons,List.length_append,List.length_cons] at ih ⊢; rw [ih]; simp [edR]; omega
theorem edL_ok {cs:List (List AV)} (h:∀ r ∈ cs,okR 3 r=true):∀ q ∈ edL cs,okR 2 q=true:=by
 intro q hq
 simp only [edL,List.mem_flatMap] at hq
 obtain ⟨r,hr,hq⟩:=hq
 exact edR_ok (h r hr) q hq
def bldT (nrm:NrT) (n:Int):St:=⟨[(0,.int .i64 n),(3,.ptr 1014 0)],[(1014,.cells [.int .i64 n,.int .i64 (hN n),.sl 4 false (ptG nrm n).1,.mpv 2014,.sl 3 false (celG nrm n),.sl 2 false (edgG nrm n),.nils]),(2014,.mp 27 3 (ptG nrm n).2)]⟩
def bldL_T:Prop :=
  ∀ (nrm:NrT) (vld:Int→Int→Int→Int→Bool) (n:Int),BldP nrm n→((1:Int)≤n∧n≤(4:Int))∧(∃ x,BlX nrm n x∧(n=n∧(0:Nat)=(0:Nat)∧(0:Int)=x.fst
 ∧True)∧(n=n∧hN n=hN n∧(True∧(ptG nrm n).fst=(ptG nrm n).fst)∧True∧(0:Nat)=x.snd.length∧True∧True∧True)∧(ptG nrm n).snd=(ptG nrm n).snd∧[]=x.snd
 ∧True)∧∀ (x:Int × List (List AV)),BlX nrm n x→bif decide (x.fst < (20:Int)) then (∃ x_1,BlY nrm n x.fst x_1∧(n=n∧(0:Nat)=(0:Nat)∧x.fst=x.fst∧x.fst =
  x.fst∧(0:Int)=x_1.fst∧True)∧(n=n∧hN n=hN n∧(True∧(ptG nrm n).fst=(ptG nrm n).fst)∧True∧x.snd.length=x_1.snd.length∧True∧True∧True)∧(ptG nrm
  n).snd=(ptG nrm n).snd∧x.snd=x_1.snd∧True)∧∀ (x_1:Int × List (List AV)),BlY nrm n x.fst x_1→bif decide (x_1.fst < n) then (∃ x_2,BlZ nrm n x.fst x_1.fst x_2∧(n =
  n∧(0:Nat)=(0:Nat)∧x.fst=x.fst∧x.fst=x.fst∧x_1.fst=x_1.fst∧(0:Int)=x_2.fst∧True)∧(n=n∧hN n=hN n∧(True∧(ptG nrm n).fst=(ptG nrm n).fst) ∧
  True∧x_1.snd.length=x_2.snd.length∧True∧True∧True)∧(ptG nrm n).snd=(ptG nrm n).snd∧x_1.snd=x_2.snd∧True)∧∀ (x_2:Int × List (List AV)),BlZ nrm n x.fst
  x_1.fst x_2→bif decide (rng IntKind.i64 (x_1.fst+x_2.fst)) then bif decide (x_1.fst+x_2.fst < n) then bif decide (rng IntKind.i64 (x_1.fst*hN n)) then bif decide (rng
  IntKind.i64 (x_2.fst*hN n)) then bif decide (rng IntKind.i64 (n - (1:Int))) then bif decide (rng IntKind.i64 (n - (1:Int) - x_1.fst)) then bif decide (rng IntKind.i64 (n - (1
 :Int) - x_1.fst - x_2.fst)) then bif decide (rng IntKind.i64 ((n - (1:Int) - x_1.fst - x_2.fst)*hN n)) then ((x_2.snd.length=x_2.snd.length∧x_2.snd.length≤(999:Nat)) ∧
  ((0:Int)≤hN n∧hN n≤(840:Int))∧((0:Int)≤x.fst∧x.fst < (20:Int))∧((0:Int)≤x_1.fst*hN n∧x_1.fst*hN n≤(840:Int))∧((0:Int)≤x_2.fst*hN n ∧
  x_2.fst*hN n≤(840:Int))∧(0:Int)≤(n - (1:Int) - x_1.fst - x_2.fst)*hN n∧(n - (1:Int) - x_1.fst - x_2.fst)*hN n≤(840:Int))∧bif decide (rng IntKind.i64
  (x_2.fst+(1:Int))) then ∃ y,BlZ nrm n x.fst x_1.fst y∧(bl9 nrm n x.fst x_1.fst).m y < (bl9 nrm n x.fst x_1.fst).m x_2∧(n=n∧(0:Nat)=(0:Nat)∧x.fst=x.fst ∧
  x.fst=x.fst∧x_1.fst=x_1.fst∧x_2.fst+(1:Int)=y.fst∧True)∧(n=n∧hN n=hN n∧(True∧(ptG nrm n).fst=(ptG nrm n).fst)∧True∧(x_2.snd++celN nrm (ptG nrm
  n).snd (hN n) x.fst (x_1.fst*hN n) (x_2.fst*hN n) ((n - (1:Int) - x_1.fst - x_2.fst)*hN n)).length=y.snd.length∧True∧True∧True)∧(ptG nrm n).snd=(ptG nrm n).snd
 ∧x_2.snd++celN nrm (ptG nrm n).snd (hN n) x.fst (x_1.fst*hN n) (x_2.fst*hN n) ((n - (1:Int) - x_1.fst - x_2.fst)*hN n)=y.snd∧True else False else False else False
  else False else False else False else False else bif decide (rng IntKind.i64 (x_1.fst+(1:Int))) then ∃ y,BlY nrm n x.fst y∧(bl6 nrm n x.fst).m y < (bl6 nrm n x.fst).m x_1 ∧
  (n=n∧(0:Nat)=(0:Nat)∧x.fst=x.fst∧x.fst=x.fst∧x_1.fst+(1:Int)=y.fst∧True)∧(n=n∧hN n=hN n∧(True∧(ptG nrm n).fst=(ptG nrm n).fst)∧True ∧
  x_2.snd.length=y.snd.length∧True∧True∧True)∧(ptG nrm n).snd=(ptG nrm n).snd∧x_2.snd=y.snd∧True else False else False else bif decide (rng IntKind.i64 (x.fst+(1
 :Int))) then ∃ y,BlX nrm n y∧(bl3 nrm n).m y < (bl3 nrm n).m x∧(n=n∧(0:Nat)=(0:Nat)∧x.fst+(1:Int)=y.fst∧True)∧(n=n∧hN n=hN n∧(True∧(ptG nrm
  n).fst=(ptG nrm n).fst)∧True∧x_1.snd.length=y.snd.length∧True∧True∧True)∧(ptG nrm n).snd=(ptG nrm n).snd∧x_1.snd=y.snd∧True else False else AllR (3:Nat)
  x.snd x.snd.length∧(∃ x_1,BlE (celG nrm n) x_1∧(n=n∧(0:Nat)=(0:Nat)∧x.snd.length=(celG nrm n).length∧(↑x.snd.length:Int)=(↑(celG nrm n).length:Int)∧(0
 :Int)=x_1.fst∧True)∧(n=n∧hN n=hN n∧(True∧(ptG nrm n).fst=(ptG nrm n).fst)∧True∧x.snd.length=(celG nrm n).length∧(0:Nat)=x_1.snd.length∧True∧True)
 ∧(ptG nrm n).snd=(ptG nrm n).snd∧sortR (3:Nat) cf3 x.snd=celG nrm n∧[]=x_1.snd∧True)∧∀ (x:Int × List (List AV)),BlE (celG nrm n) x→bif decide (x.fst < (↑(celG
  nrm n).length:Int)) then bif decide ((0:Int)≤x.fst∧x.fst < (↑(celG nrm n).length:Int)) then bif decide ((celG nrm n).length=(celG nrm n).length∧x.fst.toNat < (celG
  nrm n).length) then ∃ n_1 n_2 n_3,List.take [AV.int IntKind.i64 n_1,AV.int IntKind.i64 n_2,AV.int IntKind.i64 n_3].length (List.drop (0:Nat) ((celG nrm n).getD x.fst.toNat
  []))=[AV.int IntKind.i64 n_1,AV.int IntKind.i64 n_2,AV.int IntKind.i64 n_3]∧bif decide (x.snd.length=x.snd.length∧x.snd.length+[[AV.int IntKind.i64 n_1,AV.int
  IntKind.i64 n_2],[AV.int IntKind.i64 n_1,AV.int IntKind.i64 n_3],[AV.int IntKind.i64 n_2,AV.int IntKind.i64 n_3]].length≤(9223372036854775807:Nat)∧(x.snd.length +
  [[AV.int IntKind.i64 n_1,AV.int IntKind.i64 n_2],[AV.int IntKind.i64 n_1,AV.int IntKind.i64 n_3],[AV.int IntKind.i64 n_2,AV.int IntKind.i64 n_3]].length)*(16:Nat) ≤
  (140737488355328:Nat)) then bif decide (rng IntKind.i64 (x.fst+(1:Int))) then ∃ y,BlE (celG nrm n) y∧((fun x=>bl15 nrm n) (0:Int)).m y < ((fun x=>bl15 nrm n) (0 :
  Int)).m x∧(n=n∧(0:Nat)=(0:Nat)∧(celG nrm n).length=(celG nrm n).length∧(↑(celG nrm n).length:Int)=(↑(celG nrm n).length:Int)∧x.fst+(1:Int)=y.fst ∧
  True)∧(n=n∧hN n=hN n∧(True∧(ptG nrm n).fst=(ptG nrm n).fst)∧True∧(celG nrm n).length=(celG nrm n).length∧(x.snd++[[AV.int IntKind.i64 n_1,AV.int
  IntKind.i64 n_2],[AV.int IntKind.i64 n_1,AV.int IntKind.i64 n_3],[AV.int IntKind.i64 n_2,AV.int IntKind.i64 n_3]]).length=y.snd.length∧True∧True)∧(ptG nrm n).snd=(ptG
  nrm n).snd∧celG nrm n=celG nrm n∧x.snd++[[AV.int IntKind.i64 n_1,AV.int IntKind.i64 n_2],[AV.int IntKind.i64 n_1,AV.int IntKind.i64 n_3],[AV.int IntKind.i64 n_2,AV.int
  IntKind.i64 n_3]]=y.snd∧True else False else False else False else False else AllR (2:Nat) x.snd x.snd.length∧(x.snd.length=(sortR (2:Nat) cf2 x.snd).length∧EdR
  (sortR (2:Nat) cf2 x.snd)∧(cmpct (sortR (2:Nat) cf2 x.snd)).length.succ.le (sortR (2:Nat) cf2 x.snd).length)∧(n=n∧(0:Nat)=(0:Nat)∧True)∧(n=n∧hN n=hN n
 ∧(True∧(ptG nrm n).fst=(ptG nrm n).fst)∧True∧((celG nrm n).length=(celG nrm n).length∧celG nrm n=celG nrm n)∧(True∧cmpct (sortR (2:Nat) cf2 x.snd)=edgG nrm
  n)∧True∧True)∧(ptG nrm n).snd=(ptG nrm n).snd∧True
theorem bldL_P:bldL_T:=by
 unfold bldL_T
 intro nrm vld n hP
 have n1:=hP.lo
 have n4:=hP.hi
 have hl:=hP.rg
 obtain ⟨h2,h8,hh⟩:=hN_b n1 n4
 refine ⟨⟨n1,n4⟩,⟨(0,[]),⟨by decide,by decide,rfl,⟨by simp,by decide⟩,fun _=>rfl⟩,by (repeat' (first | exact trivial | exact rfl | assumption | apply And.intro))⟩,?_⟩
 rintro ⟨f,cs⟩ ⟨fl,fh,fg,⟨fo,fs⟩,fn⟩
 simp only at fl fh fg fo fs fn
 refine csp (fun h=>⟨⟨(0,cs),⟨fl,h,Int.le_refl 0,by simp only; omega,(upto_lt h).symm.trans fg,⟨fo,by simp only; omega⟩,fun _=>rfl⟩,by (repeat' (first | exact trivial | exact rfl | assumption | apply And.intro))⟩,?_⟩) (fun h=>?_)
 ·clear fg fo fs fn
  rintro ⟨a,cs⟩ ⟨f0,f20,al,ah,ag,⟨ao,as_⟩,an⟩
  simp only at f0 f20 al ah ag ao as_ an
  refine csp (fun h=>⟨⟨(0,cs),⟨f0,f20,al,h,Int.le_refl 0,by simp only at h ⊢; omega,?_,⟨ao,by simp only; omega⟩,fun _=>rfl⟩,by (repeat' (first | exact trivial | exact rfl | assumption | apply And.intro))⟩,?_⟩) (fun h=>?_)
  ·have e:clA nrm (ptG nrm n).2 n f a cs=clA nrm (ptG nrm n).2 n f (a+1) (clB nrm (ptG nrm n).2 n f a 0 cs):=upto_lt (by simp only at h; omega)
   simp only
   rw [← e]; exact ag
  ·clear ag ao as_ an
   rintro ⟨b,cs⟩ ⟨_,_,a0,an,bl,bh,bg,⟨bo,bs⟩,bn⟩
   simp only at a0 an bl bh bg bo bs bn
   obtain ⟨m1,m2⟩:=mulB (x:=a) (h:=hN n) a0 (by omega) (by omega) h8
   obtain ⟨m3,m4⟩:=mulB (x:=b) (h:=hN n) bl (by omega) (by omega) h8
   refine cdI (by simp only; omega) (csp (fun h=>?_) (fun h=>?_))
   ·simp only at h
    have hd:∀ x:Int,0≤x→x≤n→0≤x*hN n∧x*hN n≤840:=fun x x0 xn=>⟨Int.mul_nonneg x0 (by omega),by rw [← hh]; exact Int.mul_le_mul_of_nonneg_right xn (by omega)⟩
    have d1:=hd a a0 (by omega)
    have d2:=hd b bl (by omega)
    have d3:=hd (n - 1 - a - b) (by omega) (by omega)
    have e:clB nrm (ptG nrm n).2 n f a b cs=clB nrm (ptG nrm n).2 n f a (b+1) (cs++celN nrm (ptG nrm n).2 (hN n) f (a*hN n) (b*hN n) ((n - 1 - a - b)*hN n)):=upto_lt (by omega)
    rw [e] at bg
    obtain ⟨c1,c2,c3⟩:=celN_ok (nrm:=nrm) hl (hN n) f (a*hN n) (b*hN n) ((n - 1 - a - b)*hN n)
    refine cdI (by simp only; omega) (cdI (by simp only; omega) (cdI (by omega) (cdI (by simp only; omega) (cdI (by simp only; omega) (cdI (by simp only; omega) ⟨⟨⟨rfl,by simp only; omega⟩,⟨by omega,h8⟩,⟨f0,f20⟩,d1,d2,d3⟩,cdI (by simp only; omega) ⟨(b+1,cs++celN nrm (ptG nrm n).2 (hN n) f (a*hN n) (b*hN n) ((n - 1 - a - b)*hN n)),⟨f0,f20,a0,an,by simp only; omega,by simp only; omega,bg,⟨fun r hr=>?_,?_⟩,fun e=>?_⟩,by simp only [bl9]; omega,by (repeat' (first | exact trivial | exact rfl | assumption | apply And.intro))⟩⟩)))))
    ·rcases List.mem_append.1 hr with hr | hr
     ·exact bo r hr
     ·exact c1 r hr
    ·simp only [List.length_append]; omega
    ·have e:cs++celN nrm (ptG nrm n).2 (hN n) f (a*hN n) (b*hN n) ((n - 1 - a - b)*hN n)=[]:=e
     have:=congrArg List.length e
     simp only [List.length_nil] at this
     rw [List.length_append] at this
     omega
   ·simp only at h
    have e:clB nrm (ptG nrm n).2 n f a b cs=cs:=upto_ge (by omega)
    rw [e] at bg
    exact cdI (by simp only; omega) ⟨(a+1,cs),⟨f0,f20,by simp only; omega,by simp only; omega,bg,⟨bo,by simp only; omega⟩,fun e=>by have:=bn e; omega⟩,by simp only [bl6]; omega,by (repeat' (first | exact trivial | exact rfl | assumption | apply And.intro))⟩
  ·simp only at h
   have e:clA nrm (ptG nrm n).2 n f a cs=cs:=upto_ge (by omega)
   rw [e] at ag
   exact cdI (by simp only; omega) ⟨(f+1,cs),⟨by simp only; omega,by simp only; omega,ag,⟨ao,by simp only; omega⟩,fun e=>by have:=an e; omega⟩,by simp only [bl3]; omega,by (repeat' (first | exact trivial | exact rfl | assumption | apply And.intro))⟩
 ·simp only at h
  have e:clF nrm (ptG nrm n).2 n f cs=cs:=upto_ge (by omega)
  rw [e] at fg
  subst fg
  have hne:clG nrm n≠[]:=fun e=>by have:=fn e; omega
  have hpm:=sortR_perm (cf:=cf3) swo3 fo
  have hcl:(celG nrm n).length=(clG nrm n).length:=hpm.length_eq
  have hco:∀ r ∈ celG nrm n,okR 3 r=true:=fun r hr=>fo r (hpm.mem_iff.1 hr)
  refine ⟨⟨fo,hne,by simp only; omega,rfl⟩,⟨(0,[]),⟨Int.le_refl 0,by simp only; omega,rfl⟩,⟨⟨rfl,rfl,hcl.symm,by simp only; omega,rfl,trivial⟩,⟨rfl,rfl,⟨trivial,rfl⟩,trivial,hcl.symm,rfl,trivial,trivial⟩,rfl,rfl,rfl,trivial⟩⟩,?_⟩
  rintro ⟨i,es⟩ ⟨il,ih,ie⟩
  simp only at il ih ie
  refine csp (fun h=>?_) (fun h=>?_)
  ·simp only at h
   have hi:i.toNat < (celG nrm n).length:=by omega
   obtain ⟨p,q,t,hr⟩:∃ p q t,(celG nrm n).getD i.toNat []=[.int .i64 p,.int .i64 q,.int .i64 t]:=⟨_,_,_,(ok3 (hco _ (by rw [gD hi]; exact List.getElem_mem hi):okR 3 ((celG nrm n).getD i.toNat [])=true)).1⟩
   have el:es.length≤3000:=by rw [ie,edL_len,List.length_take]; omega
   refine cd1 (by simp only; omega) (cd1 ⟨rfl,hi⟩ ⟨p,q,t,by rw [hr]; rfl,cd1 ⟨rfl,by simp only [List.length_cons,List.length_nil]; omega,by simp only [List.length_cons,List.length_nil]; omega⟩ (cdI (by simp only; omega) ⟨(i+1,es++[[.int .i64 p,.int .i64 q],[.int .i64 p,.int .i64 t],[.int .i64 q,.int .i64 t]]),⟨by simp only; omega,by simp only; omega,?_⟩,by simp only [bl15]; omega,by (repeat' (first | exact trivial | exact rfl | assumption | apply And.intro))⟩)⟩)
   simp only
   rw [show (i+1).toNat=i.toNat+1 by omega,takeC hi,ie,hr]
   simp only [edL,List.flatMap_append,List.flatMap_cons,List.flatMap_nil,List.append_nil]
   rfl
  ·simp only at h
   have hi:i.toNat=(celG nrm n).length:=by omega
   rw [hi,List.take_length] at ie
   subst ie
   have heo:=edL_ok hco
   have hel:=edL_len (celG nrm n)
   have hpe:=sortR_perm (cf:=cf2) swo2 heo
   have hsl:(sortR 2 cf2 (edL (celG nrm n))).length=(edL (celG nrm n)).length:=hpe.length_eq
   have hen:edL (celG nrm n)≠[]:=fun e=>by
    rw [e] at hel
    have h0:(clG nrm n).length=0:=by simp only [List.length_nil] at hel; omega
    exact hne (List.eq_nil_of_length_eq_zero h0)
   refine ⟨⟨heo,hen,by simp only; omega,rfl⟩,⟨hsl.symm,⟨fun j hj=>?_,by simp only; omega⟩,hP.dup⟩,?_⟩
   ·have:=ok2 (heo _ (hpe.mem_iff.1 (by rw [gD hj]; exact List.getElem_mem hj)):okR 2 ((sortR 2 cf2 (edL (celG nrm n))).getD j [])=true)
    exact ⟨_,_,this.1⟩
   ·(repeat' (first | exact trivial | exact rfl | assumption | apply And.intro))
def bldL_S:Prop:=∀ (nrm:NrT) (vld:Int→Int→Int→Int→Bool) (n:Int),BldP nrm n→acodeL Tryz.prog { glob:=glb,spec:=lk [],specH:=lk [(37,mpts_s nrm vld),(85,mcells_s nrm vld),(86,srtC_s),(90,srtE_s),(92,mcompF_s)],nowf:=true,shape:=[71] } { nt:=180,drop:=drp [(1,24576),(4,131072),(6,786432),(7,6291456),(9,125829120),(10,805306368),(11,72057592964186112),(12,144115188075855872),(13,4323455642275676160),(14,64563604257983430656),(16,3541774862152233910272),(17,79228157791897854723898736640),(18,79228162514264337593543950336),(19,2376844875427930127806318510080),(20,1293003612232793989526637269483520),(21,663315923677824229544770906057867264),(22,4652297985247205555163324710981206016),(24,255211775190703847597530955573826158592),(25,178405621305878064193822282806579460279631872),(26,93535926383216198520050697008095932071087634907136),(27,93536104789177786765035829293842113257979682750464),(28,1309505467048489014710501610113789585611715558506496),(30,71835728478088540235547516897670742982128396352356352),(31,95780971304118053647396689196894323976171195136475136),(32,383123885216472214589586756787577295904684780545900544),(33,766247770432944429179173513575154591809369561091801088)],fr:=1000,kp:=[],emp:=fun id=>cond (Nat.beq id 2) [(1101404,1600,162,3)] (cond (Nat.beq id 14) [(1101405,1700,143,2)] []),frz:=fun id=>cond (Nat.beq id 19) [1001600] [] } (fun id st=>cond (Nat.beq id 3) (some (bl3 nrm n)) (inv2 9 4 5 (bl9 nrm n) id st (invsN [(6,4,bl6 nrm n),(15,68,fun _=>bl15 nrm n)] id st))) 6 (preK 7 (bodyC Tryz.f43)) ⟨[(0,.int .i64 n)],[]⟩ (fun st=>leS st (bldT nrm n))
theorem bldL_e:bldL_T=bldL_S:=by kernel_rfl
theorem bldL:bldL_S:=@Eq.mp (bldL_T) (bldL_S) (bldL_e) (bldL_P)
end Go.Proofs.YtgbbmadjdaphnaaGreatDoor
namespace Go.Proofs.YtgbbmadjdaphnaaGreatDoor
open Go
open Go.RowKit (Below)
set_option linter.unusedVariables false
set_option linter.unusedSimpArgs false
def gK (k:Nat):Bool:=Nat.blt k 3000&&!(Nat.beq k 1002)
theorem gK_lt {k:Nat} (h:gK k=true):k < 3000∧k≠1002:=by
 simp only [gK,Bool.and_eq_true,Bool.not_eq_true'] at h
 refine ⟨Nat.le_of_ble_eq_true h.1,fun e=>?_⟩
 subst e; exact absurd h.2 (by decide)
mutual
def gA:AV→Bool
 | .agg cs=>gL cs
 | .tup cs=>gL cs
 | .fn _ cs=>gL cs
 | .ptr j _=>gK j
 | .acc j _ _=>gK j
 | .ms j _ _ _ _=>gK j
 | .rw j _ _=>gK j
 | .mw j _ _ _ _ _=>gK j
 | .prw j _ _ _ _=>gK j
 | .frz j _ _ _=>gK j
 | .mpv j=>gK j
 | _=>true
def gL:List AV→Bool
 | []=>true
 | x::xs=>gA x&&gL xs
end
theorem gN {j k:Nat} (h:gK j=true) (hk:(!(Nat.beq j k))=false):gK k=true:=by
 simp only [Bool.not_eq_false'] at hk
 rw [← Nat.eq_of_beq_eq_true hk]; exact h
mutual
theorem gA_nn {k:Nat}:∀ (x:AV),gA x=true→nn k x=false→gK k=true
 | .agg cs,h,e=>gL_nn cs (by simpa only [gA] using h) (by simpa only [nn] using e)
 | .tup cs,h,e=>gL_nn cs (by simpa only [gA] using h) (by simpa only [nn] using e)
 | .fn _ cs,h,e=>gL_nn cs (by simpa only [gA] using h) (by simpa only [nn] using e)
 | .ptr j _,h,e=>gN (by simpa only [gA] using h) (by simpa only [nn] using e)
 | .acc j _ _,h,e=>gN (by simpa only [gA] using h) (by simpa only [nn] using e)
 | .ms j _ _ _ _,h,e=>gN (by simpa only [gA] using h) (by simpa only [nn] using e)
 | .rw j _ _,h,e=>gN (by simpa only [gA] using h) (by simpa only [nn] using e)
 | .mw j _ _ _ _ _,h,e=>gN (by simpa only [gA] using h) (by simpa only [nn] using e)
 | .prw j _ _ _ _,h,e=>gN (by simpa only [gA] using h) (by simpa only [nn] using e)
 | .frz j _ _ _,h,e=>gN (by simpa only [gA] using h) (by simpa only [nn] using e)
 | .mpv j,h,e=>gN (by simpa only [gA] using h) (by simpa only [nn] using e)
 | .int _ _,_,e=>by simp [nn] at e
 | .bool _,_,e=>by simp [nn] at e
 | .str _,_,e=>by simp [nn] at e
 | .sl _ _ _,_,e=>by simp [nn] at e
 | .nils,_,e=>by simp [nn] at e
 | .ro _,_,e=>by simp [nn] at e
 | .nilp,_,e=>by simp [nn] at e
 | .undef,_,e=>by simp [nn] at e
 | .dead,_,e=>by simp [nn] at e
theorem gL_nn {k:Nat}:∀ (l:List AV),gL l=true→nnl k l=false→gK k=true
 | [],_,e=>by simp [nnl] at e
 | x::l,h,e=>by
  simp only [gL,Bool.and_eq_true] at h
  simp only [nnl,Bool.and_eq_false_iff] at e
  rcases e with e | e
  ·exact gA_nn x h.1 e
  ·exact gL_nn l h.2 e
end
def gB:Blk→Bool
 | .cells cs=>gL cs
 | .row e _ _=>Nat.blt e 2000000
 | .nrow _ _ _ _=>false
 | _=>true
theorem gB_in {b:Blk} {cs:List AV} (h:gB b=true) (hi:Inside b cs) {k:Nat} (e:nnl k cs=false):gK k=true:=by
 cases b with
 | cells ds=>have hi:ds=cs:=hi; subst hi; exact gL_nn _ h e
 | row e0 s xs=>have:e0 < 2000000:=Nat.le_of_ble_eq_true h; have:=hi.1; omega
 | nrow e0 s ks xs=>cases h
 | tok e s n=>exact hi.elim
 | mp kt et l=>exact hi.elim
 | gone=>exact hi.elim
def gT:List (Nat × AV)→Bool
 | []=>true
 | (_,x)::l=>gA x&&gT l
def gH:List (Nat × Blk)→Bool
 | []=>true
 | (k,b)::l=>gK k&&!(Nat.beq k 1116)&&gB b&&gH l
theorem gT_get:∀ {l:List (Nat × AV)} {t:Nat} {x:AV},gT l=true→lk l t=some x→gA x=true
 | [],t,x,_,e=>by simp [lk] at e
 | (j,y)::l,t,x,h,e=>by
  simp only [gT,Bool.and_eq_true] at h
  simp only [lk] at e
  cases hj:Nat.beq j t with
  | true=>rw [hj] at e; simp only [cond_true,Option.some.injEq] at e; subst e; exact h.1
  | false=>rw [hj] at e; exact gT_get h.2 e
theorem gH_get:∀ {l:List (Nat × Blk)} {k:Nat} {b:Blk},gH l=true→lk l k=some b→k < 3000∧k≠1002∧k≠1116∧gB b=true
 | [],t,x,_,e=>by simp [lk] at e
 | (j,y)::l,t,x,h,e=>by
  simp only [gH,Bool.and_eq_true,Bool.not_eq_true'] at h
  simp only [lk] at e
  cases hj:Nat.beq j t with
  | true =>
   rw [hj] at e; simp only [cond_true,Option.some.injEq] at e; subst e
   have:=Nat.eq_of_beq_eq_true hj
   subst this
   exact ⟨(gK_lt h.1.1.1).1,(gK_lt h.1.1.1).2,fun e=>by subst e; exact absurd h.1.1.2 (by decide),h.1.2⟩
  | false=>rw [hj] at e; exact gH_get h.2 e
theorem cv_gd {S:Pin} {x:AV} {m m':Nm} {v:Value} (hg:gA x=true) (hm:∀ k,k < 3000→k≠1002→m' k=m k) (h:CV S x m v):CV S x m' v :=
 CV.mono (Ext.refl S) x m m' v (fun k u hk e=>⟨u,by rw [hm k (gK_lt (gA_nn x hg hk)).1 (gK_lt (gA_nn x hg hk)).2]; exact e,.refl u⟩) h
theorem get_gd {S:Pin} {sl:List (Nat × AV)} {H H':List (Nat × Blk)} {m m':Nm} (hg:gT sl=true) (hm:∀ k,k < 3000→k≠1002→m' k=m k) {t:Nat} {v:Value} (h:CV S (St.get ⟨sl,H⟩ t) m v):CV S (St.get ⟨sl,H'⟩ t) m' v:=by
 unfold St.get at h ⊢
 simp only at h ⊢
 cases e:lk sl t with
 | none=>simp only [CV]
 | some x=>rw [e] at h; exact cv_gd (gT_get hg e) hm h
theorem held_gd {S:Pin} {b:Blk} {m m':Nm} {w:World} {k:Nat} (hg:gB b=true) (hk:k < 3000) (hk':k≠1002) (hm:∀ k,k < 3000→k≠1002→m' k=m k) (h:Held S m w k b):Held S m' w k b :=
 h.keep (Ext.refl S) (fun cs vs hi hv=>CVl.mono (Ext.refl S) cs m m' vs (fun j u hj e=>⟨u,by have:=gK_lt (gB_in hg hi hj); rw [hm j this.1 this.2]; exact e,.refl u⟩) hv) (hm k hk hk') (fun _ _ _ _=>⟨rfl,fun _=>rfl⟩)
theorem lk_app {α:Type} (b:List (Nat × α)) (k:Nat):∀ (a:List (Nat × α)),lk (a++b) k=match lk a k with | some x=>some x | none=>lk b k
 | []=>rfl
 | (j,x)::a=>by
  simp only [List.cons_append,lk]
  cases Nat.beq j k with
  | true=>rfl
  | false=>exact lk_app b k a
def bigE:Nat→List (List (List AV))→List (List AV)
 | _,[]=>[]
 | j,ys::l=>[.rw j 1 ys.length]::bigE (j+1) l
def bigR (e:Nat):Nat→List (List (List AV))→List (Nat × Blk)
 | _,[]=>[]
 | j,ys::l=>(j,.row e 1 ys)::bigR e (j+1) l
theorem bigE_get:∀ (l:List (List (List AV))) (i j:Nat),(bigE i l)[j]?=(l[j]?).map fun ys=>[AV.rw (i+j) 1 ys.length]
 | [],i,j=>by simp [bigE]
 | ys::l,i,0=>by simp [bigE]
 | ys::l,i,j+1=>by
  simp only [bigE,List.getElem?_cons_succ]
  rw [bigE_get l (i+1) j,show i+1+j=i+(j+1) by omega]
theorem bigE_len:∀ (l:List (List (List AV))) (i:Nat),(bigE i l).length=l.length
 | [],i=>rfl
 | ys::l,i=>by simp only [bigE,List.length_cons,bigE_len l (i+1)]
theorem bigR_lk (e:Nat):∀ (l:List (List (List AV))) (i k:Nat),lk (bigR e i l) k=if i≤k then (l[k - i]?).map (Blk.row e 1) else none
 | [],i,k=>by simp [bigR,lk]
 | b::l,i,k=>by
  simp only [bigR,lk]
  rw [bigR_lk e l _ k]
  by_cases h:i=k
  ·subst h; rw [nbeq_self]; simp
  ·rw [nbeq_ne h]
   simp only [cond_false]
   by_cases h1:i≤k
   ·rw [if_pos (by omega),if_pos h1,show k - i=(k - (i+1))+1 by omega]; simp
   ·rw [if_neg (by omega),if_neg h1]
abbrev tOut:Nat:=22
abbrev tInn:Nat:=3
def bigH (X:List (Nat × Blk)) (xss:List (List (List AV))):List (Nat × Blk):=X++(1116,.row (tOut+2000000) 1 (bigE 3000 xss))::bigR tInn 3000 xss
def kpJ:List Nat:=1002::names0 4000 200
def smallH (X:List (Nat × Blk)) (els:List (List AV)) (ys:List (List AV)):List (Nat × Blk):=X++[(1116,.nrow tOut 1 kpJ els),(1002,.row tInn 1 ys)]
theorem big_X {X:List (Nat × Blk)} {xss:List (List (List AV))} {k:Nat} {b:Blk} (h:lk X k=some b):lk (bigH X xss) k=some b:=by
 simp only [bigH,lk_app,h]
theorem big_out {X:List (Nat × Blk)} (hX:gH X=true) (xss:List (List (List AV))):lk (bigH X xss) 1116=some (.row (tOut+2000000) 1 (bigE 3000 xss)):=by
 simp only [bigH,lk_app]
 cases e:lk X 1116 with
 | some b=>exact absurd rfl (gH_get hX e).2.2.1
 | none=>simp only [lk,nbeq_self,cond_true]
theorem big_inn {X:List (Nat × Blk)} (hX:gH X=true) {xss:List (List (List AV))} {j:Nat} {ys:List (List AV)} (h:xss[j]?=some ys):lk (bigH X xss) (3000+j)=some (.row tInn 1 ys):=by
 simp only [bigH,lk_app]
 cases e:lk X (3000+j) with
 | some b=>have:=(gH_get hX e).1; omega
 | none =>
  simp only [lk]
  rw [nbeq_ne (by omega:1116≠3000+j),bigR_lk,if_pos (by omega),show 3000+j - 3000=j by omega,h]
  rfl
theorem big_cases {X:List (Nat × Blk)} {xss:List (List (List AV))} {k:Nat} {b:Blk} (h:lk (bigH X xss) k=some b):lk X k=some b∨(k=1116∧b=.row (tOut+2000000) 1 (bigE 3000 xss))∨∃ j ys,k=3000+j∧xss[j]?=some ys∧b=.row tInn 1 ys:=by
 simp only [bigH,lk_app] at h
 cases e:lk X k with
 | some c=>rw [e] at h; exact .inl h
 | none =>
  rw [e] at h
  simp only [lk] at h
  by_cases h1:1116=k
  ·subst h1
   rw [nbeq_self] at h
   simp only [cond_true,Option.some.injEq] at h
   exact .inr (.inl ⟨rfl,h.symm⟩)
  ·rw [nbeq_ne h1,bigR_lk] at h
   simp only [cond_false] at h
   by_cases h2:3000≤k
   ·rw [if_pos h2] at h
    cases e2:xss[k - 3000]? with
    | none=>rw [e2] at h; cases h
    | some ys=>rw [e2] at h; simp only [Option.map_some,Option.some.injEq] at h; exact .inr (.inr ⟨k - 3000,ys,by omega,e2,h.symm⟩)
   ·rw [if_neg h2] at h; cases h
theorem small_X {X:List (Nat × Blk)} {els ys:List (List AV)} {k:Nat} {b:Blk} (h:lk X k=some b):lk (smallH X els ys) k=some b:=by
 simp only [smallH,lk_app,h]
theorem small_out {X:List (Nat × Blk)} (hX:gH X=true) (els ys:List (List AV)):lk (smallH X els ys) 1116=some (.nrow tOut 1 kpJ els):=by
 simp only [smallH,lk_app]
 cases e:lk X 1116 with
 | some b=>exact absurd rfl (gH_get hX e).2.2.1
 | none=>simp only [lk,nbeq_self,cond_true]
theorem small_inn {X:List (Nat × Blk)} (hX:gH X=true) (els ys:List (List AV)):lk (smallH X els ys) 1002=some (.row tInn 1 ys):=by
 simp only [smallH,lk_app]
 cases e:lk X 1002 with
 | some b=>exact absurd rfl (gH_get hX e).2.1
 | none=>simp only [lk,nbeq_ne (by omega:1116≠1002),nbeq_self,cond_true,cond_false]
theorem small_cases {X:List (Nat × Blk)} {els ys:List (List AV)} {k:Nat} {b:Blk} (h:lk (smallH X els ys) k=some b):lk X k=some b∨(k=1116∧b=.nrow tOut 1 kpJ els)∨(k=1002∧b=.row tInn 1 ys):=by
 simp only [smallH,lk_app] at h
 cases e:lk X k with
 | some c=>rw [e] at h; exact .inl h
 | none =>
  rw [e] at h
  simp only [lk] at h
  by_cases h1:1116=k
  ·subst h1
   rw [nbeq_self] at h
   simp only [cond_true,Option.some.injEq] at h
   exact .inr (.inl ⟨rfl,h.symm⟩)
  ·rw [nbeq_ne h1] at h
   simp only [cond_false] at h
   by_cases h2:1002=k
   ·subst h2
    rw [nbeq_self] at h
    simp only [cond_true,Option.some.injEq] at h
    exact .inr (.inr ⟨rfl,h.symm⟩)
   ·rw [nbeq_ne h2] at h; cases h
structure JS (G:Gh) (sl:List (Nat × AV)) (X:List (Nat × Blk)) (xss:List (List (List AV))) (a:Act) (w:World) (S:Pin) (m:Nm):Prop where
 rel:Rel G [] ⟨sl,bigH X xss⟩ a w S m
 nil:∀ j,xss[j]?=some []→m (3000+j)=some (.iface 0 (.slice none 0 0))
 gs:gT sl=true
 gh:gH X=true
theorem tOut_lt:¬ tOut+2000000 < 2000000:=by omega
theorem tInn_lt:tInn < 2000000:=by decide
section
variable {G:Gh} {sl:List (Nat × AV)} {X:List (Nat × Blk)} {xss:List (List (List AV))} {a:Act} {w:World} {S:Pin} {m:Nm}
theorem JS.row (h:JS G sl X xss a w S m) {j:Nat} {ys:List (List AV)} (hj:xss[j]?=some ys):HeldRow S m w (3000+j) tInn 1 ys:=h.rel.held _ _ (big_inn h.gh hj)
theorem jag_begin (N:Nat) (hR:Rel G [] ⟨sl,X++[(1116,.row tOut 1 (List.replicate N [.nils]))]⟩ a w S m) (hs:gT sl=true) (hX:gH X=true):∃ m',JS G sl X (List.replicate N []) a w S m':=by
 let m2:Nm:=fun k=>if 3000≤k then some (.iface 0 (.slice none 0 0)) else m k
 have hm:∀ k,k < 3000→m2 k=m k:=fun k hk=>if_neg (by omega)
 have hmg:∀ k,3000≤k→m2 k=some (.iface 0 (.slice none 0 0)):=fun k hk=>if_pos hk
 have hx:∀ {k b},lk X k=some b→lk (X++[(1116,.row tOut 1 (List.replicate N [AV.nils]))]) k=some b:=fun h=>by simp only [lk_app,h]
 have ho:lk (X++[(1116,.row tOut 1 (List.replicate N [AV.nils]))]) 1116=some (.row tOut 1 (List.replicate N [AV.nils])):=by
  simp only [lk_app]
  cases e:lk X 1116 with
  | some b=>exact absurd rfl (gH_get hX e).2.2.1
  | none=>simp only [lk,nbeq_self,cond_true]
 have hbk:∀ {k b},lk (bigH X (List.replicate N [])) k=some b→k < 3000→∃ b0,lk (X++[(1116,.row tOut 1 (List.replicate N [AV.nils]))]) k=some b0:=fun h hk=>by
  rcases big_cases h with h | ⟨rfl,_⟩ | ⟨j,ys,rfl,_⟩
  ·exact ⟨_,hx h⟩
  ·exact ⟨_,ho⟩
  ·omega
 have nil2:∀ {k u g},3000≤k→m2 k=some u→bk u=some g→False:=fun hk hu hg=>by
  rw [hmg _ hk] at hu
  injection hu with hu
  subst hu; cases hg
 refine ⟨m2,⟨{ hR with defers:=hR.defers,tmps:=fun t=>get_gd hs (fun k hk _=>hm k hk) (hR.tmps t),held:=?_,inj:=?_,own:=?_,m0:=fun k u e=>absurd (hR.keep k u e) (by simp) },fun j hj=>hmg _ (by omega),hs,hX⟩⟩
 ·intro k b hk
  rcases big_cases hk with hk | ⟨rfl,rfl⟩ | ⟨j,ys,rfl,hj,rfl⟩
  ·have:=gH_get hX hk
   exact held_gd this.2.2.2 this.1 this.2.1 (fun k hk _=>hm k hk) (hR.held _ _ (hx hk))
  ·obtain ⟨A,c,h1,h2,h3,h4⟩:=hR.held _ _ ho
   rw [List.length_replicate] at h1 h2
   refine ⟨A,c,by rw [hm _ (by omega),h1,bigE_len,List.length_replicate],by rw [bigE_len,List.length_replicate]; exact h2,h3,?_⟩
   rcases h4 with h4 | ⟨g,cur,fr,rfl,h7,hfr,h8,h9,h10⟩
   ·exact .inl h4
   ·refine .inr ⟨g,cur,fr,rfl,h7,.inl (hfr.lt (by decide)),h8,h9,fun j x hj=>?_⟩
    rw [bigE_get,List.getElem?_replicate] at hj
    by_cases hjN:j < N
    ·rw [if_pos hjN] at hj
     simp only [Option.map_some,Option.some.injEq,List.length_nil] at hj
     subst hj
     obtain ⟨q1,q2⟩:=h10 j [AV.nils] (by rw [List.getElem?_replicate,if_pos hjN])
     refine ⟨rfl,fun i y hi=>?_⟩
     cases i with
     | succ i=>simp at hi
     | zero =>
      simp at hi; subst hi
      obtain ⟨v,hv,ho,hy⟩:=q2 0 _ rfl
      refine ⟨v,hv,ho,?_⟩
      rw [rowNm_hi tOut_lt]
      simp only [CV] at hy ⊢
      subst hy
      exact ⟨⟨none,0,rfl,Nat.le_refl _,by decide,fun _=>rfl,fun a ha=>by cases ha⟩,none,0,0,hmg _ (by omega),Nat.le_refl _,fun _=>rfl⟩
    ·rw [if_neg hjN] at hj; cases hj
  ·rw [List.getElem?_replicate] at hj
   split at hj
   ·injection hj with hj
    subst hj
    exact ⟨none,0,hmg _ (by omega),Nat.le_refl _,by decide,.inl ⟨rfl,rfl⟩⟩
   ·cases hj
 ·intro k k' b b' u u' g hk hk' hne hu hu' hg hg'
  by_cases h1:3000≤k
  ·exact nil2 h1 hu hg
  ·by_cases h2:3000≤k'
   ·exact nil2 h2 hu' hg'
   ·rw [hm _ (by omega)] at hu hu'
    obtain ⟨c,hc⟩:=hbk hk (by omega)
    obtain ⟨c',hc'⟩:=hbk hk' (by omega)
    exact hR.inj k k' c c' u u' g hc hc' hne hu hu' hg hg'
 ·intro k b u g hk hu hg
  by_cases h1:3000≤k
  ·exact (nil2 h1 hu hg).elim
  ·rw [hm _ (by omega)] at hu
   obtain ⟨c,hc⟩:=hbk hk (by omega)
   exact hR.own k c u g hc hu hg
def phA (m:Nm) (j:Nat):List AV:=match m (3000+j) with
 | some (.iface 0 (.slice (some _) n c))=>[.ms (4000+j) 0 n c 1]
 | _=>[.nils]
def phM (m:Nm) (j:Nat):Option Value:=match m (3000+j) with
 | some (.iface 0 (.slice (some a) _ _))=>some (.pointer (some ⟨a.block,0,none⟩))
 | _=>none
def elJ (m:Nm) (A n:Nat) (j:Nat):List AV:=if j=A then [.rw 1002 1 n] else phA m j
def m1J (m:Nm) (A N:Nat):Nm:=fun k=>if k=1002 then m (3000+A) else if 4000≤k then (if k - 4000 < N∧k - 4000≠A then phM m (k - 4000) else none) else if k < 3000 then m k else none
def m0J (m:Nm) (A N:Nat):Nm:=fun k=>if k=1002∨4000≤k then m1J m A N k else none
def phi (A k:Nat):Nat:=if k=1002 then 3000+A else k
theorem phA_nn {m:Nm} {j k:Nat} {y:AV} {i:Nat} (h:(phA m j)[i]?=some y) (hk:nn k y=false):k=4000+j:=by
 unfold phA at h
 split at h
 ·cases i with
  | zero=>simp at h; subst h; simp only [nn,Bool.not_eq_false'] at hk; exact (Nat.eq_of_beq_eq_true hk).symm
  | succ i=>simp at h
 ·cases i with
  | zero=>simp at h; subst h; simp [nn] at hk
  | succ i=>simp at h
theorem phA_len (m:Nm) (j:Nat):(phA m j).length=1:=by unfold phA; split <;> rfl
theorem names0_in:∀ (n i k:Nat),i≤k→k < i+n→inL k (names0 i n)=true
 | 0,i,k,h1,h2=>by omega
 | n+1,i,k,h1,h2=>by
  simp only [names0,inL]
  by_cases h:i=k
  ·subst h; rw [nbeq_self]; rfl
  ·rw [names0_in n (Nat.succ i) k (by simp only [Nat.succ_eq_add_one]; omega) (by simp only [Nat.succ_eq_add_one]; omega),Bool.or_true]
theorem kpJ_in {k:Nat} (h:k=1002∨(4000≤k∧k < 4200)):inL k kpJ=true:=by
 rcases h with rfl | ⟨h1,h2⟩
 ·simp only [kpJ,inL,nbeq_self,Bool.true_or]
 ·simp only [kpJ,inL]
  rw [names0_in 200 4000 k h1 h2,Bool.or_true]
theorem kpJ_mem {k:Nat} (h:k=1002∨(4000≤k∧k < 4200)):k ∈ kpJ:=inL_of_mem (kpJ_in h)
theorem jag_in (h:JS G sl X xss a w S m) (hN:xss.length≤200) {A:Nat} {ys:List (List AV)} (hA:xss[A]?=some ys) :
  ∃ (els:List (List AV)) (m1 m0:Nm) (M1:Nat→Prop),els.length=xss.length∧els[A]?=some [.rw 1002 1 ys.length] ∧
   Rel ⟨w,S,m0,M1⟩ kpJ ⟨sl,smallH X els ys⟩ a w S m1 ∧
   ∀ (sl':List (Nat × AV)) (X':List (Nat × Blk)) (ys' els':List (List AV)) (a':Act) (w':World) (S':Pin) (m':Nm),gT sl'=true→gH X'=true→(ys'=[]→ys=[])→els'.length=els.length→els'[A]?=some [.rw 1002 1 ys'.length]→(∀ j,j≠A→els'[j]?=els[j]?) →
    Rel ⟨w,S,m0,M1⟩ kpJ ⟨sl',smallH X' els' ys'⟩ a' w' S' m'→∃ m2,JS G sl' X' (xss.set A ys') a' w' S' m2:=by
 have hR:=h.rel
 have hAN:A < xss.length:=(List.getElem?_eq_some_iff.1 hA).1
 let els:List (List AV):=(List.range xss.length).map (elJ m A ys.length)
 have hel:∀ j,els[j]?=if j < xss.length then some (elJ m A ys.length j) else none:=fun j=>by
  show ((List.range xss.length).map (elJ m A ys.length))[j]?=_
  rw [List.getElem?_map]
  by_cases hj:j < xss.length
  ·rw [if_pos hj,List.getElem?_range hj]; rfl
  ·rw [if_neg hj,List.getElem?_eq_none (by simpa using hj)]; rfl
 have hln:els.length=xss.length:=by show ((List.range xss.length).map _).length=_; simp
 let m1:Nm:=m1J m A xss.length
 let m0:Nm:=m0J m A xss.length
 let M1:Nat→Prop:=fun g=>∃ k b u,lk (smallH X els ys) k=some b∧m1 k=some u∧bk u=some g
 have hm:∀ k,k < 3000→k≠1002→m1 k=m k:=fun k h1 h2=>by
  show (if k=1002 then _ else if 4000≤k then _ else if k < 3000 then m k else none)=_
  rw [if_neg h2,if_neg (by omega),if_pos h1]
 have hm2:m1 1002=m (3000+A):=if_pos rfl
 have hm4:∀ j,j < xss.length→j≠A→m1 (4000+j)=phM m j:=fun j h1 h2=>by
  show (if 4000+j=1002 then _ else if 4000≤4000+j then (if 4000+j - 4000 < xss.length∧4000+j - 4000≠A then phM m (4000+j - 4000) else none) else _)=_
  rw [if_neg (by omega),if_pos (by omega),show 4000+j - 4000=j by omega,if_pos ⟨h1,h2⟩]
 have hphi:∀ {k b},lk (smallH X els ys) k=some b→m1 k=m (phi A k)∧∃ b0,lk (bigH X xss) (phi A k)=some b0:=fun {k b} hk=>by
  rcases small_cases hk with hk | ⟨rfl,_⟩ | ⟨rfl,_⟩
  ·have:=gH_get h.gh hk
   unfold phi
   rw [if_neg this.2.1]
   exact ⟨hm k this.1 this.2.1,_,big_X hk⟩
  ·exact ⟨hm _ (by omega) (by omega),_,big_out h.gh xss⟩
  ·exact ⟨hm2,_,big_inn h.gh hA⟩
 have hphx:∀ {k b},lk (smallH X els ys) k=some b→∀ j,j≠A→phi A k≠3000+j:=fun {k b} hk j hj=>by
  rcases small_cases hk with hk | ⟨rfl,_⟩ | ⟨rfl,_⟩
  ·have:=gH_get h.gh hk
   unfold phi
   rw [if_neg this.2.1]; omega
  ·unfold phi; rw [if_neg (by omega)]; omega
  ·unfold phi; rw [if_pos rfl]; omega
 have hM1:∀ {g},M1 g→G.w0.heap.size≤g∨G.M g:=fun {g} ⟨k,b,u,h1,h2,h3⟩=>by
  obtain ⟨e,b0,hb0⟩:=hphi h1
  rw [e] at h2
  exact hR.own _ b0 u g hb0 h2 h3
 have hM1j:∀ {g},M1 g→∀ {j y u},j≠A→xss[j]?=some y→m (3000+j)=some u→bk u=some g→False:=fun {g} ⟨k,b,u,h1,h2,h3⟩ {j y u'} hj hy hu hg=>by
  obtain ⟨e,b0,hb0⟩:=hphi h1
  rw [e] at h2
  exact hR.inj _ _ _ _ u u' g hb0 (big_inn h.gh hy) (hphx h1 j hj) h2 hu h3 hg
 refine ⟨els,m1,m0,M1,hln,by rw [hel,if_pos hAN]; simp only [elJ,if_true],?_,?_⟩
 ·refine { defers:=hR.defers,pin0:=Ext.refl S,pinNew:=fun _ _ _ _=>rfl,agree:=hR.agree,tmps:=fun t=>get_gd h.gs hm (hR.tmps t),held:=?_,inj:=?_,own:=fun k b u g hk hu hg=>.inr ⟨k,b,u,hk,hu,hg⟩,os:=rfl,tape:=rfl,output:=rfl,size:=Nat.le_refl _,frame:=fun _ _ _=>rfl,m0:=?_,keep:=?_ }
  ·intro k b hk
   rcases small_cases hk with hk | ⟨rfl,rfl⟩ | ⟨rfl,rfl⟩
   ·have:=gH_get h.gh hk
    exact held_gd this.2.2.2 this.1 this.2.1 hm (hR.held _ _ (big_X hk))
   ·obtain ⟨B,c,h1,h2,h3,h4⟩:=hR.held _ _ (big_out h.gh xss)
    rw [bigE_len] at h1 h2
    refine ⟨⟨B,c,by rw [hm _ (by omega) (by omega),h1,hln],by rw [hln]; exact h2,h3,?_⟩,?_⟩
    ·rcases h4 with h4 | ⟨g,cur,fr,rfl,h7,hfr,h8,h9,h10⟩
     ·exact .inl h4
     ·refine .inr ⟨g,cur,fr,rfl,h7,hfr,h8,h9,fun j x hj=>?_⟩
      rw [hel] at hj
      by_cases hjN:j < xss.length
      ·rw [if_pos hjN] at hj
       injection hj with hj
       subst hj
       have hy:xss[j]?=some xss[j]:=List.getElem?_eq_getElem hjN
       obtain ⟨q1,q2⟩:=h10 j _ (by rw [bigE_get,hy]; rfl)
       obtain ⟨v,hv,ho,hc⟩:=q2 0 _ rfl
       rw [rowNm_hi tOut_lt] at hc
       by_cases hjA:j=A
       ·subst hjA
        rw [hA] at hy
        injection hy with hy
        refine ⟨by simp [elJ],fun i y hi=>?_⟩
        rw [elJ,if_pos rfl] at hi
        cases i with
        | succ i=>simp at hi
        | zero =>
         simp at hi; subst hi
         refine ⟨v,hv,ho,?_⟩
         rw [rowNm_hi tOut_lt]
         simp only [CV] at hc ⊢
         rw [hm2,hy]; exact hc
       ·obtain ⟨C,d,r1,r2,r3,r4⟩:=h.row hy
        simp only [CV] at hc
        obtain ⟨_,A1,q,c1,e1,e2,e3⟩:=hc
        rw [r1] at e1
        injection e1 with e1
        injection e1 with _ e1
        injection e1 with e1 e4 e5
        subst e1; subst e4; subst e5
        have hv2:=e3 rfl
        refine ⟨by rw [elJ,if_neg hjA]; exact phA_len m j,fun i y hi=>?_⟩
        rw [elJ,if_neg hjA] at hi
        refine ⟨v,?_,ho,?_⟩
        ·cases i with
         | zero=>exact hv
         | succ i=>have:=(List.getElem?_eq_some_iff.1 hi).1; rw [phA_len] at this; omega
        ·rw [rowNm_hi tOut_lt]
         rcases r4 with ⟨rfl,rfl⟩ | ⟨g',cur',fr',rfl,_⟩
         ·unfold phA at hi
          rw [r1] at hi
          simp only at hi
          cases i with
          | succ i=>simp at hi
          | zero =>
           simp at hi; subst hi
           simp only [CV]
           rw [hv2,Nat.le_zero.1 r2]
         ·unfold phA at hi
          rw [r1] at hi
          simp only at hi
          cases i with
          | succ i=>simp at hi
          | zero =>
           simp at hi; subst hi
           simp only [CV]
           refine ⟨g',0,?_,hv2,fun _=>rfl,r2,r3⟩
           rw [hm4 j hjN hjA,phM,r1]
           rfl
      ·rw [if_neg hjN] at hj; cases hj
    ·intro j i x y hj hi k hk
     rw [hel] at hj
     split at hj
     ·rename_i hjN
      injection hj with hj
      subst hj
      unfold elJ at hi
      split at hi
      ·cases i with
       | zero =>
        simp at hi; subst hi
        simp only [nn,Bool.not_eq_false'] at hk
        exact kpJ_in (.inl (Nat.eq_of_beq_eq_true hk).symm)
       | succ i=>simp at hi
      ·exact kpJ_in (.inr (by have:=phA_nn hi hk; omega))
     ·cases hj
   ·obtain ⟨B,c,h1,h2,h3,h4⟩:=h.row hA
    refine ⟨B,c,hm2.trans h1,h2,h3,?_⟩
    rcases h4 with h4 | ⟨g,cur,fr,rfl,h7,hfr,h8,h9,h10⟩
    ·exact .inl h4
    ·refine .inr ⟨g,cur,fr,rfl,h7,hfr,h8,h9,fun j x hj=>⟨(h10 j x hj).1,fun i y hi=>?_⟩⟩
     have:=(h10 j x hj).2 i y hi
     rw [rowNm_lo tInn_lt] at this ⊢
     exact this
  ·intro k k' b b' u u' g hk hk' hne hu hu' hg
   obtain ⟨e,b0,hb0⟩:=hphi hk
   obtain ⟨e',b0',hb0'⟩:=hphi hk'
   rw [e] at hu
   rw [e'] at hu'
   refine hR.inj _ _ b0 b0' u u' g hb0 hb0' (fun q=>hne ?_) hu hu' hg
   by_cases hk2:k=1002
   ·by_cases hk2':k'=1002
    ·rw [hk2,hk2']
    ·exfalso
     subst hk2
     rcases small_cases hk' with hk' | ⟨rfl,_⟩ | ⟨rfl,_⟩
     ·have:=(gH_get h.gh hk').1
      simp only [phi,if_true,if_neg hk2'] at q; omega
     ·simp [phi] at q; omega
     ·exact hk2' rfl
   ·by_cases hk2':k'=1002
    ·exfalso
     subst hk2'
     rcases small_cases hk with hk | ⟨rfl,_⟩ | ⟨rfl,_⟩
     ·have:=(gH_get h.gh hk).1
      simp only [phi,if_true,if_neg hk2] at q; omega
     ·simp [phi] at q; omega
     ·exact hk2 rfl
    ·simpa only [phi,if_neg hk2,if_neg hk2'] using q
  ·intro k u e
   have e:(if k=1002∨4000≤k then m1 k else none)=some u:=e
   split at e
   ·exact ⟨u,e,.refl u⟩
   ·cases e
  ·intro k u e
   have e:(if k=1002∨4000≤k then m1 k else none)=some u:=e
   split at e
   ·rename_i hk
    rcases hk with rfl | hk
    ·exact kpJ_mem (.inl rfl)
    ·refine kpJ_mem (.inr ⟨hk,?_⟩)
     have e:(if k=1002 then m (3000+A) else if 4000≤k then (if k - 4000 < xss.length∧k - 4000≠A then phM m (k - 4000) else none) else if k < 3000 then m k else none)=some u:=e
     rw [if_neg (by omega),if_pos hk] at e
     split at e
     ·omega
     ·cases e
   ·cases e
 ·intro sl' X' ys' els' a' w' S' m' hs' hX' hnil hln' hA' hoth hR'
  have hW:w.heap.size≤w'.heap.size:=hR'.size
  let m2:Nm:=fun k=>if k=3000+A then m' 1002 else if 3000≤k then m k else m' k
  have g1:∀ k,k < 3000→m2 k=m' k:=fun k hk=>by
   show (if k=3000+A then _ else if 3000≤k then _ else _)=_
   rw [if_neg (by omega),if_neg (by omega)]
  have g2:m2 (3000+A)=m' 1002:=if_pos rfl
  have g3:∀ j,j≠A→m2 (3000+j)=m (3000+j):=fun j hj=>by
   show (if 3000+j=3000+A then _ else if 3000≤3000+j then _ else _)=_
   rw [if_neg (by omega),if_pos (by omega)]
  have far:∀ {j y},j≠A→xss[j]?=some y→∀ {u g},m (3000+j)=some u→bk u=some g→g < w.heap.size∧¬ M1 g∧w'.heap[g]?=w.heap[g]?∧∀ o,S' g o=S g o:=fun {j y} hj hy {u g} hu hg=>by
   have h1:g < w.heap.size:=(hR.held _ _ (big_inn h.gh hy)).lt hu hg
   have h2:¬ M1 g:=fun q=>hM1j q hj hy hu hg
   exact ⟨h1,h2,hR'.frame g h1 h2,fun o=>hR'.pinNew g o h1 h2⟩
  have hxs:∀ {j y},(xss.set A ys')[j]?=some y→(j=A∧y=ys')∨(j≠A∧xss[j]?=some y):=fun {j y} hj=>by
   rw [List.getElem?_set] at hj
   by_cases e:A=j
   ·subst e
    rw [if_pos rfl,if_pos hAN] at hj
    injection hj with hj
    exact .inl ⟨rfl,hj.symm⟩
   ·rw [if_neg e] at hj
    exact .inr ⟨fun q=>e q.symm,hj⟩
  have hrow:=hR'.held _ _ (small_inn hX' els' ys')
  have cls:∀ {k b},lk (bigH X' (xss.set A ys')) k=some b→(∃ q c,lk (smallH X' els' ys') q=some c∧m2 k=m' q∧k=phi A q∧q < 3000)∨∃ j y,k=3000+j∧j≠A∧xss[j]?=some y∧m2 k=m k:=fun {k b} hk=>by
   rcases big_cases hk with hk | ⟨rfl,_⟩ | ⟨j,y,rfl,hj,_⟩
   ·have:=gH_get hX' hk
    exact .inl ⟨k,b,small_X hk,g1 k this.1,by unfold phi; rw [if_neg this.2.1],this.1⟩
   ·exact .inl ⟨1116,_,small_out hX' _ _,g1 _ (by omega),by unfold phi; rw [if_neg (by omega)],by omega⟩
   ·rcases hxs hj with ⟨rfl,rfl⟩ | ⟨hj,hy⟩
    ·exact .inl ⟨1002,_,small_inn hX' _ _,g2,by unfold phi; rw [if_pos rfl],by omega⟩
    ·exact .inr ⟨j,y,rfl,hj,hy,g3 j hj⟩
  refine ⟨m2,⟨{ defers:=hR'.defers,pin0:=hR.pin0.trans hR'.pin0,pinNew:=?_,agree:=hR'.agree,tmps:=fun t=>get_gd hs' (fun k hk _=>g1 k hk) (hR'.tmps t),held:=?_,inj:=?_,own:=?_,os:=hR'.os.trans hR.os,tape:=hR'.tape.trans hR.tape,output:=hR'.output.trans hR.output,size:=Nat.le_trans hR.size hW,frame:=?_,m0:=fun k u e=>absurd (hR.keep k u e) (by simp),keep:=hR.keep },?_,hs',hX'⟩⟩
  ·intro b o hb hn
   have h2:¬ M1 b:=fun q=>by
    rcases hM1 q with q | q
    ·omega
    ·exact hn q
   exact (hR'.pinNew b o (Nat.lt_of_lt_of_le hb hR.size) h2).trans (hR.pinNew b o hb hn)
  ·intro k b hk
   rcases big_cases hk with hk | ⟨rfl,rfl⟩ | ⟨j,y,rfl,hj,rfl⟩
   ·have:=gH_get hX' hk
    exact held_gd this.2.2.2 this.1 this.2.1 (fun k hk _=>g1 k hk) (hR'.held _ _ (small_X hk))
   ·obtain ⟨⟨B,c,h1,h2,h3,h4⟩,_⟩:=hR'.held _ _ (small_out hX' els' ys')
    have hl:(bigE 3000 (xss.set A ys')).length=els'.length:=by rw [bigE_len,List.length_set,hln',hln]
    refine ⟨B,c,by rw [g1 _ (by omega),h1,hl],by rw [hl]; exact h2,h3,?_⟩
    rcases h4 with h4 | ⟨g,cur,fr,rfl,h7,hfr,h8,h9,h10⟩
    ·exact .inl h4
    ·refine .inr ⟨g,cur,fr,rfl,h7,hfr,h8,h9,fun j x hj=>?_⟩
     rw [bigE_get] at hj
     cases hy:(xss.set A ys')[j]? with
     | none=>rw [hy] at hj; cases hj
     | some y =>
      rw [hy] at hj
      simp only [Option.map_some,Option.some.injEq] at hj
      subst hj
      refine ⟨rfl,fun i z hi=>?_⟩
      cases i with
      | succ i=>simp at hi
      | zero =>
       simp at hi; subst hi
       rcases hxs hy with ⟨rfl,rfl⟩ | ⟨hj,hy⟩
       ·obtain ⟨q1,q2⟩:=h10 j _ hA'
        obtain ⟨v,hv,ho,hc⟩:=q2 0 _ rfl
        refine ⟨v,hv,ho,?_⟩
        rw [rowNm_hi tOut_lt] at hc ⊢
        simp only [CV] at hc ⊢
        rw [g2]; exact hc
       ·have hjN:j < xss.length:=(List.getElem?_eq_some_iff.1 hy).1
        have e1:els'[j]?=some (phA m j):=by
         rw [hoth j hj,hel,if_pos hjN,elJ,if_neg hj]
        obtain ⟨C,d,r1,r2,r3,r4⟩:=h.row hy
        rcases r4 with ⟨rfl,rfl⟩ | ⟨g',cur',fr',rfl,r5⟩
        ·have e2:phA m j=[.nils]:=by unfold phA; rw [r1]; rfl
         rw [e2] at e1
         obtain ⟨q1,q2⟩:=h10 j _ e1
         obtain ⟨v,hv,ho,hc⟩:=q2 0 _ rfl
         refine ⟨v,hv,ho,?_⟩
         rw [rowNm_hi tOut_lt] at hc ⊢
         simp only [CV] at hc ⊢
         subst hc
         have hy0:y.length=0:=Nat.le_zero.1 r2
         rw [hy0,g3 j hj,r1,hy0]
         exact ⟨⟨none,0,rfl,Nat.le_refl _,r3,fun _=>rfl,fun a ha=>by cases ha⟩,none,0,0,rfl,Nat.le_refl _,fun _=>rfl⟩
        ·have e2:phA m j=[.ms (4000+j) 0 y.length d 1]:=by unfold phA; rw [r1]; rfl
         rw [e2] at e1
         obtain ⟨q1,q2⟩:=h10 j _ e1
         obtain ⟨v,hv,ho,hc⟩:=q2 0 _ rfl
         refine ⟨v,hv,ho,?_⟩
         rw [rowNm_hi tOut_lt] at hc ⊢
         simp only [CV] at hc ⊢
         obtain ⟨g2',o,k1,k2,k3,k4,k5⟩:=hc
         have hm40:m0 (4000+j)=some (.pointer (some ⟨g',0,none⟩)):=by
          show (if 4000+j=1002∨4000≤4000+j then m1 (4000+j) else none)=_
          rw [if_pos (.inr (by omega)),hm4 j hjN hj,phM,r1]
          rfl
         obtain ⟨u',hu',hgo⟩:=hR'.m0 _ _ hm40
         rw [hgo.ptr] at hu'
         rw [k1] at hu'
         injection hu' with hu'
         injection hu' with hu'
         injection hu' with hu'
         injection hu' with hu'
         subst hu'
         have hd:d≠0:=fun e=>by
          have hy0:y=[]:=List.eq_nil_of_length_eq_zero (by omega)
          rw [hy0] at hy
          have:=h.nil j hy
          rw [r1] at this
          injection this with this
          injection this with _ this
          injection this with this
          cases this
         have ho:=k3 hd
         subst ho
         subst k2
         rw [g3 j hj,r1]
         exact ⟨⟨_,d,rfl,k4,k5,(fun q=>by cases q),fun a ha=>⟨g2',(Option.some.inj ha).symm⟩⟩,_,_,_,rfl,Nat.le_refl _,fun _=>rfl⟩
   ·rcases hxs hj with ⟨rfl,rfl⟩ | ⟨hj,hy⟩
    ·obtain ⟨B,c,h1,h2,h3,h4⟩:=hrow
     refine ⟨B,c,g2.trans h1,h2,h3,?_⟩
     rcases h4 with h4 | ⟨g,cur,fr,rfl,h7,hfr,h8,h9,h10⟩
     ·exact .inl h4
     ·refine .inr ⟨g,cur,fr,rfl,h7,hfr,h8,h9,fun j x hj=>⟨(h10 j x hj).1,fun i y hi=>?_⟩⟩
      have:=(h10 j x hj).2 i y hi
      rw [rowNm_lo tInn_lt] at this ⊢
      exact this
    ·have hh:=hR.held _ _ (big_inn h.gh hy)
     refine hh.keep hR'.pin0 (fun cs vs hi _=>?_) (g3 j hj) (fun u g hu hg=>⟨(far hj hy hu hg).2.2.1,(far hj hy hu hg).2.2.2⟩)
     exact absurd hi.1 (by have:=tInn_lt; omega)
  ·intro k k' b b' u u' g hk hk' hne hu hu' hg hg'
   rcases cls hk with ⟨q,c,hq,e,ek,eq3⟩ | ⟨j,y,rfl,hj,hy,e⟩
   ·rcases cls hk' with ⟨q',c',hq',e',ek',eq3'⟩ | ⟨j',y',rfl,hj',hy',e'⟩
    ·rw [e] at hu
     rw [e'] at hu'
     exact hR'.inj q q' c c' u u' g hq hq' (fun z=>hne (by rw [ek,ek',z])) hu hu' hg hg'
    ·rw [e] at hu
     rw [e'] at hu'
     obtain ⟨f1,f2,_⟩:=far hj' hy' hu' hg'
     rcases hR'.own q c u g hq hu hg with z | z
     ·exact absurd z (Nat.not_le.2 f1)
     ·exact f2 z
   ·rcases cls hk' with ⟨q',c',hq',e',ek',eq3'⟩ | ⟨j',y',rfl,hj',hy',e'⟩
    ·rw [e] at hu
     rw [e'] at hu'
     obtain ⟨f1,f2,_⟩:=far hj hy hu hg
     rcases hR'.own q' c' u' g hq' hu' hg' with z | z
     ·exact absurd z (Nat.not_le.2 f1)
     ·exact f2 z
    ·rw [e] at hu
     rw [e'] at hu'
     exact hR.inj _ _ _ _ u u' g (big_inn h.gh hy) (big_inn h.gh hy') hne hu hu' hg hg'
  ·intro k b u g hk hu hg
   rcases cls hk with ⟨q,c,hq,e,ek,eq3⟩ | ⟨j,y,rfl,hj,hy,e⟩
   ·rw [e] at hu
    rcases hR'.own q c u g hq hu hg with z | z
    ·exact .inl (Nat.le_trans hR.size z)
    ·exact hM1 z
   ·rw [e] at hu
    exact hR.own _ _ u g (big_inn h.gh hy) hu hg
  ·intro b hb hn
   have h2:¬ M1 b:=fun q=>by
    rcases hM1 q with q | q
    ·omega
    ·exact hn q
   exact (hR'.frame b (Nat.lt_of_lt_of_le hb hR.size) h2).trans (hR.frame b hb hn)
  ·intro j hj
   rcases hxs hj with ⟨rfl,e⟩ | ⟨hj,hy⟩
   ·rw [g2]
    have hy0:=hnil e.symm
    subst hy0
    have hn:=h.nil j hA
    have h0:m0 1002=some (.iface 0 (.slice none 0 0)):=by
     show (if 1002=1002∨4000≤1002 then m1 1002 else none)=_
     rw [if_pos (.inl rfl),hm2,hn]
    obtain ⟨u',hu',hgo⟩:=hR'.m0 1002 _ h0
    obtain ⟨B,c,h1,_⟩:=hrow
    rw [← e] at h1
    rcases hgo.row with rfl | ⟨A',n',c',rfl,hlt⟩
    ·exact hu'
    ·rw [hu'] at h1
     injection h1 with h1
     injection h1 with _ h1
     injection h1 with _ h1
     simp only [List.length_nil] at h1
     omega
   ·rw [g3 j hj]; exact h.nil j hy
theorem jag_close (h:JS G sl X xss a w S m):∃ S',Rel G [] ⟨sl,X++[(1116,.row tOut 1 (xss.map fun ys=>[AV.sl 1 false ys]))]⟩ a w S' m:=by
 classical
 have hR:=h.rel
 let P:Nat→Nat→Prop:=fun b o=>∃ j y c,xss[j]?=some y∧m (3000+j)=some (.iface 0 (.slice (some ⟨b,0,none⟩) y.length c))∧o < y.length
 let S':Pin:=fun b o=>if P b o then w.cell? ⟨b,o,none⟩ else S b o
 have hP:∀ {b o},P b o→S' b o=w.cell? ⟨b,o,none⟩:=fun q=>if_pos q
 have hnP:∀ {b o},¬ P b o→S' b o=S b o:=fun q=>if_neg q
 have hx:∀ {k b},lk X k=some b→lk (X++[(1116,Blk.row tOut 1 (xss.map fun ys=>[AV.sl 1 false ys]))]) k=some b:=fun h=>by simp only [lk_app,h]
 have hcs:∀ {k b},lk (X++[(1116,Blk.row tOut 1 (xss.map fun ys=>[AV.sl 1 false ys]))]) k=some b→lk X k=some b∨(k=1116∧b=.row tOut 1 (xss.map fun ys=>[AV.sl 1 false ys])):=fun {k b} hk=>by
  simp only [lk_app] at hk
  cases e:lk X k with
  | some c=>rw [e] at hk; exact .inl hk
  | none =>
   rw [e] at hk
   simp only [lk] at hk
   by_cases h1:1116=k
   ·subst h1
    rw [nbeq_self] at hk
    simp only [cond_true,Option.some.injEq] at hk
    exact .inr ⟨rfl,hk.symm⟩
   ·rw [nbeq_ne h1] at hk; cases hk
 have hbig:∀ {k b},lk (X++[(1116,Blk.row tOut 1 (xss.map fun ys=>[AV.sl 1 false ys]))]) k=some b→k < 3000∧∃ c,lk (bigH X xss) k=some c:=fun hk=>by
  rcases hcs hk with hk | ⟨rfl,_⟩
  ·exact ⟨(gH_get h.gh hk).1,_,big_X hk⟩
  ·exact ⟨by omega,_,big_out h.gh xss⟩
 have row:∀ {j y},xss[j]?=some y→∃ B c vals,m (3000+j)=some (.iface 0 (.slice B y.length c))∧y.length≤c∧c≤maxLen∧(∀ z ∈ y,z.length=1)∧(B=none∧c=0∨∃ g,B=some ⟨g,0,none⟩∧∀ o,S g o=none)∧vals.length=y.length∧CVl S y.flatten noNm vals∧(∀ v ∈ vals,v.oneCell'=true)∧∀ g,B=some ⟨g,0,none⟩→∀ (o:Nat) (v:Value),vals[o]?=some v→w.cell? ⟨g,o,none⟩=some v:=fun {j y} hj=>by
  have hh:Held S m w (3000+j) (.row tInn 1 y):=h.row hj
  obtain ⟨B,c,h1,h2,h3,h4,h5,vals,h6,h7,h8,_,h9⟩:=hh.vals
  rw [rowNm_lo tInn_lt] at h7
  refine ⟨B,c,vals,h1,h2,h3,h4,?_,by omega,h7,h8,h9⟩
  rcases h5 with h5 | ⟨g,_,_,e,_,_,_,e2⟩
  ·exact .inl h5
  ·exact .inr ⟨g,e,e2⟩
 have Pno:∀ {b o},P b o→∀ o',S b o'=none:=fun {b o} ⟨j,y,c,h1,h2,h3⟩ o'=>by
  obtain ⟨B,d,vals,r1,_,_,_,r5,_⟩:=row h1
  rw [h2] at r1
  injection r1 with r1
  injection r1 with _ r1
  injection r1 with r1
  subst r1
  rcases r5 with ⟨e,_⟩ | ⟨g,e,e2⟩
  ·cases e
  ·injection e with e
   injection e with e
   subst e
   exact e2 o'
 have Pcell:∀ {b o},P b o→∃ v,w.cell? ⟨b,o,none⟩=some v∧v.oneCell'=true:=fun {b o} ⟨j,y,c,h1,h2,h3⟩=>by
  obtain ⟨B,d,vals,r1,_,_,_,r5,r6,r7,r8,r9⟩:=row h1
  rw [h2] at r1
  injection r1 with r1
  injection r1 with _ r1
  injection r1 with r1
  subst r1
  have hl:o < vals.length:=by omega
  exact ⟨vals[o],r9 b rfl o _ (List.getElem?_eq_getElem hl),r8 _ (List.getElem_mem hl)⟩
 have Pown:∀ {b o},P b o→∀ {k c u},k < 3000→lk (bigH X xss) k=some c→m k=some u→bk u=some b→False:=fun {b o} ⟨j,y,c,h1,h2,h3⟩ {k d u} hk hc hu hb =>
  hR.inj k (3000+j) d _ u _ b hc (big_inn h.gh h1) (by omega) hu h2 hb rfl
 have hS:Ext S S':=fun b o v e=>by
  by_cases q:P b o
  ·rw [Pno q] at e; cases e
  ·rw [hnP q]; exact e
 have hkeep:∀ {k c u g},k < 3000→lk (bigH X xss) k=some c→m k=some u→bk u=some g→∀ o,S' g o=S g o:=fun hk hc hu hg o=>hnP fun q=>Pown q hk hc hu hg
 refine ⟨S',{ hR with defers:=hR.defers,pin0:=hR.pin0.trans hS,pinNew:=?_,agree:=?_,tmps:=fun t=>((show CV S (St.get ⟨sl,X++[(1116,.row tOut 1 (xss.map fun ys=>[AV.sl 1 false ys]))]⟩ t) m _ from get_gd h.gs (fun _ _ _=>rfl) (hR.tmps t)):CV S _ m _).ext hS (MLe.refl m),held:=?_,inj:=?_,own:=?_,keep:=hR.keep }⟩
 ·intro b o hb hn
  rw [hnP]
  ·exact hR.pinNew b o hb hn
  ·rintro ⟨j,y,c,h1,h2,h3⟩
   rcases hR.own _ _ _ b (big_inn h.gh h1) h2 rfl with q | q
   ·omega
   ·exact hn q
 ·intro b o v e
  by_cases q:P b o
  ·rw [hP q] at e
   obtain ⟨v',h1,h2⟩:=Pcell q
   rw [e] at h1
   injection h1 with h1
   subst h1
   exact ⟨e,h2⟩
  ·rw [hnP q] at e; exact hR.agree b o v e
 ·intro k b hk
  rcases hcs hk with hk | ⟨rfl,rfl⟩
  ·have hg:=gH_get h.gh hk
   exact (hR.held _ _ (big_X hk)).keep hS (fun cs vs _ hv=>hv.ext hS (MLe.refl m)) rfl (fun u g hu hgk=>⟨rfl,hkeep hg.1 (big_X hk) hu hgk⟩)
  ·obtain ⟨B,c,h1,h2,h3,h4⟩:=hR.held _ _ (big_out h.gh xss)
   rw [bigE_len] at h1 h2
   refine ⟨B,c,by rw [List.length_map]; exact h1,by rw [List.length_map]; exact h2,h3,?_⟩
   rcases h4 with h4 | ⟨g,cur,fr,rfl,h7,hfr,h8,h9,h10⟩
   ·exact .inl h4
   ·refine .inr ⟨g,cur,fr,rfl,h7,.inl (RowMk.op hfr),h8,fun o=>(hkeep (by omega) (big_out h.gh xss) h1 rfl o).trans (h9 o),fun j x hj=>?_⟩
    rw [List.getElem?_map] at hj
    cases hy:xss[j]? with
    | none=>rw [hy] at hj; cases hj
    | some y =>
     rw [hy] at hj
     simp only [Option.map_some,Option.some.injEq] at hj
     subst hj
     refine ⟨rfl,fun i z hi=>?_⟩
     cases i with
     | succ i=>simp at hi
     | zero =>
      simp at hi; subst hi
      obtain ⟨q1,q2⟩:=h10 j _ (by rw [bigE_get,hy]; rfl)
      obtain ⟨v,hv,ho,hc⟩:=q2 0 _ rfl
      refine ⟨v,hv,ho,?_⟩
      rw [rowNm_hi tOut_lt] at hc
      rw [rowNm_lo (by decide)]
      simp only [CV] at hc ⊢
      obtain ⟨⟨A0,c0,_,_,_,_,_⟩,A1,q,c1,e1,e2,e3⟩:=hc
      obtain ⟨C,d,vals,r1,r2,r3,r4,r5,r6,r7,r8,r9⟩:=row hy
      rw [r1] at e1
      injection e1 with e1
      injection e1 with _ e1
      injection e1 with e1 e4 e5
      subst e1; subst e4; subst e5
      refine ⟨C,d,e3 rfl,r2,r3,(fun q=>by cases q),?_,?_⟩
      ·rintro rfl
       rcases r5 with ⟨_,e⟩ | ⟨g',e,_⟩
       ·exact e
       ·cases e
      ·intro ad had
       subst had
       rcases r5 with ⟨e,_⟩ | ⟨g',e,e2⟩
       ·cases e
       ·injection e with e
        subst e
        refine ⟨fun _=>rfl,CE.mk fun i x hi=>⟨r4 x (List.mem_of_getElem? hi),CC.mk fun l z hz=>?_⟩⟩
        obtain ⟨u,hu,hcv⟩:=r7.get (flat_get r4 hi hz)
        have hlt:i*1+l < vals.length:=(List.getElem?_eq_some_iff.1 hu).1
        refine ⟨u,?_,hcv.ext hS (MLe.refl _)⟩
        rw [show (0:Nat)+i*1+l=i*1+l by omega,hP ⟨j,y,d,hy,r1,by omega⟩]
        exact r9 g' rfl _ u hu
 ·intro k k' b b' u u' g hk hk' hne hu hu' hg hg'
  obtain ⟨_,c,hc⟩:=hbig hk
  obtain ⟨_,c',hc'⟩:=hbig hk'
  exact hR.inj k k' c c' u u' g hc hc' hne hu hu' hg hg'
 ·intro k b u g hk hu hg
  obtain ⟨_,c,hc⟩:=hbig hk
  exact hR.own k c u g hc hu hg
end
end Go.Proofs.YtgbbmadjdaphnaaGreatDoor
namespace Go.Proofs.YtgbbmadjdaphnaaGreatDoor
open Go Go.Sort
set_option linter.unusedVariables false
set_option linter.unusedSimpArgs false
def intsL (zs:List Int):List (List AV):=zs.map fun z=>[.int .i64 z]
def ungI (ys:List (List AV)):List Int:=ys.map fun r=>nI r 0
@[irreducible] def sortI (ys:List (List AV)):List (List AV):=intsL ((ungI ys).mergeSort fun x y=>decide (x≤y))
theorem sortI_eq (ys:List (List AV)):sortI ys=intsL ((ungI ys).mergeSort fun x y=>decide (x≤y)):=by unfold sortI; rfl
theorem sortI_len (ys:List (List AV)):(sortI ys).length=ys.length:=by
 rw [sortI_eq]; simp [intsL,ungI,List.length_mergeSort]
theorem sortI_nil:sortI []=[]:=List.eq_nil_of_length_eq_zero (sortI_len [])
theorem ok1 {r:List AV} (h:okR 1 r=true):r=[.int .i64 (nI r 0)]∧-1000000≤nI r 0∧nI r 0≤1000000:=by
 have hl:r.length=1:=by have:=encR_len (⟨r,h⟩:RwT 1); simpa [encR] using this
 match r,hl with
 | [a],_ =>
  have:=okR_at h (i:=0) rfl
  exact ⟨congrArg (fun x=>[x]) this.2.1,this.2.2⟩
structure IntR (ys:List (List AV)) (n:Nat):Prop where
 ok:∀ r ∈ ys,okR 1 r=true
 le:ys.length≤1000000
 eq:n=ys.length
def srtI_s:SpH
 | [.rw 0 1 n],[.row 3 1 ys]=>some (IntR ys n,.tup [],[.row 3 1 (sortI ys)])
 | _,_=>none
theorem sortI_hc {gl:Glob} {ys:List (List AV)} (hx:∀ r ∈ ys,okR 1 r=true) (hlen:ys.length≤1000000):HC Tryz.prog gl 93 [.rw 0 1 ys.length] [.row 3 1 ys] (.tup []) [.row 3 1 (sortI ys)]:=by
 intro w S m vs hG hA hnm hheld hinj hv
 obtain ⟨L0,hL0⟩:∃ L0:List Value,L0=vs.toList:=⟨_,rfl⟩
 rw [← hL0] at hv
 simp only [CVl] at hv
 obtain ⟨v0,l1,e0,hv0,rfl⟩:=hv
 simp only [CV] at hv0
 have hvs:vs=#[v0]:=by rw [← Array.toArray_toList (xs:=vs),← hL0,e0]
 subst hvs
 obtain ⟨A,c,a1,a2,a3,a4⟩:=hheld 0 _ rfl
 obtain ⟨_,A2,q2,c2,h1,h2,h3⟩:=hv0
 rw [a1] at h1
 simp only [Option.some.injEq,Value.iface.injEq,Value.slice.injEq,true_and] at h1
 obtain ⟨rfl,rfl,rfl⟩:=h1
 have hv0:=h3 rfl
 subst hv0
 by_cases hne:ys=[]
 ·subst hne
  refine (sortI_none A c w).mono ?_
  rintro e w' ⟨rfl,rfl⟩
  refine ⟨.tuple #[],S,m,rfl,rfl,rfl,rfl,Nat.le_refl _,Ext.refl S,fun _ _ _=>⟨rfl,fun _=>rfl⟩,hA,?_,hinj,fun q u g' hq hu hg=>.inr ⟨q,u,hq,hu,hg⟩,MLe.refl m,by simp only [CV,CVl]; exact ⟨#[],rfl,rfl⟩⟩
  intro q bb hq
  cases q with
  | succ q=>simp at hq
  | zero =>
   simp only [List.getElem?_cons_zero,Option.some.injEq] at hq
   subst hq
   rw [sortI_nil]
   exact hheld 0 _ rfl
 have hl0:0 < ys.length:=by cases ys with | nil=>exact absurd rfl hne | cons _ _=>simp
 rcases a4 with ⟨_,rfl⟩ | ⟨b,cur,fr,rfl,b1,b2,b3,b4,b5⟩
 ·omega
 have hfr:=RowMk.lt b2 (by decide)
 subst hfr
 rw [rowTy_lt (by decide)] at b1
 have hul:(ungI ys).length=ys.length:=by simp [ungI]
 have huj:∀ (j:Nat) (hj:j < ys.length),(ungI ys)[j]'(by omega)=nI ys[j] 0:=fun j hj=>by simp [ungI]
 have hH:Holds (Value.int .i64) w b 0 (ungI ys).toArray:=by
  intro j hj
  have hj:j < ys.length:=by simpa [hul] using hj
  obtain ⟨r1,r2⟩:=b5 j _ (List.getElem?_eq_getElem hj)
  obtain ⟨e1,e2⟩:=ok1 (hx _ (List.getElem_mem hj))
  obtain ⟨v,hv1,hv2,hv3⟩:=r2 0 (.int .i64 (nI ys[j] 0)) (by rw [← List.head?_eq_getElem?,e1]; rfl)
  refine ⟨?_,by simp [World.frozen?,b1]⟩
  simp only [World.cell?,b1,Nat.zero_add]
  simp only [CV] at hv3
  rw [Nat.mul_one,Nat.add_zero] at hv1
  rw [hv1,hv3.1]
  congr 2
  simp [huj j hj]
  rw [List.getElem?_eq_getElem (by omega),Option.getD_some,huj j hj]
 have hblk:b < w.heap.size:=(Array.getElem?_eq_some_iff.1 b1).1
 have hcon:=sortI_any b 0 c (ungI ys) w hH hblk (by omega)
 rw [hul] at hcon
 refine hcon.mono ?_
 rintro e w' ⟨rfl,nn,os,rfl⟩
 obtain ⟨D,hD⟩:∃ D,D=((ungI ys).mergeSort fun x y=>decide (x≤y)):=⟨_,rfl⟩
 have hsr:sortI ys=intsL D:=by rw [sortI_eq,hD]
 have hDs:D.length=ys.length:=by rw [hD,List.length_mergeSort,hul]
 have hDm:∀ z ∈ D,-1000000≤z∧z≤1000000:=fun z hz=>by
  rw [hD,(List.mergeSort_perm _ _).mem_iff] at hz
  simp only [ungI,List.mem_map] at hz
  obtain ⟨r,hr,rfl⟩:=hz
  exact (ok1 (hx r hr)).2
 rw [← hD]
 have heap:∀ i,i < w.heap.size→(grow (putRow (Value.int .i64) (Sort.ahead w nn) b 0 D.toArray) os).heap[i]?=if b=i then some (.cells (putCells (Value.int .i64) 0 D.toArray cur) 3 (0,0)) else w.heap[i]?:=by
  intro i hi
  unfold putRow mapBlock grow Sort.ahead
  simp only
  rw [Array.getElem?_append_left (by simpa using hi),Array.getElem?_modify]
  by_cases h:b=i
  ·subst h
   rw [if_pos rfl,if_pos rfl,b1]; rfl
  ·rw [if_neg h,if_neg h]
 have hMb:Mof 1 m b:=⟨0,_,by decide,a1,rfl⟩
 refine ⟨.tuple #[],S,m,rfl,rfl,rfl,rfl,?_,Ext.refl S,?_,?_,?_,hinj,?_,MLe.refl m,?_⟩
 ·unfold putRow mapBlock grow Sort.ahead
  simp
 ·intro i hi hn
  refine ⟨?_,fun _=>rfl⟩
  rw [heap i hi,if_neg (fun e:b=i=>hn (by subst e; exact hMb))]
 ·intro i o v e
  obtain ⟨h1,h2⟩:=hA i o v e
  refine ⟨?_,h2⟩
  have hi:i < w.heap.size:=hA.lt e
  have hne:b≠i:=fun q=>by subst q; rw [b4 o] at e; cases e
  simp only [World.cell?] at h1 ⊢
  rw [heap i hi,if_neg hne]; exact h1
 ·intro q bb hq
  cases q with
  | succ q=>simp at hq
  | zero =>
   simp only [List.getElem?_cons_zero,Option.some.injEq] at hq
   subst hq
   have hyl:=sortI_len ys
   refine ⟨some ⟨b,0,none⟩,c,by rw [hyl]; exact a1,by omega,a3,.inr ⟨b,putCells (Value.int .i64) 0 D.toArray cur,(0,0),rfl,?_,RowMk.none,?_,b4,?_⟩⟩
   ·rw [heap b hblk,if_pos rfl,rowTy_lt (by decide)]
   ·unfold putCells
    simp [b3]
   ·intro j x hj
    rw [hsr] at hj
    simp only [intsL,List.getElem?_map] at hj
    cases hjD:D[j]? with
    | none=>rw [hjD] at hj; cases hj
    | some z =>
     rw [hjD] at hj
     simp only [Option.map_some,Option.some.injEq] at hj
     subst hj
     have hjl:j < D.length:=(List.getElem?_eq_some_iff.1 hjD).1
     refine ⟨rfl,fun i y hi=>?_⟩
     cases i with
     | succ i=>simp at hi
     | zero =>
      simp at hi; subst hi
      refine ⟨.int .i64 z,?_,rfl,?_⟩
      ·unfold putCells
       rw [Nat.mul_one,Nat.add_zero,Array.getElem?_mapIdx,Array.getElem?_eq_getElem (by omega),Option.map_some]
       rw [if_pos ⟨Nat.zero_le _,by simp; omega⟩,Nat.sub_zero]
       congr 2
       rw [getElem!_pos _ j (by simpa using hjl)]
       simpa using (List.getElem?_eq_some_iff.1 hjD).2
      ·have hb:=hDm z (List.mem_of_getElem? hjD)
       simp only [CV]
       exact ⟨trivial,by show _∧_; omega⟩
 ·intro q u g' hq hu hg
  exact .inr ⟨q,u,hq,hu,hg⟩
 ·simp only [CV,CVl]; exact ⟨#[],rfl,rfl⟩
theorem srtI_ok (gl:Glob):HOK Tryz.prog gl 93 srtI_s:=by
 refine ⟨fok Tryz.func93 (by kernel_rfl) (by kernel_rfl),?_⟩
 intro xs bs pre r bs2 h hp
 unfold srtI_s at h
 split at h
 ·simp only [Option.some.injEq,Prod.mk.injEq] at h
  obtain ⟨h1,h2,h3⟩:=h
  subst h1 h2 h3
  obtain ⟨o1,o2,rfl⟩:=hp
  exact sortI_hc o1 o2
 ·cases h
end Go.Proofs.YtgbbmadjdaphnaaGreatDoor
namespace Go.Proofs.YtgbbmadjdaphnaaGreatDoor
open Go
set_option linter.unusedVariables false
set_option linter.unusedSimpArgs false
def regC (i:Nat):Code→Code
 | .region id ops d=>cond (Nat.beq id i) (.region id ops d) .skip
 | .seq a b=>(match regC i a with | .skip=>regC i b | c=>c)
 | .cond _ x y=>(match regC i x with | .skip=>regC i y | c=>c)
 | .block _ b=>regC i b
 | .loop b=>regC i b
 | _=>.skip
def netJ (n h:Int) (nd cs es:List (List AV)) (N:Nat):List AV:=[.int .i64 n,.int .i64 h,.sl 4 false nd,.mpv 2014,.sl 3 false cs,.sl 2 false es,.rw 1116 1 N]
def xJ (n h:Int) (nd cs es:List (List AV)) (l:List (Int × AV)) (N:Nat):List (Nat × Blk):=[(1014,.cells (netJ n h nd cs es N)),(2014,.mp 27 3 l)]
def xK (n h:Int) (nd cs es:List (List AV)) (l:List (Int × AV)) (N:Nat) (p q:Int):List (Nat × Blk):=[(1014,.cells (netJ n h nd cs es N)),(2014,.mp 27 3 l),(1010,.cells [.int .i64 p,.int .i64 q])]
def sJ (es:List (List AV)) (i:Int):List (Nat × AV):=[(3,.ptr 1014 0),(122,.sl 2 false es),(123,.int .i64 es.length),(124,.int .i64 i)]
def sK (es:List (List AV)) (i:Int):List (Nat × AV):=[(3,.ptr 1014 0),(122,.sl 2 false es),(123,.int .i64 es.length),(124,.int .i64 i),(10,.ptr 1010 0)]
def sL (N:Nat) (i:Int):List (Nat × AV):=[(3,.ptr 1014 0),(170,.rw 1116 1 N),(171,.int .i64 N),(172,.int .i64 i)]
structure EdX (es:List (List AV)) (i p q:Int):Prop where
 lo:0≤i
 hi:i < es.length
 le:es.length≤10000
 at_:es.getD i.toNat []=[.int .i64 p,.int .i64 q]
structure JgP (N A:Nat) (p:Int) (els ys:List (List AV)):Prop where
 hp:p=A
 hA:A < N
 hN:N=els.length
 h2:N≤200
 ha:els[A]?=some [.rw 1002 1 ys.length]
 hy:ys.length≤10000
abbrev wrJ (A:Nat) (k:Nat) (els:List (List AV)):List (List AV):=setEl els A 0 [.rw 1002 1 k]
noncomputable def bldB:Code:=bodyC Tryz.f43
def CJ:Cx:={ nt:=180,drop:=drp [(1,24576),(4,131072),(6,786432),(7,6291456),(9,125829120),(10,805306368),(11,72057592964186112),(12,144115188075855872),(13,4323455642275676160),(14,64563604257983430656),(16,3541774862152233910272),(17,79228157791897854723898736640),(18,79228162514264337593543950336),(19,2376844875427930127806318510080),(20,1293003612232793989526637269483520),(21,663315923677824229544770906057867264),(22,4652297985247205555163324710981206016),(24,255211775190703847597530955573826158592),(25,178405621305878064193822282806579460279631872),(26,93535926383216198520050697008095932071087634907136),(27,93536104789177786765035829293842113257979682750464),(28,1309505467048489014710501610113789585611715558506496),(30,71835728478088540235547516897670742982128396352356352),(31,95780971304118053647396689196894323976171195136475136),(32,383123885216472214589586756787577295904684780545900544),(33,766247770432944429179173513575154591809369561091801088)],fr:=1000,kp:=kpJ }
def EJ (sh:List Nat) (sz:List (Nat × List Nat)):Env:={ glob:=glb,spec:=lk [],specH:=lk [],nowf:=true,shape:=sh,slz:=sz }
def EI (sh:List Nat) (sz:List (Nat × List Nat)):Env:={ glob:=glb,spec:=lk [],specH:=lk [(93,srtI_s)],nowf:=true,shape:=sh,slz:=sz }
@[irreducible] def acX (P:Program) (E:Env) (C:Cx) (inv:Nat→St→Option LInv) (fuel:Nat) (c:Code) (st:St) (kn:St→Prop) (ke:Nat→St→Prop) (kr:St→Prop):Prop:=acode P E C inv fuel c st kn ke kr
def j23_T:Prop :=
 ∀ (n h i:Int) (nd cs es els ys:List (List AV)) (l:List (Int × AV)) (N:Nat),(0:Int)≤i∧i≤(20000:Int)→(decide (i < (↑es.length:Int))=decide (i < (↑es.length :
 Int))∧(0:Nat)=(0:Nat)∧(True∧es=es)∧(↑es.length:Int)=(↑es.length:Int)∧i=i∧True)∧(n=n∧h=h∧(True∧nd=nd)∧True∧(True∧cs=cs)∧(True ∧
 es=es)∧N=N∧True)∧l=l∧els=els∧ys=ys∧True
theorem j23_P:j23_T:=by
 unfold j23_T
 intros; (repeat' (first | exact trivial | exact rfl | assumption | apply And.intro))
def j23_S:Prop:=∀ (n h i:Int) (nd cs es els ys:List (List AV)) (l:List (Int × AV)) (N:Nat),0≤i∧i≤20000→acX Tryz.prog (EJ [] []) CJ (fun _ _=>none) 6 (regC 23 bldB) ⟨sJ es i,smallH (xJ n h nd cs es l N) els ys⟩ (fun st=>leS st ⟨(125,.bool (decide (i < es.length)))::sJ es i,smallH (xJ n h nd cs es l N) els ys⟩) (fun _ _=>False) (fun _=>False)
theorem j23_e:j23_T=j23_S:=by kernel_rfl
theorem j23:j23_S:=@Eq.mp (j23_T) (j23_S) (j23_e) (j23_P)
def j24_T:Prop :=
  ∀ (n h i p q:Int) (nd cs es els ys:List (List AV)) (l:List (Int × AV)) (N:Nat),EdX es i p q→bif decide ((0:Int)≤i∧i < (↑es.length:Int)) then ∃ n_1 n_2,List.take
  [AV.int IntKind.i64 n_1,AV.int IntKind.i64 n_2].length (es.getD i.toNat [])=[AV.int IntKind.i64 n_1,AV.int IntKind.i64 n_2]∧((0:Nat)=(0:Nat)∧(True∧es=es) ∧
  (↑es.length:Int)=(↑es.length:Int)∧i=i∧(0:Nat)=(0:Nat)∧True)∧(n=n∧h=h∧(True∧nd=nd)∧True∧(True∧cs=cs)∧(True∧es=es)∧N=N∧True)∧l
 =l∧(n_1=p∧n_2=q∧True)∧els=els∧ys=ys∧True else False
theorem j24_P:j24_T:=by
 unfold j24_T
 intro n h i p q nd cs es els ys l N hp
 refine cd1 ⟨hp.lo,hp.hi⟩ ⟨p,q,by rw [hp.at_]; rfl,by (repeat' (first | exact trivial | exact rfl | assumption | apply And.intro))⟩
def j24_S:Prop:=∀ (n h i p q:Int) (nd cs es els ys:List (List AV)) (l:List (Int × AV)) (N:Nat),EdX es i p q→acX Tryz.prog (EJ [127] []) CJ (fun _ _=>none) 6 (regC 24 bldB) ⟨(125,.bool true)::sJ es i,smallH (xJ n h nd cs es l N) els ys⟩ (fun st=>leS st ⟨sK es i,smallH (xK n h nd cs es l N p q) els ys⟩) (fun _ _=>False) (fun _=>False)
theorem j24_e:j24_T=j24_S:=by kernel_rfl
theorem j24:j24_S:=@Eq.mp (j24_T) (j24_S) (j24_e) (j24_P)
def j25_T:Prop :=
  ∀ (n h i p q:Int) (nd cs es els ys:List (List AV)) (l:List (Int × AV)) (N A:Nat),JgP N A p els ys→bif decide ((0:Int)≤p∧p < (↑N:Int)) then bif decide (N =
  els.length∧p.toNat < els.length) then ∃ n_1,List.take [AV.rw (1002:Nat) (1:Nat) n_1].length (List.drop (0:Nat) (els.getD p.toNat []))=[AV.rw (1002:Nat) (1:Nat) n_1]
 ∧bif decide (n_1=ys.length∧ys.length+[[AV.int IntKind.i64 q]].length≤(9223372036854775807:Nat)∧(ys.length+[[AV.int IntKind.i64 q]].length)*(8:Nat) ≤
  (140737488355328:Nat)) then bif decide ((0:Int)≤p∧p < (↑N:Int)) then bif decide (N=els.length∧p.toNat < els.length) then ((0:Nat)=(0:Nat)∧(True∧es=es) ∧
  (↑es.length:Int)=(↑es.length:Int)∧i=i∧(0:Nat)=(0:Nat)∧True)∧(n=n∧h=h∧(True∧nd=nd)∧True∧(True∧cs=cs)∧(True∧es=es)∧N=N∧True)∧l
 =l∧(p=p∧q=q∧True)∧setEl els p.toNat (0:Nat) [AV.rw (1002:Nat) (1:Nat) (ys++[[AV.int IntKind.i64 q]]).length]=wrJ A (ys.length+(1:Nat)) els∧ys ++
  [[AV.int IntKind.i64 q]]=ys++[[AV.int IntKind.i64 q]]∧True else False else False else False else False else False
theorem j25_P:j25_T:=by
 unfold j25_T
 intro n h i p q nd cs es els ys l N A hp
 have e:=hp.hp
 have hA:=hp.hA
 have hN:=hp.hN
 have hy:=hp.hy
 have ea:p.toNat=A:=by omega
 have eg:els.getD A []=[.rw 1002 1 ys.length]:=by rw [List.getD_eq_getElem?_getD,hp.ha]; rfl
 rw [ea]
 refine cd1 ⟨by omega,by omega⟩ (cd1 ⟨hN,by omega⟩ ⟨ys.length,by rw [eg]; rfl,cd1 ⟨rfl,by simp only [List.length_cons,List.length_nil]; omega,by simp only [List.length_cons,List.length_nil]; omega⟩ (cd1 ⟨by omega,by omega⟩ (cd1 ⟨hN,by omega⟩ ?_))⟩)
 rw [List.length_append]
 (repeat' (first | exact trivial | exact rfl | assumption | apply And.intro))
def j25_S:Prop:=∀ (n h i p q:Int) (nd cs es els ys:List (List AV)) (l:List (Int × AV)) (N A:Nat),JgP N A p els ys→acX Tryz.prog (EJ [141] [(141,[1002001])]) CJ (fun _ _=>none) 6 (regC 25 bldB) ⟨sK es i,smallH (xK n h nd cs es l N p q) els ys⟩ (fun st=>leS st ⟨sK es i,smallH (xK n h nd cs es l N p q) (wrJ A (ys.length+1) els) (ys++[[.int .i64 q]])⟩) (fun _ _=>False) (fun _=>False)
theorem j25_e:j25_T=j25_S:=by kernel_rfl
theorem j25:j25_S:=@Eq.mp (j25_T) (j25_S) (j25_e) (j25_P)
def j26_T:Prop :=
  ∀ (n h i p q:Int) (nd cs es els ys:List (List AV)) (l:List (Int × AV)) (N A:Nat),JgP N A q els ys→bif decide ((0:Int)≤q∧q < (↑N:Int)) then bif decide (N =
  els.length∧q.toNat < els.length) then ∃ n_1,List.take [AV.rw (1002:Nat) (1:Nat) n_1].length (List.drop (0:Nat) (els.getD q.toNat []))=[AV.rw (1002:Nat) (1:Nat) n_1]
 ∧bif decide (n_1=ys.length∧ys.length+[[AV.int IntKind.i64 p]].length≤(9223372036854775807:Nat)∧(ys.length+[[AV.int IntKind.i64 p]].length)*(8:Nat) ≤
  (140737488355328:Nat)) then bif decide ((0:Int)≤q∧q < (↑N:Int)) then bif decide (N=els.length∧q.toNat < els.length) then ((0:Nat)=(0:Nat)∧(True∧es=es) ∧
  (↑es.length:Int)=(↑es.length:Int)∧i=i∧(0:Nat)=(0:Nat)∧True)∧(n=n∧h=h∧(True∧nd=nd)∧True∧(True∧cs=cs)∧(True∧es=es)∧N=N∧True)∧l
 =l∧(p=p∧q=q∧True)∧setEl els q.toNat (0:Nat) [AV.rw (1002:Nat) (1:Nat) (ys++[[AV.int IntKind.i64 p]]).length]=wrJ A (ys.length+(1:Nat)) els∧ys ++
  [[AV.int IntKind.i64 p]]=ys++[[AV.int IntKind.i64 p]]∧True else False else False else False else False else False
theorem j26_P:j26_T:=by
 unfold j26_T
 intro n h i p q nd cs es els ys l N A hp
 have e:=hp.hp
 have hA:=hp.hA
 have hN:=hp.hN
 have hy:=hp.hy
 have ea:q.toNat=A:=by omega
 have eg:els.getD A []=[.rw 1002 1 ys.length]:=by rw [List.getD_eq_getElem?_getD,hp.ha]; rfl
 rw [ea]
 refine cd1 ⟨by omega,by omega⟩ (cd1 ⟨hN,by omega⟩ ⟨ys.length,by rw [eg]; rfl,cd1 ⟨rfl,by simp only [List.length_cons,List.length_nil]; omega,by simp only [List.length_cons,List.length_nil]; omega⟩ (cd1 ⟨by omega,by omega⟩ (cd1 ⟨hN,by omega⟩ ?_))⟩)
 rw [List.length_append]
 (repeat' (first | exact trivial | exact rfl | assumption | apply And.intro))
def j26_S:Prop:=∀ (n h i p q:Int) (nd cs es els ys:List (List AV)) (l:List (Int × AV)) (N A:Nat),JgP N A q els ys→acX Tryz.prog (EJ [160] [(160,[1002001])]) CJ (fun _ _=>none) 6 (regC 26 bldB) ⟨sK es i,smallH (xK n h nd cs es l N p q) els ys⟩ (fun st=>leS st ⟨sK es i,smallH (xK n h nd cs es l N p q) (wrJ A (ys.length+1) els) (ys++[[.int .i64 p]])⟩) (fun _ _=>False) (fun _=>False)
theorem j26_e:j26_T=j26_S:=by kernel_rfl
theorem j26:j26_S:=@Eq.mp (j26_T) (j26_S) (j26_e) (j26_P)
def j27_T:Prop :=
  ∀ (n h i p q:Int) (nd cs es els ys:List (List AV)) (l:List (Int × AV)) (N:Nat),(0:Int)≤i∧i≤(20000:Int)→bif decide (rng IntKind.i64 (i+(1:Int))) then ((0 :
  Nat)=(0:Nat)∧(True∧es=es)∧(↑es.length:Int)=(↑es.length:Int)∧i+(1:Int)=i+(1:Int)∧True)∧(n=n∧h=h∧(True∧nd=nd)∧True∧(True∧cs=cs)
 ∧(True∧es=es)∧N=N∧True)∧l=l∧els=els∧ys=ys∧True else False
theorem j27_P:j27_T:=by
 unfold j27_T
 intro n h i p q nd cs es els ys l N hi
 exact cdI (by omega) (by (repeat' (first | exact trivial | exact rfl | assumption | apply And.intro)))
def j27_S:Prop:=∀ (n h i p q:Int) (nd cs es els ys:List (List AV)) (l:List (Int × AV)) (N:Nat),0≤i∧i≤20000→acX Tryz.prog (EJ [] []) CJ (fun _ _=>none) 6 (regC 27 bldB) ⟨sK es i,smallH (xK n h nd cs es l N p q) els ys⟩ (fun st=>leS st ⟨sJ es (i+1),smallH (xJ n h nd cs es l N) els ys⟩) (fun _ _=>False) (fun _=>False)
theorem j27_e:j27_T=j27_S:=by kernel_rfl
theorem j27:j27_S:=@Eq.mp (j27_T) (j27_S) (j27_e) (j27_P)
def j28_T:Prop :=
 ∀ (n h i:Int) (nd cs es els ys:List (List AV)) (l:List (Int × AV)) (N:Nat),N≤(200:Nat)→((0:Nat)=(0:Nat)∧N=N∧(↑N:Int)=(↑N:Int)∧(0:Int)=(0 :
 Int)∧True)∧(n=n∧h=h∧(True∧nd=nd)∧True∧(True∧cs=cs)∧(True∧es=es)∧N=N∧True)∧l=l∧els=els∧ys=ys∧True
theorem j28_P:j28_T:=by
 unfold j28_T
 intros; (repeat' (first | exact trivial | exact rfl | assumption | apply And.intro))
def j28_S:Prop:=∀ (n h i:Int) (nd cs es els ys:List (List AV)) (l:List (Int × AV)) (N:Nat),N≤200→acX Tryz.prog (EJ [] []) CJ (fun _ _=>none) 6 (regC 28 bldB) ⟨(125,.bool false)::sJ es i,smallH (xJ n h nd cs es l N) els ys⟩ (fun st=>leS st ⟨sL N 0,smallH (xJ n h nd cs es l N) els ys⟩) (fun _ _=>False) (fun _=>False)
theorem j28_e:j28_T=j28_S:=by kernel_rfl
theorem j28:j28_S:=@Eq.mp (j28_T) (j28_S) (j28_e) (j28_P)
def j29_T:Prop :=
 ∀ (n h i:Int) (nd cs es els ys:List (List AV)) (l:List (Int × AV)) (N:Nat),(0:Int)≤i∧i≤(20000:Int)→(decide (i < (↑N:Int))=decide (i < (↑N:Int))∧(0 :
 Nat)=(0:Nat)∧N=N∧(↑N:Int)=(↑N:Int)∧i=i∧True)∧(n=n∧h=h∧(True∧nd=nd)∧True∧(True∧cs=cs)∧(True∧es=es)∧N=N∧True)∧l=l∧els =
 els∧ys=ys∧True
theorem j29_P:j29_T:=by
 unfold j29_T
 intros; (repeat' (first | exact trivial | exact rfl | assumption | apply And.intro))
def j29_S:Prop:=∀ (n h i:Int) (nd cs es els ys:List (List AV)) (l:List (Int × AV)) (N:Nat),0≤i∧i≤20000→acX Tryz.prog (EJ [] []) CJ (fun _ _=>none) 6 (regC 29 bldB) ⟨sL N i,smallH (xJ n h nd cs es l N) els ys⟩ (fun st=>leS st ⟨(173,.bool (decide (i < N)))::sL N i,smallH (xJ n h nd cs es l N) els ys⟩) (fun _ _=>False) (fun _=>False)
theorem j29_e:j29_T=j29_S:=by kernel_rfl
theorem j29:j29_S:=@Eq.mp (j29_T) (j29_S) (j29_e) (j29_P)
def j30_T:Prop :=
  ∀ (n h i:Int) (nd cs es els ys:List (List AV)) (l:List (Int × AV)) (N A:Nat),JgP N A i els ys→IntR ys ys.length→bif decide ((0:Int)≤i∧i < (↑N:Int)) then bif
  decide (N=els.length∧i.toNat < els.length) then ∃ n_1,List.take [AV.rw (1002:Nat) (1:Nat) n_1].length (List.drop (0:Nat) (els.getD i.toNat []))=[AV.rw (1002:Nat) (1
 :Nat) n_1]∧IntR ys n_1∧((0:Nat)=(0:Nat)∧N=N∧(↑N:Int)=(↑N:Int)∧i=i∧True)∧(n=n∧h=h∧(True∧nd=nd)∧True∧(True∧cs=cs)∧(True∧es =
  es)∧N=N∧True)∧l=l∧els=els∧sortI ys=sortI ys∧True else False else False
theorem j30_P:j30_T:=by
 unfold j30_T
 intro n h i nd cs es els ys l N A hp hI
 have e:=hp.hp
 have hA:=hp.hA
 have hN:=hp.hN
 have ea:i.toNat=A:=by omega
 have eg:els.getD A []=[.rw 1002 1 ys.length]:=by rw [List.getD_eq_getElem?_getD,hp.ha]; rfl
 rw [ea]
 refine cd1 ⟨by omega,by omega⟩ (cd1 ⟨hN,by omega⟩ ⟨ys.length,by rw [eg]; rfl,hI,by (repeat' (first | exact trivial | exact rfl | assumption | apply And.intro))⟩)
def j30_S:Prop:=∀ (n h i:Int) (nd cs es els ys:List (List AV)) (l:List (Int × AV)) (N A:Nat),JgP N A i els ys→IntR ys ys.length→acX Tryz.prog (EI [175] [(175,[1002001])]) CJ (fun _ _=>none) 6 (.seq (regC 30 bldB) (regC 31 bldB)) ⟨(173,.bool true)::sL N i,smallH (xJ n h nd cs es l N) els ys⟩ (fun st=>leS st ⟨sL N i,smallH (xJ n h nd cs es l N) els (sortI ys)⟩) (fun _ _=>False) (fun _=>False)
theorem j30_e:j30_T=j30_S:=by kernel_rfl
theorem j30:j30_S:=@Eq.mp (j30_T) (j30_S) (j30_e) (j30_P)
def j32_T:Prop :=
  ∀ (n h i:Int) (nd cs es els ys:List (List AV)) (l:List (Int × AV)) (N:Nat),(0:Int)≤i∧i≤(20000:Int)→bif decide (rng IntKind.i64 (i+(1:Int))) then ((0:Nat)
 =(0:Nat)∧N=N∧(↑N:Int)=(↑N:Int)∧i+(1:Int)=i+(1:Int)∧True)∧(n=n∧h=h∧(True∧nd=nd)∧True∧(True∧cs=cs)∧(True∧es=es)∧N=N ∧
  True)∧l=l∧els=els∧ys=ys∧True else False
theorem j32_P:j32_T:=by
 unfold j32_T
 intro n h i nd cs es els ys l N hi
 exact cdI (by omega) (by (repeat' (first | exact trivial | exact rfl | assumption | apply And.intro)))
def j32_S:Prop:=∀ (n h i:Int) (nd cs es els ys:List (List AV)) (l:List (Int × AV)) (N:Nat),0≤i∧i≤20000→acX Tryz.prog (EJ [] []) CJ (fun _ _=>none) 6 (regC 32 bldB) ⟨sL N i,smallH (xJ n h nd cs es l N) els ys⟩ (fun st=>leS st ⟨sL N (i+1),smallH (xJ n h nd cs es l N) els ys⟩) (fun _ _=>False) (fun _=>False)
theorem j32_e:j32_T=j32_S:=by kernel_rfl
theorem j32:j32_S:=@Eq.mp (j32_T) (j32_S) (j32_e) (j32_P)
end Go.Proofs.YtgbbmadjdaphnaaGreatDoor
namespace Go.Proofs.YtgbbmadjdaphnaaGreatDoor
open Go
open Go.RowKit (Below)
set_option linter.unusedVariables false
set_option linter.unusedSimpArgs false
def rowN (N:Nat):List (List AV):=List.replicate N [.nils]
def CB:Cx:={ nt:=180,drop:=drp [(1,24576),(4,131072),(6,786432),(7,6291456),(9,125829120),(10,805306368),(11,72057592964186112),(12,144115188075855872),(13,4323455642275676160),(14,64563604257983430656),(16,3541774862152233910272),(17,79228157791897854723898736640),(18,79228162514264337593543950336),(19,2376844875427930127806318510080),(20,1293003612232793989526637269483520),(21,663315923677824229544770906057867264),(22,4652297985247205555163324710981206016),(24,255211775190703847597530955573826158592),(25,178405621305878064193822282806579460279631872),(26,93535926383216198520050697008095932071087634907136),(27,93536104789177786765035829293842113257979682750464),(28,1309505467048489014710501610113789585611715558506496),(30,71835728478088540235547516897670742982128396352356352),(31,95780971304118053647396689196894323976171195136475136),(32,383123885216472214589586756787577295904684780545900544),(33,766247770432944429179173513575154591809369561091801088)],fr:=1000,kp:=[] }
def CF:Cx:={ nt:=180,drop:=drp [(1,24576),(4,131072),(6,786432),(7,6291456),(9,125829120),(10,805306368),(11,72057592964186112),(12,144115188075855872),(13,4323455642275676160),(14,64563604257983430656),(16,3541774862152233910272),(17,79228157791897854723898736640),(18,79228162514264337593543950336),(19,2376844875427930127806318510080),(20,1293003612232793989526637269483520),(21,663315923677824229544770906057867264),(22,4652297985247205555163324710981206016),(24,255211775190703847597530955573826158592),(25,178405621305878064193822282806579460279631872),(26,93535926383216198520050697008095932071087634907136),(27,93536104789177786765035829293842113257979682750464),(28,1309505467048489014710501610113789585611715558506496),(30,71835728478088540235547516897670742982128396352356352),(31,95780971304118053647396689196894323976171195136475136),(32,383123885216472214589586756787577295904684780545900544),(33,766247770432944429179173513575154591809369561091801088)],fr:=1000,kp:=[],frz:=fun id=>cond (Nat.beq id 33) [1001116] [] }
def j21_T:Prop :=
 ∀ (n h:Int) (nd cs es:List (List AV)) (l:List (Int × AV)),nd.length≤(200:Nat)→bif decide ((0:Int)≤(↑nd.length:Int)∧(↑nd.length:Int)≤(↑nd.length:Int) ∧
 (24:Int)*(↑nd.length:Int)≤(281474976710656:Int)∧(↑nd.length:Int)≤(9223372036854775807:Int)) then ((0:Nat)=(0:Nat)∧(True∧es=es)∧(↑es.length:Int) =
 (↑es.length:Int)∧(0:Int)=(0:Int)∧True)∧(n=n∧h=h∧(True∧nd=nd)∧True∧(True∧cs=cs)∧(True∧es=es)∧(↑nd.length:Int).toNat=nd.length∧True) ∧
 l=l∧List.replicate (↑nd.length:Int).toNat [AV.nils]=rowN nd.length∧True else False
theorem j21_P:j21_T:=by
 unfold j21_T
 intro n h nd cs es l hn
 exact cd1 ⟨by omega,by omega,by omega,by omega⟩ (by (repeat' (first | exact trivial | exact rfl | assumption | apply And.intro)))
def j21_S:Prop:=∀ (n h:Int) (nd cs es:List (List AV)) (l:List (Int × AV)),nd.length≤200→acX Tryz.prog (EJ [] []) CB (fun _ _=>none) 6 (.seq (regC 21 bldB) (regC 22 bldB)) ⟨[(0,.int .i64 n),(3,.ptr 1014 0)],[(1014,.cells [.int .i64 n,.int .i64 h,.sl 4 false nd,.mpv 2014,.sl 3 false cs,.sl 2 false es,.nils]),(2014,.mp 27 3 l)]⟩ (fun st=>leS st ⟨sJ es 0,xJ n h nd cs es l nd.length++[(1116,.row tOut 1 (rowN nd.length))]⟩) (fun _ _=>False) (fun _=>False)
theorem j21_e:j21_T=j21_S:=by kernel_rfl
theorem j21:j21_S:=@Eq.mp (j21_T) (j21_S) (j21_e) (j21_P)
def j33_T:Prop :=
 ∀ (n h:Int) (nd cs es nx:List (List AV)) (l:List (Int × AV)) (N:Nat),N=nx.length→bif decide (N=nx.length) then (0:Nat)=(0:Nat)∧(n=n∧h=h∧(True∧nd =
 nd)∧True∧(True∧cs=cs)∧(True∧es=es)∧(True∧nx=nx)∧True)∧l=l∧True else False
theorem j33_P:j33_T:=by
 unfold j33_T
 intro n h nd cs es nx l N hN
 exact cd1 hN (by (repeat' (first | exact trivial | exact rfl | assumption | apply And.intro)))
def j33_S:Prop:=∀ (n h:Int) (nd cs es nx:List (List AV)) (l:List (Int × AV)) (N:Nat),N=nx.length→acX Tryz.prog (EJ [] []) CF (fun _ _=>none) 6 (.seq (regC 33 bldB) .ret) ⟨(173,.bool false)::sL N N,xJ n h nd cs es l N++[(1116,.row tOut 1 nx)]⟩ (fun _=>False) (fun _ _=>False) (fun st=>resF2 Tryz.prog (EJ [] []) CB st (Tryz.f43).results.toList (endH [] (.ptr 0 0) [.cells [.int .i64 n,.int .i64 h,.sl 4 false nd,.mpv 1,.sl 3 false cs,.sl 2 false es,.sl 1 false nx],.mp 27 3 l]))
theorem j33_e:j33_T=j33_S:=by kernel_rfl
theorem j33:j33_S:=@Eq.mp (j33_T) (j33_S) (j33_e) (j33_P)
theorem reg_run {P:Program} {E:Env} {C:Cx} {inv:Nat→St→Option LInv} {fuel:Nat} (hT:TyOK P C.tys) (hS:SpecOK P E) (hM:P.follows .mixedOrders=true) {G:Gh} (hG:GOK E G.S0) {c:Code} {st:St} {kn:St→Prop} (h:acode P E C inv fuel c st kn (fun _ _=>False) (fun _=>False)) {a:Act} {w:World} {S:Pin} {m:Nm} (hR:Rel G C.kp st a w S m) (hn:a.tmps.size=C.nt) {Q:Exit→Act→World→Prop}
  (hQ:∀ st' a' w' S' m',kn st'→Rel G C.kp st' a' w' S' m'→a'.tmps.size=C.nt→Q .normal a' w'):c.wp P Q a w:=by
 refine Go.wp_mono (acode_sound hT hS hM hG c st kn _ _ h a w S m hR hn) ?_
 intro e a' w' he
 cases e with
 | normal=>obtain ⟨st',S',m',hk,hR',hn'⟩:=he; exact hQ st' a' w' S' m' hk hR' hn'
 | exit _=>obtain ⟨_,_,_,hk,_⟩:=he; exact hk.elim
 | ret=>obtain ⟨_,_,_,hk,_⟩:=he; exact hk.elim
 | _=>exact he.elim
theorem acodeL_wp {P:Program} {E:Env} {C:Cx} {inv:Nat→St→Option LInv} {fuel:Nat} (hT:TyOK P C.tys) (hS:SpecOK P E) (hM:P.follows .mixedOrders=true) {G:Gh} (hG:GOK E G.S0) {Q:Exit→Act→World→Prop}:∀ (k:Nat) (c:Code) (st:St) (K:St→Prop),acodeL P E C inv fuel (preK k c) st K→∀ (a:Act) (w:World) (S:Pin) (m:Nm),Rel G C.kp st a w S m→a.tmps.size=C.nt →
  (∀ st' a' w' S' m',K st'→Rel G C.kp st' a' w' S' m'→a'.tmps.size=C.nt→(tailK k c).wp P Q a' w')→c.wp P Q a w
 | 0,c,st,K,h,a,w,S,m,hR,hn,hQ=>hQ st a w S m (by simpa only [preK,acodeL] using h) hR hn
 | k+1,.seq x y,st,K,h,a,w,S,m,hR,hn,hQ=>by
  simp only [preK,acodeL] at h
  refine wp_seq (reg_run hT hS hM hG h hR hn fun st' a' w' S' m' hk hR' hn'=>?_)
  exact acodeL_wp hT hS hM hG k y st' K hk a' w' S' m' hR' hn' hQ
 | k+1,.skip,st,K,h,a,w,S,m,hR,hn,hQ=>hQ st a w S m h hR hn
 | k+1,.label _,st,K,h,a,w,S,m,hR,hn,hQ=>hQ st a w S m h hR hn
 | k+1,.region _ _ _,st,K,h,a,w,S,m,hR,hn,hQ=>hQ st a w S m h hR hn
 | k+1,.cond _ _ _,st,K,h,a,w,S,m,hR,hn,hQ=>hQ st a w S m h hR hn
 | k+1,.block _ _,st,K,h,a,w,S,m,hR,hn,hQ=>hQ st a w S m h hR hn
 | k+1,.loop _,st,K,h,a,w,S,m,hR,hn,hQ=>hQ st a w S m h hR hn
 | k+1,.exit _,st,K,h,a,w,S,m,hR,hn,hQ=>hQ st a w S m h hR hn
 | k+1,.ret,st,K,h,a,w,S,m,hR,hn,hQ=>hQ st a w S m h hR hn
 | k+1,.goto _,st,K,h,a,w,S,m,hR,hn,hQ=>hQ st a w S m h hR hn
 | k+1,.refuse _,st,K,h,a,w,S,m,hR,hn,hQ=>hQ st a w S m h hR hn
 | k+1,.scope _,st,K,h,a,w,S,m,hR,hn,hQ=>hQ st a w S m h hR hn
 | k+1,.rangeFunc _ _ _ _,st,K,h,a,w,S,m,hR,hn,hQ=>hQ st a w S m h hR hn
theorem set_same {α:Type} {l:List α} {i:Nat} {x:α} (h:l[i]?=some x):l.set i x=l:=by
 apply List.ext_getElem?
 intro j
 rw [List.getElem?_set]
 split
 ·rename_i e; subst e; split
  ·exact h.symm
  ·rename_i q; rw [List.getElem?_eq_none (by omega)]
 ·rfl
theorem jag_run {P:Program} {E:Env} {C:Cx} {inv:Nat→St→Option LInv} {fuel:Nat} (hT:TyOK P C.tys) (hS:SpecOK P E) (hM:P.follows .mixedOrders=true) {G:Gh} (hG:GOK E G.S0) (hkp:C.kp=kpJ) {sl:List (Nat × AV)} {X:List (Nat × Blk)} {xss:List (List (List AV))} {a:Act} {w:World} {S:Pin} {m:Nm} (h:JS G sl X xss a w S m) (hn:a.tmps.size=C.nt) (hN:xss.length≤200) {A:Nat} {ys:List (List AV)} (hA:xss[A]?=some ys)
  {c:Code} {sl':List (Nat × AV)} {X':List (Nat × Blk)} {ys':List (List AV)} {eo:List (List AV)→List (List AV)}
  (VC:∀ els:List (List AV),els.length=xss.length→els[A]?=some [.rw 1002 1 ys.length]→acX P E C inv fuel c ⟨sl,smallH X els ys⟩ (fun st=>leS st ⟨sl',smallH X' (eo els) ys'⟩) (fun _ _=>False) (fun _=>False))
  (hs':gT sl'=true) (hX':gH X'=true) (hnil:ys'=[]→ys=[]) (heo:∀ els:List (List AV),els.length=xss.length→els[A]?=some [.rw 1002 1 ys.length]→(eo els).length=els.length∧(eo els)[A]?=some [.rw 1002 1 ys'.length]∧∀ j,j≠A→(eo els)[j]?=els[j]?)
  {Q:Exit→Act→World→Prop} (hQ:∀ a w S m,JS G sl' X' (xss.set A ys') a w S m→a.tmps.size=C.nt→Q .normal a w):c.wp P Q a w:=by
 obtain ⟨els,m1,m0,M1,h1,h2,hR,back⟩:=jag_in h hN hA
 have hG':GOK E (Gh.mk w S m0 M1).S0:=fun g cs e=>CC.mono h.rel.pin0 cs g 0 (hG g cs e)
 refine reg_run hT hS hM hG' (by have q:=VC els h1 h2; unfold acX at q; exact q) (by rw [hkp]; exact hR) hn fun st' a' w' S' m' hk hR' hn'=>?_
 rw [hkp] at hR'
 obtain ⟨e1,e2,e3⟩:=heo els h1 h2
 obtain ⟨m2,hJ⟩:=back sl' X' ys' (eo els) a' w' S' m' hs' hX' hnil e1 e2 e3 (hR'.le hk)
 exact hQ a' w' S' m2 hJ hn'
theorem jag_ctl {P:Program} {E:Env} {C:Cx} {inv:Nat→St→Option LInv} {fuel:Nat} (hT:TyOK P C.tys) (hS:SpecOK P E) (hM:P.follows .mixedOrders=true) {G:Gh} (hG:GOK E G.S0) (hkp:C.kp=kpJ) {sl:List (Nat × AV)} {X:List (Nat × Blk)} {xss:List (List (List AV))} {a:Act} {w:World} {S:Pin} {m:Nm} (h:JS G sl X xss a w S m) (hn:a.tmps.size=C.nt) (hN:xss.length≤200) (hN1:1≤xss.length)
  {c:Code} {sl':List (Nat × AV)} {X':List (Nat × Blk)}
  (VC:∀ els ys:List (List AV),els.length=xss.length→acX P E C inv fuel c ⟨sl,smallH X els ys⟩ (fun st=>leS st ⟨sl',smallH X' els ys⟩) (fun _ _=>False) (fun _=>False))
  (hs':gT sl'=true) (hX':gH X'=true) {Q:Exit→Act→World→Prop} (hQ:∀ a w S m,JS G sl' X' xss a w S m→a.tmps.size=C.nt→Q .normal a w):c.wp P Q a w:=by
 have h0:xss[0]?=some xss[0]:=List.getElem?_eq_getElem hN1
 refine jag_run (eo:=id) hT hS hM hG hkp h hn hN h0 (fun els e _=>VC els _ e) hs' hX' id (fun els _ e2=>⟨rfl,e2,fun _ _=>rfl⟩) fun a w S m hJ hn'=>?_
 rw [set_same h0] at hJ
 exact hQ a w S m hJ hn'
theorem bld_tail:tailK 7 bldB=.seq (regC 21 bldB) (.seq (.seq (regC 22 bldB) (.block 8 (.loop (.seq (regC 23 bldB) (.seq (.cond (.tmp 125) .skip (.exit 8)) (.seq (.block 9 (.seq (regC 24 bldB) (.seq (regC 25 bldB) (regC 26 bldB)))) (regC 27 bldB))))))) (.seq (.seq (regC 28 bldB) (.block 10 (.loop (.seq (regC 29 bldB) (.seq (.cond (.tmp 173) .skip (.exit 10)) (.seq (.block 11 (.seq (regC 30 bldB) (regC 31 bldB))) (regC 32 bldB))))))) (.seq (regC 33 bldB) .ret))):=by kernel_rfl
def addE (xss:List (List (List AV))) (e:List AV):List (List (List AV)) :=
 let x1:=xss.set (nI e 0).toNat (xss.getD (nI e 0).toNat []++[[.int .i64 (nI e 1)]])
 x1.set (nI e 1).toNat (x1.getD (nI e 1).toNat []++[[.int .i64 (nI e 0)]])
def nbrL (N:Nat) (es:List (List AV)):List (List (List AV)):=es.foldl addE (List.replicate N [])
structure EdgP (N:Nat) (es:List (List AV)):Prop where
 sh:∀ i,i < es.length→∃ p q:Nat,es.getD i []=[.int .i64 p,.int .i64 q]∧p < N∧q < N
 le:es.length≤4000
 n1:1≤N
 n2:N≤200
structure NbP (N k:Nat) (xss:List (List (List AV))):Prop where
 len:xss.length=N
 ok:∀ ys ∈ xss,(∀ r ∈ ys,okR 1 r=true)∧ys.length≤2*k
theorem ok_int {z:Int} (h:-1000000≤z∧z≤1000000):okR 1 [.int .i64 z]=true:=by
 unfold okR
 simp only [List.length_cons,List.length_nil,List.all_cons,List.all_nil,okA,Bool.and_true,decide_eq_true h]
 rfl
theorem NbP.zero (N:Nat):NbP N 0 (List.replicate N []):=⟨by simp,fun ys h=>by rw [List.mem_replicate] at h; rw [h.2]; exact ⟨fun r hr=>by simp at hr,by simp⟩⟩
theorem mem_set {α:Type} {l:List α} {i:Nat} {x y:α} (h:y ∈ l.set i x):y=x∨y ∈ l:=by
 obtain ⟨j,hj⟩:=List.getElem?_of_mem h
 rw [List.getElem?_set] at hj
 split at hj
 ·split at hj
  ·injection hj with hj; exact .inl hj.symm
  ·cases hj
 ·exact .inr (List.mem_of_getElem? hj)
theorem getD_mem {α:Type} {l:List α} {i:Nat} {d:α} (h:i < l.length):l.getD i d ∈ l:=by
 rw [List.getD_eq_getElem?_getD,List.getElem?_eq_getElem h]
 exact List.getElem_mem h
theorem NbP.put {N k p:Nat} {xss:List (List (List AV))} (h:NbP N k xss) (hp:p < N) {q:Int} (hq:-1000000≤q∧q≤1000000) {k':Nat} (hk:2*k+1≤k'):(xss.set p (xss.getD p []++[[.int .i64 q]])).length=N∧∀ ys ∈ xss.set p (xss.getD p []++[[.int .i64 q]]),(∀ r ∈ ys,okR 1 r=true)∧ys.length≤k':=by
 refine ⟨by rw [List.length_set]; exact h.len,fun ys hy=>?_⟩
 have hm:xss.getD p [] ∈ xss:=getD_mem (by rw [h.len]; exact hp)
 rcases mem_set hy with rfl | hy
 ·refine ⟨fun r hr=>?_,?_⟩
  ·rcases List.mem_append.1 hr with hr | hr
   ·exact (h.ok _ hm).1 r hr
   ·simp only [List.mem_cons,List.not_mem_nil,or_false] at hr
    subst hr; exact ok_int hq
  ·have:=(h.ok _ hm).2
   rw [List.length_append,List.length_cons,List.length_nil]; omega
 ·exact ⟨(h.ok ys hy).1,by have:=(h.ok ys hy).2; omega⟩
theorem NbP.put2 {N k p:Nat} {xss:List (List (List AV))} (h:NbP N k xss) (hp:p < N) {q:Int} (hq:-1000000≤q∧q≤1000000):(xss.set p (xss.getD p []++[[.int .i64 q]])).length=N∧∀ ys ∈ xss.set p (xss.getD p []++[[.int .i64 q]]),(∀ r ∈ ys,okR 1 r=true)∧ys.length≤2*k+1:=h.put hp hq (Nat.le_refl _)
theorem nbrL_ok {N:Nat} {es:List (List AV)} (h:EdgP N es):∀ i,i≤es.length→NbP N i (nbrL N (es.take i))
 | 0,_=>by rw [List.take_zero]; exact NbP.zero N
 | i+1,hi=>by
  have ih:=nbrL_ok h i (by omega)
  obtain ⟨p,q,e,hp,hq⟩:=h.sh i (by omega)
  have hn:=h.n2
  have e2:nbrL N (es.take (i+1))=addE (nbrL N (es.take i)) [.int .i64 p,.int .i64 q]:=by
   rw [takeC (by omega),e,nbrL,List.foldl_append]; rfl
  rw [e2]
  obtain ⟨r1,r2⟩:=ih.put2 hp (q:=(q:Int)) (by omega)
  have ih2:∀ ys ∈ (nbrL N (es.take i)).set p ((nbrL N (es.take i)).getD p []++[[.int .i64 (q:Int)]]),(∀ r ∈ ys,okR 1 r=true)∧ys.length≤2*i+1:=r2
  refine ⟨by show (List.set _ _ _).length=N; rw [List.length_set]; exact r1,fun ys hy=>?_⟩
  have hy:ys ∈ ((nbrL N (es.take i)).set p ((nbrL N (es.take i)).getD p []++[[.int .i64 (q:Int)]])).set q (((nbrL N (es.take i)).set p ((nbrL N (es.take i)).getD p []++[[.int .i64 (q:Int)]])).getD q []++[[.int .i64 (p:Int)]]):=hy
  rcases mem_set hy with rfl | hy
  ·have hm:((nbrL N (es.take i)).set p ((nbrL N (es.take i)).getD p []++[[.int .i64 (q:Int)]])).getD q [] ∈ ((nbrL N (es.take i)).set p ((nbrL N (es.take i)).getD p []++[[.int .i64 (q:Int)]])):=by
    exact getD_mem (by rw [r1]; exact hq)
   refine ⟨fun r hr=>?_,?_⟩
   ·rcases List.mem_append.1 hr with hr | hr
    ·exact (ih2 _ hm).1 r hr
    ·simp only [List.mem_cons,List.not_mem_nil,or_false] at hr
     subst hr; exact ok_int (by omega)
   ·have:=(ih2 _ hm).2
    rw [List.length_append,List.length_cons,List.length_nil]; omega
  ·exact ⟨(ih2 ys hy).1,by have:=(ih2 ys hy).2; omega⟩
theorem specJ (sh:List Nat) (sz:List (Nat × List Nat)):SpecOK Tryz.prog (EJ sh sz) :=
 ⟨fun f sp e=>by simp [EJ,lk] at e,fun f sp e=>by simp [EJ,lk] at e,trivial,(fun f sp e=>by cases e),rfl⟩
theorem mixA:Tryz.prog.follows .mixedOrders=true:=by kernel_rfl
theorem wrJ_ok {A k:Nat} {els:List (List AV)} {n:Nat} (h:els[A]?=some [.rw 1002 1 n]):(wrJ A k els).length=els.length∧(wrJ A k els)[A]?=some [.rw 1002 1 k]∧∀ j,j≠A→(wrJ A k els)[j]?=els[j]?:=by
 have hlt:A < els.length:=(List.getElem?_eq_some_iff.1 h).1
 have e:wrJ A k els=els.set A [.rw 1002 1 k]:=by
  show els.set A (spl (els.getD A []) 0 [AV.rw 1002 1 k])=_
  rw [List.getD_eq_getElem?_getD,h]; rfl
 rw [e]
 refine ⟨List.length_set ..,?_,fun j hj=>?_⟩
 ·rw [List.getElem?_set,if_pos rfl,if_pos hlt]
 ·rw [List.getElem?_set,if_neg (fun q=>hj q.symm)]
theorem evT {S:Pin} {sl:List (Nat × AV)} {H:List (Nat × Blk)} {m:Nm} {a:Act} {t:Nat} {b:Bool} (h:∀ t,CV S (St.get ⟨sl,H⟩ t) m (a.tmps.getD t undef)) (e:lk sl t=some (.bool b)):a.eval (.tmp t)=.bool b:=by
 have:=h t
 unfold St.get at this
 simp only [e,CV] at this
 exact this
theorem specI (sh:List Nat) (sz:List (Nat × List Nat)):SpecOK Tryz.prog (EI sh sz):=by
 refine ⟨fun f sp e=>by simp [EI,lk] at e,fun f sp e=>?_,trivial,(fun f sp e=>by cases e),rfl⟩
 have e2:lk [(93,srtI_s)] f=some sp:=e
 clear e
 simp only [lk] at e2
 cases hj:Nat.beq 93 f with
 | true =>
  rw [hj] at e2
  simp only [cond_true,Option.some.injEq] at e2
  have:=Nat.eq_of_beq_eq_true hj
  subst this; subst e2
  exact srtI_ok glb
 | false=>rw [hj] at e2; cases e2
theorem tyJ:TyOK Tryz.prog []:=⟨fun t h=>by simp at h,fun t h=>by simp at h⟩
section
variable {G:Gh} (hG:GOK { glob:=glb } G.S0)
include hG
theorem gok (E:Env) (h:E.glob=glb):GOK E G.S0:=fun g cs e=>hG g cs (by rw [h] at e; exact e)
theorem loopA {n h:Int} {nd cs es:List (List AV)} {l:List (Int × AV)} {N:Nat} (hE:EdgP N es) {a:Act} {w:World} {S:Pin} {m:Nm} (hJ:JS G (sJ es 0) (xJ n h nd cs es l N) (List.replicate N []) a w S m) (hn:a.tmps.size=180)
  {Q:Exit→Act→World→Prop} (hQ:∀ a w S m,JS G ((125,.bool false)::sJ es es.length) (xJ n h nd cs es l N) (nbrL N es) a w S m→a.tmps.size=180→Q .normal a w) :
  (Code.block 8 (.loop (.seq (regC 23 bldB) (.seq (.cond (.tmp 125) .skip (.exit 8)) (.seq (.block 9 (.seq (regC 24 bldB) (.seq (regC 25 bldB) (regC 26 bldB)))) (regC 27 bldB)))))).wp Tryz.prog Q a w:=by
 have hN1:=hE.n1
 have hN2:=hE.n2
 have hle:=hE.le
 refine wp_block (wp_loop_ghost (fun k a w=>∃ i:Nat,i≤es.length∧k=es.length - i∧∃ S m,JS G (sJ es i) (xJ n h nd cs es l N) (nbrL N (es.take i)) a w S m∧a.tmps.size=180) es.length ⟨0,by omega,by omega,S,m,hJ,hn⟩ ?_)
 rintro k a w ⟨i,hi,rfl,S,m,hJ,hn⟩
 have hb:=nbrL_ok hE i hi
 have hX:=hJ.gh
 refine wp_seq (jag_ctl (sl':=(125,.bool (decide ((i:Int) < es.length)))::sJ es i) (X':=xJ n h nd cs es l N) tyJ (specJ [] []) mixA (gok hG _ rfl) (C:=CJ) rfl hJ hn (by rw [hb.len]; exact hN2) (by rw [hb.len]; exact hN1) (fun els ys _=>j23 n h i nd cs es els ys l N ⟨by omega,by omega⟩) rfl hX fun a w S m hJ hn=>?_)
 refine wp_seq (wp_cond_split (evT (t:=125) hJ.rel.tmps rfl) (fun ht=>wp_skip ?_) (fun hf=>wp_exit ?_))
 ·have hi':i < es.length:=by have:=of_decide_eq_true ht; omega
  rw [ht] at hJ
  obtain ⟨p,q,e,hp,hq⟩:=hE.sh i hi'
  have hed:EdX es i p q:=⟨by omega,by omega,by omega,by rw [Int.toNat_natCast]; exact e⟩
  have h24:=fun (els ys:List (List AV))=>j24 n h (i:Int) (p:Int) (q:Int) nd cs es els ys l N hed
  refine wp_seq (wp_block (wp_seq (jag_ctl (sl':=sK es i) (X':=xK n h nd cs es l N p q) tyJ (specJ [127] []) mixA (gok hG _ rfl) (C:=CJ) rfl hJ hn (by rw [hb.len]; exact hN2) (by rw [hb.len]; exact hN1) (fun els ys _=>h24 els ys) rfl rfl fun a w S m hJ hn=>?_)))
  have hr:=hb.len
  have hgp:(nbrL N (es.take i))[p]?=some ((nbrL N (es.take i)).getD p []):=by
   rw [List.getD_eq_getElem?_getD,List.getElem?_eq_getElem (by rw [hr]; exact hp)]; rfl
  have hyp:=(hb.ok _ (List.mem_of_getElem? hgp)).2
  refine wp_seq (jag_run (A:=p) (eo:=wrJ p (((nbrL N (es.take i)).getD p []).length+1)) (sl':=sK es i) (X':=xK n h nd cs es l N p q) (ys':=(nbrL N (es.take i)).getD p []++[[.int .i64 (q:Int)]]) tyJ (specJ [141] [(141,[1002001])]) mixA (gok hG _ rfl) (C:=CJ) rfl hJ hn (by rw [hb.len]; exact hN2) hgp (fun els e1 e2=>j25 n h i p q nd cs es els _ l N p ⟨rfl,hp,by rw [e1,hr],hN2,e2,by omega⟩) rfl rfl (fun q=>absurd q (by simp)) (fun els e1 e2=>by rw [List.length_append]; exact wrJ_ok e2) fun a w S m hJ hn=>?_)
  obtain ⟨r1,r2⟩:=hb.put2 hp (q:=(q:Int)) (by omega)
  obtain ⟨x1,hx1⟩:∃ x1,x1=(nbrL N (es.take i)).set p ((nbrL N (es.take i)).getD p []++[[.int .i64 (q:Int)]]):=⟨_,rfl⟩
  rw [← hx1] at hJ r1 r2
  have hgq:x1[q]?=some (x1.getD q []):=by
   rw [List.getD_eq_getElem?_getD,List.getElem?_eq_getElem (by rw [r1]; exact hq)]; rfl
  have hyq:=(r2 _ (List.mem_of_getElem? hgq)).2
  refine jag_run (A:=q) (eo:=wrJ q ((x1.getD q []).length+1)) (sl':=sK es i) (X':=xK n h nd cs es l N p q) (ys':=x1.getD q []++[[.int .i64 (p:Int)]]) tyJ (specJ [160] [(160,[1002001])]) mixA (gok hG _ rfl) (C:=CJ) rfl hJ hn (by rw [r1]; exact hN2) hgq (fun els e1 e2=>j26 n h i p q nd cs es els _ l N q ⟨rfl,hq,by rw [e1,r1],hN2,e2,by omega⟩) rfl rfl (fun q=>absurd q (by simp)) (fun els e1 e2=>by rw [List.length_append]; exact wrJ_ok e2) fun a w S m hJ hn=>?_
  have e2:nbrL N (es.take (i+1))=x1.set q (x1.getD q []++[[.int .i64 (p:Int)]]):=by
   rw [hx1,takeC hi',e,nbrL,List.foldl_append]; rfl
  rw [← e2] at hJ
  have hb2:=nbrL_ok hE (i+1) hi'
  refine jag_ctl (sl':=sJ es ((i+1:Nat):Int)) (X':=xJ n h nd cs es l N) tyJ (specJ [] []) mixA (gok hG _ rfl) (C:=CJ) rfl hJ hn (by rw [hb2.len]; exact hN2) (by rw [hb2.len]; exact hN1) (fun els ys _=>j27 n h i p q nd cs es els ys l N ⟨by omega,by omega⟩) rfl rfl fun a w S m hJ hn=>?_
  exact ⟨es.length - (i+1),by omega,i+1,hi',rfl,S,m,hJ,hn⟩
 ·have hi':i=es.length:=by have:=of_decide_eq_false hf; omega
  rw [hf] at hJ
  subst hi'
  rw [List.take_length] at hJ
  exact hQ a w S m hJ hn
def srtF (i:Nat) (L:List (List (List AV))):List (List (List AV)):=(L.take i).map sortI++L.drop i
omit hG in
theorem srtF_len (i:Nat) (L:List (List (List AV))):(srtF i L).length=L.length:=by
 simp only [srtF,List.length_append,List.length_map,List.length_take,List.length_drop]; omega
omit hG in
theorem srtF_get {i:Nat} {L:List (List (List AV))} (h:i < L.length):(srtF i L)[i]?=some (L.getD i []):=by
 rw [srtF,List.getElem?_append_right (by simp; omega)]
 simp only [List.length_map,List.length_take,List.getElem?_drop]
 rw [show i+(i - min i L.length)=i by omega,List.getElem?_eq_getElem h,List.getD_eq_getElem?_getD,List.getElem?_eq_getElem h]; rfl
omit hG in
theorem srtF_set {i:Nat} {L:List (List (List AV))} (h:i < L.length):(srtF i L).set i (sortI (L.getD i []))=srtF (i+1) L:=by
 have e1:L.drop i=L.getD i []::L.drop (i+1):=by
  rw [List.drop_eq_getElem_cons h,List.getD_eq_getElem?_getD,List.getElem?_eq_getElem h]; rfl
 have e2:L.take (i+1)=L.take i++[L.getD i []]:=by
  rw [List.take_add_one,List.getD_eq_getElem?_getD,List.getElem?_eq_getElem h]; rfl
 rw [srtF,srtF,e1,e2,List.map_append,List.set_append_right _ _ (by simp; omega)]
 simp only [List.length_map,List.length_take,List.map_cons,List.map_nil,List.append_assoc,List.singleton_append]
 rw [show i - min i L.length=0 by omega]
 rfl
theorem loopB {n h:Int} {nd cs es:List (List AV)} {l:List (Int × AV)} {N:Nat} (hN1:1≤N) (hN2:N≤200) {L:List (List (List AV))} (hL:L.length=N) (hO:∀ ys ∈ L,(∀ r ∈ ys,okR 1 r=true)∧ys.length≤10000) {a:Act} {w:World} {S:Pin} {m:Nm} (hJ:JS G (sL N 0) (xJ n h nd cs es l N) L a w S m) (hn:a.tmps.size=180)
  {Q:Exit→Act→World→Prop} (hQ:∀ a w S m,JS G ((173,.bool false)::sL N N) (xJ n h nd cs es l N) (L.map sortI) a w S m→a.tmps.size=180→Q .normal a w) :
  (Code.block 10 (.loop (.seq (regC 29 bldB) (.seq (.cond (.tmp 173) .skip (.exit 10)) (.seq (.block 11 (.seq (regC 30 bldB) (regC 31 bldB))) (regC 32 bldB)))))).wp Tryz.prog Q a w:=by
 refine wp_block (wp_loop_ghost (fun k a w=>∃ i:Nat,i≤N∧k=N - i∧∃ S m,JS G (sL N i) (xJ n h nd cs es l N) (srtF i L) a w S m∧a.tmps.size=180) N ⟨0,by omega,by omega,S,m,hJ,hn⟩ ?_)
 rintro k a w ⟨i,hi,rfl,S,m,hJ,hn⟩
 have hlen:∀ i,(srtF i L).length=N:=fun i=>(srtF_len i L).trans hL
 have hX:=hJ.gh
 refine wp_seq (jag_ctl (sl':=(173,.bool (decide ((i:Int) < N)))::sL N i) (X':=xJ n h nd cs es l N) tyJ (specJ [] []) mixA (gok hG _ rfl) (C:=CJ) rfl hJ hn (by rw [hlen]; exact hN2) (by rw [hlen]; exact hN1) (fun els ys _=>j29 n h i nd cs es els ys l N ⟨by omega,by omega⟩) rfl hX fun a w S m hJ hn=>?_)
 refine wp_seq (wp_cond_split (evT (t:=173) hJ.rel.tmps rfl) (fun ht=>wp_skip ?_) (fun hf=>wp_exit ?_))
 ·have hi':i < N:=by have:=of_decide_eq_true ht; omega
  rw [ht] at hJ
  have hg:=srtF_get (L:=L) (i:=i) (by omega)
  have hm:L.getD i [] ∈ L:=getD_mem (by omega)
  obtain ⟨o1,o2⟩:=hO _ hm
  refine wp_seq (wp_block (jag_run (A:=i) (eo:=id) (sl':=sL N i) (X':=xJ n h nd cs es l N) (ys':=sortI (L.getD i [])) tyJ (specI [175] [(175,[1002001])]) mixA (gok hG _ rfl) (C:=CJ) rfl hJ hn (by rw [hlen]; exact hN2) hg (fun els e1 e2=>j30 n h i nd cs es els _ l N i ⟨rfl,hi',by rw [e1,hlen],hN2,e2,o2⟩ ⟨o1,by omega,rfl⟩) rfl rfl (fun q=>List.eq_nil_of_length_eq_zero (by rw [← sortI_len,q]; rfl)) (fun els e1 e2=>⟨rfl,by rw [sortI_len]; exact e2,fun _ _=>rfl⟩) fun a w S m hJ hn=>?_))
  rw [srtF_set (by omega)] at hJ
  refine jag_ctl (sl':=sL N ((i+1:Nat):Int)) (X':=xJ n h nd cs es l N) tyJ (specJ [] []) mixA (gok hG _ rfl) (C:=CJ) rfl hJ hn (by rw [hlen]; exact hN2) (by rw [hlen]; exact hN1) (fun els ys _=>j32 n h i nd cs es els ys l N ⟨by omega,by omega⟩) rfl rfl fun a w S m hJ hn=>?_
  exact ⟨N - (i+1),by omega,i+1,hi',rfl,S,m,hJ,hn⟩
 ·have hi':i=N:=by have:=of_decide_eq_false hf; omega
  rw [hf] at hJ
  subst hi'
  have e:srtF i L=L.map sortI:=by
   rw [srtF,List.take_of_length_le (by omega),List.drop_eq_nil_of_le (by omega),List.append_nil]
  rw [e] at hJ
  exact hQ a w S m hJ hn
end
theorem hc_of_wp {P:Program} {E:Env} {C:Cx} {f:FuncId} {fn:Func} (hf:P.funcs[f]?=some fn) {c:Code} (hc:fn.body=some c) {xs:List AV} {bs:List Blk} {r:AV} {bs':List Blk} (hnt:C.nt=fn.ntmps) (hle:xs.length≤fn.ntmps) (hkp:C.kp=names0 0 bs.length)
    (h:∀ (G:Gh) (a:Act) (w:World) (S:Pin) (m:Nm),GOK E G.S0→Rel G C.kp ⟨slots xs 0,blkSlots bs 0⟩ a w S m→a.tmps.size=C.nt→c.wp P (Ends G C (fun st=>empZ C.kp (C.emp 900001) st fun st=>resF2 P E C st fn.results.toList (endH C.kp r bs')) (fun _ _=>False) (fun st=>empZ C.kp (C.emp 900001) st fun st=>resF2 P E C st fn.results.toList (endH C.kp r bs'))) a w):HC P E.glob f xs bs r bs':=by
  intro w S m vs hG hA hnm hheld hinj hv
  have hlen:=hv.len
  simp only [Array.length_toList] at hlen
  let G:Gh:=⟨w,S,m,Mof bs.length m⟩
  have hbl:∀ k b,lk (blkSlots bs 0) k=some b→bs[k]?=some b:=by
    intro k b e
    rw [blkSlots_lk] at e
    simpa using e
  have hbl2:∀ (k:Nat) (b:Blk),bs[k]?=some b→k < bs.length:=fun k b e=>(List.getElem?_eq_some_iff.1 e).1
  have hR0:Rel G C.kp ⟨slots xs 0,blkSlots bs 0⟩ { tmps:=vs++Array.replicate (fn.ntmps - vs.size) undef,defers:=[] } w S m :=
    { defers:=rfl
      pin0:=Ext.refl S
      pinNew:=fun _ _ _ _=>rfl
      agree:=hA
      tmps:=fun t=>by
        unfold St.get
        rw [slots_lk]
        simp only [Nat.zero_le,if_true,Nat.sub_zero]
        cases e:xs[t]? with
        | none=>simp only [CV]
        | some x =>
          obtain ⟨v,hv1,hv2⟩:=hv.get e
          have hlt:t < vs.size:=by have:=(List.getElem?_eq_some_iff.1 hv1).1; simpa using this
          have:vs[t]?=some v:=by simpa using hv1
          simp only [Array.getD_eq_getD_getElem?,Array.getElem?_append_left hlt,this,Option.getD_some]
          exact hv2
      held:=fun k b hk=>hheld k b (hbl k b hk)
      inj:=fun k k' b b' u u' g hk hk' hne hu hu' hg=>hinj k k' u u' g (hbl2 k b (hbl k b hk)) (hbl2 k' b' (hbl k' b' hk')) hne hu hu' hg
      own:=fun k b u g hk hu hg=>.inr ⟨k,u,hbl2 k b (hbl k b hk),hu,hg⟩
      os:=rfl
      tape:=rfl
      output:=rfl
      size:=Nat.le_refl _
      frame:=fun _ _ _=>rfl
      m0:=MLe.refl _
      keep:=fun k u e=>by
        have hlt:=hnm k u e
        rw [hkp]
        exact List.mem_of_getElem? (by rw [names0_get _ 0 k hlt,Nat.zero_add]) }
  refine calls_of_wp hf hc (Go.wp_mono (h G _ w S m hG hR0 ?_) ?_)
  · simp; omega
  · have fin:∀ st a w' S' m',empZ C.kp (C.emp 900001) st (fun st=>resF2 P E C st fn.results.toList (endH C.kp r bs'))→Rel G C.kp st a w' S' m'→a.defers=[]∧∃ v,(results fn a.tmps).run P w'=.ok v w' ∧
        ∃ u S' m',Ending.returned v=.returned u∧w'.os=w.os∧w'.tape=w.tape∧w'.output=w.output∧w.heap.size≤w'.heap.size∧Ext S S' ∧
    (∀ b,b < w.heap.size→¬ Mof bs.length m b→w'.heap[b]?=w.heap[b]?∧∀ o,S' b o=S b o)∧Agree S' w' ∧
    (∀ (q:Nat) (b:Blk),bs'[q]?=some b→Held S' m' w' q b)∧InjB bs'.length m'∧(∀ q u g,q < bs'.length→m' q=some u→bk u=some g→w.heap.size≤g∨Mof bs.length m g)∧MLe m m'∧CV S' r m' u:=by
      intro st0 a w' S0 m0 hk0 hR0
      obtain ⟨st1,S1,m1,hk1,hR1⟩:=empZ_sound _ _ S0 m0 _ hk0 hR0
      obtain ⟨st,S',m',hk,hR⟩:=frzN_sound _ _ S1 m1 _ hk1 hR1
      obtain ⟨x,v,h1,h2,h3⟩:=resK_sound hR hk
      unfold endH at h1
      generalize hks:foot (lk st.heap) 3 (dedup (nmsA x) C.kp)=ks at h1
      have hknd:ks.Nodup:=by rw [← hks]; exact foot_nodup _ _ _ (dedup_nodup _ _ (by rw [hkp]; exact names0_nodup _ _))
      have hpre:∀ q,q < bs.length→ks[q]?=some q:=by
        intro q hq
        obtain ⟨t,ht⟩:=dedup_pre (nmsA x) C.kp
        obtain ⟨t',ht'⟩:=foot_pre (lk st.heap) 3 (dedup (nmsA x) C.kp)
        rw [← hks,ht',ht,hkp,List.append_assoc,List.getElem?_append_left (by rw [names0_len]; exact hq),names0_get _ _ _ hq,Nat.zero_add]
      obtain ⟨y,h4,hy⟩:=rnA_sound _ _ h1
      obtain ⟨cs,h5,hcl,hcs⟩:=blksOf_sound _ _ h4
      obtain ⟨ds,h6,hdl,hds⟩:=rnBs_sound _ _ h5
      obtain ⟨h7,h8⟩:=h6
      let m2:Nm:=fun q=>(ks[q]?).bind m'
      have hRn:Rn (fun k=>idx k ks 0) m' m2:=by
        intro i j hij
        have:=(idx_get hij).2
        simp only [Nat.sub_zero] at this
        simp only [m2,this,Option.bind_some]
      have hm2:∀ q k,ks[q]?=some k→m2 q=m' k:=fun q k e=>by simp only [m2,e,Option.bind_some]
      have hlen':bs'.length=ks.length:=by rw [← leBs_len h8,hdl,hcl]
      have hkb:∀ (q k:Nat),ks[q]?=some k→∃ b,lk st.heap k=some b:=fun q k e=>by obtain ⟨b,_,hb⟩:=hcs q k e; exact ⟨b,hb⟩
      refine ⟨hR.defers,v,h3,v,S',m2,rfl,hR.os,hR.tape,hR.output,hR.size,hR.pin0,fun b hb hn=>⟨hR.frame b hb hn,fun o=>hR.pinNew b o hb hn⟩,hR.agree,?_,?_,?_,?_,le_sound _ _ _ _ h7 (hy S' m' m2 v hRn h2)⟩
      · intro q b hb
        have hql:q < ks.length:=by rw [← hlen']; exact (List.getElem?_eq_some_iff.1 hb).1
        obtain ⟨d,hd,hle⟩:=leBs_get h8 hb
        obtain ⟨c0,hc0,hh⟩:=hcs q ks[q] (by simp [hql])
        have hidx:idx ks[q] ks 0=some q:=by
          have key:∀ (l:List Nat) (q i:Nat) (h:q < l.length),l.Nodup→idx l[q] l i=some (i+q):=by
            intro l
            induction l with
            | nil=>intro q i h; simp at h
            | cons j l ih =>
              intro q i h hn
              rw [List.nodup_cons] at hn
              cases q with
              | zero=>simp [idx,nbeq_self]
              | succ q =>
                simp at h
                simp only [idx,List.getElem_cons_succ]
                rw [nbeq_ne (fun e=>hn.1 (by rw [e]; exact List.getElem_mem h))]
                simp only [cond_false]
                rw [ih q (i+1) h hn.2]
                congr 1; omega
          simpa using key ks q 0 hql hknd
        exact leB_held hle (hds q c0 d hc0 hd S' m' m2 w' ks[q] q hRn hidx (hR.held _ _ hh))
      · intro q q' u u' g hq hq' hne hu hu' hg
        rw [hlen'] at hq hq'
        rw [hm2 q ks[q] (by simp [hq])] at hu
        rw [hm2 q' ks[q'] (by simp [hq'])] at hu'
        obtain ⟨b,hb⟩:=hkb q ks[q] (by simp [hq])
        obtain ⟨b',hb'⟩:=hkb q' ks[q'] (by simp [hq'])
        exact hR.inj _ _ b b' u u' g hb hb' (fun e=>hne (nodup_inj (k:=ks[q]) hknd (p:=q) (q:=q') (by simp [hq]) (by rw [e]; simp [hq']))) hu hu' hg
      · intro q u g hq hu hg
        rw [hlen'] at hq
        rw [hm2 q ks[q] (by simp [hq])] at hu
        obtain ⟨b,hb⟩:=hkb q ks[q] (by simp [hq])
        exact hR.own _ b u g hb hu hg
      · intro k u hu
        obtain ⟨u',h9,h10⟩:=hR.m0 k u hu
        exact ⟨u',by rw [hm2 k k (hpre k (hnm k u hu))]; exact h9,h10⟩
    intro e a w' he
    cases e with
    | normal=>obtain ⟨st,S',m,hk,hR,_⟩:=he; exact fin st a w' S' m hk hR
    | ret=>obtain ⟨st,S',m,hk,hR,_⟩:=he; exact fin st a w' S' m hk hR
    | exit _=>obtain ⟨st,S',m,hk,hR,_⟩:=he; exact hk.elim
    | _=>exact he.elim
end Go.Proofs.YtgbbmadjdaphnaaGreatDoor
namespace Go.Proofs.YtgbbmadjdaphnaaGreatDoor
open Go
open Go.RowKit (Below)
set_option linter.unusedVariables false
set_option linter.unusedSimpArgs false
theorem upto_le {α:Type} {g:Int→List α→List α} {c:Nat} (hg:∀ b s,0≤b→(g b s).length≤s.length+c):∀ (k:Nat) (b:Int) (s:List α),0≤b→(itr g k b s).length≤s.length+k*c
 | 0,b,s,_=>by simp [itr]
 | k+1,b,s,h0=>by
  have h1:=upto_le hg k (b+1) (g b s) (by omega)
  have h2:=hg b s h0
  have e:itr g (k+1) b s=itr g k (b+1) (g b s):=rfl
  rw [e,Nat.succ_mul]; omega
theorem upto_len {α:Type} {g:Int→List α→List α} {c:Nat} (hg:∀ b s,0≤b→(g b s).length≤s.length+c) (e:Int) (s:List α) {k:Nat} (hk:(e - 0).toNat≤k):(upto g 0 e s).length≤s.length+k*c:=by
 have:=upto_le hg (e - 0).toNat 0 s (Int.le_refl 0)
 have h2:=Nat.mul_le_mul_right c hk
 unfold upto; omega
theorem clG_le (nrm:NrT) (n:Int) (n1:1≤n) (n4:n≤4):(clG nrm n).length≤1280:=by
 have hc:∀ h f a b c,(celN nrm (ptG nrm n).2 h f a b c).length≤2:=fun h f a b c=>by unfold celN; split <;> simp
 unfold clG clF
 refine Nat.le_trans (upto_len (c:=32) (fun f cs _=>?_) 20 [] (k:=20) (by omega)) (by simp)
 unfold clA
 refine Nat.le_trans (upto_len (c:=8) (fun a cs ha=>?_) n cs (k:=4) (by omega)) (by omega)
 unfold clB
 refine Nat.le_trans (upto_len (c:=2) (fun b cs _=>?_) (n - a) cs (k:=4) (by omega)) (by omega)
 rw [List.length_append]
 have:=hc (hN n) f (a*hN n) (b*hN n) ((n - 1 - a - b)*hN n)
 omega
structure InR (N k:Nat) (r:List AV):Prop where
 ok:okR k r=true
 at_:∀ i,i < k→0≤nI r i∧nI r i < N
theorem celR_in {N:Nat} (hN:N≤200) {x y z:Int} (hx:0≤x∧x < N) (hy:0≤y∧y < N) (hz:0≤z∧z < N):InR N 3 (celR x y z):=by
 refine ⟨celR_ok (by omega) (by omega) (by omega),fun i hi=>?_⟩
 have e:nI (celR x y z) i=s3 x y z i:=by
  rcases (by omega:i=0∨i=1∨i=2) with rfl | rfl | rfl <;> rfl
 rw [e]
 rcases s3_mem x y z hi with e | e | e <;> rw [e] <;> assumption
theorem clG_in {nrm:NrT} {n:Int} {N:Nat} (hN:N≤200) (hl:∀ q,0≤mInt (ptG nrm n).2 q∧mInt (ptG nrm n).2 q < N):∀ r ∈ clG nrm n,InR N 3 r:=by
 have hc:∀ f a b c f' a' b' c' f'' a'' b'' c'',InR N 3 (celL nrm (ptG nrm n).2 f a b c f' a' b' c' f'' a'' b'' c''):=fun _ _ _ _ _ _ _ _ _ _ _ _=>celR_in hN (hl _) (hl _) (hl _)
 have hcn:∀ h f a b c,∀ r ∈ celN nrm (ptG nrm n).2 h f a b c,InR N 3 r:=fun h f a b c r hr=>by
  unfold celN at hr
  split at hr
  ·simp only [List.mem_cons,List.not_mem_nil,or_false] at hr
   rcases hr with rfl | rfl <;> exact hc _ _ _ _ _ _ _ _ _ _ _ _
  ·simp only [List.mem_cons,List.not_mem_nil,or_false] at hr
   subst hr; exact hc _ _ _ _ _ _ _ _ _ _ _ _
 have p0:∀ r ∈ ([]:List (List AV)),InR N 3 r:=fun r hr=>by simp at hr
 exact upto_ind (p:=fun cs=>∀ r ∈ cs,InR N 3 r) (fun f cs h1=>upto_ind (p:=fun cs=>∀ r ∈ cs,InR N 3 r) (fun a cs h2=>upto_ind (p:=fun cs=>∀ r ∈ cs,InR N 3 r) (fun b cs h3 r hr=>by
  rcases List.mem_append.1 hr with hr | hr
  ·exact h3 r hr
  ·exact hcn _ _ _ _ _ r hr) _ _ h2) _ _ h1) _ _ p0
theorem edR_in {N:Nat} (hN:N≤200) {r:List AV} (h:InR N 3 r):∀ q ∈ edR r,InR N 2 q:=by
 have h0:=h.at_ 0 (by decide)
 have h1:=h.at_ 1 (by decide)
 have h2:=h.at_ 2 (by decide)
 have key:∀ a b:Int,0≤a∧a < N→0≤b∧b < N→InR N 2 [.int .i64 a,.int .i64 b]:=fun a b ha hb=>⟨mk2 (by omega) (by omega),fun i hi=>by
  rcases (by omega:i=0∨i=1) with rfl | rfl
  ·exact ha
  ·exact hb⟩
 intro q hq
 simp only [edR,List.mem_cons,List.not_mem_nil,or_false] at hq
 rcases hq with rfl | rfl | rfl
 ·exact key _ _ h0 h1
 ·exact key _ _ h0 h2
 ·exact key _ _ h1 h2
theorem cmpB_sub:∀ (l:List (List AV)) (p:List AV),(∀ r ∈ cmpB p l,r ∈ l)∧(cmpB p l).length≤l.length
 | [],p=>⟨fun r hr=>by simp [cmpB] at hr,by simp [cmpB]⟩
 | x::l,p=>by
  unfold cmpB
  split
  ·obtain ⟨h1,h2⟩:=cmpB_sub l x
   exact ⟨fun r hr=>List.mem_cons_of_mem _ (h1 r hr),by simp only [List.length_cons]; omega⟩
  ·obtain ⟨h1,h2⟩:=cmpB_sub l x
   refine ⟨fun r hr=>?_,by simp only [List.length_cons]; omega⟩
   rcases List.mem_cons.1 hr with rfl | hr
   ·exact List.mem_cons_self
   ·exact List.mem_cons_of_mem _ (h1 r hr)
theorem cmpct_sub:∀ (l:List (List AV)),(∀ r ∈ cmpct l,r ∈ l)∧(cmpct l).length≤l.length
 | []=>⟨fun r hr=>by simp [cmpct] at hr,by simp [cmpct]⟩
 | x::l=>by
  obtain ⟨h1,h2⟩:=cmpB_sub l x
  refine ⟨fun r hr=>?_,by simp only [cmpct,List.length_cons]; omega⟩
  rcases List.mem_cons.1 hr with rfl | hr
  ·exact List.mem_cons_self
  ·exact List.mem_cons_of_mem _ (h1 r hr)
structure BldQ (nrm:NrT) (n:Int):Prop where
 lo:1≤n
 hi:n≤4
 l1:1≤(ptG nrm n).1.length
 l2:(ptG nrm n).1.length≤200
 rg:∀ q,0≤mInt (ptG nrm n).2 q∧mInt (ptG nrm n).2 q < (ptG nrm n).1.length
 dup:DupE (edgS nrm n)
theorem edgG_in {nrm:NrT} {n:Int} (h:BldQ nrm n):(∀ r ∈ edgG nrm n,InR (ptG nrm n).1.length 2 r)∧(edgG nrm n).length≤3840:=by
 have h3:=clG_in h.l2 h.rg
 have p3:=sortR_perm (cf:=cf3) swo3 (fun r hr=>(h3 r hr).ok)
 have h3':∀ r ∈ celG nrm n,InR (ptG nrm n).1.length 3 r:=fun r hr=>h3 r (p3.mem_iff.1 hr)
 have h2:∀ q ∈ edL (celG nrm n),InR (ptG nrm n).1.length 2 q:=fun q hq=>by
  simp only [edL,List.mem_flatMap] at hq
  obtain ⟨r,hr,hq⟩:=hq
  exact edR_in h.l2 (h3' r hr) q hq
 have p2:=sortR_perm (cf:=cf2) swo2 (fun r hr=>(h2 r hr).ok)
 obtain ⟨s1,s2⟩:=cmpct_sub (edgS nrm n)
 refine ⟨fun r hr=>h2 r (p2.mem_iff.1 (s1 r hr)),?_⟩
 have e1:(edgS nrm n).length=(edL (celG nrm n)).length:=p2.length_eq
 have e2:=edL_len (celG nrm n)
 have e3:(celG nrm n).length=(clG nrm n).length:=p3.length_eq
 have e4:=clG_le nrm n h.lo h.hi
 show (cmpct (edgS nrm n)).length≤3840
 omega
theorem edg_p {nrm:NrT} {n:Int} (h:BldQ nrm n):EdgP (ptG nrm n).1.length (edgG nrm n):=by
 obtain ⟨h1,h2⟩:=edgG_in h
 refine ⟨fun i hi=>?_,by omega,h.l1,h.l2⟩
 have hr:=h1 _ (getD_mem (d:=[]) hi)
 have e:=(ok2 hr.ok).1
 have a0:=hr.at_ 0 (by decide)
 have a1:=hr.at_ 1 (by decide)
 refine ⟨(nI ((edgG nrm n).getD i []) 0).toNat,(nI ((edgG nrm n).getD i []) 1).toNat,?_,by omega,by omega⟩
 rw [Int.toNat_of_nonneg a0.1,Int.toNat_of_nonneg a1.1]
 exact e
def nxtL (nrm:NrT) (n:Int):List (List (List AV)):=(nbrL (ptG nrm n).1.length (edgG nrm n)).map sortI
def nxtG (nrm:NrT) (n:Int):List (List AV):=(nxtL nrm n).map fun ys=>[AV.sl 1 false ys]
def mbld_s (nrm:NrT):SpH
 | [.int .i64 n],[]=>some (BldQ nrm n,.ptr 0 0,[.cells [.int .i64 n,.int .i64 (hN n),.sl 4 false (ptG nrm n).1,.mpv 1,.sl 3 false (celG nrm n),.sl 2 false (edgG nrm n),.sl 1 false (nxtG nrm n)],.mp 27 3 (ptG nrm n).2])
 | _,_=>none
theorem acX_seq {P:Program} {E:Env} {C:Cx} {fuel:Nat} {x y:Code} {st:St} {kn:St→Prop} {ke:Nat→St→Prop} {kr:St→Prop} (h:acX P E C (fun _ _=>none) fuel (.seq x y) st kn ke kr):acX P E C (fun _ _=>none) fuel x st (fun st'=>acX P E C (fun _ _=>none) fuel y st' kn ke kr) ke kr:=by
 unfold acX at h ⊢
 simpa only [acode] using h
theorem regX_run {P:Program} {E:Env} {C:Cx} {inv:Nat→St→Option LInv} {fuel:Nat} (hT:TyOK P C.tys) (hS:SpecOK P E) (hM:P.follows .mixedOrders=true) {G:Gh} (hG:GOK E G.S0) {c:Code} {st:St} {kn:St→Prop} (h:acX P E C inv fuel c st kn (fun _ _=>False) (fun _=>False)) {a:Act} {w:World} {S:Pin} {m:Nm} (hR:Rel G C.kp st a w S m) (hn:a.tmps.size=C.nt) {Q:Exit→Act→World→Prop}
  (hQ:∀ st' a' w' S' m',kn st'→Rel G C.kp st' a' w' S' m'→a'.tmps.size=C.nt→Q .normal a' w'):c.wp P Q a w:=by
 unfold acX at h
 exact reg_run hT hS hM hG h hR hn hQ
theorem acX_sound {P:Program} {E:Env} {C:Cx} {inv:Nat→St→Option LInv} {fuel:Nat} (hT:TyOK P C.tys) (hS:SpecOK P E) (hM:P.follows .mixedOrders=true) {G:Gh} (hG:GOK E G.S0) {c:Code} {st:St} {kn:St→Prop} {ke:Nat→St→Prop} {kr:St→Prop} (h:acX P E C inv fuel c st kn ke kr) {a:Act} {w:World} {S:Pin} {m:Nm} (hR:Rel G C.kp st a w S m) (hn:a.tmps.size=C.nt):c.wp P (Ends G C kn ke kr) a w:=by
 unfold acX at h
 exact acode_sound hT hS hM hG c st kn ke kr h a w S m hR hn
theorem bld_hc {n:Int} (hP:BldQ nrm n):HC Tryz.prog glb 43 [.int .i64 n] [] (.ptr 0 0) [.cells [.int .i64 n,.int .i64 (hN n),.sl 4 false (ptG nrm n).1,.mpv 1,.sl 3 false (celG nrm n),.sl 2 false (edgG nrm n),.sl 1 false (nxtG nrm n)],.mp 27 3 (ptG nrm n).2]:=by
 have hE:=edg_p hP
 have hb:=bldL nrm vld n ⟨hP.lo,hP.hi,fun q=>⟨(hP.rg q).1,by have:=(hP.rg q).2; have:=hP.l2; omega⟩,hP.dup⟩
 refine hc_of_wp (E:=EJ [] []) (C:=CB) Tryz.func43 (c:=bldB) (by kernel_rfl) (by kernel_rfl) (Nat.le_of_ble_eq_true (by kernel_rfl)) rfl fun G a w S m hG hR hn=>?_
 have hG0:GOK { glob:=glb } G.S0:=hG
 refine acodeL_wp tyNil (by exact specOK rfl rfl trivial ⟨mpts_ok,mcells_ok,srtC_ok glb,srtE_ok glb,mcompF_ok glb,trivial⟩) mixA (gok hG0 _ rfl) 7 bldB _ _ hb a w S m hR hn fun st a w S m hst hR hn=>?_
 have hR:=hR.le hst
 rw [bld_tail]
 have q21:=j21 n (hN n) (ptG nrm n).1 (celG nrm n) (edgG nrm n) (ptG nrm n).2 hP.l2
 have q21:=acX_seq q21
 refine wp_seq (regX_run (E:=EJ [] []) (C:=CB) tyNil (specJ [] []) mixA (gok hG0 _ rfl) q21 hR hn fun st a w S m q22 hR hn=>?_)
 refine wp_seq (wp_seq (regX_run (E:=EJ [] []) (C:=CB) tyNil (specJ [] []) mixA (gok hG0 _ rfl) q22 hR hn fun st a w S m hst hR hn=>?_))
 obtain ⟨m,hJ⟩:=jag_begin (ptG nrm n).1.length (hR.le hst) rfl rfl
 refine loopA hG0 hE hJ hn fun a w S m hJ hn=>?_
 have hNb:=nbrL_ok hE _ (Nat.le_refl _)
 rw [List.take_length] at hNb
 refine wp_seq (wp_seq (jag_ctl (sl':=sL (ptG nrm n).1.length 0) (X':=xJ n (hN n) (ptG nrm n).1 (celG nrm n) (edgG nrm n) (ptG nrm n).2 (ptG nrm n).1.length) tyJ (specJ [] []) mixA (gok hG0 _ rfl) (C:=CJ) rfl hJ hn (by rw [hNb.len]; exact hP.l2) (by rw [hNb.len]; exact hP.l1) (fun els ys _=>j28 n (hN n) _ (ptG nrm n).1 (celG nrm n) (edgG nrm n) els ys (ptG nrm n).2 _ hP.l2) rfl rfl fun a w S m hJ hn=>?_))
 refine loopB hG0 hP.l1 hP.l2 hNb.len (fun ys hy=>⟨(hNb.ok ys hy).1,by have:=(hNb.ok ys hy).2; have:=hE.le; omega⟩) hJ hn fun a w S m hJ hn=>?_
 obtain ⟨S,hR⟩:=jag_close hJ
 have q33:=j33 n (hN n) (ptG nrm n).1 (celG nrm n) (edgG nrm n) (nxtG nrm n) (ptG nrm n).2 (ptG nrm n).1.length (by simp only [nxtG,nxtL,List.length_map]; exact hNb.len.symm)
 refine Go.wp_mono (acX_sound (E:=EJ [] []) (C:=CF) tyNil (specJ [] []) mixA (gok hG0 _ rfl) q33 hR hn) ?_
 intro e a w he
 cases e with
 | normal=>obtain ⟨_,_,_,hk,_⟩:=he; exact hk.elim
 | exit _=>obtain ⟨_,_,_,hk,_⟩:=he; exact hk.elim
 | ret=>obtain ⟨st,S,m,hk,hR,hn⟩:=he; exact ⟨st,S,m,hk,hR,hn⟩
 | _=>exact he.elim
theorem mbld_ok:HOK Tryz.prog glb 43 (mbld_s nrm):=by
 refine ⟨fok Tryz.func43 (by kernel_rfl) (by kernel_rfl),?_⟩
 intro xs bs pre r bs2 h hp
 unfold mbld_s at h
 split at h
 ·simp only [Option.some.injEq,Prod.mk.injEq] at h
  obtain ⟨h1,h2,h3⟩:=h
  subst h1 h2 h3
  exact bld_hc hp
 ·cases h
end Go.Proofs.YtgbbmadjdaphnaaGreatDoor
namespace Go.Proofs.YtgbbmadjdaphnaaGreatDoor
open Go
set_option linter.unusedVariables false
set_option linter.unusedSimpArgs false
def fnN:List Int:=[12,42,92,162]
structure FnN (n:Int):Prop where
 mem:n ∈ fnN
theorem mem_fnN {n:Int} (h:FnN n):n=12∨n=42∨n=92∨n=162:=by
 have:=h.mem
 simpa [fnN] using this
def mul64_s:Sp
 | [.int .u64 a,.int .u64 n]=>some (a=1∧FnN n,.tup [.int .u64 0,.int .u64 n])
 | _=>none
def mul64_T:Prop :=
  ∀ (gl:Glob),((0:Int)≤(1:Int)∧(1:Int)≤(18446744073709551615:Int)→(0:Int)≤(12:Int)∧(12:Int)≤(18446744073709551615:Int)→(0:Int)=(0:Int)∧(12
 :Int)=(12:Int)∧True)∧((0:Int)≤(1:Int)∧(1:Int)≤(18446744073709551615:Int)→(0:Int)≤(42:Int)∧(42:Int)≤(18446744073709551615:Int)→(0:Int) =
  (0:Int)∧(42:Int)=(42:Int)∧True)∧((0:Int)≤(1:Int)∧(1:Int)≤(18446744073709551615:Int)→(0:Int)≤(92:Int)∧(92:Int)≤(18446744073709551615:Int)
 →(0:Int)=(0:Int)∧(92:Int)=(92:Int)∧True)∧((0:Int)≤(1:Int)∧(1:Int)≤(18446744073709551615:Int)→(0:Int)≤(162:Int)∧(162:Int) ≤
  (18446744073709551615:Int)→(0:Int)=(0:Int)∧(162:Int)=(162:Int)∧True)∧True
theorem mul64_P:mul64_T:=by
 unfold mul64_T
 intro gl
 repeat' (first | exact trivial | intro _ | rfl | apply And.intro)
def mul64_S:Prop:=∀ gl:Glob,allN fnN fun n=>fnK Tryz.prog { glob:=gl,nowf:=true,wrap:=true } { nt:=51 } (fun _ _=>none) 6 Tryz.f185 [.int .u64 1,.int .u64 n] (.tup [.int .u64 0,.int .u64 n])
theorem mul64_e:mul64_T=mul64_S:=by kernel_rfl
theorem mul64:mul64_S:=@Eq.mp (mul64_T) (mul64_S) (mul64_e) (mul64_P)
theorem mul64_ok (gl:Glob):SOK Tryz.prog gl 185 mul64_s:=by
 refine ⟨fok Tryz.func185 (by kernel_rfl) (by kernel_rfl),?_⟩
 intro xs pre r h hp
 unfold mul64_s at h
 split at h
 ·simp only [Option.some.injEq,Prod.mk.injEq] at h
  obtain ⟨h1,h2⟩:=h
  subst h1 h2
  obtain ⟨rfl,hn⟩:=hp
  exact fnK_sound tyNil (by exact specOK (l:=[]) (l':=[]) rfl rfl trivial trivial) (by kernel_rfl) Tryz.func185 rfl (allN_get (mul64 gl) hn.mem)
 ·cases h
def mulU_T:Prop :=
 ∀ (gl:Glob),((0:Int)≤(1:Int)∧(1:Int)≤(18446744073709551615:Int)→(0:Int)≤(12:Int)∧(12:Int)≤(18446744073709551615:Int)→((1:Int)=(1:Int)∧FnN
 (12:Int))∧(0:Int)=(0:Int)∧(12:Int)=(12:Int)∧True)∧((0:Int)≤(1:Int)∧(1:Int)≤(18446744073709551615:Int)→(0:Int)≤(42:Int)∧(42:Int) ≤
 (18446744073709551615:Int)→((1:Int)=(1:Int)∧FnN (42:Int))∧(0:Int)=(0:Int)∧(42:Int)=(42:Int)∧True)∧((0:Int)≤(1:Int)∧(1:Int) ≤
 (18446744073709551615:Int)→(0:Int)≤(92:Int)∧(92:Int)≤(18446744073709551615:Int)→((1:Int)=(1:Int)∧FnN (92:Int))∧(0:Int)=(0:Int)∧(92:Int) =
 (92:Int)∧True)∧((0:Int)≤(1:Int)∧(1:Int)≤(18446744073709551615:Int)→(0:Int)≤(162:Int)∧(162:Int)≤(18446744073709551615:Int)→((1:Int)=(1 :
 Int)∧FnN (162:Int))∧(0:Int)=(0:Int)∧(162:Int)=(162:Int)∧True)∧True
theorem mulU_P:mulU_T:=by
 unfold mulU_T
 intro gl
 repeat' (first | exact trivial | intro _ | rfl | exact ⟨by decide⟩ | apply And.intro)
def mulU_S:Prop:=∀ gl:Glob,allN fnN fun n=>fnK Tryz.prog { glob:=gl,spec:=lk [(185,mul64_s)],nowf:=true,wrap:=true } { nt:=30 } (fun _ _=>none) 6 Tryz.f143 [.int .u64 1,.int .u64 n] (.tup [.int .u64 0,.int .u64 n])
theorem mulU_e:mulU_T=mulU_S:=by kernel_rfl
theorem mulU:mulU_S:=@Eq.mp (mulU_T) (mulU_S) (mulU_e) (mulU_P)
theorem mulU_ok (gl:Glob):SOK Tryz.prog gl 143 mul64_s:=by
 refine ⟨fok Tryz.func143 (by kernel_rfl) (by kernel_rfl),?_⟩
 intro xs pre r h hp
 unfold mul64_s at h
 split at h
 ·simp only [Option.some.injEq,Prod.mk.injEq] at h
  obtain ⟨h1,h2⟩:=h
  subst h1 h2
  obtain ⟨rfl,hn⟩:=hp
  exact fnK_sound tyNil (by exact specOK (l':=[]) rfl rfl ⟨mul64_ok gl,trivial⟩ trivial) (by kernel_rfl) Tryz.func143 rfl (allN_get (mulU gl) hn.mem)
 ·cases h
def mulU_s:Sp:=mul64_s
def neg1 (n:Nat):List (List AV):=List.replicate n [.int .i64 (-1)]
def repR (N k:Int):List (List AV):=List.replicate k.toNat [.int .i64 (-1)]++List.replicate (N - k).toNat [.int .i64 0]
structure RepP (N k:Int):Prop where
 lo:1≤k
 hi:k≤N
theorem repR_len {N k:Int} (h:RepP N k):(repR N k).length=N.toNat:=by
 have:=h.lo
 have:=h.hi
 simp only [repR,List.length_append,List.length_replicate]; omega
theorem repR_take {N k:Int}:(repR N k).take k.toNat=List.replicate k.toNat [.int .i64 (-1)]:=by
 unfold repR; rw [List.take_left' (by simp)]
theorem repR_step {N k:Int} (h:RepP N k) (hk:k < N) {M:Nat} (hM:M=Nat.min k.toNat (N.toNat - k.toNat)):(repR N k).take k.toNat++List.take M (List.replicate k.toNat [.int .i64 (-1)])++(repR N k).drop (k.toNat+M)=repR N (k+M):=by
 have h1:=h.lo
 have m1:M≤k.toNat:=by rw [hM]; exact Nat.min_le_left _ _
 have m2:M≤N.toNat - k.toNat:=by rw [hM]; exact Nat.min_le_right _ _
 rw [repR_take,List.take_replicate,Nat.min_eq_left m1,List.replicate_append_replicate]
 unfold repR
 rw [show List.drop (k.toNat+M) (List.replicate k.toNat [AV.int .i64 (-1)]++List.replicate (N - k).toNat [AV.int .i64 0])=List.drop M (List.replicate (N - k).toNat [AV.int .i64 0]) by
  rw [← List.drop_drop,List.drop_left' (by simp)],List.drop_replicate]
 congr 2 <;> omega
def repI (N:Int) (xs:List (List AV)):LInv:=⟨Int,fun k=>⟨[(7,.rw 1030 1 N.toNat),(8,.int .i64 k)],[(0,.row 3 1 xs),(1030,.row 3 1 (repR N k))]⟩,RepP N,fun k=>(N - k).toNat,none⟩
def rep_s:SpH
 | [.rw 0 1 1,.int .i64 n],[.row 3 1 xs]=>some (xs=neg1 1∧FnN n,.rw 1 1 n.toNat,[.row 3 1 xs,.row 3 1 (neg1 n.toNat)])
 | _,_=>none
def rep_T:Prop :=
  ∀ (gl:Glob) (n:Int) (xs:List (List AV)),xs=neg1 (1:Nat)∧FnN n→True→(-9223372036854775808:Int)≤n∧n≤(9223372036854775807:Int)→bif decide (n < (0:Int))
  then False else ((1:Int)=(1:Int)∧FnN (IntKind.u64.wrap n))∧bif decide ((9223372036854775807:Int) < IntKind.u64.wrap n) then False else bif decide ((0:Int) ≤
  IntKind.i64.wrap (IntKind.u64.wrap n)∧IntKind.i64.wrap (IntKind.u64.wrap n)≤IntKind.i64.wrap (IntKind.u64.wrap n)∧(8:Int)*IntKind.i64.wrap (IntKind.u64.wrap n) ≤
  (281474976710656:Int)∧IntKind.i64.wrap (IntKind.u64.wrap n)≤(9223372036854775807:Int)) then bif decide ((1:Nat)=xs.length) then bif decide ((IntKind.i64.wrap
  (IntKind.u64.wrap n)).toNat=(List.replicate (IntKind.i64.wrap (IntKind.u64.wrap n)).toNat [AV.int IntKind.i64 (0:Int)]).length∧xs.length≤(List.replicate (IntKind.i64.wrap
  (IntKind.u64.wrap n)).toNat [AV.int IntKind.i64 (0:Int)]).length) then (∃ x,RepP n x∧((IntKind.i64.wrap (IntKind.u64.wrap n)).toNat=n.toNat∧(↑xs.length:Int)=x∧True)
 ∧xs=xs∧xs++List.drop xs.length (List.replicate (IntKind.i64.wrap (IntKind.u64.wrap n)).toNat [AV.int IntKind.i64 (0:Int)])=repR n x∧True)∧∀ (x:Int),RepP n x→bif
  decide (x < (↑n.toNat:Int)) then bif decide ((0:Int)≤(↑n.toNat:Int)∧(↑n.toNat:Int)≤(↑n.toNat:Int)) then bif decide ((0:Int)≤x∧x≤(↑n.toNat:Int)) then bif
  decide ((0:Int)≤x∧x≤(↑n.toNat:Int)) then bif decide ((0:Int)≤(0:Int)∧(0:Int)≤x) then bif decide (n.toNat=(repR n x).length∧(0:Nat)+(x.toNat - (0 :
  Nat))≤(repR n x).length) then bif decide (n.toNat=(repR n x).length∧(0:Nat)+x.toNat+((↑n.toNat:Int).toNat - x.toNat)≤(repR n x).length∧(1:Nat)≤(↑n.toNat :
  Int).toNat - x.toNat∧(1:Nat)≤(List.take (x.toNat - (0:Nat)) (List.drop (0:Nat) (repR n x))).length) then bif decide (rng IntKind.i64 (x+(↑((List.take (x.toNat - (0 :
  Nat)) (List.drop (0:Nat) (repR n x))).length.min ((↑n.toNat:Int).toNat - x.toNat)):Int))) then ∃ y,RepP n y∧(repI n xs).m y < (repI n xs).m x∧(n.toNat=n.toNat∧x +
  (↑((List.take (x.toNat - (0:Nat)) (List.drop (0:Nat) (repR n x))).length.min ((↑n.toNat:Int).toNat - x.toNat)):Int)=y∧True)∧xs=xs∧List.take ((0:Nat)+x.toNat)
  (repR n x)++List.take ((List.take (x.toNat - (0:Nat)) (List.drop (0:Nat) (repR n x))).length.min ((↑n.toNat:Int).toNat - x.toNat)) (List.take (x.toNat - (0:Nat))
  (List.drop (0:Nat) (repR n x)))++List.drop ((0:Nat)+x.toNat+(List.take (x.toNat - (0:Nat)) (List.drop (0:Nat) (repR n x))).length.min ((↑n.toNat:Int).toNat -
  x.toNat)) (repR n x)=repR n y∧True else False else False else False else False else False else False else False else n.toNat=n.toNat∧xs=xs∧repR n x=neg1 n.toNat ∧
  True else False else False else False
theorem rep_P:rep_T:=by
 unfold rep_T
 intro gl n xs ⟨hx,hn⟩
 have hN:=mem_fnN hn
 have uw:IntKind.u64.wrap n=n:=wrap_eq (k:=.u64) (by show 0≤n∧n≤18446744073709551615; omega)
 have iw:IntKind.i64.wrap n=n:=wrap_eq (k:=.i64) (by show -9223372036854775808≤n∧n≤9223372036854775807; omega)
 rw [uw,iw]
 subst hx
 intros
 have r1:RepP n 1:=⟨Int.le_refl 1,by omega⟩
 have e1:neg1 1++List.drop (neg1 1).length (List.replicate n.toNat [.int .i64 0])=repR n 1:=by
  unfold repR neg1
  rw [List.length_replicate,List.drop_replicate]
  congr 2; omega
 refine cd0 (by omega) ⟨⟨rfl,hn⟩,cd0 (by omega) (cd1 ⟨by omega,by omega,by omega,by omega⟩ (cd1 rfl (cd1 ⟨by rw [List.length_replicate],by rw [List.length_replicate]; unfold neg1; rw [List.length_replicate]; omega⟩ ⟨⟨1,r1,⟨rfl,rfl,trivial⟩,rfl,e1,trivial⟩,?_⟩)))⟩
 intro k hk
 have k1:=hk.lo
 have k2:=hk.hi
 have hl:=repR_len hk
 refine csp (fun q=>?_) (fun q=>?_)
 ·have q:k < n:=by omega
  have es:List.take (k.toNat - 0) (List.drop 0 (repR n k))=List.replicate k.toNat [.int .i64 (-1)]:=by rw [List.drop_zero,Nat.sub_zero,repR_take]
  rw [es]
  simp only [Int.toNat_natCast,List.length_replicate]
  obtain ⟨M,hM⟩:∃ M,M=Nat.min k.toNat (n.toNat - k.toNat):=⟨_,rfl⟩
  have m1:M≤k.toNat:=by rw [hM]; exact Nat.min_le_left _ _
  have m2:M≤n.toNat - k.toNat:=by rw [hM]; exact Nat.min_le_right _ _
  have m3:1≤M:=by rw [hM]; exact Nat.le_min.2 ⟨by omega,by omega⟩
  rw [← hM]
  have st:=repR_step hk q hM
  rw [show k.toNat=0+k.toNat by omega] at st
  simp only [Nat.zero_add] at st ⊢
  refine cd1 (by omega) (cd1 (by omega) (cd1 (by omega) (cd1 (by omega) (cd1 ⟨hl.symm,by omega⟩ (cd1 ⟨hl.symm,by omega,by omega,by omega⟩ (cdI (by omega) ⟨k+M,⟨by omega,by omega⟩,by simp only [repI]; omega,by (repeat' (first | exact trivial | exact rfl | assumption | apply And.intro))⟩))))))
 ·have q:k=n:=by omega
  subst q
  refine ⟨rfl,rfl,?_,trivial⟩
  unfold repR neg1
  rw [show (k - k).toNat=0 by omega]; simp
def rep_S:Prop:=∀ (gl:Glob) (n:Int) (xs:List (List AV)),xs=neg1 1∧FnN n→fnH Tryz.prog { glob:=gl,spec:=lk [(143,mulU_s)],specH:=lk [],nowf:=true } { nt:=48,drop:=drp [(1,512),(2,2048),(3,2093056),(4,65011712),(5,134217728),(6,1879048192),(7,15032385536),(8,120259084288),(9,140462610448384),(10,140737488355328)],fr:=1000,kp:=[0],own:=true } (invs [(8,repI n xs)]) 6 Tryz.f94 [.rw 0 1 1,.int .i64 n] [.row 3 1 xs] (.rw 1 1 n.toNat) [.row 3 1 xs,.row 3 1 (neg1 n.toNat)]
theorem rep_e:rep_T=rep_S:=by kernel_rfl
theorem rep_v:rep_S:=Eq.mp (rep_e ..) (rep_P)
theorem rep_ok (gl:Glob):HOK Tryz.prog gl 94 rep_s:=by
 refine ⟨fok Tryz.func94 (by kernel_rfl) (by kernel_rfl),?_⟩
 intro xs bs pre r bs2 h hp
 unfold rep_s at h
 split at h
 ·simp only [Option.some.injEq,Prod.mk.injEq] at h
  obtain ⟨h1,h2,h3⟩:=h
  subst h1 h2 h3
  exact fnH_sound tyNil (by exact specOK rfl rfl ⟨(mulU_ok gl),trivial⟩ trivial) (by kernel_rfl) Tryz.func94 (rep_v gl _ _ hp)
 ·cases h
end Go.Proofs.YtgbbmadjdaphnaaGreatDoor
