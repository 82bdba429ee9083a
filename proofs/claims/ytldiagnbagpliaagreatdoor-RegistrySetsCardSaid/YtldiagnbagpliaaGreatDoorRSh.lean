import Derived.Test.YtldiagnbagpliaaGreatDoorRSg
import Derived.Deep.RegionLaw
import Derived.Lib.SliceRun
import Derived.Deep.MidRow
import Derived.Test.YtldiagnbagpliaaGreatDoorRSd
import Derived.ProofKit
import Derived.OpenShut
import Derived.ShutString
import Derived.ChangeOld
import Derived.Carry
import Derived.Deep.Slices
import Derived.WideShapes
import Derived.LaidMore
set_option maxRecDepth 100000
namespace Go.Proofs.YtldiagnbagpliaaGreatDoor
open Go
set_option linter.unusedVariables false
set_option linter.unusedSimpArgs false
structure BisP (bs:LLR) (n:Int):Prop where
 fr:∀ i,i < bs.length→∃ e v:Int,bs.getD i []=[.int .i64 e,.int .i64 v]∧(1≤e∧e < n)∧-1000≤v∧v≤1000
 fa:∀ i j:Nat,i < j→j < bs.length→rE (bs.getD i []) < rE (bs.getD j [])
 fl:(bs.length:Int) < n
theorem bis_nil {n:Int} (h:0 < n):BisP [] n:=⟨fun i h=>by simp at h,fun i j _ h=>by simp at h,by simpa using h⟩
theorem bis_up {bs:LLR} {n:Int} (h:BisP bs n):BisP bs (n+1):=⟨fun i hi=>by obtain ⟨e,v,h1,h2,h3⟩:=h.fr i hi; exact ⟨e,v,h1,by omega,h3⟩,h.fa,by have:=h.fl; omega⟩
theorem bis_add {bs:LLR} {n v:Int} (h:BisP bs n) (hn:1≤n) (hv:-1000≤v∧v≤1000):BisP (bs++[[.int .i64 n,.int .i64 v]]) (n+1):=by
 refine ⟨fun i hi=>?_,fun i j hij hj=>?_,by have:=h.fl; simp; omega⟩
 ·rw [List.length_append,List.length_singleton] at hi
  rw [gD_app]
  by_cases q:i < bs.length
  ·rw [if_pos q]; obtain ⟨e,w,h1,h2,h3⟩:=h.fr i q; exact ⟨e,w,h1,by omega,h3⟩
  ·rw [if_neg q,show i - bs.length=0 by omega]; exact ⟨n,v,rfl,by omega,hv⟩
 ·rw [List.length_append,List.length_singleton] at hj
  rw [gD_app,gD_app,if_pos (show i < bs.length by omega)]
  by_cases q:j < bs.length
  ·rw [if_pos q]; exact h.fa i j hij q
  ·rw [if_neg q,show j - bs.length=0 by omega]
   obtain ⟨e,w,h1,h2,_⟩:=h.fr i (by omega)
   rw [h1]; exact h2.2
theorem BisP.p {bs:LLR} {n:Int} (h:BisP bs n) (hn:n≤12):RdsP bs∧bs.length≤11∧bsOk bs=true:=by
 have hl:=h.fl
 refine ⟨⟨fun i hi=>?_,by omega⟩,by omega,decide_eq_true fun i hi=>?_⟩
 ·obtain ⟨e,v,h1,h2,h3⟩:=h.fr i hi
  refine ⟨e,v,h1,?_,?_⟩ <;> (show _∧_; omega)
 ·obtain ⟨e,v,h1,h2,h3⟩:=h.fr i hi
  unfold bsX
  have e1:rE (bs.getD i [])=e:=by rw [h1]; rfl
  have e2:rV (bs.getD i [])=v:=by rw [h1]; rfl
  rw [e1,e2,decide_eq_false (show ¬ 1000 < v by omega),decide_eq_false (show ¬ v < -1000 by omega)]
  have hok:okC e=true:=by unfold okC; exact decide_eq_true (by omega)
  rw [hok]
  by_cases hz:0 < i
  ·have:=h.fa (i - 1) i (by omega) hi
   rw [e1] at this
   rw [decide_eq_false (show ¬ e≤rE (bs.getD (i - 1) []) by omega)]; simp
  ·rw [decide_eq_false hz]; rfl
structure PrvQ (k fr:Int) (cl:Bool) (f a b c:Int) (bs:LLR) (j:Int):Prop where
 fv:pdV k fr cl f a b c bs=true
 fr:RdsP bs
 fl:bs.length≤11
 fj:0≤j
def plOk (k f a b c:Int):Bool:=if k=1 then isN f a b c else nonP f a b c
structure PrvP (k:Int) (x:Int × Int × Int × Int × Int × Int × Int × LLR):Prop where
 fc:1≤x.2.2.2.2.2.1∧x.2.2.2.2.2.1≤12
 fj:0≤x.2.2.2.2.2.2.1
 fb:BisP x.2.2.2.2.2.2.2 x.2.2.2.2.2.1
 ft:0≤x.1∧x.1≤52595999
 fp:plOk k x.2.1 x.2.2.1 x.2.2.2.1 x.2.2.2.2.1=true
def prvI (xs:List (List AV)) (k:Int):LInv:=⟨Int × Int × Int × Int × Int × Int × Int × LLR,fun x=>⟨[(0,.ptr 0 0),(6,.ptr 1006 0),(7,.ptr 1007 0),(8,.int .i64 x.2.2.2.2.2.1)],[(0,.cells [.sl 1 false xs,.int .i64 x.2.2.2.2.2.2.1]),(1006,.cells [.int .i64 0,.bool false,.int .i64 0,.int .i64 0,.int .i64 0,.int .i64 0,.nils]),(1007,.cells [.int .i64 x.1,.bool false,.int .i64 x.2.1,.int .i64 x.2.2.1,.int .i64 x.2.2.2.1,.int .i64 x.2.2.2.2.1,.rw 1501 2 x.2.2.2.2.2.2.2.length]),(1501,.row 76 2 x.2.2.2.2.2.2.2)]⟩,PrvP k,fun x=>(12 - x.2.2.2.2.2.1).toNat,none⟩
theorem pick_bnd {v j:Int} (h:PickQ [[.int .i64 0],[.int .i64 3],[.int .i64 (-5)],[.int .i64 20],[.int .i64 1000],[.int .i64 (-1000)]] (.int .i64 v) j):-1000≤v∧v≤1000:=by
 have:=pick_of [0,3,-5,20,1000,-1000] h
 simp only [List.mem_cons,List.not_mem_nil,or_false] at this
 omega
theorem pdV_cl {k fr:Int} (h:0≤fr∧fr≤52595999):pdV k fr true 0 0 0 0 []=true:=by
 unfold pdV; rw [if_neg (by omega),if_pos rfl]; rfl
theorem pdV_op {k fr f a b c:Int} {bs:LLR} (h:0≤fr∧fr≤52595999) (hb:bsOk bs=true) (hp:plOk k f a b c=true):pdV k fr false f a b c bs=true:=by
 unfold pdV; rw [if_neg (by omega),if_neg (by decide),hb,if_pos rfl]; exact hp
def qperiodV_s:SpQ
 | [.ptr 0 0,.int .i64 k,.int .i64 near],[.cells [.sl 1 false xs,.int .i64 i]]=>some (fun K=>(SrcQ xs i∧0≤near∧near≤52595999)∧(∀ (fr:Int) (cl:Bool) (f a b c:Int) (bs:List (List AV)) (j:Int),(PrvQ k fr cl f a b c bs j)→K (.agg [.int .i64 fr,.bool cl,.int .i64 f,.int .i64 a,.int .i64 b,.int .i64 c,.sl 2 false bs]) [.cells [.sl 1 false xs,.int .i64 j]]))
 | _,_=>none
def qperiodV_T:Prop :=
  ∀ (gl:Glob) (xs:List (List AV)) (i k near:Int),SrcQ xs i∧0≤near∧near≤(52595999:Int)→(SrcQ xs i∧(-200:Int)≤(200:Int)∧(-1000000000:Int)≤(-200:Int)∧(200:Int)≤(1000000000:Int))∧∀ (v j:Int),((-200:Int)≤v∧v≤(200:Int))∧0≤j→bif decide (rng .i64 ((0:Int) - near)) then (SrcQ xs j∧((4:Nat)=[[AV.int .i64 (-100000:Int)],[AV.int .i64 (-1000:Int)],[AV.int .i64 v],[AV.int .i64
 ((0:Int) - near)]].length∧(1:Nat)≤(4:Nat)∧(4:Nat)≤(1000:Nat))∧IntsB [[AV.int .i64 (-100000:Int)],[AV.int .i64 (-1000:Int)],[AV.int .i64 v],[AV.int .i64 ((0:Int) - near)]])∧∀ (v_1 j:Int),PickQ [[AV.int .i64 (-100000:Int)],[AV.int .i64 (-1000:Int)],[AV.int .i64 v],[AV.int .i64 ((0:Int) - near)]] (AV.int .i64 v_1) j→bif decide (rng .i64 (near+v_1)) then SrcQ xs j∧∀ (v j:Int),NumQ (7:Int) v j→bif
 decide (v=(6:Int)) then ∃ fr cl f a b c bs j_1,PrvQ k fr cl f a b c bs j_1∧(max (0:Int) (min (52595999:Int) (near+v_1))=fr∧true=cl∧(0:Int)=f∧(0:Int)=a∧(0:Int)=b∧(0:Int)=c∧bs=[]∧True)∧((True∧xs=xs)∧j=j_1∧True)∧True else bif decide (k=(1:Int)) then SrcQ xs j∧∀ (f a b c j:Int),PlaQ f a b c j→(∃ x,PrvP k
 x∧((0:Nat)=0∧(0:Nat)=0∧(0:Nat)=0∧(1:Int)=x.snd.snd.snd.snd.snd.fst∧True)∧((True∧xs=xs)∧j=x.snd.snd.snd.snd.snd.snd.fst∧True)∧((0:Int)=0∧false=false∧(0:Int)=0∧(0:Int)=0∧(0:Int)=0∧(0:Int)=0∧True∧True)∧(max (0:Int) (min (52595999:Int) (near+v_1))=x.fst∧false=false∧f=x.snd.fst∧a=x.snd.snd.fst∧b=x.snd.snd.snd.fst∧c=x.snd.snd.snd.snd.fst∧(0:Nat)=List.length
 x.snd.snd.snd.snd.snd.snd.snd∧True)∧[]=x.snd.snd.snd.snd.snd.snd.snd∧True)∧∀ (x:Int × Int × Int × Int × Int × Int × Int × LLR),PrvP k x→bif decide (x.snd.snd.snd.snd.snd.fst≤(11:Int)) then SrcQ xs x.snd.snd.snd.snd.snd.snd.fst∧∀ (v j:Int),NumQ (7:Int) v j→bif decide (v=(6:Int)) then (SrcQ xs j∧((6:Nat)=6∧(1:Nat)≤(6:Nat)∧(6:Nat)≤(1000:Nat))∧IntsB [[AV.int .i64 (0:Int)],[AV.int .i64
 (3:Int)],[AV.int .i64 (-5:Int)],[AV.int .i64 (20:Int)],[AV.int .i64 (1000:Int)],[AV.int .i64 (-1000:Int)]])∧∀ (v j:Int),PickQ [[AV.int .i64 (0:Int)],[AV.int .i64 (3:Int)],[AV.int .i64 (-5:Int)],[AV.int .i64 (20:Int)],[AV.int .i64 (1000:Int)],[AV.int .i64 (-1000:Int)]] (AV.int .i64 v) j→bif decide (List.length x.snd.snd.snd.snd.snd.snd.snd=List.length x.snd.snd.snd.snd.snd.snd.snd∧List.length
 x.snd.snd.snd.snd.snd.snd.snd+[[AV.int .i64 x.snd.snd.snd.snd.snd.fst,.int .i64 v]].length≤(9223372036854775807:Nat)∧(List.length x.snd.snd.snd.snd.snd.snd.snd+[[AV.int .i64 x.snd.snd.snd.snd.snd.fst,.int .i64 v]].length)*(16:Nat)≤(140737488355328:Nat)) then bif decide (rng .i64 (x.snd.snd.snd.snd.snd.fst+(1:Int))) then ∃ y,PrvP k y∧(prvI xs k).m y < (prvI xs k).m
 x∧((0:Nat)=0∧(0:Nat)=0∧(0:Nat)=0∧x.snd.snd.snd.snd.snd.fst +
 (1:Int)=y.snd.snd.snd.snd.snd.fst∧True)∧((True∧xs=xs)∧j=y.snd.snd.snd.snd.snd.snd.fst∧True)∧((0:Int)=0∧false=false∧(0:Int)=0∧(0:Int)=0∧(0:Int)=0∧(0:Int)=0∧True∧True)∧(x.fst=y.fst∧false=false∧x.snd.fst=y.snd.fst∧x.snd.snd.fst=y.snd.snd.fst∧x.snd.snd.snd.fst=y.snd.snd.snd.fst∧x.snd.snd.snd.snd.fst=y.snd.snd.snd.snd.fst∧(x.snd.snd.snd.snd.snd.snd.snd++[[AV.int .i64 x.snd.snd.snd.snd.snd.fst,.int
 .i64 v]]).length=List.length y.snd.snd.snd.snd.snd.snd.snd∧True)∧x.snd.snd.snd.snd.snd.snd.snd++[[AV.int .i64 x.snd.snd.snd.snd.snd.fst,.int .i64 v]]=y.snd.snd.snd.snd.snd.snd.snd∧True else False else False else bif decide (rng .i64 (x.snd.snd.snd.snd.snd.fst+(1:Int))) then ∃ y,PrvP k y∧(prvI xs k).m y < (prvI xs k).m x∧((0:Nat)=0∧(0:Nat)=0∧(0:Nat)=0∧x.snd.snd.snd.snd.snd.fst +
 (1:Int)=y.snd.snd.snd.snd.snd.fst∧True)∧((True∧xs=xs)∧j=y.snd.snd.snd.snd.snd.snd.fst∧True)∧((0:Int)=0∧false=false∧(0:Int)=0∧(0:Int)=0∧(0:Int)=0∧(0:Int)=0∧True∧True)∧(x.fst=y.fst∧false=false∧x.snd.fst=y.snd.fst∧x.snd.snd.fst=y.snd.snd.fst∧x.snd.snd.snd.fst=y.snd.snd.snd.fst∧x.snd.snd.snd.snd.fst=y.snd.snd.snd.snd.fst∧List.length x.snd.snd.snd.snd.snd.snd.snd=List.length
 y.snd.snd.snd.snd.snd.snd.snd∧True)∧x.snd.snd.snd.snd.snd.snd.snd=y.snd.snd.snd.snd.snd.snd.snd∧True else False else bif decide (List.length x.snd.snd.snd.snd.snd.snd.snd=List.length x.snd.snd.snd.snd.snd.snd.snd) then ∃ fr cl f a b c bs j,PrvQ k fr cl f a b c bs
 j∧(x.fst=fr∧false=cl∧x.snd.fst=f∧x.snd.snd.fst=a∧x.snd.snd.snd.fst=b∧x.snd.snd.snd.snd.fst=c∧(True∧x.snd.snd.snd.snd.snd.snd.snd=bs)∧True)∧((True∧xs=xs)∧x.snd.snd.snd.snd.snd.snd.fst=j∧True)∧True else False else (∃ x,PrvP k
 x∧((0:Nat)=0∧(0:Nat)=0∧(0:Nat)=0∧(1:Int)=x.snd.snd.snd.snd.snd.fst∧True)∧((True∧xs=xs)∧j=x.snd.snd.snd.snd.snd.snd.fst∧True)∧((0:Int)=0∧false=false∧(0:Int)=0∧(0:Int)=0∧(0:Int)=0∧(0:Int)=0∧True∧True)∧(max (0:Int) (min (52595999:Int) (near+v_1))=x.fst∧false=false∧(0:Int)=x.snd.fst∧(0:Int)=x.snd.snd.fst∧(0:Int)=x.snd.snd.snd.fst∧(0:Int)=x.snd.snd.snd.snd.fst∧(0:Nat)=List.length
 x.snd.snd.snd.snd.snd.snd.snd∧True)∧[]=x.snd.snd.snd.snd.snd.snd.snd∧True)∧∀ (x:Int × Int × Int × Int × Int × Int × Int × LLR),PrvP k x→bif decide (x.snd.snd.snd.snd.snd.fst≤(11:Int)) then SrcQ xs x.snd.snd.snd.snd.snd.snd.fst∧∀ (v j:Int),NumQ (7:Int) v j→bif decide (v=(6:Int)) then (SrcQ xs j∧((6:Nat)=6∧(1:Nat)≤(6:Nat)∧(6:Nat)≤(1000:Nat))∧IntsB [[AV.int .i64 (0:Int)],[AV.int .i64
 (3:Int)],[AV.int .i64 (-5:Int)],[AV.int .i64 (20:Int)],[AV.int .i64 (1000:Int)],[AV.int .i64 (-1000:Int)]])∧∀ (v j:Int),PickQ [[AV.int .i64 (0:Int)],[AV.int .i64 (3:Int)],[AV.int .i64 (-5:Int)],[AV.int .i64 (20:Int)],[AV.int .i64 (1000:Int)],[AV.int .i64 (-1000:Int)]] (AV.int .i64 v) j→bif decide (List.length x.snd.snd.snd.snd.snd.snd.snd=List.length x.snd.snd.snd.snd.snd.snd.snd∧List.length
 x.snd.snd.snd.snd.snd.snd.snd+[[AV.int .i64 x.snd.snd.snd.snd.snd.fst,.int .i64 v]].length≤(9223372036854775807:Nat)∧(List.length x.snd.snd.snd.snd.snd.snd.snd+[[AV.int .i64 x.snd.snd.snd.snd.snd.fst,.int .i64 v]].length)*(16:Nat)≤(140737488355328:Nat)) then bif decide (rng .i64 (x.snd.snd.snd.snd.snd.fst+(1:Int))) then ∃ y,PrvP k y∧(prvI xs k).m y < (prvI xs k).m
 x∧((0:Nat)=0∧(0:Nat)=0∧(0:Nat)=0∧x.snd.snd.snd.snd.snd.fst +
 (1:Int)=y.snd.snd.snd.snd.snd.fst∧True)∧((True∧xs=xs)∧j=y.snd.snd.snd.snd.snd.snd.fst∧True)∧((0:Int)=0∧false=false∧(0:Int)=0∧(0:Int)=0∧(0:Int)=0∧(0:Int)=0∧True∧True)∧(x.fst=y.fst∧false=false∧x.snd.fst=y.snd.fst∧x.snd.snd.fst=y.snd.snd.fst∧x.snd.snd.snd.fst=y.snd.snd.snd.fst∧x.snd.snd.snd.snd.fst=y.snd.snd.snd.snd.fst∧(x.snd.snd.snd.snd.snd.snd.snd++[[AV.int .i64 x.snd.snd.snd.snd.snd.fst,.int
 .i64 v]]).length=List.length y.snd.snd.snd.snd.snd.snd.snd∧True)∧x.snd.snd.snd.snd.snd.snd.snd++[[AV.int .i64 x.snd.snd.snd.snd.snd.fst,.int .i64 v]]=y.snd.snd.snd.snd.snd.snd.snd∧True else False else False else bif decide (rng .i64 (x.snd.snd.snd.snd.snd.fst+(1:Int))) then ∃ y,PrvP k y∧(prvI xs k).m y < (prvI xs k).m x∧((0:Nat)=0∧(0:Nat)=0∧(0:Nat)=0∧x.snd.snd.snd.snd.snd.fst +
 (1:Int)=y.snd.snd.snd.snd.snd.fst∧True)∧((True∧xs=xs)∧j=y.snd.snd.snd.snd.snd.snd.fst∧True)∧((0:Int)=0∧false=false∧(0:Int)=0∧(0:Int)=0∧(0:Int)=0∧(0:Int)=0∧True∧True)∧(x.fst=y.fst∧false=false∧x.snd.fst=y.snd.fst∧x.snd.snd.fst=y.snd.snd.fst∧x.snd.snd.snd.fst=y.snd.snd.snd.fst∧x.snd.snd.snd.snd.fst=y.snd.snd.snd.snd.fst∧List.length x.snd.snd.snd.snd.snd.snd.snd=List.length
 y.snd.snd.snd.snd.snd.snd.snd∧True)∧x.snd.snd.snd.snd.snd.snd.snd=y.snd.snd.snd.snd.snd.snd.snd∧True else False else bif decide (List.length x.snd.snd.snd.snd.snd.snd.snd=List.length x.snd.snd.snd.snd.snd.snd.snd) then ∃ fr cl f a b c bs j,PrvQ k fr cl f a b c bs
 j∧(x.fst=fr∧false=cl∧x.snd.fst=f∧x.snd.snd.fst=a∧x.snd.snd.snd.fst=b∧x.snd.snd.snd.snd.fst=c∧(True∧x.snd.snd.snd.snd.snd.snd.snd=bs)∧True)∧((True∧xs=xs)∧x.snd.snd.snd.snd.snd.snd.fst=j∧True)∧True else False else False else False
theorem qperiodV_P:qperiodV_T:=by
 unfold qperiodV_T
 intro gl xs i k near ⟨hs,h1,h2⟩
 have s:=hs.s
 refine ⟨⟨hs,by decide,by decide,by decide⟩,fun v j q1=>cdI (by omega) ⟨⟨⟨s,q1.2⟩,⟨rfl,by decide,by decide⟩,ints_of [-100000,-1000,v,0 - near] ?_⟩,fun w j q2=>?_⟩⟩
 ·intro n hn
  simp only [List.mem_cons,List.not_mem_nil,or_false] at hn
  show _∧_
  omega
 have hw:=pick_of [-100000,-1000,v,0 - near] q2
 simp only [List.mem_cons,List.not_mem_nil,or_false] at hw
 have ht:0≤max 0 (min 52595999 (near+w))∧max 0 (min 52595999 (near+w))≤52595999:=by omega
 refine cdI (by omega) ⟨⟨s,q2.fj⟩,fun v j q3=>csx (fun _=>⟨_,_,_,_,_,_,_,_,⟨pdV_cl ht,rdsP_nil,by simp,q3.fj⟩,⟨rfl,rfl,rfl,rfl,rfl,rfl,rfl,trivial⟩,⟨⟨trivial,rfl⟩,rfl,trivial⟩,trivial⟩) (fun _=>csx (fun hk=>⟨⟨s,q3.fj⟩,fun f a b c j q4=>⟨⟨(max 0 (min 52595999 (near+w)),f,a,b,c,1,j,[]),⟨by simp,q4.fj,bis_nil (by simp),ht,by simp only [plOk]; rw [if_pos hk]; exact q4.fn⟩,by (repeat' (first | exact trivial | exact rfl | assumption | apply And.intro))⟩,?_⟩⟩) (fun hk=>⟨⟨(max 0 (min 52595999 (near+w)),0,0,0,0,1,j,[]),⟨by simp,q3.fj,bis_nil (by simp),ht,by simp only [plOk]; rw [if_neg hk]; rfl⟩,by (repeat' (first | exact trivial | exact rfl | assumption | apply And.intro))⟩,?_⟩))⟩
 all_goals
  rintro ⟨fr,f,a,b,c,n,j,bs⟩ ⟨hc,hj,hb,hft,hfp⟩
  have hl:=hb.fl
  simp only at hc hj hb hl hft hfp
  dsimp only
  refine csx (fun h=>⟨⟨s,hj⟩,fun v j q5=>csx (fun _=>⟨⟨⟨s,q5.fj⟩,⟨rfl,by decide,by decide⟩,ints_of [0,3,-5,20,1000,-1000] ?_⟩,fun v j q6=>cd1 ⟨rfl,by simp; omega,by simp; omega⟩ (cdI (by omega) ⟨(fr,f,a,b,c,n+1,j,bs++[[.int .i64 n,.int .i64 v]]),⟨by simp only; omega,q6.fj,bis_add hb hc.1 (pick_bnd q6),hft,hfp⟩,by simp only [prvI]; omega,by (repeat' (first | exact trivial | exact rfl | assumption | apply And.intro))⟩)⟩) (fun _=>cdI (by omega) ⟨(fr,f,a,b,c,n+1,j,bs),⟨by simp only; omega,q5.fj,bis_up hb,hft,hfp⟩,by simp only [prvI]; omega,by (repeat' (first | exact trivial | exact rfl | assumption | apply And.intro))⟩)⟩) (fun h=>cd1 rfl ?_)
  ·intro n hn
   simp only [List.mem_cons,List.not_mem_nil,or_false] at hn
   show _∧_
   omega
  ·obtain ⟨b1,b2,b3⟩:=hb.p hc.2
   exact ⟨fr,false,f,a,b,c,bs,j,⟨pdV_op hft b3 hfp,b1,b2,hj⟩,by (repeat' (first | exact trivial | exact rfl | assumption | apply And.intro))⟩
def qperiodV_S:Prop:=∀ (gl:Glob) (xs:List (List AV)) (i k near:Int),SrcQ xs i∧0≤near∧near≤52595999→fnQ Tryz.prog { glob:=gl,spec:=lk [],specH:=lk [],specQ:=lk [(37,qn_s),(24,qrange_s),(40,qpick_s),(43,qplace_s)],nowf:=true } { nt:=49,drop:=drp [(1,2096640),(2,6291456),(3,16777216),(4,33554432),(5,67108864),(6,1879048192),(8,2147483648),(9,25769803776),(10,103079215104),(11,281200098803712),(12,281474976710656)],fr:=1000,kp:=[0],emp:=fun id=>cond (Nat.beq id 7) [(1100706,1501,76,2)] [] } (invs [(8,prvI xs k)]) 6 Tryz.f25 [.ptr 0 0,.int .i64 k,.int .i64 near] [.cells [.sl 1 false xs,.int .i64 i]] (fun r2 bs2=>∃ (fr:Int) (cl:Bool) (f a b c:Int) (bs:List (List AV)) (j:Int),(PrvQ k fr cl f a b c bs j)∧le r2 (.agg [.int .i64 fr,.bool cl,.int .i64 f,.int .i64 a,.int .i64 b,.int .i64 c,.sl 2 false bs])∧leBs bs2 [.cells [.sl 1 false xs,.int .i64 j]])
theorem qperiodV_e:qperiodV_T=qperiodV_S:=by kernel_rfl
theorem qperiodV_v:qperiodV_S:=Eq.mp (qperiodV_e ..) (qperiodV_P)
theorem qperiodV_ok (gl:Glob):QOK Tryz.prog gl 25 qperiodV_s:=by
 refine ⟨fok Tryz.func25 (by kernel_rfl) (by kernel_rfl),?_⟩
 intro xs bs T h K hT
 unfold qperiodV_s at h
 split at h
 ·simp only [Option.some.injEq] at h
  subst h
  obtain ⟨hp,hK⟩:=hT
  obtain ⟨r,bs2,⟨o0,o1,o2,o3,o4,o5,o6,o7,hq,hl,hb⟩,hC⟩:=fnQ_sound tyNil (by exact specOK rfl rfl trivial trivial (d:=qsOf rfl ⟨(qn_ok gl),(qrange_ok gl),(qpick_ok gl),(qplace_ok gl),trivial⟩)) (by kernel_rfl) Tryz.func25 (qperiodV_v gl _ _ _ _ hp)
  exact ⟨_,_,hK o0 o1 o2 o3 o4 o5 o6 o7 hq,hC.le hl hb⟩
 ·cases h
structure RegV (l:LLR):Prop where
 fp:StsP l
 f0:rgV l=0
 fn:∀ r ∈ l,sNm r ∈ nam6
structure RegvQ (l:LLR) (j:Int):Prop where
 fr:RegV l
 fj:0≤j
structure RegvI (x:Int × Int × LLR):Prop where
 fn:x.1≤12
 fj:0≤x.2.1
 fr:RegV x.2.2
def rgv3 (xs:List (List AV)) (near:Int):LInv:=⟨Int × Int × LLR,fun x=>⟨[(0,.ptr 0 0),(1,.int .i64 near),(4,.ptr 1004 0),(5,.ptr 1005 0),(6,.int .i64 x.1)],[(0,.cells [.sl 1 false xs,.int .i64 x.2.1]),(1004,.cells [.nils]),(1005,.cells [.sl 3 false x.2.2])]⟩,RegvI,fun x=>(x.1).toNat,none⟩
theorem regv_nil:RegV []:=⟨sts_nil,by kernel_rfl,fun r h=>by simp at h⟩
theorem regv_set {l:LLR} (h:RegV l) {k:Int} {nm:ByteArray} (hn:nm ∈ nam6) {fr:Int} {cl:Bool} {f a b c:Int} {bs:LLR} (hb:RdsP bs) (hbl:bs.length≤1000) (he:reE l k nm fr cl f a b c bs=0):RegV (reO l k nm fr cl f a b c bs):=by
 obtain ⟨e1,e2⟩:=re_eq h.fp k nm fr cl f a b c bs
 rw [e1] at he
 rw [e2]
 have hs:=set_valid h.fp hb hbl he
 refine ⟨hs.fp,hs.f0,fun r hr=>?_⟩
 rw [hs.fe] at hr
 rcases insQ_mem hr with z | z
 ·rw [z]; exact hn
 ·exact h.fn r z
def qregistryV_s:SpQ
 | [.ptr 0 0,.int .i64 near],[.cells [.sl 1 false xs,.int .i64 i]]=>some (fun K=>(SrcQ xs i∧0≤near∧near≤52595999)∧(∀ (l:List (List AV)) (j:Int),(RegvQ l j)→K (.agg [.sl 3 false l]) [.cells [.sl 1 false xs,.int .i64 j]]))
 | _,_=>none
def qregistryV_T (pdV:Int→Int→Bool→Int→Int→Int→Int→LLR→Bool) (nmOk:ByteArray→Bool) (rgV:LLR→Int) (reE:LLR→Int→ByteArray→Int→Bool→Int→Int→Int→Int→LLR→Int) (reO:LLR→Int→ByteArray→Int→Bool→Int→Int→Int→Int→LLR→LLR) (wiL:LLR→Int→ByteArray→LLR→LLR) (fiK:LLR→ByteArray→Int) (fiN:LLR→ByteArray→ByteArray) (fiP:LLR→ByteArray→LLR) (fiB:LLR→ByteArray→Bool):Prop :=
  ∀ (gl:Glob) (xs:List (List AV)) (i near:Int),SrcQ xs i∧0≤near∧near≤(52595999:Int)→SrcQ xs i∧∀ (v j:Int),NumQ (12:Int) v j→(∃ x,RegvI x∧((0:Nat)=0∧near=near∧(0:Nat)=0∧(0:Nat)=0∧v=x.fst∧True)∧((True∧xs=xs)∧j=x.snd.fst∧True)∧(True∧True)∧(x.snd.snd=[]∧True)∧True)∧∀ (x:Int × Int × LLR),RegvI x→bif decide (0 < x.fst) then SrcQ xs x.snd.fst∧∀ (s:ByteArray) (j:Int),NamQ s
 j→List.Mem s nam6∧SrcQ xs j∧∀ (v j:Int),NumQ (6:Int) v j→bif decide (v=(0:Int)) then (SrcQ xs j∧(1:Int)≤(3:Int)∧(-1000000000:Int)≤(1:Int)∧(3:Int)≤(1000000000:Int))∧∀ (v j:Int),(1≤v∧v≤(3:Int))∧0≤j→(SrcQ xs j∧0≤near∧near≤(52595999:Int))∧∀ (fr:Int) (cl:Bool) (f a b c:Int) (bs:List (List AV)) (j:Int),PrvQ v fr cl f a b c bs j→(StsP x.snd.snd∧RdsP bs)∧bif decide
 (reE x.snd.snd v s fr cl f a b c bs=(0:Int)) then bif decide (rng .i64 (x.fst - (1:Int))) then ∃ y,RegvI y∧(rgv3 xs near).m y < (rgv3 xs near).m x∧((0:Nat)=0∧near=near∧(0:Nat)=0∧(0:Nat)=0∧x.fst - (1:Int)=y.fst∧True)∧((True∧xs=xs)∧j=y.snd.fst∧True)∧(True∧True)∧((True∧reO x.snd.snd v s fr cl f a b c bs=y.snd.snd)∧True)∧True else False else bif decide (rng .i64 (x.fst - (1:Int))) then ∃ y,RegvI
 y∧(rgv3 xs near).m y < (rgv3 xs near).m x∧((0:Nat)=0∧near=near∧(0:Nat)=0∧(0:Nat)=0∧x.fst - (1:Int)=y.fst∧True)∧((True∧xs=xs)∧j=y.snd.fst∧True)∧(True∧True)∧((True∧x.snd.snd=y.snd.snd)∧True)∧True else False else (SrcQ xs j∧0≤near∧near≤(52595999:Int))∧∀ (fr:Int) (cl:Bool) (f a b c:Int) (bs:List (List AV)) (j:Int),PrvQ (byteI s (0:Nat) % (3:Int)+(1:Int)) fr cl f a b c bs j→(StsP
 x.snd.snd∧RdsP bs)∧bif decide (reE x.snd.snd (byteI s (0:Nat) % (3:Int)+(1:Int)) s fr cl f a b c bs=(0:Int)) then bif decide (rng .i64 (x.fst - (1:Int))) then ∃ y,RegvI y∧(rgv3 xs near).m y < (rgv3 xs near).m x∧((0:Nat)=0∧near=near∧(0:Nat)=0∧(0:Nat)=0∧x.fst - (1:Int)=y.fst∧True)∧((True∧xs=xs)∧j=y.snd.fst∧True)∧(True∧True)∧((True∧reO x.snd.snd (byteI s (0:Nat) % (3:Int)+(1:Int)) s fr cl f a b c
 bs=y.snd.snd)∧True)∧True else False else bif decide (rng .i64 (x.fst - (1:Int))) then ∃ y,RegvI y∧(rgv3 xs near).m y < (rgv3 xs near).m x∧((0:Nat)=0∧near=near∧(0:Nat)=0∧(0:Nat)=0∧x.fst - (1:Int)=y.fst∧True)∧((True∧xs=xs)∧j=y.snd.fst∧True)∧(True∧True)∧((True∧x.snd.snd=y.snd.snd)∧True)∧True else False else ∃ l j,RegvQ l j∧((True∧x.snd.snd=l)∧True)∧((True∧xs=xs)∧x.snd.fst=j∧True)∧True
theorem qregistryV_P:qregistryV_T pdV nmOk rgV reE reO wiL fiK fiN fiP fiB:=by
 unfold qregistryV_T
 intro gl xs i near ⟨hs,h1,h2⟩
 have s:=hs.s
 refine ⟨hs,fun v j q1=>⟨⟨(v,j,[]),⟨Int.le_of_lt (q1.fv (by decide)).2,q1.fj,regv_nil⟩,by (repeat' (first | exact trivial | exact rfl | assumption | apply And.intro))⟩,?_⟩⟩
 rintro ⟨n,j,l⟩ ⟨n1,j0,hl⟩
 simp only at n1 j0 hl
 dsimp only
 refine csx (fun hn=>⟨⟨s,j0⟩,fun nm j q2=>⟨q2.fs,⟨s,q2.fj⟩,fun v j q3=>csx (fun _=>⟨⟨⟨s,q3.fj⟩,by decide,by decide,by decide⟩,fun w j q4=>⟨⟨⟨s,q4.2⟩,h1,h2⟩,fun fr cl f a b c bs j q5=>⟨⟨hl.fp,q5.fr⟩,?_⟩⟩⟩) (fun _=>⟨⟨⟨s,q3.fj⟩,h1,h2⟩,fun fr cl f a b c bs j q5=>⟨⟨hl.fp,q5.fr⟩,?_⟩⟩)⟩⟩) (fun hn=>⟨l,j,⟨hl,j0⟩,by (repeat' (first | exact trivial | exact rfl | assumption | apply And.intro))⟩)
 all_goals exact csx (fun he=>cdI (by omega) ⟨(n - 1,_,reO l _ nm fr cl f a b c bs),⟨by simp only; omega,q5.fj,regv_set hl q2.fs q5.fr (Nat.le_trans q5.fl (by decide)) he⟩,by simp only [rgv3]; omega,by (repeat' (first | exact trivial | exact rfl | assumption | apply And.intro))⟩) (fun _=>cdI (by omega) ⟨(n - 1,_,l),⟨by simp only; omega,q5.fj,hl⟩,by simp only [rgv3]; omega,by (repeat' (first | exact trivial | exact rfl | assumption | apply And.intro))⟩)
def qregistryV_S (pdV:Int→Int→Bool→Int→Int→Int→Int→LLR→Bool) (nmOk:ByteArray→Bool) (rgV:LLR→Int) (reE:LLR→Int→ByteArray→Int→Bool→Int→Int→Int→Int→LLR→Int) (reO:LLR→Int→ByteArray→Int→Bool→Int→Int→Int→Int→LLR→LLR) (wiL:LLR→Int→ByteArray→LLR→LLR) (fiK:LLR→ByteArray→Int) (fiN:LLR→ByteArray→ByteArray) (fiP:LLR→ByteArray→LLR) (fiB:LLR→ByteArray→Bool):Prop:=∀ (gl:Glob) (xs:List (List AV)) (i near:Int),SrcQ xs i∧0≤near∧near≤52595999→fnQ Tryz.prog { glob:=gl,spec:=lk [(41,qkinds_s),(34,(rsetF_s pdV nmOk rgV reE reO wiL fiK fiN fiP fiB))],specH:=lk [],specQ:=lk [(37,qn_s),(24,qrange_s),(22,qname_s),(25,qperiodV_s)],nowf:=true } { nt:=41,drop:=drp [(2,6144),(3,8192),(4,98304),(5,393216),(6,1572864),(7,6291456),(8,50331648),(9,137371844608),(10,137438953472),(11,549755813888),(12,1099511627776)],fr:=1000,kp:=[0] } (invs [(3,rgv3 xs near)]) 6 Tryz.f12 [.ptr 0 0,.int .i64 near] [.cells [.sl 1 false xs,.int .i64 i]] (fun r2 bs2=>∃ (l:List (List AV)) (j:Int),(RegvQ l j)∧le r2 (.agg [.sl 3 false l])∧leBs bs2 [.cells [.sl 1 false xs,.int .i64 j]])
theorem qregistryV_e (pdV:Int→Int→Bool→Int→Int→Int→Int→LLR→Bool) (nmOk:ByteArray→Bool) (rgV:LLR→Int) (reE:LLR→Int→ByteArray→Int→Bool→Int→Int→Int→Int→LLR→Int) (reO:LLR→Int→ByteArray→Int→Bool→Int→Int→Int→Int→LLR→LLR) (wiL:LLR→Int→ByteArray→LLR→LLR) (fiK:LLR→ByteArray→Int) (fiN:LLR→ByteArray→ByteArray) (fiP:LLR→ByteArray→LLR) (fiB:LLR→ByteArray→Bool):qregistryV_T pdV nmOk rgV reE reO wiL fiK fiN fiP fiB=qregistryV_S pdV nmOk rgV reE reO wiL fiK fiN fiP fiB:=by kernel_rfl
theorem qregistryV_v:qregistryV_S pdV nmOk rgV reE reO wiL fiK fiN fiP fiB:=Eq.mp (qregistryV_e ..) (qregistryV_P)
theorem qregistryV_ok (gl:Glob):QOK Tryz.prog gl 12 qregistryV_s:=by
 refine ⟨fok Tryz.func12 (by kernel_rfl) (by kernel_rfl),?_⟩
 intro xs bs T h K hT
 unfold qregistryV_s at h
 split at h
 ·simp only [Option.some.injEq] at h
  subst h
  obtain ⟨hp,hK⟩:=hT
  obtain ⟨r,bs2,⟨o0,o1,hq,hl,hb⟩,hC⟩:=fnQ_sound tyNil (by exact specOK rfl rfl ⟨(qkinds_ok gl),(rsetF_ok gl),trivial⟩ trivial (d:=qsOf rfl ⟨(qn_ok gl),(qrange_ok gl),(qname_ok gl),(qperiodV_ok gl),trivial⟩)) (by kernel_rfl) Tryz.func12 (qregistryV_v gl _ _ _ hp)
  exact ⟨_,_,hK o0 o1 hq,hC.le hl hb⟩
 ·cases h
end Go.Proofs.YtldiagnbagpliaaGreatDoor
namespace Go.Proofs.YtldiagnbagpliaaGreatDoor
open Go Go.Lib Go.RowKit
set_option linter.unusedVariables false
set_option linter.unusedSimpArgs false
theorem zero_oneP:∃ i z,Tryz.prog.info? 49=some i∧i.zero=some z∧i.size=7∧z.cells.size=7∧∀ v ∈ z.cells.toList,v.oneCell'=true:=by
 have h:(Tryz.prog.info? 49).map (fun i=>(i.zero.map (fun z=>(z.cells.size,z.cells.toList.all fun v=>v.oneCell')),i.size))=some (some (7,true),7):=by kernel_rfl
 cases e:Tryz.prog.info? 49 with
 | none=>rw [e] at h; cases h
 | some i =>
  rw [e] at h
  simp only [Option.map_some,Option.some.injEq,Prod.mk.injEq] at h
  obtain ⟨h1,h2⟩:=h
  cases hz:i.zero with
  | none=>rw [hz] at h1; cases h1
  | some z =>
   rw [hz] at h1
   simp only [Option.map_some,Option.some.injEq,Prod.mk.injEq] at h1
   exact ⟨i,z,rfl,hz,h2,h1.1,fun v hv=>List.all_eq_true.1 h1.2 v hv⟩
theorem zero_onceP (a:Array Value) (h:a.size=7):(Builtin.zeroCells a 1).toList=a.toList:=by
 unfold Builtin.zeroCells
 apply List.ext_getElem
 ·simp
 ·intro i h1 h2
  simp only [Array.length_toList] at h2
  simp [Nat.mod_eq_of_lt h2,h2]
theorem run_clear1P {P:Program} (w:World) (t e ty:TypeId) (z:Value) (ht:P.underlying t=some (.slice e)) (hv:∀ w,(zeroValue e).run P w=.ok z w) (hz:z.cells.size=7) (h1:∀ v ∈ z.cells.toList,v.oneCell'=true) (b o c:Nat)
  (hc:∀ j,j < 7→(w.cell? ⟨b,o+j,none⟩).isSome=true) (hf:∀ j,j < 7→w.frozen? ⟨b,o+j,none⟩=false) :
  (Builtin.clear_ #[t] ty #[.slice (some ⟨b,o,none⟩) 1 c]).run P w=.ok (.tuple #[]) (w.setCells b o z.cells.toList):=by
 have hst:=run_storeCells_cells (P:=P) b o z.cells.toList 0 w (by simpa [hz] using hc) (by simpa [hz] using hf) h1
 simp only [Nat.add_zero] at hst
 simp [Builtin.clear_,run_underlying ht,hv,zero_onceP _ hz,hst]
set_option maxHeartbeats 4000000 in
set_option maxRecDepth 1000000 in
theorem del_walkP (b n c i:Nat) (cs:List Value) (w:World) (hi:i < n) (hnc:n≤c) (hc63:c≤9223372036854775807) (hcl:cs.length=n*7)
  (hcs:∀ j v,cs[j]?=some v→w.cell? ⟨b,j,none⟩=some v) (hfz:∀ j,j < n*7→w.frozen? ⟨b,j,none⟩=false) (h1c:∀ v ∈ cs,v.oneCell'=true) :
  Calls Tryz.prog 72 #[.slice (some ⟨b,0,none⟩) n c,.int .i64 i,.int .i64 ((i:Int)+1)] w fun e w' =>
   e=.returned (.slice (some ⟨b,0,none⟩) (n - 1) c)∧∃ zl:List Value,zl.length=7∧(∀ v ∈ zl,v.oneCell'=true)∧w'=(w.drew.setCells b (i*7) (cs.drop ((i+1)*7))).setCells b ((n - 1)*7) zl:=by
 have mixed:Tryz.prog.follows .mixedOrders=true:=by kernel_rfl
 obtain ⟨i0,z0,hi0,hz0,hzs,hzc,hz1⟩:=zero_oneP
 obtain ⟨news,hnews⟩:∃ news,news=cs.drop ((i+1)*7):=⟨_,rfl⟩
 have hlen:news.length=(n - (i+1))*7:=by rw [hnews,List.length_drop,hcl,Nat.sub_mul]
 have hget:∀ t u,news[t]?=some u→w.cell? ⟨b,(i+1)*7+t,none⟩=some u:=by
  intro t u hu
  rw [hnews,List.getElem?_drop] at hu
  exact hcs _ _ hu
 have hsome:∀ j,j < n*7→(w.cell? ⟨b,j,none⟩).isSome=true:=fun j hj=>by
  rw [hcs j _ (List.getElem?_eq_getElem (show j < cs.length by omega))]; rfl
 obtain ⟨A,hA,hsrc⟩:∃ A:Addr,(if c=i+1 then some (⟨b,0,none⟩:Addr) else some ⟨b,(i+1)*7,none⟩)=some A∧Hid (∀ t u,news[t]?=some u→w.drew.cell? (A.add t)=some u):=by
  by_cases h:c=i+1
  ·refine ⟨⟨b,0,none⟩,by simp [h],fun t u hu=>?_⟩
   have h0:news.length=0:=by rw [hlen,show n - (i+1)=0 by omega,Nat.zero_mul]
   rw [List.length_eq_zero_iff.1 h0] at hu
   simp at hu
  ·refine ⟨⟨b,(i+1)*7,none⟩,by simp [h],fun t u hu=>?_⟩
   rw [Addr.add_lit]
   exact hget t u hu
 have s1:Hid (news.length=(n - (i+1))*7):=hlen
 have s2:Hid (∀ u ∈ news,u.oneCell'=true):=by
  intro u hu
  rw [hnews] at hu
  exact h1c u (List.mem_of_mem_drop hu)
 have hin:i*7+(n - (i+1))*7≤n*7:=by rw [← Nat.add_mul]; exact Nat.mul_le_mul_right _ (by omega)
 have s3:Hid (∀ t,t < news.length→(w.drew.cell? ⟨b,0+i*7+t,none⟩).isSome=true∧w.drew.frozen? ⟨b,0+i*7+t,none⟩=false):=by
  intro t ht
  rw [hlen] at ht
  rw [Nat.zero_add]
  exact ⟨hsome _ (by omega),hfz _ (by omega)⟩
 obtain ⟨W1,hW1⟩:∃ W1,W1=w.drew.setCells b (0+i*7) news:=⟨_,rfl⟩
 have hW1c:∀ a,(w.cell? a).isSome=true→(W1.cell? a).isSome=true:=fun a ha=>by rw [hW1]; exact World.isSome_setCells _ _ _ _ _ ha
 have hW1f:∀ a,W1.frozen? a=w.frozen? a:=fun a=>by rw [hW1]; exact World.frozen?_setCells _ _ _ _ _
 have hend:∀ j,j < 7→(n - 1)*7+j < n*7:=fun j hj=>by
  have:(n - 1)*7+7=n*7:=by rw [← Nat.succ_mul]; congr 1; omega
  omega
 have hcl2:∀ ty,(Builtin.clear_ #[57] ty #[.slice (some ⟨b,(i+(n - (i+1)))*7,none⟩) (n - (i+(n - (i+1)))) (c - (i+(n - (i+1))))]).run Tryz.prog W1=.ok (.tuple #[]) (W1.setCells b ((n - 1)*7) z0.cells.toList):=fun ty=>by
  rw [show i+(n - (i+1))=n - 1 by omega,show n - (n - 1)=1 by omega]
  exact run_clear1P W1 _ _ ty z0 t_itP (fun w=>by simp [zeroValue,typeInfo,hi0,hz0]) hzc hz1 b _ _ (fun j hj=>hW1c _ (hsome _ (hend j hj))) (fun j hj=>by rw [hW1f]; exact hfz _ (hend j hj))
 have hW:Hid (W1=w.drew.setCells b (0+i*7) news):=hW1
 have hic:i≤c:=by omega
 have hjc:i+1≤c:=by omega
 have hbnd:0≤(i:Int)+1∧(i:Int)+1≤(n:Int):=by omega
 have hni:¬ ((i:Int)=(i:Int)+1):=by omega
 obtain ⟨zl,hzl⟩:∃ zl,zl=z0.cells.toList:=⟨_,rfl⟩
 rw [← hzl] at hcl2
 have fin:∃ zl':List Value,zl'.length=7∧(∀ v ∈ zl',v.oneCell'=true)∧W1.setCells b ((n - 1)*7) zl=(w.drew.setCells b (i*7) (cs.drop ((i+1)*7))).setCells b ((n - 1)*7) zl' :=
  ⟨zl,by rw [hzl,Array.length_toList,hzc],by rw [hzl]; exact hz1,by rw [hW1,hnews,Nat.zero_add]⟩
 clear hzl hz1 hzc hz0
 clear hW1 hW1c hW1f hsome hget hnews hlen hcs hfz h1c hin hend
 go_enter Tryz.func72,Tryz.ntmps72
 go_wp2_with fail
 go_region_law_o (refine step_append_room rfl (.tmp 22) (.tmp 25) 57 rfl 49 i0 7 t_itP hi0 hzs b 0 i c (by simp [Act.eval,Act.put]) A (n - (i+1)) (c - (i+1)) news (by simp [Act.eval,Act.put]) s1.out hsrc.out s2.out (by omega) s3.out ?_; rw [← hW.out])
 go_wp2
 go_ret
 exact ⟨by rw [show i+(n - (i+1))=n - 1 by omega]; rfl,fin⟩
def sdelP_s:SpH
 | [.rw 0 7 n,.int .i64 i,.int .i64 j],[.row 49 7 xs]=>some ((((n=xs.length∧0≤i)∧i < n)∧j=i+1)∧n≤900,.rw 1 7 (n - 1),[.gone,.row 49 7 (xs.take i.toNat++xs.drop (i.toNat+1))])
 | _,_=>none
set_option maxHeartbeats 1000000 in
theorem sdelP_ok (gl:Glob):HOK Tryz.prog gl 72 sdelP_s:=by
 refine ⟨fok Tryz.func72 (by kernel_rfl) (by kernel_rfl),?_⟩
 intro xs0 bs pre r bs2 h hp
 unfold sdelP_s at h
 split at h
 rotate_left
 ·cases h
 rename_i n i j xs
 simp only [Option.some.injEq,Prod.mk.injEq] at h
 obtain ⟨h1,h2,h3⟩:=h
 subst h1 h2 h3
 obtain ⟨⟨⟨⟨hn,i0⟩,i1⟩,hj⟩,hbg⟩:=hp
 subst hn hj
 intro w S m vs hG hA hnm hheld hinj hv
 have H0:=hheld 0 _ rfl
 have hlt:49 < 1000000:=by decide
 obtain ⟨A,c,a1,a2,a3,a4,a5,V,b1,b2,b3,b4,b5⟩:=H0.vals
 rw [rowNm_lo (Nat.lt_trans hlt (by decide))] at b2
 obtain ⟨g,cur,fr,rfl,f1,f2,f3,f4⟩:=a5.resolve_left (fun h=>by omega)
 have hfr:=f2.lt hlt
 subst hfr
 rw [rowTy_lt hlt] at f1
 have hg:g < w.heap.size:=(Array.getElem?_eq_some_iff.1 f1).1
 simp only [CVl] at hv
 obtain ⟨u1,us1,v1,hv1,u2,us2,v2,hv2,u3,us3,v3,hv3,v4⟩:=hv
 subst v4 v3 v2
 have hv1:=cv_rowP hv1 a1
 simp only [CV] at hv2 hv3
 obtain ⟨hv2,_⟩:=hv2
 obtain ⟨hv3,_⟩:=hv3
 subst hv1 hv2 hv3
 obtain ⟨k,rfl⟩:∃ k:Nat,i=k:=⟨i.toNat,by omega⟩
 have hvs:vs=#[.slice (some ⟨g,0,none⟩) xs.length c,.int .i64 k,.int .i64 ((k:Int)+1)]:=by apply Array.ext'; simpa using v1
 subst hvs
 have hk:k < xs.length:=by omega
 rw [Int.toNat_natCast]
 have a3':c≤9223372036854775807:=by unfold maxLen at a3; omega
 have hcur:cur.toList.take (xs.length*7)=V:=by
  obtain ⟨g2,cur2,fr2,q1,q2,_,_,q5⟩:=b4.resolve_left (fun h=>by cases h.1)
  injection q1 with q1
  injection q1 with q1
  subst q1
  rw [rowTy_lt hlt,f1] at q2
  injection q2 with q2
  injection q2 with q2
  subst q2; exact q5
 have hcl:cur.size=c*7:=f3
 have hle:xs.length*7≤c*7:=Nat.mul_le_mul_right _ a2
 have hfz:∀ j,j < xs.length*7→w.frozen? ⟨g,j,none⟩=false:=fun j hj=>by simp [World.frozen?,f1]
 refine (del_walkP g xs.length c k V w hk a2 a3' b1 (fun j v h=>b5 g rfl j v h) hfz b3).mono ?_
 rintro e w' ⟨rfl,zl,z1,z2,rfl⟩
 have hnn:(xs.length - 1)*7+7=xs.length*7:=by rw [← Nat.succ_mul]; congr 1; omega
 have hkk:(k+1)*7≤xs.length*7:=Nat.mul_le_mul_right _ (by omega)
 have hk1:(k+1)*7=k*7+7:=Nat.succ_mul _ _
 obtain ⟨L,hL⟩:∃ L,L=cur.toList:=⟨_,rfl⟩
 have hLl:L.length=c*7:=by rw [hL,Array.length_toList]; exact f3
 rw [← hL] at hcur
 have q1:w.drew.heap[g]?=some (.cells L.toArray 49 (0,0)):=by rw [hL,Array.toArray_toList]; exact f1
 have hdl:(V.drop ((k+1)*7)).length=xs.length*7 - (k+1)*7:=by rw [List.length_drop,b1]
 obtain ⟨D,hD⟩:∃ D,D=V.drop ((k+1)*7):=⟨_,rfl⟩
 rw [← hD] at hdl ⊢
 have w2:=setCells_heapP g 49 (0,0) D (k*7) w.drew L q1 (by omega)
 have hpl:(putLP (k*7) D L).length=L.length:=putL_lenP (by omega)
 have w3:=setCells_heapP g 49 (0,0) zl ((xs.length - 1)*7) _ _ w2 (by omega)
 obtain ⟨s1,s2,s3,s4⟩:=setCells_restP g zl ((xs.length - 1)*7) (w.drew.setCells g (k*7) D)
 obtain ⟨s5,s6,s7,s8⟩:=setCells_restP g D (k*7) w.drew
 have hpl2:(putLP ((xs.length - 1)*7) zl (putLP (k*7) D L)).length=L.length:=by rw [putL_lenP (by omega)]; exact hpl
 have htk:(putLP ((xs.length - 1)*7) zl (putLP (k*7) D L)).take ((xs.length - 1)*7)=V.take (k*7)++D:=by
  have e1:(putLP ((xs.length - 1)*7) zl (putLP (k*7) D L)).take ((xs.length - 1)*7)=(putLP (k*7) D L).take ((xs.length - 1)*7):=by
   unfold putLP
   rw [List.append_assoc,List.take_append_of_le_length (by rw [List.length_take]; unfold putLP at hpl; omega),List.take_take,Nat.min_self]
  rw [e1,putL_takeP (by omega) (by omega)]
  congr 1
  rw [← hcur,List.take_take,Nat.min_eq_left (by omega)]
 have hoth:∀ b,b≠g→((w.drew.setCells g (k*7) D).setCells g ((xs.length - 1)*7) zl).heap[b]?=w.heap[b]?:=fun b hb=>by
  rw [setCells_otherP g _ _ _ b hb,setCells_otherP g _ _ _ b hb]; rfl
 generalize hW':(w.drew.setCells g (k*7) D).setCells g ((xs.length - 1)*7) zl=w' at *
 have hzl:(xs.take k++xs.drop (k+1)).length=xs.length - 1:=by simp only [List.length_append,List.length_take,List.length_drop]; omega
 have hz:∀ z ∈ xs.take k++xs.drop (k+1),z.length=7:=fun z hz=>by
  rcases List.mem_append.1 hz with hz | hz
  ·exact a4 z (List.mem_of_mem_take hz)
  ·exact a4 z (List.mem_of_mem_drop hz)
 obtain ⟨t1,_⟩:=flat_take10P (zs:=xs) k a4
 obtain ⟨_,t2⟩:=flat_take10P (zs:=xs) (k+1) a4
 have hct:CVl S (xs.take k++xs.drop (k+1)).flatten noNm (V.take (k*7)++D):=by
  rw [List.flatten_append,t1,t2,hD]
  exact (b2.take _).append (b2.drop _)
 have hon:∀ v ∈ V.take (k*7)++D,v.oneCell'=true:=fun v hv=>by
  rcases List.mem_append.1 hv with hv | hv
  ·exact b3 v (List.mem_of_mem_take hv)
  ·rw [hD] at hv; exact b3 v (List.mem_of_mem_drop hv)
 have m0:((m.set 0 (.iface 0 (.slice none (xs.length+1) 0))).set 1 (.iface 0 (.slice (some ⟨g,0,none⟩) (xs.length - 1) c))) 0=some (.iface 0 (.slice none (xs.length+1) 0)):=by
  rw [Nm.set_ne _ _ (by decide),Nm.set_same]
 have m1:((m.set 0 (.iface 0 (.slice none (xs.length+1) 0))).set 1 (.iface 0 (.slice (some ⟨g,0,none⟩) (xs.length - 1) c))) 1=some (.iface 0 (.slice (some ⟨g,0,none⟩) (xs.length - 1) c)):=Nm.set_same _ _ _
 have hMg:Mof 1 m g:=⟨0,_,by decide,a1,rfl⟩
 have key:∀ (q:Nat) (u:Value) (g':Nat),q < 2→((m.set 0 (.iface 0 (.slice none (xs.length+1) 0))).set 1 (.iface 0 (.slice (some ⟨g,0,none⟩) (xs.length - 1) c))) q=some u→bk u=some g'→q=1∧g'=g:=by
  intro q u g' hq hu hgu
  match q,hq with
  | 0,_ =>
   rw [m0] at hu; injection hu with hu; subst hu
   simp [bk] at hgu
  | 1,_ =>
   rw [m1] at hu; injection hu with hu; subst hu
   simp only [bk,Option.some.injEq] at hgu
   exact ⟨rfl,hgu.symm⟩
 refine ⟨_,S,(m.set 0 (.iface 0 (.slice none (xs.length+1) 0))).set 1 (.iface 0 (.slice (some ⟨g,0,none⟩) (xs.length - 1) c)),rfl,s1.trans s5,s2.trans s6,s3.trans s7,by rw [s4,s8]; exact Nat.le_refl _,.refl _,fun b hb hM=>⟨hoth b (fun e=>hM (e ▸ hMg)),fun _=>rfl⟩,fun b o v h=>?_,fun q b hq=>?_,?_,?_,?_,?_⟩
 ·obtain ⟨k1,k2⟩:=hA b o v h
  have hb:b≠g:=fun e=>by rw [e,f4 o] at h; cases h
  exact ⟨by rw [World.cell?_of_block (w:=w) (hoth b hb)]; exact k1,k2⟩
 ·match q,hq with
  | 0,hq =>
   simp only [List.getElem?_cons_zero,Option.some.injEq] at hq
   subst hq
   exact ⟨_,m0,fun g' hg'=>by simp [bk] at hg'⟩
  | 1,hq =>
   simp only [List.getElem?_cons_succ,List.getElem?_cons_zero,Option.some.injEq] at hq
   subst hq
   refine ⟨some ⟨g,0,none⟩,c,by rw [hzl]; exact m1,by rw [hzl]; omega,a3,.inr ⟨g,_,(0,0),rfl,by rw [rowTy_lt hlt]; exact w3,.none,by simp only [List.size_toArray]; omega,f4,?_⟩⟩
   rw [rowNm_lo (Nat.lt_trans hlt (by decide))]
   refine row_of_flat hz hct hon ?_
   rw [hzl]; simpa using htk
  | q+2,hq=>simp at hq
 ·intro q q' u u' g' hq hq' hqq hu hu' hgu hgu'
  have:=(key q u g' hq hu hgu).1
  have:=(key q' u' g' hq' hu' hgu').1
  omega
 ·intro q u g' hq hu hgu
  rw [(key q u g' hq hu hgu).2]
  exact .inr hMg
 ·intro j u hj
  have hj1:=hnm j u hj
  have hj0:j=0:=by simp at hj1; omega
  subst hj0
  rw [a1] at hj
  injection hj with hj
  subst hj
  exact ⟨_,m0,.inr ⟨_,_,_,_,_,_,Nat.lt_succ_self _,.inr ⟨rfl,rfl⟩⟩⟩
 ·exact CV.rw_mk m1 (by omega) a3 (.inr ⟨g,rfl⟩)
end Go.Proofs.YtldiagnbagpliaaGreatDoor
namespace Go.Proofs.YtldiagnbagpliaaGreatDoor
open Go Go.Lib Go.RowKit
set_option linter.unusedVariables false
set_option linter.unusedSimpArgs false
theorem zero_oneS:∃ i z,Tryz.prog.info? 59=some i∧i.zero=some z∧i.size=3∧z.cells.size=3∧∀ v ∈ z.cells.toList,v.oneCell'=true:=by
 have h:(Tryz.prog.info? 59).map (fun i=>(i.zero.map (fun z=>(z.cells.size,z.cells.toList.all fun v=>v.oneCell')),i.size))=some (some (3,true),3):=by kernel_rfl
 cases e:Tryz.prog.info? 59 with
 | none=>rw [e] at h; cases h
 | some i =>
  rw [e] at h
  simp only [Option.map_some,Option.some.injEq,Prod.mk.injEq] at h
  obtain ⟨h1,h2⟩:=h
  cases hz:i.zero with
  | none=>rw [hz] at h1; cases h1
  | some z =>
   rw [hz] at h1
   simp only [Option.map_some,Option.some.injEq,Prod.mk.injEq] at h1
   exact ⟨i,z,rfl,hz,h2,h1.1,fun v hv=>List.all_eq_true.1 h1.2 v hv⟩
theorem zero_onceS (a:Array Value) (h:a.size=3):(Builtin.zeroCells a 1).toList=a.toList:=by
 unfold Builtin.zeroCells
 apply List.ext_getElem
 ·simp
 ·intro i h1 h2
  simp only [Array.length_toList] at h2
  simp [Nat.mod_eq_of_lt h2,h2]
theorem run_clear1S {P:Program} (w:World) (t e ty:TypeId) (z:Value) (ht:P.underlying t=some (.slice e)) (hv:∀ w,(zeroValue e).run P w=.ok z w) (hz:z.cells.size=3) (h1:∀ v ∈ z.cells.toList,v.oneCell'=true) (b o c:Nat)
  (hc:∀ j,j < 3→(w.cell? ⟨b,o+j,none⟩).isSome=true) (hf:∀ j,j < 3→w.frozen? ⟨b,o+j,none⟩=false) :
  (Builtin.clear_ #[t] ty #[.slice (some ⟨b,o,none⟩) 1 c]).run P w=.ok (.tuple #[]) (w.setCells b o z.cells.toList):=by
 have hst:=run_storeCells_cells (P:=P) b o z.cells.toList 0 w (by simpa [hz] using hc) (by simpa [hz] using hf) h1
 simp only [Nat.add_zero] at hst
 simp [Builtin.clear_,run_underlying ht,hv,zero_onceS _ hz,hst]
set_option maxHeartbeats 4000000 in
set_option maxRecDepth 1000000 in
theorem del_walkS (b n c i:Nat) (cs:List Value) (w:World) (hi:i < n) (hnc:n≤c) (hc63:c≤9223372036854775807) (hcl:cs.length=n*3)
  (hcs:∀ j v,cs[j]?=some v→w.cell? ⟨b,j,none⟩=some v) (hfz:∀ j,j < n*3→w.frozen? ⟨b,j,none⟩=false) (h1c:∀ v ∈ cs,v.oneCell'=true) :
  Calls Tryz.prog 73 #[.slice (some ⟨b,0,none⟩) n c,.int .i64 i,.int .i64 ((i:Int)+1)] w fun e w' =>
   e=.returned (.slice (some ⟨b,0,none⟩) (n - 1) c)∧∃ zl:List Value,zl.length=3∧(∀ v ∈ zl,v.oneCell'=true)∧w'=(w.drew.setCells b (i*3) (cs.drop ((i+1)*3))).setCells b ((n - 1)*3) zl:=by
 have mixed:Tryz.prog.follows .mixedOrders=true:=by kernel_rfl
 obtain ⟨i0,z0,hi0,hz0,hzs,hzc,hz1⟩:=zero_oneS
 obtain ⟨news,hnews⟩:∃ news,news=cs.drop ((i+1)*3):=⟨_,rfl⟩
 have hlen:news.length=(n - (i+1))*3:=by rw [hnews,List.length_drop,hcl,Nat.sub_mul]
 have hget:∀ t u,news[t]?=some u→w.cell? ⟨b,(i+1)*3+t,none⟩=some u:=by
  intro t u hu
  rw [hnews,List.getElem?_drop] at hu
  exact hcs _ _ hu
 have hsome:∀ j,j < n*3→(w.cell? ⟨b,j,none⟩).isSome=true:=fun j hj=>by
  rw [hcs j _ (List.getElem?_eq_getElem (show j < cs.length by omega))]; rfl
 obtain ⟨A,hA,hsrc⟩:∃ A:Addr,(if c=i+1 then some (⟨b,0,none⟩:Addr) else some ⟨b,(i+1)*3,none⟩)=some A∧Hid (∀ t u,news[t]?=some u→w.drew.cell? (A.add t)=some u):=by
  by_cases h:c=i+1
  ·refine ⟨⟨b,0,none⟩,by simp [h],fun t u hu=>?_⟩
   have h0:news.length=0:=by rw [hlen,show n - (i+1)=0 by omega,Nat.zero_mul]
   rw [List.length_eq_zero_iff.1 h0] at hu
   simp at hu
  ·refine ⟨⟨b,(i+1)*3,none⟩,by simp [h],fun t u hu=>?_⟩
   rw [Addr.add_lit]
   exact hget t u hu
 have s1:Hid (news.length=(n - (i+1))*3):=hlen
 have s2:Hid (∀ u ∈ news,u.oneCell'=true):=by
  intro u hu
  rw [hnews] at hu
  exact h1c u (List.mem_of_mem_drop hu)
 have hin:i*3+(n - (i+1))*3≤n*3:=by rw [← Nat.add_mul]; exact Nat.mul_le_mul_right _ (by omega)
 have s3:Hid (∀ t,t < news.length→(w.drew.cell? ⟨b,0+i*3+t,none⟩).isSome=true∧w.drew.frozen? ⟨b,0+i*3+t,none⟩=false):=by
  intro t ht
  rw [hlen] at ht
  rw [Nat.zero_add]
  exact ⟨hsome _ (by omega),hfz _ (by omega)⟩
 obtain ⟨W1,hW1⟩:∃ W1,W1=w.drew.setCells b (0+i*3) news:=⟨_,rfl⟩
 have hW1c:∀ a,(w.cell? a).isSome=true→(W1.cell? a).isSome=true:=fun a ha=>by rw [hW1]; exact World.isSome_setCells _ _ _ _ _ ha
 have hW1f:∀ a,W1.frozen? a=w.frozen? a:=fun a=>by rw [hW1]; exact World.frozen?_setCells _ _ _ _ _
 have hend:∀ j,j < 3→(n - 1)*3+j < n*3:=fun j hj=>by
  have:(n - 1)*3+3=n*3:=by rw [← Nat.succ_mul]; congr 1; omega
  omega
 have hcl2:∀ ty,(Builtin.clear_ #[22] ty #[.slice (some ⟨b,(i+(n - (i+1)))*3,none⟩) (n - (i+(n - (i+1)))) (c - (i+(n - (i+1))))]).run Tryz.prog W1=.ok (.tuple #[]) (W1.setCells b ((n - 1)*3) z0.cells.toList):=fun ty=>by
  rw [show i+(n - (i+1))=n - 1 by omega,show n - (n - 1)=1 by omega]
  exact run_clear1S W1 _ _ ty z0 t_itS (fun w=>by simp [zeroValue,typeInfo,hi0,hz0]) hzc hz1 b _ _ (fun j hj=>hW1c _ (hsome _ (hend j hj))) (fun j hj=>by rw [hW1f]; exact hfz _ (hend j hj))
 have hW:Hid (W1=w.drew.setCells b (0+i*3) news):=hW1
 have hic:i≤c:=by omega
 have hjc:i+1≤c:=by omega
 have hbnd:0≤(i:Int)+1∧(i:Int)+1≤(n:Int):=by omega
 have hni:¬ ((i:Int)=(i:Int)+1):=by omega
 obtain ⟨zl,hzl⟩:∃ zl,zl=z0.cells.toList:=⟨_,rfl⟩
 rw [← hzl] at hcl2
 have fin:∃ zl':List Value,zl'.length=3∧(∀ v ∈ zl',v.oneCell'=true)∧W1.setCells b ((n - 1)*3) zl=(w.drew.setCells b (i*3) (cs.drop ((i+1)*3))).setCells b ((n - 1)*3) zl' :=
  ⟨zl,by rw [hzl,Array.length_toList,hzc],by rw [hzl]; exact hz1,by rw [hW1,hnews,Nat.zero_add]⟩
 clear hzl hz1 hzc hz0
 clear hW1 hW1c hW1f hsome hget hnews hlen hcs hfz h1c hin hend
 go_enter Tryz.func73,Tryz.ntmps73
 go_wp2_with fail
 go_region_law_o (refine step_append_room rfl (.tmp 22) (.tmp 25) 22 rfl 59 i0 3 t_itS hi0 hzs b 0 i c (by simp [Act.eval,Act.put]) A (n - (i+1)) (c - (i+1)) news (by simp [Act.eval,Act.put]) s1.out hsrc.out s2.out (by omega) s3.out ?_; rw [← hW.out])
 go_wp2
 go_ret
 exact ⟨by rw [show i+(n - (i+1))=n - 1 by omega]; rfl,fin⟩
def sdelS_s:SpH
 | [.rw 0 3 n,.int .i64 i,.int .i64 j],[.row 59 3 xs]=>some ((((n=xs.length∧0≤i)∧i < n)∧j=i+1)∧n≤900,.rw 1 3 (n - 1),[.gone,.row 59 3 (xs.take i.toNat++xs.drop (i.toNat+1))])
 | _,_=>none
set_option maxHeartbeats 1000000 in
theorem sdelS_ok (gl:Glob):HOK Tryz.prog gl 73 sdelS_s:=by
 refine ⟨fok Tryz.func73 (by kernel_rfl) (by kernel_rfl),?_⟩
 intro xs0 bs pre r bs2 h hp
 unfold sdelS_s at h
 split at h
 rotate_left
 ·cases h
 rename_i n i j xs
 simp only [Option.some.injEq,Prod.mk.injEq] at h
 obtain ⟨h1,h2,h3⟩:=h
 subst h1 h2 h3
 obtain ⟨⟨⟨⟨hn,i0⟩,i1⟩,hj⟩,hbg⟩:=hp
 subst hn hj
 intro w S m vs hG hA hnm hheld hinj hv
 have H0:=hheld 0 _ rfl
 have hlt:59 < 1000000:=by decide
 obtain ⟨A,c,a1,a2,a3,a4,a5,V,b1,b2,b3,b4,b5⟩:=H0.vals
 rw [rowNm_lo (Nat.lt_trans hlt (by decide))] at b2
 obtain ⟨g,cur,fr,rfl,f1,f2,f3,f4⟩:=a5.resolve_left (fun h=>by omega)
 have hfr:=f2.lt hlt
 subst hfr
 rw [rowTy_lt hlt] at f1
 have hg:g < w.heap.size:=(Array.getElem?_eq_some_iff.1 f1).1
 simp only [CVl] at hv
 obtain ⟨u1,us1,v1,hv1,u2,us2,v2,hv2,u3,us3,v3,hv3,v4⟩:=hv
 subst v4 v3 v2
 have hv1:=cv_rowS hv1 a1
 simp only [CV] at hv2 hv3
 obtain ⟨hv2,_⟩:=hv2
 obtain ⟨hv3,_⟩:=hv3
 subst hv1 hv2 hv3
 obtain ⟨k,rfl⟩:∃ k:Nat,i=k:=⟨i.toNat,by omega⟩
 have hvs:vs=#[.slice (some ⟨g,0,none⟩) xs.length c,.int .i64 k,.int .i64 ((k:Int)+1)]:=by apply Array.ext'; simpa using v1
 subst hvs
 have hk:k < xs.length:=by omega
 rw [Int.toNat_natCast]
 have a3':c≤9223372036854775807:=by unfold maxLen at a3; omega
 have hcur:cur.toList.take (xs.length*3)=V:=by
  obtain ⟨g2,cur2,fr2,q1,q2,_,_,q5⟩:=b4.resolve_left (fun h=>by cases h.1)
  injection q1 with q1
  injection q1 with q1
  subst q1
  rw [rowTy_lt hlt,f1] at q2
  injection q2 with q2
  injection q2 with q2
  subst q2; exact q5
 have hcl:cur.size=c*3:=f3
 have hle:xs.length*3≤c*3:=Nat.mul_le_mul_right _ a2
 have hfz:∀ j,j < xs.length*3→w.frozen? ⟨g,j,none⟩=false:=fun j hj=>by simp [World.frozen?,f1]
 refine (del_walkS g xs.length c k V w hk a2 a3' b1 (fun j v h=>b5 g rfl j v h) hfz b3).mono ?_
 rintro e w' ⟨rfl,zl,z1,z2,rfl⟩
 have hnn:(xs.length - 1)*3+3=xs.length*3:=by rw [← Nat.succ_mul]; congr 1; omega
 have hkk:(k+1)*3≤xs.length*3:=Nat.mul_le_mul_right _ (by omega)
 have hk1:(k+1)*3=k*3+3:=Nat.succ_mul _ _
 obtain ⟨L,hL⟩:∃ L,L=cur.toList:=⟨_,rfl⟩
 have hLl:L.length=c*3:=by rw [hL,Array.length_toList]; exact f3
 rw [← hL] at hcur
 have q1:w.drew.heap[g]?=some (.cells L.toArray 59 (0,0)):=by rw [hL,Array.toArray_toList]; exact f1
 have hdl:(V.drop ((k+1)*3)).length=xs.length*3 - (k+1)*3:=by rw [List.length_drop,b1]
 obtain ⟨D,hD⟩:∃ D,D=V.drop ((k+1)*3):=⟨_,rfl⟩
 rw [← hD] at hdl ⊢
 have w2:=setCells_heapS g 59 (0,0) D (k*3) w.drew L q1 (by omega)
 have hpl:(putLS (k*3) D L).length=L.length:=putL_lenS (by omega)
 have w3:=setCells_heapS g 59 (0,0) zl ((xs.length - 1)*3) _ _ w2 (by omega)
 obtain ⟨s1,s2,s3,s4⟩:=setCells_restS g zl ((xs.length - 1)*3) (w.drew.setCells g (k*3) D)
 obtain ⟨s5,s6,s7,s8⟩:=setCells_restS g D (k*3) w.drew
 have hpl2:(putLS ((xs.length - 1)*3) zl (putLS (k*3) D L)).length=L.length:=by rw [putL_lenS (by omega)]; exact hpl
 have htk:(putLS ((xs.length - 1)*3) zl (putLS (k*3) D L)).take ((xs.length - 1)*3)=V.take (k*3)++D:=by
  have e1:(putLS ((xs.length - 1)*3) zl (putLS (k*3) D L)).take ((xs.length - 1)*3)=(putLS (k*3) D L).take ((xs.length - 1)*3):=by
   unfold putLS
   rw [List.append_assoc,List.take_append_of_le_length (by rw [List.length_take]; unfold putLS at hpl; omega),List.take_take,Nat.min_self]
  rw [e1,putL_takeS (by omega) (by omega)]
  congr 1
  rw [← hcur,List.take_take,Nat.min_eq_left (by omega)]
 have hoth:∀ b,b≠g→((w.drew.setCells g (k*3) D).setCells g ((xs.length - 1)*3) zl).heap[b]?=w.heap[b]?:=fun b hb=>by
  rw [setCells_otherS g _ _ _ b hb,setCells_otherS g _ _ _ b hb]; rfl
 generalize hW':(w.drew.setCells g (k*3) D).setCells g ((xs.length - 1)*3) zl=w' at *
 have hzl:(xs.take k++xs.drop (k+1)).length=xs.length - 1:=by simp only [List.length_append,List.length_take,List.length_drop]; omega
 have hz:∀ z ∈ xs.take k++xs.drop (k+1),z.length=3:=fun z hz=>by
  rcases List.mem_append.1 hz with hz | hz
  ·exact a4 z (List.mem_of_mem_take hz)
  ·exact a4 z (List.mem_of_mem_drop hz)
 obtain ⟨t1,_⟩:=flat_take10S (zs:=xs) k a4
 obtain ⟨_,t2⟩:=flat_take10S (zs:=xs) (k+1) a4
 have hct:CVl S (xs.take k++xs.drop (k+1)).flatten noNm (V.take (k*3)++D):=by
  rw [List.flatten_append,t1,t2,hD]
  exact (b2.take _).append (b2.drop _)
 have hon:∀ v ∈ V.take (k*3)++D,v.oneCell'=true:=fun v hv=>by
  rcases List.mem_append.1 hv with hv | hv
  ·exact b3 v (List.mem_of_mem_take hv)
  ·rw [hD] at hv; exact b3 v (List.mem_of_mem_drop hv)
 have m0:((m.set 0 (.iface 0 (.slice none (xs.length+1) 0))).set 1 (.iface 0 (.slice (some ⟨g,0,none⟩) (xs.length - 1) c))) 0=some (.iface 0 (.slice none (xs.length+1) 0)):=by
  rw [Nm.set_ne _ _ (by decide),Nm.set_same]
 have m1:((m.set 0 (.iface 0 (.slice none (xs.length+1) 0))).set 1 (.iface 0 (.slice (some ⟨g,0,none⟩) (xs.length - 1) c))) 1=some (.iface 0 (.slice (some ⟨g,0,none⟩) (xs.length - 1) c)):=Nm.set_same _ _ _
 have hMg:Mof 1 m g:=⟨0,_,by decide,a1,rfl⟩
 have key:∀ (q:Nat) (u:Value) (g':Nat),q < 2→((m.set 0 (.iface 0 (.slice none (xs.length+1) 0))).set 1 (.iface 0 (.slice (some ⟨g,0,none⟩) (xs.length - 1) c))) q=some u→bk u=some g'→q=1∧g'=g:=by
  intro q u g' hq hu hgu
  match q,hq with
  | 0,_ =>
   rw [m0] at hu; injection hu with hu; subst hu
   simp [bk] at hgu
  | 1,_ =>
   rw [m1] at hu; injection hu with hu; subst hu
   simp only [bk,Option.some.injEq] at hgu
   exact ⟨rfl,hgu.symm⟩
 refine ⟨_,S,(m.set 0 (.iface 0 (.slice none (xs.length+1) 0))).set 1 (.iface 0 (.slice (some ⟨g,0,none⟩) (xs.length - 1) c)),rfl,s1.trans s5,s2.trans s6,s3.trans s7,by rw [s4,s8]; exact Nat.le_refl _,.refl _,fun b hb hM=>⟨hoth b (fun e=>hM (e ▸ hMg)),fun _=>rfl⟩,fun b o v h=>?_,fun q b hq=>?_,?_,?_,?_,?_⟩
 ·obtain ⟨k1,k2⟩:=hA b o v h
  have hb:b≠g:=fun e=>by rw [e,f4 o] at h; cases h
  exact ⟨by rw [World.cell?_of_block (w:=w) (hoth b hb)]; exact k1,k2⟩
 ·match q,hq with
  | 0,hq =>
   simp only [List.getElem?_cons_zero,Option.some.injEq] at hq
   subst hq
   exact ⟨_,m0,fun g' hg'=>by simp [bk] at hg'⟩
  | 1,hq =>
   simp only [List.getElem?_cons_succ,List.getElem?_cons_zero,Option.some.injEq] at hq
   subst hq
   refine ⟨some ⟨g,0,none⟩,c,by rw [hzl]; exact m1,by rw [hzl]; omega,a3,.inr ⟨g,_,(0,0),rfl,by rw [rowTy_lt hlt]; exact w3,.none,by simp only [List.size_toArray]; omega,f4,?_⟩⟩
   rw [rowNm_lo (Nat.lt_trans hlt (by decide))]
   refine row_of_flat hz hct hon ?_
   rw [hzl]; simpa using htk
  | q+2,hq=>simp at hq
 ·intro q q' u u' g' hq hq' hqq hu hu' hgu hgu'
  have:=(key q u g' hq hu hgu).1
  have:=(key q' u' g' hq' hu' hgu').1
  omega
 ·intro q u g' hq hu hgu
  rw [(key q u g' hq hu hgu).2]
  exact .inr hMg
 ·intro j u hj
  have hj1:=hnm j u hj
  have hj0:j=0:=by simp at hj1; omega
  subst hj0
  rw [a1] at hj
  injection hj with hj
  subst hj
  exact ⟨_,m0,.inr ⟨_,_,_,_,_,_,Nat.lt_succ_self _,.inr ⟨rfl,rfl⟩⟩⟩
 ·exact CV.rw_mk m1 (by omega) a3 (.inr ⟨g,rfl⟩)
end Go.Proofs.YtldiagnbagpliaaGreatDoor
namespace Go.Proofs.YtldiagnbagpliaaGreatDoor
open Go
set_option linter.unusedVariables false
set_option linter.unusedSimpArgs false
def remE (l:LLR) (nm:ByteArray) (fr:Int):Int:=if rgV l≠0 then rgV l else if stH l nm=false then 6 else if pdH (seD l nm) fr=false then 6 else 0
def remP (ps:LLR) (fr:Int):LLR:=ps.take (pdN ps fr)++ps.drop (pdN ps fr+1)
def remL (l:LLR) (nm:ByteArray) (fr:Int):LLR:=if (((remP (seD l nm) fr).length:Nat):Int)=0 then l.take (stN l nm)++l.drop (stN l nm+1) else setEl l (stN l nm) 2 [.sl 7 false (remP (seD l nm) fr)]
def remO (l:LLR) (nm:ByteArray) (fr:Int):LLR:=if remE l nm fr=0 then remL l nm fr else []
theorem rm_err {l:LLR} {nm:ByteArray} {fr e:Int} (h:remE l nm fr=e) (he:e≠0):((remO l nm fr=[]∧True)∧e=remE l nm fr∧True)∧True :=
 ⟨⟨⟨if_neg (by rw [h]; exact he),trivial⟩,h.symm,trivial⟩,trivial⟩
theorem rm_ok {l X:LLR} {nm:ByteArray} {fr:Int} (h:remE l nm fr=0) (hx:X=remL l nm fr):(((True∧X=remO l nm fr)∧True)∧0=remE l nm fr∧True)∧True :=
 ⟨⟨⟨⟨trivial,by unfold remO; rw [if_pos h]; exact hx⟩,trivial⟩,h.symm,trivial⟩,trivial⟩
theorem setEl_td (l:LLR) (i fo:Nat) (ys:List AV):(setEl l i fo ys).take i=l.take i∧(setEl l i fo ys).drop (i+1)=l.drop (i+1) :=
 ⟨List.take_set_of_le (Nat.le_refl _),List.drop_set_of_lt (by omega)⟩
theorem rem_len {ps:LLR} {fr:Int} (h:pdN ps fr < ps.length):(remP ps fr).length=ps.length - 1:=by
 unfold remP; simp only [List.length_append,List.length_take,List.length_drop]; omega
def gremove_s:SpH
 | [.agg [.sl 3 g l],.str nm,.int .i64 fr],[]=>some (StsP l,.tup [.agg [.sl 3 false (remO l nm fr)],.int .i64 (remE l nm fr)],[])
 | _,_=>none
def gremove_T (rgV:LLR→Int) (remO:LLR→ByteArray→Int→LLR) (remE:LLR→ByteArray→Int→Int) (p1R:List AV→Bool) (p2R:List AV→Bool) (p3R:List AV→Bool) (p4R:List AV→Bool) (p5R:List AV→Bool):Prop :=
  ∀ (g:Bool) (l:List (List AV)) (fr:Int) (nm:ByteArray),StsP l→True∧True→nm.size.le (9223372036854775807:Nat)→IR9 fr→StsP l∧bif decide ¬rgV l=(0:Int) then ((remO l nm fr=[]∧True)∧rgV l=remE l nm fr∧True)∧True else StsP l∧(((SrcS l∧l.length=l.length)∧mapLL (rnT (rnP [(2021:Nat)] [(1:Nat)])) (mapLL (rnT (rnP [(1:Nat)] [(2021:Nat)])) (hol l
 (stN l nm) (1:Nat)))=hol l (stN l nm) (1:Nat))∧hoP l (stN l nm)=hoP l (stN l nm))∧bif !stH l nm then ((remO l nm fr=[]∧True)∧(6:Int)=remE l nm fr∧True)∧True else bif decide ((0:Int)≤(↑(stN l nm):Int)∧(↑(stN l nm):Int) < (↑l.length:Int)) then bif decide (l.length=(mapLL (rnT (rnP [(1:Nat)] [(2021:Nat)])) (mapLL (rnT (rnP [(2021:Nat)] [(1:Nat)])) (mapLL (rnT (rnP [(1:Nat)] [(2021:Nat)])) (hol l
 (stN l nm) (1:Nat))))).length∧(↑(stN l nm):Int).toNat < (mapLL (rnT (rnP [(1:Nat)] [(2021:Nat)])) (mapLL (rnT (rnP [(2021:Nat)] [(1:Nat)])) (mapLL (rnT (rnP [(1:Nat)] [(2021:Nat)])) (hol l (stN l nm) (1:Nat))))).length) then ∃ n s n_1,List.take [AV.int .i64 n,.str s,.rw (2021:Nat) (7:Nat) n_1].length (List.drop (0:Nat) ((mapLL (rnT (rnP [(1:Nat)] [(2021:Nat)])) (mapLL (rnT (rnP [(2021:Nat)]
 [(1:Nat)])) (mapLL (rnT (rnP [(1:Nat)] [(2021:Nat)])) (hol l (stN l nm) (1:Nat))))).getD (↑(stN l nm):Int).toNat []))=[AV.int .i64 n,.str s,.rw (2021:Nat) (7:Nat) n_1]∧(SrcD (hoP l (stN l nm))∧n_1=List.length (hoP l (stN l nm)))∧bif !pdH (hoP l (stN l nm)) fr then ((remO l nm fr=[]∧True)∧(6:Int)=remE l nm fr∧True)∧True else bif decide (l.length=(mapLL (rnT (rnP [(1:Nat)] [(2021:Nat)])) (mapLL (rnT
 (rnP [(2021:Nat)] [(1:Nat)])) (mapLL (rnT (rnP [(1:Nat)] [(2021:Nat)])) (hol l (stN l nm) (1:Nat))))).length∧(↑(stN l nm):Int).toNat < (mapLL (rnT (rnP [(1:Nat)] [(2021:Nat)])) (mapLL (rnT (rnP [(2021:Nat)] [(1:Nat)])) (mapLL (rnT (rnP [(1:Nat)] [(2021:Nat)])) (hol l (stN l nm) (1:Nat))))).length) then ∃ n,List.take [AV.rw (2021:Nat) (7:Nat) n].length (List.drop (2:Nat) ((mapLL (rnT (rnP [(1:Nat)]
 [(2021:Nat)])) (mapLL (rnT (rnP [(2021:Nat)] [(1:Nat)])) (mapLL (rnT (rnP [(1:Nat)] [(2021:Nat)])) (hol l (stN l nm) (1:Nat))))).getD (↑(stN l nm):Int).toNat []))=[AV.rw (2021:Nat) (7:Nat) n]∧bif decide (rng .i64 ((↑(pdN (hoP l (stN l nm)) fr):Int)+(1:Int))) then ((((n=List.length (hoP l (stN l nm))∧(0:Int)≤(↑(pdN (hoP l (stN l nm)) fr):Int))∧(↑(pdN (hoP l (stN l nm)) fr):Int) <
 (↑n:Int))∧(↑(pdN (hoP l (stN l nm)) fr):Int)+(1:Int)=(↑(pdN (hoP l (stN l nm)) fr):Int)+(1:Int))∧n≤(900:Nat))∧bif decide (l.length=(mapLL (rnT (rnP [(1:Nat)] [(2021:Nat)])) (mapLL (rnT (rnP [(2021:Nat)] [(1:Nat)])) (mapLL (rnT (rnP [(1:Nat)] [(2021:Nat)])) (hol l (stN l nm) (1:Nat))))).length∧(↑(stN l nm):Int).toNat < (mapLL (rnT (rnP [(1:Nat)] [(2021:Nat)])) (mapLL (rnT (rnP [(2021:Nat)]
 [(1:Nat)])) (mapLL (rnT (rnP [(1:Nat)] [(2021:Nat)])) (hol l (stN l nm) (1:Nat))))).length) then bif decide (l.length=(setEl (mapLL (rnT (rnP [(1:Nat)] [(2021:Nat)])) (mapLL (rnT (rnP [(2021:Nat)] [(1:Nat)])) (mapLL (rnT (rnP [(1:Nat)] [(2021:Nat)])) (hol l (stN l nm) (1:Nat))))) (↑(stN l nm):Int).toNat (2:Nat) [AV.rw (1054:Nat) (7:Nat) (n - (1:Nat))]).length∧(↑(stN l nm):Int).toNat < (setEl (mapLL
 (rnT (rnP [(1:Nat)] [(2021:Nat)])) (mapLL (rnT (rnP [(2021:Nat)] [(1:Nat)])) (mapLL (rnT (rnP [(1:Nat)] [(2021:Nat)])) (hol l (stN l nm) (1:Nat))))) (↑(stN l nm):Int).toNat (2:Nat) [AV.rw (1054:Nat) (7:Nat) (n - (1:Nat))]).length) then ∃ n_2,List.take [AV.rw (1054:Nat) (7:Nat) n_2].length (List.drop (2:Nat) ((setEl (mapLL (rnT (rnP [(1:Nat)] [(2021:Nat)])) (mapLL (rnT (rnP [(2021:Nat)] [(1:Nat)]))
 (mapLL (rnT (rnP [(1:Nat)] [(2021:Nat)])) (hol l (stN l nm) (1:Nat))))) (↑(stN l nm):Int).toNat (2:Nat) [AV.rw (1054:Nat) (7:Nat) (n - (1:Nat))]).getD (↑(stN l nm):Int).toNat []))=[AV.rw (1054:Nat) (7:Nat) n_2]∧bif decide ((↑n_2:Int)=(0:Int)) then bif decide (rng .i64 ((↑(stN l nm):Int)+(1:Int))) then ((((l.length=(mapLL (killA (2021:Nat)) (mapLL (frsA (1054:Nat) (7:Nat) (List.take (↑(pdN (hoP l
 (stN l nm)) fr):Int).toNat (hoP l (stN l nm))++List.drop ((↑(pdN (hoP l (stN l nm)) fr):Int).toNat+(1:Nat)) (hoP l (stN l nm)))) (setEl (mapLL (rnT (rnP [(1:Nat)] [(2021:Nat)])) (mapLL (rnT (rnP [(2021:Nat)] [(1:Nat)])) (mapLL (rnT (rnP [(1:Nat)] [(2021:Nat)])) (hol l (stN l nm) (1:Nat))))) (↑(stN l nm):Int).toNat (2:Nat) [AV.rw (1054:Nat) (7:Nat) (n - (1:Nat))]))).length∧(0:Int)≤(↑(stN l
 nm):Int))∧(↑(stN l nm):Int) < (↑l.length:Int))∧(↑(stN l nm):Int)+(1:Int)=(↑(stN l nm):Int)+(1:Int))∧l.length≤(900:Nat))∧bif decide (l.length - (1:Nat)=(List.take (↑(stN l nm):Int).toNat (mapLL (killA (2021:Nat)) (mapLL (frsA (1054:Nat) (7:Nat) (List.take (↑(pdN (hoP l (stN l nm)) fr):Int).toNat (hoP l (stN l nm))++List.drop ((↑(pdN (hoP l (stN l nm)) fr):Int).toNat+(1:Nat)) (hoP l (stN l
 nm)))) (setEl (mapLL (rnT (rnP [(1:Nat)] [(2021:Nat)])) (mapLL (rnT (rnP [(2021:Nat)] [(1:Nat)])) (mapLL (rnT (rnP [(1:Nat)] [(2021:Nat)])) (hol l (stN l nm) (1:Nat))))) (↑(stN l nm):Int).toNat (2:Nat) [AV.rw (1054:Nat) (7:Nat) (n - (1:Nat))])))++List.drop ((↑(stN l nm):Int).toNat+(1:Nat)) (mapLL (killA (2021:Nat)) (mapLL (frsA (1054:Nat) (7:Nat) (List.take (↑(pdN (hoP l (stN l nm))
 fr):Int).toNat (hoP l (stN l nm))++List.drop ((↑(pdN (hoP l (stN l nm)) fr):Int).toNat+(1:Nat)) (hoP l (stN l nm)))) (setEl (mapLL (rnT (rnP [(1:Nat)] [(2021:Nat)])) (mapLL (rnT (rnP [(2021:Nat)] [(1:Nat)])) (mapLL (rnT (rnP [(1:Nat)] [(2021:Nat)])) (hol l (stN l nm) (1:Nat))))) (↑(stN l nm):Int).toNat (2:Nat) [AV.rw (1054:Nat) (7:Nat) (n - (1:Nat))])))).length) then (((True∧List.take (↑(stN l
 nm):Int).toNat (mapLL (killA (2021:Nat)) (mapLL (frsA (1054:Nat) (7:Nat) (List.take (↑(pdN (hoP l (stN l nm)) fr):Int).toNat (hoP l (stN l nm))++List.drop ((↑(pdN (hoP l (stN l nm)) fr):Int).toNat+(1:Nat)) (hoP l (stN l nm)))) (setEl (mapLL (rnT (rnP [(1:Nat)] [(2021:Nat)])) (mapLL (rnT (rnP [(2021:Nat)] [(1:Nat)])) (mapLL (rnT (rnP [(1:Nat)] [(2021:Nat)])) (hol l (stN l nm) (1:Nat))))) (↑(stN
 l nm):Int).toNat (2:Nat) [AV.rw (1054:Nat) (7:Nat) (n - (1:Nat))])))++List.drop ((↑(stN l nm):Int).toNat+(1:Nat)) (mapLL (killA (2021:Nat)) (mapLL (frsA (1054:Nat) (7:Nat) (List.take (↑(pdN (hoP l (stN l nm)) fr):Int).toNat (hoP l (stN l nm))++List.drop ((↑(pdN (hoP l (stN l nm)) fr):Int).toNat+(1:Nat)) (hoP l (stN l nm)))) (setEl (mapLL (rnT (rnP [(1:Nat)] [(2021:Nat)])) (mapLL (rnT (rnP
 [(2021:Nat)] [(1:Nat)])) (mapLL (rnT (rnP [(1:Nat)] [(2021:Nat)])) (hol l (stN l nm) (1:Nat))))) (↑(stN l nm):Int).toNat (2:Nat) [AV.rw (1054:Nat) (7:Nat) (n - (1:Nat))])))=remO l nm fr)∧True)∧(0:Int)=remE l nm fr∧True)∧True else False else False else bif decide (l.length=(mapLL (killA (2021:Nat)) (mapLL (frsA (1054:Nat) (7:Nat) (List.take (↑(pdN (hoP l (stN l nm)) fr):Int).toNat (hoP l (stN l nm))
++List.drop ((↑(pdN (hoP l (stN l nm)) fr):Int).toNat+(1:Nat)) (hoP l (stN l nm)))) (setEl (mapLL (rnT (rnP [(1:Nat)] [(2021:Nat)])) (mapLL (rnT (rnP [(2021:Nat)] [(1:Nat)])) (mapLL (rnT (rnP [(1:Nat)] [(2021:Nat)])) (hol l (stN l nm) (1:Nat))))) (↑(stN l nm):Int).toNat (2:Nat) [AV.rw (1054:Nat) (7:Nat) (n - (1:Nat))]))).length) then (((True∧mapLL (killA (2021:Nat)) (mapLL (frsA (1054:Nat)
 (7:Nat) (List.take (↑(pdN (hoP l (stN l nm)) fr):Int).toNat (hoP l (stN l nm))++List.drop ((↑(pdN (hoP l (stN l nm)) fr):Int).toNat+(1:Nat)) (hoP l (stN l nm)))) (setEl (mapLL (rnT (rnP [(1:Nat)] [(2021:Nat)])) (mapLL (rnT (rnP [(2021:Nat)] [(1:Nat)])) (mapLL (rnT (rnP [(1:Nat)] [(2021:Nat)])) (hol l (stN l nm) (1:Nat))))) (↑(stN l nm):Int).toNat (2:Nat) [AV.rw (1054:Nat) (7:Nat) (n -
 (1:Nat))]))=remO l nm fr)∧True)∧(0:Int)=remE l nm fr∧True)∧True else False else False else False else False else False else False else False
theorem gremove_P:gremove_T rgV remO remE p1R p2R p3R p4R p5R:=by
 unfold gremove_T
 intro g l fr nm hp _
 intros
 have hE:remE l nm fr=remE l nm fr:=rfl
 conv at hE=>rhs; unfold remE
 refine ⟨hp,csx (fun q=>rm_err (hE.trans (if_pos q)) q) (fun q=>?_)⟩
 rw [if_neg q] at hE
 have h0:=Decidable.not_not.1 q
 have hz:=rg_zero hp h0
 obtain ⟨l60,p8⟩:=rg_len h0
 have X1:mapLL (rnT (rnP [1] [2021])) (hol l (stN l nm) 1)=hol l (stN l nm) 2021:=(flat_rn _).hol hp rfl
 have X2:mapLL (rnT (rnP [2021] [1])) (hol l (stN l nm) 2021)=hol l (stN l nm) 1:=(flat_rn _).hol hp rfl
 rw [X1,X2,X1]
 have eI:((stN l nm:Nat):Int).toNat=stN l nm:=Int.toNat_natCast _
 rw [eI]
 refine ⟨hp,⟨⟨⟨hz.src,rfl⟩,rfl⟩,rfl⟩,csplit (fun q5=>rm_err (hE.trans (if_pos (by simpa using q5))) (by decide)) (fun q5=>?_)⟩
 have q5:stH l nm=true:=by simpa using q5
 rw [if_neg (by rw [q5]; decide)] at hE
 have hlt:=stH_lt q5
 obtain ⟨k2,nm2,ps,hrow,hps⟩:=hp.fr (stN l nm) hlt
 have hP:hoP l (stN l nm)=ps:=by unfold hoP; rw [hrow]; rfl
 have hD:seD l nm=ps:=hP
 have hsrc:SrcD ps:=⟨hps,by rw [← hP]; exact hz.fa _ hlt⟩
 have hl8:ps.length≤8:=hP ▸ p8 _ hlt
 have hL:l.length=(hol l (stN l nm) 2021).length:=(hol_len _ _ _).symm
 have hg:(hol l (stN l nm) 2021).getD (stN l nm) []=[.int .i64 k2,.str nm2,.rw 2021 7 ps.length]:=by
  unfold hol; rw [hP]; exact setEl_at hlt hrow
 have eD:((pdN ps fr:Nat):Int).toNat=pdN ps fr:=Int.toNat_natCast _
 rw [hD] at hE
 rw [hP,eD]
 refine cd1 (by omega) (cd1 ⟨hL,by omega⟩ ⟨k2,nm2,ps.length,by rw [hg]; rfl,⟨hsrc,rfl⟩,csplit (fun q7=>rm_err (hE.trans (if_pos (by simpa using q7))) (by decide)) (fun q7=>?_)⟩)
 have q7:pdH ps fr=true:=by simpa using q7
 rw [if_neg (by rw [q7]; decide)] at hE
 have hjl:pdN ps fr < ps.length:=by
  have:=q7
  unfold pdH fpB at this
  rw [Bool.and_eq_true] at this
  exact of_decide_eq_true this.1
 have hlen:=rem_len hjl
 have hM:ps.take (pdN ps fr)++ps.drop (pdN ps fr+1)=remP ps fr:=rfl
 rw [hM]
 have hT:mapLL (killA 2021) (mapLL (frsA 1054 7 (remP ps fr)) (setEl (hol l (stN l nm) 2021) (stN l nm) 2 [.rw 1054 7 (ps.length - 1)]))=setEl l (stN l nm) 2 [.sl 7 false (remP ps fr)]:=by
  have h1:=st_put hp (stN l nm) 1054 (remP ps fr)
  unfold hol
  rw [setEl_twice hlt hrow,← hlen,h1,mapLL_setEl,(flat_kill _).st hp]
  rfl
 refine cd1 ⟨hL,by omega⟩ ⟨ps.length,by rw [hg]; rfl,cdI (by omega) ⟨⟨⟨⟨⟨rfl,by omega⟩,by omega⟩,rfl⟩,by omega⟩,cd1 ⟨hL,by omega⟩ (cd1 ⟨by rw [setEl_len]; exact hL,by rw [setEl_len]; omega⟩ ⟨ps.length - 1,by rw [setEl_at (by omega) hg]; rfl,?_⟩)⟩⟩
 rw [hT]
 obtain ⟨d1,d2⟩:=setEl_td l (stN l nm) 2 [.sl 7 false (remP ps fr)]
 rw [d1,d2]
 have hR:remL l nm fr=if ((ps.length - 1:Nat):Int)=0 then l.take (stN l nm)++l.drop (stN l nm+1) else setEl l (stN l nm) 2 [.sl 7 false (remP ps fr)]:=by unfold remL; rw [hD,hlen]
 refine csx (fun z=>cdI (by omega) ⟨⟨⟨⟨⟨by rw [setEl_len],by omega⟩,by omega⟩,rfl⟩,by omega⟩,cd1 (by simp only [List.length_append,List.length_take,List.length_drop]; omega) (rm_ok hE ?_)⟩) (fun z=>cd1 (by rw [setEl_len]) (rm_ok hE ?_))
 ·rw [hR,if_pos z]
 ·rw [hR,if_neg z]
def gremove_S (rgV:LLR→Int) (remO:LLR→ByteArray→Int→LLR) (remE:LLR→ByteArray→Int→Int) (p1R:List AV→Bool) (p2R:List AV→Bool) (p3R:List AV→Bool) (p4R:List AV→Bool) (p5R:List AV→Bool):Prop:=∀ (g:Bool) (l:List (List AV)) (fr:Int) (nm:ByteArray),StsP l→fnH Tryz.prog { glob:=glb,spec:=lk [(28,(gvalidR_s rgV p1R p2R p3R p4R p5R))],specH:=lk [(73,sdelS_s),(72,sdelP_s),(58,(gcop_s (Go.Proofs.YtldiagnbagpliaaGreatDoor.stN l nm))),(47,(gstB_s l (Go.Proofs.YtldiagnbagpliaaGreatDoor.stN l nm))),(61,gperB_s)],shape:=[38,50,60],slz:=[(38,[2021007]),(50,[2021007]),(60,[1054007])],nowf:=true } { nt:=71,drop:=drp [(1,49152),(2,65536),(3,786432),(4,3145728),(5,264241152),(6,268435456),(7,1073741824),(8,32212254720),(9,8761733283840),(10,8796093022208),(11,35184372088832),(12,144044819331678208),(13,4467570830351532032),(14,1171368248680556527616),(15,1180591620717411303424)],fr:=1000,kp:=[],act:=fun id=>cond (Nat.beq id 14||Nat.beq id 15) [.frz 1054,.kil 2021,.cls 1021] [] } (fun _ _=>none) 6 Tryz.f30 [.agg [.sl 3 g l],.str nm,.int .i64 fr] [] (.tup [.agg [.sl 3 false (remO l nm fr)],.int .i64 (remE l nm fr)]) []
theorem gremove_e (rgV:LLR→Int) (remO:LLR→ByteArray→Int→LLR) (remE:LLR→ByteArray→Int→Int) (p1R:List AV→Bool) (p2R:List AV→Bool) (p3R:List AV→Bool) (p4R:List AV→Bool) (p5R:List AV→Bool):gremove_T rgV remO remE p1R p2R p3R p4R p5R=gremove_S rgV remO remE p1R p2R p3R p4R p5R:=by kernel_rfl
theorem gremove_v:gremove_S rgV remO remE p1R p2R p3R p4R p5R:=Eq.mp (gremove_e ..) (gremove_P)
theorem gremove_ok:HOK Tryz.prog glb 30 gremove_s:=by
 refine ⟨fok Tryz.func30 (by kernel_rfl) (by kernel_rfl),?_⟩
 intro xs bs pre r bs2 h hp
 unfold gremove_s at h
 split at h
 ·rename_i g l nm fr
  simp only [Option.some.injEq,Prod.mk.injEq] at h
  obtain ⟨h1,h2,h3⟩:=h
  subst h1 h2 h3
  exact fnH_sound tyNil (by exact specOK rfl rfl ⟨gvalidR_ok,trivial⟩ ⟨sdelS_ok glb,sdelP_ok glb,gcop_ok (stN l nm) glb,gstB_ok l (stN l nm) glb,gperB_ok glb,trivial⟩) (by kernel_rfl) Tryz.func30 (gremove_v _ _ _ _ hp)
 ·cases h
end Go.Proofs.YtldiagnbagpliaaGreatDoor
namespace Go.Proofs.YtldiagnbagpliaaGreatDoor
open Go
set_option linter.unusedVariables false
set_option linter.unusedSimpArgs false
def eqRd (xs ys:LLR):Bool:=decide (xs.length=ys.length∧∀ i,i < xs.length→rE (xs.getD i [])=rE (ys.getD i [])∧rV (xs.getD i [])=rV (ys.getD i []))
def smP (a b:List AV):Bool:=if rE a≠rE b then false else if pC a≠pC b then false else if ¬ (pI 2 a=pI 2 b∧pI 3 a=pI 3 b∧pI 4 a=pI 4 b∧pI 5 a=pI 5 b) then false else eqRd (pB a) (pB b)
def smPs (ps qs:LLR):Bool:=decide (ps.length=qs.length∧∀ i,i < ps.length→smP (ps.getD i []) (qs.getD i [])=true)
def smS (r s:List AV):Bool:=if rE r≠rE s then false else if sNm r≠sNm s then false else smPs (sPs r) (sPs s)
def smR (l q:LLR):Bool:=decide (l.length=q.length∧∀ i,i < l.length→smS (l.getD i []) (q.getD i [])=true)
theorem eqRd_rfl (xs:LLR):eqRd xs xs=true:=decide_eq_true ⟨rfl,fun i _=>⟨rfl,rfl⟩⟩
theorem smP_rfl (a:List AV):smP a a=true:=by
 unfold smP; rw [if_neg (by simp),if_neg (by simp),if_neg (by simp)]; exact eqRd_rfl _
theorem smPs_rfl (ps:LLR):smPs ps ps=true:=decide_eq_true ⟨rfl,fun i _=>smP_rfl _⟩
theorem smS_rfl (r:List AV):smS r r=true:=by
 unfold smS; rw [if_neg (by simp),if_neg (by simp)]; exact smPs_rfl _
theorem smR_rfl (l:LLR):smR l l=true:=decide_eq_true ⟨rfl,fun i _=>smS_rfl _⟩
structure EqI (xs ys:LLR) (p:List AV→List AV→Prop) (i:Int):Prop where
 flo:0≤i
 fhi:i≤xs.length
 fl:xs.length=ys.length
 fe:∀ j:Nat,(j:Int) < i→p (xs.getD j []) (ys.getD j [])
theorem EqI.next {xs ys:LLR} {p:List AV→List AV→Prop} {i:Int} (h:EqI xs ys p i) (hi:i < xs.length) (hp:p (xs.getD i.toNat []) (ys.getD i.toNat [])):EqI xs ys p (i+1):=by
 obtain ⟨a,b,c,d⟩:=h
 refine ⟨by omega,by omega,c,fun j hj=>?_⟩
 rcases Nat.lt_or_ge j i.toNat with k | k
 ·exact d j (by omega)
 ·rw [show j=i.toNat by omega]; exact hp
def eqPr (a b:List AV):Prop:=rE a=rE b∧rV a=rV b
def eq3 (xs ys:LLR) (f g:Bool):LInv:=⟨Int,fun i=>⟨[(0,.sl 2 f xs),(1,.sl 2 g ys),(5,.int .i64 i)],[]⟩,EqI xs ys eqPr,fun i=>(xs.length - i).toNat,none⟩
def rsmRd_s (eqRd:LLR→LLR→Bool):Sp
 | [.sl 2 f xs,.sl 2 g ys]=>some (RdsP xs∧RdsP ys,.bool (eqRd xs ys))
 | _=>none
def rsmRd_T (eqRd:LLR→LLR→Bool):Prop :=
  ∀ (gl:Glob) (f g:Bool) (xs ys:List (List AV)),RdsP xs∧RdsP ys→True→True→bif decide ¬(↑xs.length:Int)=(↑ys.length:Int) then false=eqRd xs ys else (∃ x,EqI xs ys eqPr x∧(((bif f then f=true else True)∧xs=xs)∧((bif g then g=true else True)∧ys=ys)∧(0:Int)=x∧True)∧True)∧∀ (x:Int),EqI xs ys eqPr x→bif decide (x < (↑xs.length:Int)) then bif decide (0≤x∧x < (↑xs.length:Int)) then ∃ n
 n_1,List.take [AV.int .i64 n,.int .i64 n_1].length (xs.getD x.toNat [])=[AV.int .i64 n,.int .i64 n_1]∧bif decide (0≤x∧x < (↑ys.length:Int)) then ∃ n_2 n_3,List.take [AV.int .i64 n_2,.int .i64 n_3].length (ys.getD x.toNat [])=[AV.int .i64 n_2,.int .i64 n_3]∧bif !(decide (n=n_2)&&(decide (n_1=n_3)&&true)) then false=eqRd xs ys else bif decide (rng .i64 (x+(1:Int))) then ∃ y,EqI xs ys
 eqPr y∧(eq3 xs ys f g).m y < (eq3 xs ys f g).m x∧(((bif f then f=true else True)∧xs=xs)∧((bif g then g=true else True)∧ys=ys)∧x+(1:Int)=y∧True)∧True else False else False else False else true=eqRd xs ys
theorem rsmRd_P:rsmRd_T eqRd:=by
 unfold rsmRd_T
 intro gl f g xs ys ⟨hx,hy⟩ _ _
 have bf:cond f (f=true) True:=by cases f <;> trivial
 have bg:cond g (g=true) True:=by cases g <;> trivial
 have lx:=hx.sm
 refine csx (fun hl=>(decide_eq_false fun z=>hl (by rw [z.1])).symm) (fun hl=>?_)
 have hl:xs.length=ys.length:=by have:=Decidable.not_not.1 hl; omega
 refine ⟨⟨0,⟨by decide,by omega,hl,fun j h=>by omega⟩,⟨⟨bf,rfl⟩,⟨bg,rfl⟩,rfl,trivial⟩,trivial⟩,?_⟩
 rintro i ⟨h0,h1,h2,hn⟩
 refine csx (fun hi=>?_) (fun hi=>(decide_eq_true ⟨hl,fun j hj=>hn j (by omega)⟩).symm)
 obtain ⟨e,v,he,_⟩:=hx.row i.toNat (by omega)
 obtain ⟨e2,v2,he2,_⟩:=hy.row i.toNat (by omega)
 have r1:rE (xs.getD i.toNat [])=e∧rV (xs.getD i.toNat [])=v:=by rw [he]; exact ⟨rfl,rfl⟩
 have r2:rE (ys.getD i.toNat [])=e2∧rV (ys.getD i.toNat [])=v2:=by rw [he2]; exact ⟨rfl,rfl⟩
 refine cd1 (by omega) ⟨e,v,by rw [he]; rfl,cd1 (by omega) ⟨e2,v2,by rw [he2]; rfl,csplit (fun z=>?_) (fun z=>?_)⟩⟩
 ·refine (decide_eq_false fun q=>?_).symm
  have:=q.2 i.toNat (by omega)
  rw [r1.1,r1.2,r2.1,r2.2] at this
  rw [decide_eq_true this.1,decide_eq_true this.2] at z
  cases z
 ·have hp:e=e2∧v=v2:=by simpa using z
  refine cdI (by omega) ⟨i+1,EqI.next ⟨h0,h1,h2,hn⟩ hi ⟨by rw [r1.1,r2.1]; exact hp.1,by rw [r1.2,r2.2]; exact hp.2⟩,by simp only [eq3]; omega,⟨⟨bf,rfl⟩,⟨bg,rfl⟩,rfl,trivial⟩,trivial⟩
def rsmRd_S (eqRd:LLR→LLR→Bool):Prop:=∀ (gl:Glob) (f g:Bool) (xs ys:List (List AV)),RdsP xs∧RdsP ys→fnK Tryz.prog { glob:=gl,spec:=lk [],specH:=lk [],shape:=[20,24],nowf:=true } { nt:=26,drop:=drp [(1,960),(4,14336),(5,98304),(6,33423360)],tys:=[76] } (invs [(4,eq3 xs ys f g)]) 6 Tryz.f63 [.sl 2 f xs,.sl 2 g ys] (.bool (eqRd xs ys))
theorem rsmRd_e (eqRd:LLR→LLR→Bool):rsmRd_T eqRd=rsmRd_S eqRd:=by kernel_rfl
theorem rsmRd_v:rsmRd_S eqRd:=Eq.mp (rsmRd_e ..) (rsmRd_P)
theorem rsmRd_ok (gl:Glob):SOK Tryz.prog gl 63 (rsmRd_s eqRd):=by
 refine ⟨fok Tryz.func63 (by kernel_rfl) (by kernel_rfl),?_⟩
 intro xs pre r h hp
 unfold rsmRd_s at h
 split at h
 ·simp only [Option.some.injEq,Prod.mk.injEq] at h
  obtain ⟨h1,h2⟩:=h
  subst h1 h2
  exact fnK_sound (tyOf (by kernel_rfl)) (by exact specOK rfl rfl trivial trivial) (by kernel_rfl) Tryz.func63 rfl (rsmRd_v gl _ _ _ _ hp)
 ·cases h
def rsmP_s (eqRd:LLR→LLR→Bool) (smP:List AV→List AV→Bool) (pdA:Int→Bool→Int→Int→Int→Int→LLR→List AV):Sp
 | [.agg [.int .i64 t,.bool cl,.int .i64 f,.int .i64 a,.int .i64 b,.int .i64 c,.sl 2 g bs],.agg [.int .i64 t2,.bool cl2,.int .i64 f2,.int .i64 a2,.int .i64 b2,.int .i64 c2,.sl 2 g2 bs2]]=>some (RdsP bs∧RdsP bs2,.bool (smP (pdA t cl f a b c bs) (pdA t2 cl2 f2 a2 b2 c2 bs2)))
 | _=>none
def rsmP_T (eqRd:LLR→LLR→Bool) (smP:List AV→List AV→Bool) (pdA:Int→Bool→Int→Int→Int→Int→LLR→List AV):Prop :=
 ∀ (gl:Glob) (t:Int) (cl:Bool) (f a b c:Int) (g:Bool) (bs:List (List AV)) (t2:Int) (cl2:Bool) (f2 a2 b2 c2:Int) (g2:Bool) (bs2:List (List AV)),RdsP bs∧RdsP bs2→(IR9 t)∧True∧(IR9 f)∧(IR9 a)∧((-9223372036854775808:Int)≤b∧b
≤(9223372036854775807:Int))∧(IR9 c)∧True∧True→(IR9 t2)∧True∧(IR9 f2)∧(IR9 a2)∧(IR9 b2)∧((-9223372036854775808:Int) ≤
 c2∧c2≤(9223372036854775807:Int))∧True∧True→bif decide (t=t2) then bif decide (cl=cl2) then bif decide (f=f2)&&(decide (a=a2)&&(decide (b=b2)&&(decide (c=c2)&&true))) then (RdsP bs∧RdsP bs2)∧eqRd bs bs2=smP (pdA t cl f a b c bs) (pdA t2 cl2 f2 a2 b2 c2 bs2) else false=smP (pdA t cl f a b c bs) (pdA t2 cl2 f2 a2 b2 c2 bs2) else false=smP (pdA t cl f a b c bs) (pdA t2 cl2 f2 a2 b2 c2 bs2)
 else false=smP (pdA t cl f a b c bs) (pdA t2 cl2 f2 a2 b2 c2 bs2)
theorem rsmP_P:rsmP_T eqRd smP pdA:=by
 unfold rsmP_T
 intro gl t cl f a b c g bs t2 cl2 f2 a2 b2 c2 g2 bs2 hp _ _
 have u:smP (pdA t cl f a b c bs) (pdA t2 cl2 f2 a2 b2 c2 bs2)=(if t≠t2 then false else if cl≠cl2 then false else if ¬ (f=f2∧a=a2∧b=b2∧c=c2) then false else eqRd bs bs2):=rfl
 rw [u]
 refine csx (fun h1=>csplit (fun h2=>csplit (fun h3=>?_) (fun h3=>?_)) (fun h2=>?_)) (fun h1=>(if_pos h1).symm)
 ·refine ⟨hp,?_⟩
  rw [if_neg (by simpa using h1),if_neg (by simpa using h2),if_neg (by simpa using h3)]
 ·rw [if_neg (by simpa using h1),if_neg (by simpa using h2),if_pos (by simpa using h3)]
 ·rw [if_neg (by simpa using h1),if_pos (by simpa using h2)]
def rsmP_S (eqRd:LLR→LLR→Bool) (smP:List AV→List AV→Bool) (pdA:Int→Bool→Int→Int→Int→Int→LLR→List AV):Prop:=∀ (gl:Glob) (t:Int) (cl:Bool) (f a b c:Int) (g:Bool) (bs:List (List AV)) (t2:Int) (cl2:Bool) (f2 a2 b2 c2:Int) (g2:Bool) (bs2:List (List AV)),RdsP bs∧RdsP bs2→fnK Tryz.prog { glob:=gl,spec:=lk [(63,(rsmRd_s eqRd))],specH:=lk [],nowf:=true } { nt:=31,drop:=drp [(1,2147483616)],tys:=[26] } (fun _ _=>none) 6 Tryz.f27 [.agg [.int .i64 t,.bool cl,.int .i64 f,.int .i64 a,.int .i64 b,.int .i64 c,.sl 2 g bs],.agg [.int .i64 t2,.bool cl2,.int .i64 f2,.int .i64 a2,.int .i64 b2,.int .i64 c2,.sl 2 g2 bs2]] (.bool (smP (pdA t cl f a b c bs) (pdA t2 cl2 f2 a2 b2 c2 bs2)))
theorem rsmP_e (eqRd:LLR→LLR→Bool) (smP:List AV→List AV→Bool) (pdA:Int→Bool→Int→Int→Int→Int→LLR→List AV):rsmP_T eqRd smP pdA=rsmP_S eqRd smP pdA:=by kernel_rfl
theorem rsmP_v:rsmP_S eqRd smP pdA:=Eq.mp (rsmP_e ..) (rsmP_P)
theorem rsmP_ok (gl:Glob):SOK Tryz.prog gl 27 (rsmP_s eqRd smP pdA):=by
 refine ⟨fok Tryz.func27 (by kernel_rfl) (by kernel_rfl),?_⟩
 intro xs pre r h hp
 unfold rsmP_s at h
 split at h
 ·simp only [Option.some.injEq,Prod.mk.injEq] at h
  obtain ⟨h1,h2⟩:=h
  subst h1 h2
  exact fnK_sound (tyOf (by kernel_rfl)) (by exact specOK rfl rfl ⟨(rsmRd_ok gl),trivial⟩ trivial) (by kernel_rfl) Tryz.func27 rfl (rsmP_v gl _ _ _ _ _ _ _ _ _ _ _ _ _ _ _ _ hp)
 ·cases h
def sm4 (ps qs:LLR) (f g:Bool):LInv:=⟨Int,fun i=>⟨[(0,.sl 7 f ps),(1,.sl 7 g qs),(5,.int .i64 i)],[]⟩,EqI ps qs (fun a b=>smP a b=true),fun i=>(ps.length - i).toNat,none⟩
def rsmPs_s (smPs:LLR→LLR→Bool) (smP:List AV→List AV→Bool) (pdA:Int→Bool→Int→Int→Int→Int→LLR→List AV):Sp
 | [.sl 7 f ps,.sl 7 g qs]=>some (PdsP ps∧PdsP qs,.bool (smPs ps qs))
 | _=>none
def rsmPs_T (smPs:LLR→LLR→Bool) (smP:List AV→List AV→Bool) (pdA:Int→Bool→Int→Int→Int→Int→LLR→List AV) (eqRd:LLR→LLR→Bool):Prop :=
  ∀ (gl:Glob) (f g:Bool) (ps qs:List (List AV)),PdsP ps∧PdsP qs→True→True→bif decide ¬(↑ps.length:Int)=(↑qs.length:Int) then false=smPs ps qs else (∃ x,EqI ps qs (fun a b=>YtldiagnbagpliaaGreatDoor.smP a b=true) x∧(((bif f then f=true else True)∧ps=ps)∧((bif g then g=true else True)∧qs=qs)∧(0:Int)=x∧True)∧True)∧∀ (x:Int),EqI ps qs (fun a b=>YtldiagnbagpliaaGreatDoor.smP a b=true) x→bif
 decide (x < (↑ps.length:Int)) then bif decide (0≤x∧x < (↑ps.length:Int)) then ∃ n b n_1 n_2 n_3 n_4 xs,List.take [AV.int .i64 n,.bool b,.int .i64 n_1,.int .i64 n_2,.int .i64 n_3,.int .i64 n_4,.sl (2:Nat) false xs].length (ps.getD x.toNat [])=[AV.int .i64 n,.bool b,.int .i64 n_1,.int .i64 n_2,.int .i64 n_3,.int .i64 n_4,.sl (2:Nat) false xs]∧bif decide (0≤x∧x < (↑qs.length:Int)) then
 ∃ n_5 b_1 n_6 n_7 n_8 n_9 xs_1,List.take [AV.int .i64 n_5,.bool b_1,.int .i64 n_6,.int .i64 n_7,.int .i64 n_8,.int .i64 n_9,.sl (2:Nat) false xs_1].length (qs.getD x.toNat [])=[AV.int .i64 n_5,.bool b_1,.int .i64 n_6,.int .i64 n_7,.int .i64 n_8,.int .i64 n_9,.sl (2:Nat) false xs_1]∧(RdsP xs∧RdsP xs_1)∧bif !smP (pdA n b n_1 n_2 n_3 n_4 xs) (pdA n_5 b_1 n_6 n_7 n_8 n_9 xs_1) then false=smPs ps qs
 else bif decide (rng .i64 (x+(1:Int))) then ∃ y,EqI ps qs (fun a b=>YtldiagnbagpliaaGreatDoor.smP a b=true) y∧(sm4 ps qs f g).m y < (sm4 ps qs f g).m x∧(((bif f then f=true else True)∧ps=ps)∧((bif g then g=true else True)∧qs=qs)∧x+(1:Int)=y∧True)∧True else False else False else False else true=smPs ps qs
theorem rsmPs_P:rsmPs_T smPs smP pdA eqRd:=by
 unfold rsmPs_T
 intro gl f g ps qs ⟨hx,hy⟩ _ _
 have bf:cond f (f=true) True:=by cases f <;> trivial
 have bg:cond g (g=true) True:=by cases g <;> trivial
 have lx:=hx.fs
 refine csx (fun hl=>(decide_eq_false fun z=>hl (by rw [z.1])).symm) (fun hl=>?_)
 have hl:ps.length=qs.length:=by have:=Decidable.not_not.1 hl; omega
 refine ⟨⟨0,⟨by decide,by omega,hl,fun j h=>by omega⟩,⟨⟨bf,rfl⟩,⟨bg,rfl⟩,rfl,trivial⟩,trivial⟩,?_⟩
 rintro i ⟨h0,h1,h2,hn⟩
 refine csx (fun hi=>?_) (fun hi=>(decide_eq_true ⟨hl,fun j hj=>hn j (by omega)⟩).symm)
 obtain ⟨t,cl,pf,a,b,c,bs,he,hb,_⟩:=hx.fr i.toNat (by omega)
 obtain ⟨t2,cl2,pf2,a2,b2,c2,bs2,he2,hb2,_⟩:=hy.fr i.toNat (by omega)
 refine cd1 (by omega) ⟨t,cl,pf,a,b,c,bs,by rw [he]; rfl,cd1 (by omega) ⟨t2,cl2,pf2,a2,b2,c2,bs2,by rw [he2]; rfl,⟨hb,hb2⟩,csplit (fun z=>?_) (fun z=>?_)⟩⟩
 ·refine (decide_eq_false fun q=>?_).symm
  have:=q.2 i.toNat (by omega)
  rw [he,he2] at this
  rw [this] at z
  cases z
 ·have hp:smP (ps.getD i.toNat []) (qs.getD i.toNat [])=true:=by rw [he,he2]; simpa using z
  refine cdI (by omega) ⟨i+1,EqI.next ⟨h0,h1,h2,hn⟩ hi hp,by simp only [sm4]; omega,⟨⟨bf,rfl⟩,⟨bg,rfl⟩,rfl,trivial⟩,trivial⟩
def rsmPs_S (smPs:LLR→LLR→Bool) (smP:List AV→List AV→Bool) (pdA:Int→Bool→Int→Int→Int→Int→LLR→List AV) (eqRd:LLR→LLR→Bool):Prop:=∀ (gl:Glob) (f g:Bool) (ps qs:List (List AV)),PdsP ps∧PdsP qs→fnK Tryz.prog { glob:=gl,spec:=lk [(27,(rsmP_s eqRd smP pdA))],specH:=lk [],shape:=[20,24],slz:=[(20,[2]),(24,[2])],nowf:=true } { nt:=27,drop:=drp [(1,960),(4,14336),(5,98304),(6,66977792)] } (invs [(4,sm4 ps qs f g)]) 6 Tryz.f74 [.sl 7 f ps,.sl 7 g qs] (.bool (smPs ps qs))
theorem rsmPs_e (smPs:LLR→LLR→Bool) (smP:List AV→List AV→Bool) (pdA:Int→Bool→Int→Int→Int→Int→LLR→List AV) (eqRd:LLR→LLR→Bool):rsmPs_T smPs smP pdA eqRd=rsmPs_S smPs smP pdA eqRd:=by kernel_rfl
theorem rsmPs_v:rsmPs_S smPs smP pdA eqRd:=Eq.mp (rsmPs_e ..) (rsmPs_P)
theorem rsmPs_ok (gl:Glob):SOK Tryz.prog gl 74 (rsmPs_s smPs smP pdA):=by
 refine ⟨fok Tryz.func74 (by kernel_rfl) (by kernel_rfl),?_⟩
 intro xs pre r h hp
 unfold rsmPs_s at h
 split at h
 ·simp only [Option.some.injEq,Prod.mk.injEq] at h
  obtain ⟨h1,h2⟩:=h
  subst h1 h2
  exact fnK_sound tyNil (by exact specOK rfl rfl ⟨(rsmP_ok gl),trivial⟩ trivial) (by kernel_rfl) Tryz.func74 rfl (rsmPs_v gl _ _ _ _ hp)
 ·cases h
def sm3 (l q:LLR) (f g:Bool):LInv:=⟨Int,fun i=>⟨[(2,.ptr 2 0),(3,.ptr 3 0),(5,.int .i64 i)],[(2,.cells [.sl 3 f l]),(3,.cells [.sl 3 g q])]⟩,EqI l q (fun a b=>smS a b=true),fun i=>(l.length - i).toNat,none⟩
def rsmS_s (smR:LLR→LLR→Bool) (smPs:LLR→LLR→Bool):Sp
 | [.agg [.sl 3 f l],.agg [.sl 3 g q]]=>some (StsP l∧StsP q,.bool (smR l q))
 | _=>none
def rsmS_T (smR:LLR→LLR→Bool) (smPs:LLR→LLR→Bool) (smP:List AV→List AV→Bool) (pdA:Int→Bool→Int→Int→Int→Int→LLR→List AV):Prop :=
  ∀ (gl:Glob) (f g:Bool) (l q:List (List AV)),StsP l∧StsP q→True∧True→True∧True→bif decide ¬(↑l.length:Int)=(↑q.length:Int) then false=smR l q else (∃ x,EqI l q (fun a b=>smS a b=true) x∧((0:Nat)=0∧(0:Nat)=0∧(0:Int)=x∧True)∧(((bif f then f=true else True)∧l=l)∧True)∧(((bif g then g=true else True)∧q=q)∧True)∧True)∧∀ (x:Int),EqI l q (fun a b=>smS a b=true) x→bif decide (x < (↑l.length:Int))
 then bif decide (0≤x∧x < (↑l.length:Int)) then ∃ n s xs,List.take [AV.int .i64 n,.str s,.sl (7:Nat) false xs].length (l.getD x.toNat [])=[AV.int .i64 n,.str s,.sl (7:Nat) false xs]∧bif decide (0≤x∧x < (↑q.length:Int)) then ∃ n_1 s_1 xs_1,List.take [AV.int .i64 n_1,.str s_1,.sl (7:Nat) false xs_1].length (q.getD x.toNat [])=[AV.int .i64 n_1,.str s_1,.sl (7:Nat) false xs_1]∧bif decide
 ¬n=n_1 then false=smR l q else bif !decide (s=s_1) then false=smR l q else (PdsP xs∧PdsP xs_1)∧(True→bif !smPs xs xs_1 then false=smR l q else bif decide (rng .i64 (x+(1:Int))) then ∃ y,EqI l q (fun a b=>smS a b=true) y∧(sm3 l q f g).m y < (sm3 l q f g).m x∧((0:Nat)=0∧(0:Nat)=0∧x+(1:Int)=y∧True)∧(((bif f then f=true else True)∧l=l)∧True)∧(((bif g then g=true else True)∧q=q)∧True)∧True else
 False) else False else False else true=smR l q
theorem rsmS_P:rsmS_T smR smPs smP pdA:=by
 unfold rsmS_T
 intro gl f g l q ⟨hx,hy⟩ _ _
 have bf:cond f (f=true) True:=by cases f <;> trivial
 have bg:cond g (g=true) True:=by cases g <;> trivial
 have lx:=hx.fs
 refine csx (fun hl=>(decide_eq_false fun z=>hl (by rw [z.1])).symm) (fun hl=>?_)
 have hl:l.length=q.length:=by have:=Decidable.not_not.1 hl; omega
 refine ⟨⟨0,⟨by decide,by omega,hl,fun j h=>by omega⟩,by (repeat' (first | exact trivial | exact rfl | assumption | apply And.intro))⟩,?_⟩
 rintro i ⟨h0,h1,h2,hn⟩
 refine csx (fun hi=>?_) (fun hi=>(decide_eq_true ⟨hl,fun j hj=>hn j (by omega)⟩).symm)
 obtain ⟨k,nm,ps,he,hp⟩:=hx.fr i.toNat (by omega)
 obtain ⟨k2,nm2,ps2,he2,hp2⟩:=hy.fr i.toNat (by omega)
 have u:smS (l.getD i.toNat []) (q.getD i.toNat [])=(if k≠k2 then false else if nm≠nm2 then false else smPs ps ps2):=by rw [he,he2]; rfl
 have no:smS (l.getD i.toNat []) (q.getD i.toNat [])=false→false=smR l q:=fun z=>(decide_eq_false fun w=>by have:=w.2 i.toNat (by omega); rw [z] at this; cases this).symm
 refine cd1 (by omega) ⟨k,nm,ps,by rw [he]; rfl,cd1 (by omega) ⟨k2,nm2,ps2,by rw [he2]; rfl,csx (fun z=>no (by rw [u,if_pos z])) (fun z=>csplit (fun y=>no (by rw [u,if_neg z,if_pos (by simpa using y)])) (fun y=>⟨⟨hp,hp2⟩,fun _=>csplit (fun w=>no (by rw [u,if_neg z,if_neg (by simpa using y)]; simpa using w)) (fun w=>?_)⟩))⟩⟩
 exact cdI (by omega) ⟨i+1,EqI.next ⟨h0,h1,h2,hn⟩ hi (by rw [u,if_neg z,if_neg (by simpa using y)]; simpa using w),by simp only [sm3]; omega,by (repeat' (first | exact trivial | exact rfl | assumption | apply And.intro))⟩
def rsmS_S (smR:LLR→LLR→Bool) (smPs:LLR→LLR→Bool) (smP:List AV→List AV→Bool) (pdA:Int→Bool→Int→Int→Int→Int→LLR→List AV):Prop:=∀ (gl:Glob) (f g:Bool) (l q:List (List AV)),StsP l∧StsP q→fnK Tryz.prog { glob:=gl,spec:=lk [(74,(rsmPs_s smPs smP pdA))],specH:=lk [],shape:=[26,31],slz:=[(26,[7]),(31,[7])] } { nt:=52,drop:=drp [(1,16128),(4,491520),(5,3145728),(6,4290772992),(7,2251795518717952)] } (invs [(4,sm3 l q f g)]) 6 Tryz.f31 [.agg [.sl 3 f l],.agg [.sl 3 g q]] (.bool (smR l q))
theorem rsmS_e (smR:LLR→LLR→Bool) (smPs:LLR→LLR→Bool) (smP:List AV→List AV→Bool) (pdA:Int→Bool→Int→Int→Int→Int→LLR→List AV):rsmS_T smR smPs smP pdA=rsmS_S smR smPs smP pdA:=by kernel_rfl
theorem rsmS_v:rsmS_S smR smPs smP pdA:=Eq.mp (rsmS_e ..) (rsmS_P)
theorem rsmS_ok (gl:Glob):SOK Tryz.prog gl 31 (rsmS_s smR smPs):=by
 refine ⟨fok Tryz.func31 (by kernel_rfl) (by kernel_rfl),?_⟩
 intro xs pre r h hp
 unfold rsmS_s at h
 split at h
 ·simp only [Option.some.injEq,Prod.mk.injEq] at h
  obtain ⟨h1,h2⟩:=h
  subst h1 h2
  exact fnK_sound tyNil (by exact specOK rfl rfl ⟨(rsmPs_ok gl),trivial⟩ trivial) (by kernel_rfl) Tryz.func31 rfl (rsmS_v gl _ _ _ _ hp)
 ·cases h
end Go.Proofs.YtldiagnbagpliaaGreatDoor
namespace Go.Proofs.YtldiagnbagpliaaGreatDoor
open Go
set_option linter.unusedVariables false
set_option linter.unusedSimpArgs false
theorem fp_at {q:List AV→Int} {A B:LLR} {s:List AV} (hA:∀ x ∈ A,q x < 0) (hs:q s=0):fpI q (A++([s]++B))=A.length∧fpB q (A++([s]++B))=true:=by
 induction A with
 | nil =>
  have h:¬ q s < 0:=by omega
  refine ⟨fpI_ge (x:=s) (l:=B) h,?_⟩
  show fpB q (s::B)=true
  rw [fpB_ge h]; exact decide_eq_true hs
 | cons a A ih =>
  have ha:q a < 0:=hA a (by simp)
  obtain ⟨h1,h2⟩:=ih fun x hx=>hA x (List.mem_cons_of_mem _ hx)
  show fpI q (a::(A++([s]++B)))=_∧fpB q (a::(A++([s]++B)))=true
  rw [fpI_lt ha,fpB_lt ha,h1,h2]
  exact ⟨by simp,rfl⟩
theorem ins_at {q:List AV→Int} {l:LLR} {s:List AV} (hl:SrtQ q l) (hs:q s=0):fpI q (insQ q l s)=fpI q l∧fpB q (insQ q l s)=true:=by
 have h:=fp_at (B:=l.drop (fpI q l+cond (fpB q l) 1 0)) (fp_parts hl).1 hs
 have:=fp_le q l
 refine ⟨?_,h.2⟩
 show fpI q (l.take (fpI q l)++_)=_
 rw [h.1,List.length_take]; omega
theorem out_ins {q:List AV→Int} {l:LLR} {s:List AV} (hl:SrtQ q l) (hs:q s=0):outQ q (insQ q l s)=outQ q l:=by
 obtain ⟨h1,h2⟩:=ins_at hl hs
 have hlen:=fp_le q l
 unfold outQ
 rw [h1,h2]
 unfold insQ
 have e:(l.take (fpI q l)).length=fpI q l:=by rw [List.length_take]; omega
 rw [List.take_append_of_le_length (by omega),List.take_take,Nat.min_self]
 congr 1
 rw [List.drop_append,e,List.drop_eq_nil_of_le (by simp; omega)]
 simp
theorem out_no {q:List AV→Int} {l:LLR} (h:fpB q l=false):outQ q l=l:=by
 unfold outQ; rw [h]; exact List.take_append_drop _ _
theorem no_per {ps:LLR} (h:AscP ps) {fr:Int} (hn:∀ j:Nat,j < ps.length→rE (ps.getD j [])≠fr):fpB (qP fr) ps=false:=by
 cases hb:fpB (qP fr) ps with
 | false=>rfl
 | true =>
  obtain ⟨h1,h2⟩:=(fp_parts (asc_srt h fr)).2.2 hb
  exact absurd (qP_z.1 h2) (hn _ h1)
theorem se_asc {l:LLR} {nm:ByteArray} (hl:StsP l) (h0:rgV l=0) (hs:stH l nm=true):AscP (seD l nm):=by
 obtain ⟨k2,hr,hlt⟩:=seD_at hl hs
 have ha:=(rg_zero hl h0).fa _ hlt
 rw [hr] at ha
 exact asc_pw.1 ha
theorem se_ne {l:LLR} {nm:ByteArray} (hl:StsP l) (h0:rgV l=0) (hs:stH l nm=true):(seD l nm).length≠0:=by
 obtain ⟨k2,hr,hlt⟩:=seD_at hl hs
 have:=((rgV_iff.1 h0).2.1 _ (gD_mem hlt)).g1
 rw [hr] at this
 intro z
 have e:p1R (stA k2 nm (seD l nm))=s1B (seD l nm):=rfl
 rw [e] at this
 unfold s1B at this
 rw [decide_eq_true z] at this
 cases this
theorem rem_back {l q:LLR} {k:Int} {nm:ByteArray} {fr:Int} {p:List AV} (h:SetR l q k nm fr p) (hl:StsP l) (h0:rgV l=0) (hp:rE p=fr) (hk:stH l nm=true→rE (l.getD (stN l nm) [])=k) :
  remE q nm fr=0∧((stH l nm=true→∀ j:Nat,j < (seD l nm).length→rE ((seD l nm).getD j [])≠fr)→remO q nm fr=l):=by
 obtain ⟨g1,g2,g3,g4⟩:=h.same fr
 have hsr:=sn_srt (rgV_iff.1 h0).2.2 nm
 have hsl:qS nm (stA k nm (newP l nm fr p))=0:=cmpS_z.2 rfl
 obtain ⟨i1,i2⟩:=ins_at hsr hsl
 rw [← h.fe] at i1 i2
 have hD:seD q nm=newP l nm fr p:=by unfold seD hoP; rw [g4]; rfl
 have hN:stN q nm=stN l nm:=i1
 have hq:qP fr p=0:=qP_z.2 hp
 have hB:fpB (qP fr) (newP l nm fr p)=true:=by
  rw [h.fn]
  by_cases hs:stH l nm=true
  ·rw [if_pos hs]; exact (ins_at (asc_srt (se_asc hl h0 hs) fr) hq).2
  ·rw [if_neg hs]; unfold fpB; exact (fp_at (q:=qP fr) (A:=[]) (B:=[]) (by simp) hq).2
 have hE:remE q nm fr=0:=by
  unfold remE pdH
  rw [if_neg (by rw [h.f0]; decide),if_neg (by rw [g3]; decide),hD,hB,if_neg (by decide)]
 refine ⟨hE,fun hn=>?_⟩
 unfold remO
 rw [if_pos hE]
 have hR:remP (seD q nm) fr=outQ (qP fr) (newP l nm fr p):=by
  rw [hD]; unfold remP outQ pdN; rw [hB]; rfl
 unfold remL
 rw [hR]
 by_cases hs:stH l nm=true
 ·have hA:=se_asc hl h0 hs
  have e1:outQ (qP fr) (newP l nm fr p)=seD l nm:=by
   rw [h.fn,if_pos hs,out_ins (asc_srt hA fr) hq,out_no (no_per hA (hn hs))]
  rw [e1]
  obtain ⟨k',hr,hlt⟩:=seD_at hl hs
  have hne:(seD l nm).length≠0:=se_ne hl h0 hs
  rw [if_neg (by omega),hN]
  have hk':k'=k:=by have:=hk hs; rw [hr] at this; exact this
  unfold setEl
  have e2:q.getD (stN l nm) []=stA k nm (newP l nm fr p):=by rw [← hN]; exact g4
  rw [e2]
  show q.set (stN l nm) (stA k nm (seD l nm))=l
  have e3:q=l.set (stN l nm) (stA k nm (newP l nm fr p)):=by rw [h.fe]; exact (set_ins hs).symm
  rw [e3,List.set_set,← hk',← hr,gD_lt hlt,List.set_getElem_self]
 ·have e1:outQ (qP fr) (newP l nm fr p)=[]:=by
   rw [h.fn,if_neg hs]
   obtain ⟨x1,x2⟩:=fp_at (q:=qP fr) (A:=[]) (B:=[]) (s:=p) (by simp) hq
   unfold outQ
   show List.take (fpI (qP fr) ([]++([p]++[]))) [p]++List.drop (fpI (qP fr) ([]++([p]++[]))+cond (fpB (qP fr) ([]++([p]++[]))) 1 0) [p]=[]
   rw [x1,x2]; rfl
  rw [e1,if_pos (by rfl)]
  have e4:outQ (qS nm) q=l:=by
   rw [h.fe,out_ins hsr hsl,out_no (by unfold stH at hs; simpa using hs)]
  have e5:outQ (qS nm) q=q.take (stN q nm)++q.drop (stN q nm+1):=by
   unfold outQ; rw [i2]; rfl
  rw [← e5,e4]
end Go.Proofs.YtldiagnbagpliaaGreatDoor
namespace Go.Proofs.YtldiagnbagpliaaGreatDoor
open Go
set_option linter.unusedVariables false
set_option linter.unusedSimpArgs false
structure KwP (l:LLR) (s:ByteArray) (k:Int):Prop where
 fk:exK k=true
 fs:fiB l s=true→k=fiK l s
structure NwP (ps:LLR) (t:Int) (x:Int × Bool):Prop where
 flo:0≤x.1
 fhi:x.1≤ps.length
 fe:x.2=true→∀ j:Nat,(j:Int) < x.1→rE (ps.getD j [])≠t
structure LpP (x:Int × Int):Prop where
 flo:0≤x.1
 fhi:x.1≤4
 fj:0≤x.2
def ls9 (xs l fp:LLR) (m j fk:Int) (s fn:ByteArray):LInv:=⟨Int,fun k=>⟨[(3,.ptr 28 0),(4,.int .i64 m),(5,.ptr 5 0),(6,.str s),(7,.ptr 7 0),(9,.int .i64 k)],[(28,.cells [.sl 1 false xs,.int .i64 j]),(5,.cells [.sl 3 false l]),(7,.cells [.int .i64 fk,.str fn,.sl 7 false fp])]⟩,KwP l s,fun _=>0,none⟩
def ls18 (xs l fp q:LLR) (m j:Int) (s:ByteArray) (c:List AV):LInv:=⟨Int × Bool,fun x=>⟨[(3,.ptr 28 0),(4,.int .i64 m),(5,.ptr 5 0),(6,.str s),(10,.ptr 10 0),(11,.ptr 11 0),(15,.bool x.2),(88,.sl 7 false fp),(89,.int .i64 fp.length),(90,.int .i64 x.1)],[(28,.cells [.sl 1 false xs,.int .i64 j]),(5,.cells [.sl 3 false l]),(10,.cells c),(11,.cells [.sl 3 false q])]⟩,NwP fp (rE c),fun x=>(fp.length - x.1).toNat,none⟩
def ls23 (xs l q:LLR) (m:Int) (s:ByteArray) (nw:Bool) (c:List AV):LInv:=⟨Int × Int,fun x=>⟨[(3,.ptr 28 0),(4,.int .i64 m),(5,.ptr 5 0),(6,.str s),(10,.ptr 10 0),(11,.ptr 11 0),(15,.bool nw),(18,.int .i64 x.1)],[(28,.cells [.sl 1 false xs,.int .i64 x.2]),(5,.cells [.sl 3 false l]),(10,.cells c),(11,.cells [.sl 3 false q])]⟩,LpP,fun x=>(4 - x.1).toNat,none⟩
def lsJ (id:Nat) (st:St):Option LInv:=match lk st.tmps 4,lk st.tmps 6,lk st.heap 28,lk st.heap 5 with
 | some (.int _ m),some (.str s),some (.cells [.sl _ _ xs,.int _ j]),some (.cells [.sl _ _ l])=>cond (Nat.beq id 100009) (match lk st.heap 7 with
  | some (.cells [.int _ fk,.str fn,.sl _ _ fp])=>some (ls9 xs l fp m j fk s fn)
  | _=>none) (cond (Nat.beq id 18) (match lk st.heap 7,lk st.heap 10,lk st.heap 11 with
  | some (.cells [_,_,.sl _ _ fp]),some (.cells c),some (.cells [.sl _ _ q])=>some (ls18 xs l fp q m j s c)
  | _,_,_=>none) (cond (Nat.beq id 23) (match lk st.tmps 15,lk st.heap 10,lk st.heap 11 with
  | some (.bool nw),some (.cells c),some (.cells [.sl _ _ q])=>some (ls23 xs l q m s nw c)
  | _,_,_=>none) none))
 | _,_,_,_=>none
theorem nam_ok {s:ByteArray} (h:s ∈ nam6):nmOk s=true:=by
 unfold nam6 at h
 simp only [List.mem_cons,List.not_mem_nil,or_false] at h
 rcases h with rfl | rfl | rfl | rfl | rfl | rfl <;> kernel_rfl
theorem fi_ex {l:LLR} (h0:rgV l=0) {s:ByteArray} (hs:fiB l s=true):exK (fiK l s)=true:=by
 have hn:=(rgV_iff.1 h0).2.2
 rw [(fi_st hn s).1] at hs
 rw [(fi_all hn s).2 hs]
 have:=((rgV_iff.1 h0).2.1 _ (gD_mem (stH_lt hs))).g2
 unfold p2R at this
 simpa using this
theorem KwP.st {l:LLR} {s:ByteArray} {k:Int} (h:KwP l s k) (h0:rgV l=0):stH l s=true→rE (l.getD (stN l s) [])=k:=by
 intro hs
 have hn:=(rgV_iff.1 h0).2.2
 rw [h.fs (by rw [(fi_st hn s).1]; exact hs),(fi_all hn s).2 hs]
theorem at_new {l q:LLR} {k:Int} {nm:ByteArray} {fr:Int} {p:List AV} (h:SetR l q k nm fr p) (hl:StsP l) (h0:rgV l=0) (hp:rE p=fr):atE q nm fr=0∧atZ q nm fr=p:=by
 obtain ⟨a1,a2⟩:=(h.at hl h0 hp fr).2 rfl
 have e:atE q nm fr=0:=by unfold atE; rw [if_neg (by rw [h.f0]; decide),a1]; rfl
 exact ⟨e,by unfold atZ; rw [if_pos e,a2]⟩
theorem at_old {l q:LLR} {k:Int} {nm:ByteArray} {fr:Int} {p:List AV} (h:SetR l q k nm fr p) (hl:StsP l) (h0:rgV l=0) (hp:rE p=fr) {n:ByteArray} {t:Int} (hn:¬ (n=nm∧fr≤t)):atE l n t=atE q n t∧atZ l n t=atZ q n t:=by
 have a:apI q n t=apI l n t∧apP q n t=apP l n t:=by
  by_cases e:n=nm
  ·subst e; exact (h.at hl h0 hp t).1 (by have:¬ fr≤t:=fun z=>hn ⟨rfl,z⟩; omega)
  ·exact h.other hl h0 e t
 have e:atE l n t=atE q n t:=by unfold atE; rw [h0,h.f0,a.1]
 exact ⟨e,by unfold atZ; rw [e,a.2]⟩
theorem atZ_bias {l:LLR} (hl:StsP l) (n:ByteArray) (t:Int):RdsP (pB (atZ l n t)):=by
 unfold atZ
 split
 ·exact ap_bias hl n t
 ·exact rdsP_nil
theorem fiP_pds {l:LLR} (hl:StsP l) (h0:rgV l=0) (s:ByteArray):PdsP (fiP l s):=by
 rw [(fi_all (rgV_iff.1 h0).2.2 s).1]
 split
 ·rename_i hs
  obtain ⟨k3,n3,ps3,hr3,hp3⟩:=hl.fr _ (stH_lt hs)
  have e:seD l s=ps3:=by unfold seD hoP; rw [hr3]; rfl
  rw [e]; exact hp3
 ·exact ⟨fun i h=>by simp at h,by simp⟩
theorem NwP.next {ps:LLR} {t n:Int} {x:Int × Bool} {b:Bool} (h:NwP ps t x) (hi:x.1 < ps.length) (hn:rE (ps.getD x.1.toNat [])=n) (hb:b=true→x.2=true∧n≠t):NwP ps t (x.1+1,b):=by
 have:=h.flo
 refine ⟨by simp only; omega,by simp only; omega,fun hb' j hj=>?_⟩
 simp only at hb' hj
 obtain ⟨b1,b2⟩:=hb hb'
 rcases Nat.lt_or_ge j x.1.toNat with z | z
 ·exact h.fe b1 j (by omega)
 ·rw [show j=x.1.toNat by omega,hn]; exact b2
def lsets_s (setE:LLR→Int→ByteArray→Int→Bool→Int→Int→Int→Int→LLR→Int) (setO:LLR→Int→ByteArray→Int→Bool→Int→Int→Int→Int→LLR→LLR) (remE:LLR→ByteArray→Int→Int) (remO:LLR→ByteArray→Int→LLR) (rgV:LLR→Int) (pB:List AV→LLR) (pI:Nat→List AV→Int) (pC:List AV→Bool) (atZ:LLR→ByteArray→Int→List AV) (atE:LLR→ByteArray→Int→Int) (fiK:LLR→ByteArray→Int) (fiN:LLR→ByteArray→ByteArray) (fiP:LLR→ByteArray→LLR) (fiB:LLR→ByteArray→Bool) (smP:List AV→List AV→Bool) (smR:LLR→LLR→Bool):Sp
 | [.sl 1 false xs]=>some (IntsA xs,.bool true)
 | _=>none
def lsets_T (setE:LLR→Int→ByteArray→Int→Bool→Int→Int→Int→Int→LLR→Int) (setO:LLR→Int→ByteArray→Int→Bool→Int→Int→Int→Int→LLR→LLR) (remE:LLR→ByteArray→Int→Int) (remO:LLR→ByteArray→Int→LLR) (rgV:LLR→Int) (pB:List AV→LLR) (pI:Nat→List AV→Int) (pC:List AV→Bool) (atZ:LLR→ByteArray→Int→List AV) (atE:LLR→ByteArray→Int→Int) (fiK:LLR→ByteArray→Int) (fiN:LLR→ByteArray→ByteArray) (fiP:LLR→ByteArray→LLR) (fiB:LLR→ByteArray→Bool) (smP:List AV→List AV→Bool) (smR:LLR→LLR→Bool) (stN:LLR→ByteArray→Nat) (stH:LLR→ByteArray→Bool) (atR:LLR→Int→List AV) (atB:LLR→Int→Bool) (eqRd:LLR→LLR→Bool) (pdA:Int→Bool→Int→Int→Int→Int→LLR→List AV) (p1R:List AV→Bool) (p2R:List AV→Bool) (p3R:List AV→Bool) (p4R:List AV→Bool) (p5R:List AV→Bool) (smPs:LLR→LLR→Bool) (apE:LLR→Int→ByteArray→Int→Int→Int→Int→Int→LLR→Int) (apX:Nat→LLR→Int→ByteArray→Int→Int→Int) (apP:LLR→ByteArray→Int→List AV) (zI:Int→Int→Int) (zS:Int→LLR→LLR) (unb:LLR→LLR→LLR):Prop :=
  ∀ (xs:List (List AV)),(∀ (x:List AV),List.Mem x xs→∃ n,x=[AV.int .i64 n]∧rng .i64 n)→True→True∧SrcQ (List.take (2000:Nat) xs) (0:Int)∧∀ (m j:Int),MinQ m j→(SrcQ (List.take (2000:Nat) xs) j∧0≤m∧m≤(52595999:Int))∧∀ (l:List (List AV)) (j:Int),RegvQ l j→SrcQ (List.take (2000:Nat) xs) j∧∀ (s:ByteArray) (j:Int),NamQ s j→StsP l∧(SrcQ (List.take (2000:Nat) xs) j∧(1:Int) ≤
 (3:Int)∧(-1000000000:Int)≤(1:Int)∧(3:Int)≤(1000000000:Int))∧∀ (v j:Int),(1≤v∧v≤(3:Int))∧0≤j→(bif fiB l s then ∃ x,KwP l s x∧((0:Nat)=0∧m=m∧(0:Nat)=0∧s=s∧(0:Nat)=0∧fiK l s=x∧True)∧((True∧List.take (2000:Nat) xs=List.take (2000:Nat) xs)∧j=j∧True)∧((True∧l=l)∧True)∧(fiK l s=fiK l s∧fiN l s=fiN l s∧(True∧fiP l s=fiP l s)∧True)∧True else ∃ x,KwP l s
 x∧((0:Nat)=0∧m=m∧(0:Nat)=0∧s=s∧(0:Nat)=0∧v=x∧True)∧((True∧List.take (2000:Nat) xs=List.take (2000:Nat) xs)∧j=j∧True)∧((True∧l=l)∧True)∧(fiK l s=fiK l s∧fiN l s=fiN l s∧(True∧fiP l s=fiP l s)∧True)∧True)∧∀ (x:Int),KwP l s x→(SrcQ (List.take (2000:Nat) xs) j∧0≤m∧m≤(52595999:Int))∧∀ (fr:Int) (cl:Bool) (f a b c:Int) (bs:List (List AV)) (j:Int),PrvQ x fr cl f a b c bs j→(StsP l∧RdsP
 bs∧bs.length≤(1000:Nat))∧bif decide ¬YtldiagnbagpliaaGreatDoor.setE l x s fr cl f a b c bs=(0:Int) then bif decide (YtldiagnbagpliaaGreatDoor.setE l x s fr cl f a b c bs=(2:Int)) then True∧true=true else false=true else StsP (YtldiagnbagpliaaGreatDoor.setO l x s fr cl f a b c bs)∧bif decide ¬atE (YtldiagnbagpliaaGreatDoor.setO l x s fr cl f a b c bs) s fr=(0:Int) then false=true else (RdsP (pB
 (atZ (YtldiagnbagpliaaGreatDoor.setO l x s fr cl f a b c bs) s fr))∧RdsP bs)∧bif !smP (pdA (pI (0:Nat) (atZ (YtldiagnbagpliaaGreatDoor.setO l x s fr cl f a b c bs) s fr)) (pC (atZ (YtldiagnbagpliaaGreatDoor.setO l x s fr cl f a b c bs) s fr)) (pI (2:Nat) (atZ (YtldiagnbagpliaaGreatDoor.setO l x s fr cl f a b c bs) s fr)) (pI (3:Nat) (atZ (YtldiagnbagpliaaGreatDoor.setO l x s fr cl f a b c bs) s
 fr)) (pI (4:Nat) (atZ (YtldiagnbagpliaaGreatDoor.setO l x s fr cl f a b c bs) s fr)) (pI (5:Nat) (atZ (YtldiagnbagpliaaGreatDoor.setO l x s fr cl f a b c bs) s fr)) (pB (atZ (YtldiagnbagpliaaGreatDoor.setO l x s fr cl f a b c bs) s fr))) (pdA fr cl f a b c bs) then false=true else StsP (YtldiagnbagpliaaGreatDoor.setO l x s fr cl f a b c bs)∧bif decide ¬rgV (YtldiagnbagpliaaGreatDoor.setO l x s fr
 cl f a b c bs)=(0:Int) then false=true else (∃ x_1,NwP (fiP l s) (rE [AV.int .i64 fr,.bool cl,.int .i64 f,.int .i64 a,.int .i64 b,.int .i64 c,.sl (2:Nat) false bs]) x_1∧((0:Nat)=0∧m=m∧(0:Nat)=0∧s=s∧(0:Nat)=0∧(0:Nat)=0∧true=x_1.snd∧(True∧fiP l s=fiP l s)∧(↑(List.length (fiP l s)):Int)=(↑(List.length (fiP l s)):Int)∧(0:Int)=x_1.fst∧True)∧((True∧List.take (2000:Nat) xs=List.take (2000:Nat)
 xs)∧j=j∧True)∧((True∧l=l)∧True)∧(fr=fr∧cl=cl∧f=f∧a=a∧b=b∧c=c∧(True∧bs=bs)∧True)∧((True∧YtldiagnbagpliaaGreatDoor.setO l x s fr cl f a b c bs=YtldiagnbagpliaaGreatDoor.setO l x s fr cl f a b c bs)∧True)∧True)∧∀ (x_1:Int × Bool),NwP (fiP l s) (rE [AV.int .i64 fr,.bool cl,.int .i64 f,.int .i64 a,.int .i64 b,.int .i64 c,.sl (2:Nat) false bs]) x_1→bif decide (x_1.fst < (↑(List.length (fiP l s)):Int))
 then bif decide (0≤x_1.fst∧x_1.fst < (↑(List.length (fiP l s)):Int)) then ∃ n b_1 n_1 n_2 n_3 n_4 xs_1,List.take [AV.int .i64 n,.bool b_1,.int .i64 n_1,.int .i64 n_2,.int .i64 n_3,.int .i64 n_4,.sl (2:Nat) false xs_1].length (List.getD (fiP l s) x_1.fst.toNat [])=[AV.int .i64 n,.bool b_1,.int .i64 n_1,.int .i64 n_2,.int .i64 n_3,.int .i64 n_4,.sl (2:Nat) false xs_1]∧bif x_1.snd then ∃ y,NwP
 (fiP l s) (rE [AV.int .i64 fr,.bool cl,.int .i64 f,.int .i64 a,.int .i64 b,.int .i64 c,.sl (2:Nat) false bs]) y∧(ls18 (List.take (2000:Nat) xs) l (fiP l s) (YtldiagnbagpliaaGreatDoor.setO l x s fr cl f a b c bs) m j s [AV.int .i64 fr,.bool cl,.int .i64 f,.int .i64 a,.int .i64 b,.int .i64 c,.sl (2:Nat) false bs]).m y < (ls18 (List.take (2000:Nat) xs) l (fiP l s) (YtldiagnbagpliaaGreatDoor.setO l x s
 fr cl f a b c bs) m j s [AV.int .i64 fr,.bool cl,.int .i64 f,.int .i64 a,.int .i64 b,.int .i64 c,.sl (2:Nat) false bs]).m x_1∧((0:Nat)=0∧m=m∧(0:Nat)=0∧s=s∧(0:Nat)=0∧(0:Nat)=0∧(decide ¬n=fr)=y.snd∧(True∧fiP l s=fiP l s)∧(↑(List.length (fiP l s)):Int)=(↑(List.length (fiP l s)):Int)∧IntKind.i64.wrap (x_1.fst+(1:Int))=y.fst∧True)∧((True∧List.take (2000:Nat) xs=List.take (2000:Nat)
 xs)∧j=j∧True)∧((True∧l=l)∧True)∧(fr=fr∧cl=cl∧f=f∧a=a∧b=b∧c=c∧(True∧bs=bs)∧True)∧((True∧YtldiagnbagpliaaGreatDoor.setO l x s fr cl f a b c bs=YtldiagnbagpliaaGreatDoor.setO l x s fr cl f a b c bs)∧True)∧True else ∃ y,NwP (fiP l s) (rE [AV.int .i64 fr,.bool cl,.int .i64 f,.int .i64 a,.int .i64 b,.int .i64 c,.sl (2:Nat) false bs]) y∧(ls18 (List.take (2000:Nat) xs) l (fiP l s)
 (YtldiagnbagpliaaGreatDoor.setO l x s fr cl f a b c bs) m j s [AV.int .i64 fr,.bool cl,.int .i64 f,.int .i64 a,.int .i64 b,.int .i64 c,.sl (2:Nat) false bs]).m y < (ls18 (List.take (2000:Nat) xs) l (fiP l s) (YtldiagnbagpliaaGreatDoor.setO l x s fr cl f a b c bs) m j s [AV.int .i64 fr,.bool cl,.int .i64 f,.int .i64 a,.int .i64 b,.int .i64 c,.sl (2:Nat) false bs]).m
 x_1∧((0:Nat)=0∧m=m∧(0:Nat)=0∧s=s∧(0:Nat)=0∧(0:Nat)=0∧false=y.snd∧(True∧fiP l s=fiP l s)∧(↑(List.length (fiP l s)):Int)=(↑(List.length (fiP l s)):Int)∧IntKind.i64.wrap (x_1.fst+(1:Int))=y.fst∧True)∧((True∧List.take (2000:Nat) xs=List.take (2000:Nat) xs)∧j=j∧True)∧((True∧l=l)∧True)∧(fr=fr∧cl=cl∧f=f∧a=a∧b=b∧c=c∧(True∧bs=bs)∧True)∧((True∧YtldiagnbagpliaaGreatDoor.setO l x s fr cl f a b c
 bs=YtldiagnbagpliaaGreatDoor.setO l x s fr cl f a b c bs)∧True)∧True else False else (∃ x_2,LpP x_2∧((0:Nat)=0∧m=m∧(0:Nat)=0∧s=s∧(0:Nat)=0∧(0:Nat)=0∧x_1.snd=x_1.snd∧(0:Int)=x_2.fst∧True)∧((True∧List.take (2000:Nat) xs=List.take (2000:Nat) xs)∧j=x_2.snd∧True)∧((True∧l=l)∧True)∧(fr=fr∧cl=cl∧f=f∧a=a∧b=b∧c=c∧(True∧bs=bs)∧True)∧((True∧YtldiagnbagpliaaGreatDoor.setO l x s fr cl f a b c
 bs=YtldiagnbagpliaaGreatDoor.setO l x s fr cl f a b c bs)∧True)∧True)∧∀ (x_2:Int × Int),LpP x_2→bif decide (x_2.fst < (4:Int)) then SrcQ (List.take (2000:Nat) xs) x_2.snd∧∀ (s_1:ByteArray) (j:Int),NamQ s_1 j→(SrcQ (List.take (2000:Nat) xs) j∧0≤m∧m≤(52595999:Int))∧∀ (m_1 j:Int),MinQ m_1 j→bif decide (s_1=s) then bif decide (fr≤m_1) then ∃ y,LpP y∧(ls23 (List.take (2000:Nat) xs) l
 (YtldiagnbagpliaaGreatDoor.setO l x s fr cl f a b c bs) m s x_1.snd [AV.int .i64 fr,.bool cl,.int .i64 f,.int .i64 a,.int .i64 b,.int .i64 c,.sl (2:Nat) false bs]).m y < (ls23 (List.take (2000:Nat) xs) l (YtldiagnbagpliaaGreatDoor.setO l x s fr cl f a b c bs) m s x_1.snd [AV.int .i64 fr,.bool cl,.int .i64 f,.int .i64 a,.int .i64 b,.int .i64 c,.sl (2:Nat) false bs]).m
 x_2∧((0:Nat)=0∧m=m∧(0:Nat)=0∧s=s∧(0:Nat)=0∧(0:Nat)=0∧x_1.snd=x_1.snd∧IntKind.i64.wrap (x_2.fst+(1:Int))=y.fst∧True)∧((True∧List.take (2000:Nat) xs=List.take (2000:Nat) xs)∧j=y.snd∧True)∧((True∧l=l)∧True)∧(fr=fr∧cl=cl∧f=f∧a=a∧b=b∧c=c∧(True∧bs=bs)∧True)∧((True∧YtldiagnbagpliaaGreatDoor.setO l x s fr cl f a b c bs=YtldiagnbagpliaaGreatDoor.setO l x s fr cl f a b c bs)∧True)∧True else StsP l∧StsP
 (YtldiagnbagpliaaGreatDoor.setO l x s fr cl f a b c bs)∧bif decide ¬atE l s_1 m_1=atE (YtldiagnbagpliaaGreatDoor.setO l x s fr cl f a b c bs) s_1 m_1 then false=true else (RdsP (pB (atZ l s_1 m_1))∧RdsP (pB (atZ (YtldiagnbagpliaaGreatDoor.setO l x s fr cl f a b c bs) s_1 m_1)))∧bif !smP (pdA (pI (0:Nat) (atZ l s_1 m_1)) (pC (atZ l s_1 m_1)) (pI (2:Nat) (atZ l s_1 m_1)) (pI (3:Nat) (atZ l s_1 m_1))
 (pI (4:Nat) (atZ l s_1 m_1)) (pI (5:Nat) (atZ l s_1 m_1)) (pB (atZ l s_1 m_1))) (pdA (pI (0:Nat) (atZ (YtldiagnbagpliaaGreatDoor.setO l x s fr cl f a b c bs) s_1 m_1)) (pC (atZ (YtldiagnbagpliaaGreatDoor.setO l x s fr cl f a b c bs) s_1 m_1)) (pI (2:Nat) (atZ (YtldiagnbagpliaaGreatDoor.setO l x s fr cl f a b c bs) s_1 m_1)) (pI (3:Nat) (atZ (YtldiagnbagpliaaGreatDoor.setO l x s fr cl f a b c bs)
 s_1 m_1)) (pI (4:Nat) (atZ (YtldiagnbagpliaaGreatDoor.setO l x s fr cl f a b c bs) s_1 m_1)) (pI (5:Nat) (atZ (YtldiagnbagpliaaGreatDoor.setO l x s fr cl f a b c bs) s_1 m_1)) (pB (atZ (YtldiagnbagpliaaGreatDoor.setO l x s fr cl f a b c bs) s_1 m_1))) then false=true else ∃ y,LpP y∧(ls23 (List.take (2000:Nat) xs) l (YtldiagnbagpliaaGreatDoor.setO l x s fr cl f a b c bs) m s x_1.snd [AV.int .i64
 fr,.bool cl,.int .i64 f,.int .i64 a,.int .i64 b,.int .i64 c,.sl (2:Nat) false bs]).m y < (ls23 (List.take (2000:Nat) xs) l (YtldiagnbagpliaaGreatDoor.setO l x s fr cl f a b c bs) m s x_1.snd [AV.int .i64 fr,.bool cl,.int .i64 f,.int .i64 a,.int .i64 b,.int .i64 c,.sl (2:Nat) false bs]).m x_2∧((0:Nat)=0∧m=m∧(0:Nat)=0∧s=s∧(0:Nat)=0∧(0:Nat)=0∧x_1.snd=x_1.snd∧IntKind.i64.wrap (x_2.fst +
 (1:Int))=y.fst∧True)∧((True∧List.take (2000:Nat) xs=List.take (2000:Nat) xs)∧j=y.snd∧True)∧((True∧l=l)∧True)∧(fr=fr∧cl=cl∧f=f∧a=a∧b=b∧c=c∧(True∧bs=bs)∧True)∧((True∧YtldiagnbagpliaaGreatDoor.setO l x s fr cl f a b c bs=YtldiagnbagpliaaGreatDoor.setO l x s fr cl f a b c bs)∧True)∧True else StsP l∧StsP (YtldiagnbagpliaaGreatDoor.setO l x s fr cl f a b c bs)∧bif decide ¬atE l s_1 m_1=atE
 (YtldiagnbagpliaaGreatDoor.setO l x s fr cl f a b c bs) s_1 m_1 then false=true else (RdsP (pB (atZ l s_1 m_1))∧RdsP (pB (atZ (YtldiagnbagpliaaGreatDoor.setO l x s fr cl f a b c bs) s_1 m_1)))∧bif !smP (pdA (pI (0:Nat) (atZ l s_1 m_1)) (pC (atZ l s_1 m_1)) (pI (2:Nat) (atZ l s_1 m_1)) (pI (3:Nat) (atZ l s_1 m_1)) (pI (4:Nat) (atZ l s_1 m_1)) (pI (5:Nat) (atZ l s_1 m_1)) (pB (atZ l s_1 m_1))) (pdA
 (pI (0:Nat) (atZ (YtldiagnbagpliaaGreatDoor.setO l x s fr cl f a b c bs) s_1 m_1)) (pC (atZ (YtldiagnbagpliaaGreatDoor.setO l x s fr cl f a b c bs) s_1 m_1)) (pI (2:Nat) (atZ (YtldiagnbagpliaaGreatDoor.setO l x s fr cl f a b c bs) s_1 m_1)) (pI (3:Nat) (atZ (YtldiagnbagpliaaGreatDoor.setO l x s fr cl f a b c bs) s_1 m_1)) (pI (4:Nat) (atZ (YtldiagnbagpliaaGreatDoor.setO l x s fr cl f a b c bs) s_1
 m_1)) (pI (5:Nat) (atZ (YtldiagnbagpliaaGreatDoor.setO l x s fr cl f a b c bs) s_1 m_1)) (pB (atZ (YtldiagnbagpliaaGreatDoor.setO l x s fr cl f a b c bs) s_1 m_1))) then false=true else ∃ y,LpP y∧(ls23 (List.take (2000:Nat) xs) l (YtldiagnbagpliaaGreatDoor.setO l x s fr cl f a b c bs) m s x_1.snd [AV.int .i64 fr,.bool cl,.int .i64 f,.int .i64 a,.int .i64 b,.int .i64 c,.sl (2:Nat) false bs]).m y <
 (ls23 (List.take (2000:Nat) xs) l (YtldiagnbagpliaaGreatDoor.setO l x s fr cl f a b c bs) m s x_1.snd [AV.int .i64 fr,.bool cl,.int .i64 f,.int .i64 a,.int .i64 b,.int .i64 c,.sl (2:Nat) false bs]).m x_2∧((0:Nat)=0∧m=m∧(0:Nat)=0∧s=s∧(0:Nat)=0∧(0:Nat)=0∧x_1.snd=x_1.snd∧IntKind.i64.wrap (x_2.fst+(1:Int))=y.fst∧True)∧((True∧List.take (2000:Nat) xs=List.take (2000:Nat)
 xs)∧j=y.snd∧True)∧((True∧l=l)∧True)∧(fr=fr∧cl=cl∧f=f∧a=a∧b=b∧c=c∧(True∧bs=bs)∧True)∧((True∧YtldiagnbagpliaaGreatDoor.setO l x s fr cl f a b c bs=YtldiagnbagpliaaGreatDoor.setO l x s fr cl f a b c bs)∧True)∧True else StsP (YtldiagnbagpliaaGreatDoor.setO l x s fr cl f a b c bs)∧bif decide (YtldiagnbagpliaaGreatDoor.remE (YtldiagnbagpliaaGreatDoor.setO l x s fr cl f a b c bs) s fr=(0:Int)) then bif
 !x_1.snd then True∧true=true else (StsP (YtldiagnbagpliaaGreatDoor.remO (YtldiagnbagpliaaGreatDoor.setO l x s fr cl f a b c bs) s fr)∧StsP l)∧bif smR (YtldiagnbagpliaaGreatDoor.remO (YtldiagnbagpliaaGreatDoor.setO l x s fr cl f a b c bs) s fr) l then True∧true=true else false=true else false=true
theorem lsets_P:lsets_T setE setO remE remO rgV pB pI pC atZ atE fiK fiN fiP fiB smP smR stN stH atR atB eqRd pdA p1R p2R p3R p4R p5R smPs apE apX apP zI zS unb:=by
 unfold lsets_T
 intro xs hz _
 have hs:SrcI (List.take 2000 xs):=SrcI.take hz
 have wr:∀ z:Int,0≤z→z≤2000000→IntKind.i64.wrap (z+1)=z+1:=fun z _ _=>wrap_eq (by show _∧_; omega)
 refine ⟨trivial,⟨hs,by decide⟩,fun m j q1=>⟨⟨⟨hs,q1.fj⟩,q1.fm⟩,fun l j q2=>⟨⟨hs,q2.fj⟩,fun s j q3=>?_⟩⟩⟩
 obtain ⟨hl,h0,hnn⟩:=q2.fr
 refine ⟨hl,⟨⟨hs,q3.fj⟩,by decide,by decide,by decide⟩,fun v j q4=>⟨csplit (fun hb=>⟨_,⟨fi_ex h0 hb,fun _=>rfl⟩,by (repeat' (first | exact trivial | exact rfl | assumption | apply And.intro))⟩) (fun hb=>⟨v,⟨by unfold exK; exact decide_eq_true q4.1,fun z=>by rw [z] at hb; cases hb⟩,by (repeat' (first | exact trivial | exact rfl | assumption | apply And.intro))⟩),?_⟩⟩
 intro k hk
 refine ⟨⟨⟨hs,q4.2⟩,q1.fm⟩,fun fr cl f a b c bs j q5=>⟨⟨hl,q5.fr,Nat.le_trans q5.fl (by decide)⟩,?_⟩⟩
 have hks:=hk.st h0
 have hlim:=SetOk.lim (bs:=bs) (fr:=fr) (cl:=cl) (f:=f) (a:=a) (b:=b) (c:=c) h0 hk.fk (nam_ok q3.fs) q5.fv hks
 refine csx (fun he=>?_) (fun he=>?_)
 ·have e2:=hlim.resolve_left he
  exact csx (fun _=>⟨trivial,rfl⟩) (fun z=>absurd e2 z)
 have he:=Decidable.not_not.1 he
 have R:=set_valid hl q5.fr (Nat.le_trans q5.fl (by decide)) he
 generalize setO l k s fr cl f a b c bs=q at R ⊢
 have hpf:rE (pdA fr cl f a b c bs)=fr:=rfl
 obtain ⟨n1,n2⟩:=at_new R hl h0 hpf
 obtain ⟨r1,r2⟩:=rem_back R hl h0 hpf hks
 have hP:=fiP_pds hl h0 s
 have lP:=hP.fs
 refine ⟨R.fp,csx (fun z=>absurd n1 z) (fun _=>⟨⟨atZ_bias R.fp _ _,q5.fr⟩,csplit (fun z=>?_) (fun _=>⟨R.fp,csx (fun z=>absurd R.f0 z) (fun _=>⟨⟨(0,true),⟨by decide,by simp only; omega,fun _ j h=>by simp only at h; omega⟩,by (repeat' (first | exact trivial | exact rfl | assumption | apply And.intro))⟩,?_⟩)⟩)⟩)⟩
 ·rw [n2] at z
  have:smP (pdA fr cl f a b c bs) (pdA fr cl f a b c bs)=true:=smP_rfl _
  exfalso
  have z2:(!(smP (pdA fr cl f a b c bs) (pdA fr cl f a b c bs)))=true:=z
  rw [this] at z2; cases z2
 intro x hx
 have x0:=hx.flo
 have x1:=hx.fhi
 refine csx (fun hi=>cd1 (by omega) ?_) (fun hi=>⟨⟨(0,j),⟨by simp,by simp,q5.fj⟩,by (repeat' (first | exact trivial | exact rfl | assumption | apply And.intro))⟩,?_⟩)
 ·obtain ⟨t,cl2,f2,a2,b2,c2,bs2,hr,_⟩:=hP.fr x.1.toNat (by omega)
  have hrE:rE ((fiP l s).getD x.1.toNat [])=t:=by rw [hr]; rfl
  refine ⟨t,cl2,f2,a2,b2,c2,bs2,by rw [hr]; rfl,csplit (fun hb=>⟨(x.1+1,decide (¬ t=fr)),hx.next hi hrE (fun z=>⟨hb,of_decide_eq_true z⟩),by simp only [ls18]; omega,?_⟩) (fun hb=>⟨(x.1+1,false),hx.next hi hrE (fun z=>by cases z),by simp only [ls18]; omega,?_⟩)⟩
  all_goals
   have w:=wr x.1 x0 (by omega)
   (repeat' (first | exact trivial | exact rfl | assumption | apply And.intro))
 rintro ⟨i,j⟩ ⟨i0,i4,j0⟩
 simp only at i0 i4 j0
 dsimp only
 refine csx (fun hi=>⟨⟨hs,j0⟩,fun n j q6=>⟨⟨⟨hs,q6.fj⟩,q1.fm⟩,fun t j q7=>?_⟩⟩) (fun hi=>⟨R.fp,csx (fun _=>csplit (fun _=>⟨trivial,rfl⟩) (fun nw=>?_)) (fun z=>absurd r1 z)⟩)
 ·have w:=wr i i0 (by omega)
  have go:¬ (n=s∧fr≤t)→∀ {X:Prop},X→(StsP l∧StsP q∧bif decide (¬ atE l n t=atE q n t) then false=true else (RdsP (pB (atZ l n t))∧RdsP (pB (atZ q n t)))∧bif !smP (pdA (pI 0 (atZ l n t)) (pC (atZ l n t)) (pI 2 (atZ l n t)) (pI 3 (atZ l n t)) (pI 4 (atZ l n t)) (pI 5 (atZ l n t)) (pB (atZ l n t))) (pdA (pI 0 (atZ q n t)) (pC (atZ q n t)) (pI 2 (atZ q n t)) (pI 3 (atZ q n t)) (pI 4 (atZ q n t)) (pI 5 (atZ q n t)) (pB (atZ q n t))) then false=true else X):=by
   intro hn X hX
   obtain ⟨a1,a2⟩:=at_old R hl h0 hpf hn
   refine ⟨hl,R.fp,csx (fun z=>absurd a1 z) (fun _=>⟨⟨atZ_bias hl _ _,atZ_bias R.fp _ _⟩,csplit (fun z=>?_) (fun _=>hX)⟩)⟩
   rw [a2,smP_rfl] at z; cases z
  refine csx (fun e=>csx (fun u=>⟨(i+1,j),⟨by simp only; omega,by simp only; omega,q7.fj⟩,by simp only [ls23]; omega,by (repeat' (first | exact trivial | exact rfl | assumption | apply And.intro))⟩) (fun u=>?_)) (fun e=>?_)
  ·exact go (fun z=>u z.2) ⟨(i+1,j),⟨by simp only; omega,by simp only; omega,q7.fj⟩,by simp only [ls23]; omega,by (repeat' (first | exact trivial | exact rfl | assumption | apply And.intro))⟩
  ·exact go (fun z=>e z.1) ⟨(i+1,j),⟨by simp only; omega,by simp only; omega,q7.fj⟩,by simp only [ls23]; omega,by (repeat' (first | exact trivial | exact rfl | assumption | apply And.intro))⟩
 ·have nw:x.2=true:=by simpa using nw
  have hq:remO q s fr=l:=r2 fun hs j hj=>by
   have e:=(fi_all (rgV_iff.1 h0).2.2 s).1
   rw [if_pos hs] at e
   rw [← e]
   exact hx.fe nw j (by rw [← e] at hj; omega)
  rw [hq]
  exact ⟨⟨hl,hl⟩,csplit (fun _=>⟨trivial,rfl⟩) (fun z=>by rw [smR_rfl] at z; cases z)⟩
def lsets_S (setE:LLR→Int→ByteArray→Int→Bool→Int→Int→Int→Int→LLR→Int) (setO:LLR→Int→ByteArray→Int→Bool→Int→Int→Int→Int→LLR→LLR) (remE:LLR→ByteArray→Int→Int) (remO:LLR→ByteArray→Int→LLR) (rgV:LLR→Int) (pB:List AV→LLR) (pI:Nat→List AV→Int) (pC:List AV→Bool) (atZ:LLR→ByteArray→Int→List AV) (atE:LLR→ByteArray→Int→Int) (fiK:LLR→ByteArray→Int) (fiN:LLR→ByteArray→ByteArray) (fiP:LLR→ByteArray→LLR) (fiB:LLR→ByteArray→Bool) (smP:List AV→List AV→Bool) (smR:LLR→LLR→Bool) (stN:LLR→ByteArray→Nat) (stH:LLR→ByteArray→Bool) (atR:LLR→Int→List AV) (atB:LLR→Int→Bool) (eqRd:LLR→LLR→Bool) (pdA:Int→Bool→Int→Int→Int→Int→LLR→List AV) (p1R:List AV→Bool) (p2R:List AV→Bool) (p3R:List AV→Bool) (p4R:List AV→Bool) (p5R:List AV→Bool) (smPs:LLR→LLR→Bool) (apE:LLR→Int→ByteArray→Int→Int→Int→Int→Int→LLR→Int) (apX:Nat→LLR→Int→ByteArray→Int→Int→Int) (apP:LLR→ByteArray→Int→List AV) (zI:Int→Int→Int) (zS:Int→LLR→LLR) (unb:LLR→LLR→LLR):Prop:=∀ (xs:List (List AV)),IntsA xs→fnK Tryz.prog { glob:=glb,spec:=lk [(23,(rfindF_s fiK fiN fiP fiB)),(26,gset_s),(19,(gAt_s rgV stN stH pI pC pB atR atB atZ atE)),(27,(rsmP_s eqRd smP pdA)),(28,(gvalidR_s rgV p1R p2R p3R p4R p5R)),(31,(rsmS_s smR smPs)),(9,(lawake_s apE apX apP zI zS unb pB))],specH:=lk [(10,newsrc_s),(30,gremove_s)],specQ:=lk [(11,qminute_s),(12,qregistryV_s),(22,qname_s),(24,qrange_s),(25,qperiodV_s),(29,qnear_s)],shape:=[93],slz:=[(93,[2])],nowf:=true,wrap:=true } { nt:=166,drop:=drp [(1,402653184),(2,1610612736),(3,15032385536),(4,51539607552),(5,4329327034368),(6,13194139533312),(8,105553116266496),(9,2111062325329920),(10,574208952489738240),(11,576460752303423488),(12,71481133285624512512),(13,18815678955183742648320),(14,77352362989404788600340480),(17,154742504910672534362390528),(19,14855280471424563298789490688),(20,5050795360284351521588426833920),(21,5070602400912917605986812821504),(23,10141204801825835211973625643008),(24,121694457621910022543683507716096),(25,5030037581705614265138918318931968),(26,1324035698926381045275276563951124480),(27,337623910929368631717566993311207522304),(28,43215860598959184859848575143834562854912),(29,11106816456299431447444547186572914421923840),(31,5686690025625308901091608159525332184025006080),(32,93530395798406962925511596149964315277434151763968)] } (lsJ) 6 Tryz.f5 [.sl 1 false xs] (.bool true)
theorem lsets_e (setE:LLR→Int→ByteArray→Int→Bool→Int→Int→Int→Int→LLR→Int) (setO:LLR→Int→ByteArray→Int→Bool→Int→Int→Int→Int→LLR→LLR) (remE:LLR→ByteArray→Int→Int) (remO:LLR→ByteArray→Int→LLR) (rgV:LLR→Int) (pB:List AV→LLR) (pI:Nat→List AV→Int) (pC:List AV→Bool) (atZ:LLR→ByteArray→Int→List AV) (atE:LLR→ByteArray→Int→Int) (fiK:LLR→ByteArray→Int) (fiN:LLR→ByteArray→ByteArray) (fiP:LLR→ByteArray→LLR) (fiB:LLR→ByteArray→Bool) (smP:List AV→List AV→Bool) (smR:LLR→LLR→Bool) (stN:LLR→ByteArray→Nat) (stH:LLR→ByteArray→Bool) (atR:LLR→Int→List AV) (atB:LLR→Int→Bool) (eqRd:LLR→LLR→Bool) (pdA:Int→Bool→Int→Int→Int→Int→LLR→List AV) (p1R:List AV→Bool) (p2R:List AV→Bool) (p3R:List AV→Bool) (p4R:List AV→Bool) (p5R:List AV→Bool) (smPs:LLR→LLR→Bool) (apE:LLR→Int→ByteArray→Int→Int→Int→Int→Int→LLR→Int) (apX:Nat→LLR→Int→ByteArray→Int→Int→Int) (apP:LLR→ByteArray→Int→List AV) (zI:Int→Int→Int) (zS:Int→LLR→LLR) (unb:LLR→LLR→LLR):lsets_T setE setO remE remO rgV pB pI pC atZ atE fiK fiN fiP fiB smP smR stN stH atR atB eqRd pdA p1R p2R p3R p4R p5R smPs apE apX apP zI zS unb=lsets_S setE setO remE remO rgV pB pI pC atZ atE fiK fiN fiP fiB smP smR stN stH atR atB eqRd pdA p1R p2R p3R p4R p5R smPs apE apX apP zI zS unb:=by kernel_rfl
theorem lsets_v:lsets_S setE setO remE remO rgV pB pI pC atZ atE fiK fiN fiP fiB smP smR stN stH atR atB eqRd pdA p1R p2R p3R p4R p5R smPs apE apX apP zI zS unb:=Eq.mp (lsets_e ..) (lsets_P)
theorem lsets_ok:SOK Tryz.prog glb 5 (lsets_s setE setO remE remO rgV pB pI pC atZ atE fiK fiN fiP fiB smP smR):=by
 refine ⟨fok Tryz.func5 (by kernel_rfl) (by kernel_rfl),?_⟩
 intro xs pre r h hp
 unfold lsets_s at h
 split at h
 ·simp only [Option.some.injEq,Prod.mk.injEq] at h
  obtain ⟨h1,h2⟩:=h
  subst h1 h2
  exact fnK_sound tyNil (by exact specOK rfl rfl ⟨(rfindF_ok glb),(gset_ok),(gAt_ok),(rsmP_ok glb),(gvalidR_ok),(rsmS_ok glb),(lawake_ok),trivial⟩ ⟨(newsrc_ok glb),(gremove_ok),trivial⟩ (d:=qsOf rfl ⟨(qminute_ok glb),(qregistryV_ok glb),(qname_ok glb),(qrange_ok glb),(qperiodV_ok glb),(qnear_ok glb),trivial⟩)) (by kernel_rfl) Tryz.func5 rfl (lsets_v  _ hp)
 ·cases h
end Go.Proofs.YtldiagnbagpliaaGreatDoor
namespace Go.Proofs.YtldiagnbagpliaaGreatDoor
open Go
open Go.ChangeShapes Go.WideShapes
open Go.RowKit (Below)
set_option linter.unusedVariables false
set_option linter.unusedSimpArgs false
def pinAll (w:World):Pin:=fun b o=>match w.cell? ⟨b,o,none⟩ with | some v=>cond v.oneCell' (some v) none | none=>none
theorem pinAll_some {w:World} {b o:Nat} {v:Value} (h:w.cell? ⟨b,o,none⟩=some v) (k:v.oneCell'=true):pinAll w b o=some v:=by simp [pinAll,h,k]
theorem agree_all (w:World):Agree (pinAll w) w:=by
 intro b o v h
 unfold pinAll at h
 split at h
 ·next u e =>
  cases hk:u.oneCell' with
  | true=>rw [hk] at h; simp only [cond_true,Option.some.injEq] at h; subst h; exact ⟨e,hk⟩
  | false=>rw [hk] at h; cases h
 ·cases h
def tiles (P:Program):List Field→Nat→Nat→Bool
 | [],o,n=>Nat.beq o n
 | f::fs,o,n=>Nat.beq f.offset o&&tiles P fs (o+P.cellsOf f.type) n
def supp (P:Program):Nat→TypeId→Bool
 | 0,_=>false
 | n+1,t=>match P.underlying t with
  | some .bool=>true
  | some (.int _)=>true
  | some .string=>true
  | some (.slice e)=>Nat.blt 0 (P.cellsOf e)&&supp P n e
  | some (.struct fs)=>tiles P fs.toList 0 (P.cellsOf t)&&fs.toList.all fun f=>supp P n f.type
  | some (.array m e)=>Nat.beq (m*P.cellsOf e) (P.cellsOf t)&&supp P n e
  | _=>false
def ShF (P:Program) (sh:TypeId→List AV→Prop):List Field→List AV→Prop
 | [],cs=>cs=[]
 | f::fs,cs=>∃ ys zs,sh f.type ys∧ShF P sh fs zs∧cs=ys++zs
def ShE (sh:List AV→Prop):Nat→List AV→Prop
 | 0,cs=>cs=[]
 | n+1,cs=>∃ ys zs,sh ys∧ShE sh n zs∧cs=ys++zs
def Sh (P:Program):Nat→TypeId→List AV→Prop
 | 0,_,_=>False
 | n+1,t,cs=>match P.underlying t with
  | some .bool=>∃ b,cs=[.bool b]
  | some (.int k)=>∃ z,rng k z∧cs=[.int k z]
  | some .string=>∃ s:ByteArray,s.size≤9223372036854775807∧cs=[.str s]
  | some (.slice e)=>∃ xs:List (List AV),xs.length≤9223372036854775807∧(∀ x ∈ xs,Sh P n e x)∧cs=[.sl (P.cellsOf e) false xs]
  | some (.struct fs)=>ShF P (Sh P n) fs.toList cs
  | some (.array m e)=>ShE (Sh P n e) m cs
  | _=>False
theorem shF_of {P:Program} {S:Pin} {sh:TypeId→List AV→Prop} {vs:List Value}:∀ (fs:List Field) (o tot:Nat),tiles P fs o tot=true→vs.length=tot →
  (∀ f ∈ fs,∃ ys,sh f.type ys∧allOne ys=true∧CVl S ys noNm ((vs.drop f.offset).take (P.cellsOf f.type)))→∃ cs,ShF P sh fs cs∧allOne cs=true∧CVl S cs noNm (vs.drop o)
 | [],o,tot,ht,hl,_=>by
  simp only [tiles] at ht
  have:=Nat.eq_of_beq_eq_true ht
  exact ⟨[],rfl,rfl,by simp only [CVl]; exact List.drop_eq_nil_of_le (by omega)⟩
 | f::fs,o,tot,ht,hl,h=>by
  simp only [tiles,Bool.and_eq_true] at ht
  obtain ⟨ho,ht⟩:=ht
  have ho:=Nat.eq_of_beq_eq_true ho
  obtain ⟨ys,h1,h2,h3⟩:=h f (List.mem_cons_self ..)
  obtain ⟨zs,k1,k2,k3⟩:=shF_of fs _ tot ht hl (fun g hg=>h g (List.mem_cons_of_mem _ hg))
  refine ⟨ys++zs,⟨ys,zs,h1,k1,rfl⟩,allOne_append h2 k2,?_⟩
  rw [ho] at h3
  have e:vs.drop o=(vs.drop o).take (P.cellsOf f.type)++vs.drop (o+P.cellsOf f.type):=by
   rw [← List.drop_drop]; exact (List.take_append_drop _ _).symm
  rw [e]
  exact CVl.append h3 k3
where allOne_append:∀ {xs ys:List AV},allOne xs=true→allOne ys=true→allOne (xs++ys)=true
 | [],ys,_,h=>h
 | x::xs,ys,h,k=>by
  simp only [allOne,Bool.and_eq_true,List.cons_append] at h ⊢
  exact ⟨h.1,allOne_append h.2 k⟩
theorem shE_of {S:Pin} {sh:List AV→Prop} {s:Nat}:∀ (n:Nat) (vs:List Value),vs.length=n*s→(∀ i,i < n→∃ ys,sh ys∧allOne ys=true∧CVl S ys noNm ((vs.drop (i*s)).take s)) →
  ∃ cs,ShE sh n cs∧allOne cs=true∧CVl S cs noNm vs
 | 0,vs,hl,_=>⟨[],rfl,rfl,by simp only [CVl]; exact List.eq_nil_of_length_eq_zero (by omega)⟩
 | n+1,vs,hl,h=>by
  obtain ⟨ys,h1,h2,h3⟩:=h 0 (by omega)
  have hl':vs.length=n*s+s:=by rw [hl,Nat.succ_mul]
  obtain ⟨zs,k1,k2,k3⟩:=shE_of n (vs.drop s) (by rw [List.length_drop,hl',Nat.add_sub_cancel]) (fun i hi=>by
   obtain ⟨q,q1,q2,q3⟩:=h (i+1) (by omega)
   refine ⟨q,q1,q2,?_⟩
   rw [List.drop_drop,show s+i*s=(i+1)*s by rw [Nat.succ_mul]; omega]
   exact q3)
  refine ⟨ys++zs,⟨ys,zs,h1,k1,rfl⟩,shF_of.allOne_append h2 k2,?_⟩
  rw [Nat.zero_mul,List.drop_zero] at h3
  have e:vs=vs.take s++vs.drop s:=(List.take_append_drop _ _).symm
  rw [e]
  exact CVl.append h3 k3
theorem list_of {α:Type} {p:Nat→α→Prop}:∀ (n:Nat),(∀ i,i < n→∃ x,p i x)→∃ xs:List α,xs.length=n∧∀ i x,xs[i]?=some x→p i x
 | 0,_=>⟨[],rfl,by simp⟩
 | n+1,h=>by
  obtain ⟨xs,h1,h2⟩:=list_of n (fun i hi=>h i (by omega))
  obtain ⟨x,hx⟩:=h n (by omega)
  refine ⟨xs++[x],by simp [h1],fun i y hy=>?_⟩
  rcases Nat.lt_or_ge i xs.length with hi | hi
  ·rw [List.getElem?_append_left hi] at hy; exact h2 i y hy
  ·rw [List.getElem?_append_right hi] at hy
   rcases Nat.eq_zero_or_pos (i - xs.length) with h0 | h0
   ·rw [h0] at hy
    simp only [List.getElem?_cons_zero,Option.some.injEq] at hy
    rw [← hy,show i=n by omega]; exact hx
   ·rw [List.getElem?_eq_none (by simp; omega)] at hy; cases hy
section
variable {H:Type} {enc:TypeId × Value→H} {P:Program} {w:World} {base:Nat} {held:Bool}
theorem rng_wf {k:IntKind} {z:Int} (h:(Lit.int k z).wf=true):rng k z:=by
 rw [rng_iff]
 simp only [Lit.wf,Bool.and_eq_true,decide_eq_true_eq] at h
 exact h
theorem in_of_trod:∀ (n:Nat) (t:TypeId) (fuel:Nat) (vs:List Value) (x:DataW H × List MemPlace),supp P n t=true→DataW.trod enc P w base (fun _=>true) held fuel t vs=some x →
  ∃ cs,Sh P n t cs∧allOne cs=true∧CVl (pinAll w) cs noNm vs
 | 0,t,_,_,_,hs,_=>by simp [supp] at hs
 | n+1,t,fuel,vs,x,hs,h=>by
  unfold supp at hs
  unfold Sh
  split at hs
  ·next ht =>
   obtain ⟨b,rfl,_⟩:=DataW.trod_bool ht h
   exact ⟨[.bool b],⟨b,rfl⟩,rfl,_,_,rfl,rfl,rfl⟩
  ·next k ht =>
   obtain ⟨z,rfl,_,hw⟩:=DataW.trod_int ht h
   exact ⟨[.int k z],⟨z,rng_wf hw,rfl⟩,rfl,_,_,rfl,⟨rfl,rng_wf hw⟩,rfl⟩
  ·next ht =>
   obtain ⟨s,rfl,_,hw⟩:=DataW.trod_string ht h
   exact ⟨[.str s],⟨s,hw,rfl⟩,rfl,_,_,rfl,⟨rfl,hw⟩,rfl⟩
  ·next e ht =>
   simp only [Bool.and_eq_true] at hs
   have hs0:0 < P.cellsOf e:=by have:=hs.1; simp [Nat.blt] at this; omega
   rcases DataW.trod_slice ht h with ⟨rfl,_⟩ | ⟨a,len,cap,elems,rest,m,_,rfl,_,hb,hl,hc,hlen,hel,hsp,hns⟩
   ·refine ⟨[.sl (P.cellsOf e) false []],⟨[],by simp,by simp,rfl⟩,rfl,_,_,rfl,⟨none,0,rfl,by simp,by simp,(fun h=>by cases h),(fun _=>rfl),(fun a ha=>by cases ha)⟩,rfl⟩
   ·have each:∀ i,i < len→∃ x,(Sh P n e x)∧∃ cs',w.cells? base (a.add (i*P.cellsOf e)) (P.cellsOf e)=some cs'∧allOne x=true∧CVl (pinAll w) x noNm cs':=by
     intro i hi
     have h1:=hel i hi
     have hx:elems[i]?=some (elems[i]'(by omega)):=List.getElem?_eq_getElem (by omega)
     rw [hx,Option.bind_eq_some_iff] at h1
     obtain ⟨cs',h2,h3⟩:=h1
     obtain ⟨y,k1,k2,k3⟩:=in_of_trod n e m cs' _ hs.2 h3
     exact ⟨y,k1,cs',h2,k2,k3⟩
    obtain ⟨xs,hx1,hx2⟩:=list_of len each
    have hmem:∀ x ∈ xs,Sh P n e x:=by
     intro x hx
     obtain ⟨i,hi⟩:=List.getElem?_of_mem hx
     exact (hx2 i x hi).1
    refine ⟨[.sl (P.cellsOf e) false xs],⟨xs,by unfold maxLen at hc; omega,hmem,rfl⟩,rfl,_,_,rfl,⟨some a,cap,by rw [hx1],by omega,hc,(fun h=>by cases h),(fun h=>by cases h),fun a' ha=>?_⟩,rfl⟩
    cases ha
    have key:∀ (j:Nat) (x:List AV),xs[j]?=some x→∃ cs':List Value,cs'.length=P.cellsOf e∧CVl (pinAll w) x noNm cs'∧allOne x=true∧∀ i,i < P.cellsOf e→w.cell? ((a.add (j*P.cellsOf e)).add i)=cs'[i]?:=by
     intro j x hj
     obtain ⟨_,cs',h2,h3,h4⟩:=hx2 j x hj
     obtain ⟨_,q1,q2⟩:=World.cells?_some h2
     exact ⟨cs',q1,h4,h3,q2⟩
    have spot:cap≠0→a.spot=none:=by
     intro h0
     have h1:∃ cs',w.cells? base (a.add (0*P.cellsOf e)) (P.cellsOf e)=some cs':=by
      rcases Nat.eq_zero_or_pos len with hl0 | hl0
      ·obtain ⟨hr,hr2⟩:=hsp rfl
       have h1:=hr2 0 (by omega)
       have hx:rest[0]?=some (rest[0]'(by omega)):=List.getElem?_eq_getElem (by omega)
       rw [hx,Option.bind_eq_some_iff] at h1
       obtain ⟨cs',h2,_⟩:=h1
       exact ⟨cs',by rw [← h2,hl0]⟩
      ·have h1:=hel 0 hl0
       have hx:elems[0]?=some (elems[0]'(by omega)):=List.getElem?_eq_getElem (by omega)
       rw [hx,Option.bind_eq_some_iff] at h1
       obtain ⟨cs',h2,_⟩:=h1
       exact ⟨cs',h2⟩
     obtain ⟨cs',h2⟩:=h1
     obtain ⟨_,q1,q2⟩:=World.cells?_some h2
     have h3:=q2 0 hs0
     rw [List.getElem?_eq_getElem (by omega)] at h3
     have h4:=World.cell?_spot h3
     simpa [Addr.add] using h4
    refine ⟨spot,CE.mk fun j x hj=>?_⟩
    obtain ⟨cs',k1,k2,k3,k4⟩:=key j x hj
    have hxl:x.length=P.cellsOf e:=by rw [← k1]; exact (CVl.len k2).symm
    refine ⟨hxl,CC.mk fun i y hy=>?_⟩
    obtain ⟨u,hu,hcv⟩:=CVl.get k2 hy
    have hi:i < P.cellsOf e:=by have:=(List.getElem?_eq_some_iff.1 hy).1; omega
    have hj':j < len:=by have:=(List.getElem?_eq_some_iff.1 hj).1; omega
    have hsp:=spot (by omega)
    obtain ⟨b,o,sp⟩:=a
    simp only at hsp
    subst hsp
    have h5:=k4 i hi
    rw [add_none,add_none,hu] at h5
    exact ⟨u,pinAll_some h5 (allOne_cv k2 k3 u (List.mem_of_getElem? hu)),hcv⟩
  ·next fs ht =>
   simp only [Bool.and_eq_true,List.all_eq_true] at hs
   obtain ⟨xs,m,_,_,hl,hxl,hf⟩:=DataW.trod_struct ht h
   obtain ⟨cs,k1,k2,k3⟩:=shF_of (S:=pinAll w) (sh:=Sh P n) (vs:=vs) fs.toList 0 _ hs.1 hl (fun f hfm=>by
    obtain ⟨i,hi⟩:=List.getElem?_of_mem hfm
    have h1:=hf i f (by simpa using hi)
    have hi':i < fs.size:=by have:=(List.getElem?_eq_some_iff.1 hi).1; simpa using this
    rw [List.getElem?_eq_getElem (by omega:i < xs.length)] at h1
    exact in_of_trod n f.type m _ _ (hs.2 f hfm) h1)
   exact ⟨cs,k1,k2,by simpa using k3⟩
  ·next m e ht =>
   simp only [Bool.and_eq_true] at hs
   obtain ⟨xs,q,_,_,hl,hxl,hf⟩:=DataW.trod_array ht h
   have hsz:=Nat.eq_of_beq_eq_true hs.1
   exact shE_of (S:=pinAll w) (sh:=Sh P n e) (s:=P.cellsOf e) m vs (by omega) (fun i hi=>by
    have h1:=hf i hi
    rw [List.getElem?_eq_getElem (by omega:i < xs.length)] at h1
    exact in_of_trod n e q _ _ hs.2 h1)
  ·cases hs
def mkA (P:Program) (t:TypeId) (cs:List AV):AV:=cond (isAg P t) (.agg cs) (match cs with | [x]=>x | _=>.dead)
def ShAll (P:Program):List TypeId→(List AV→Prop)→Prop
 | [],K=>K []
 | t::ts,K=>∀ cs,Sh P 50 t cs→ShAll P ts fun xs=>K (mkA P t cs::xs)
theorem in_one {r:Reach} {b0 n:Nat} {t:TypeId} {v:Value} {fuel:Nat} {x:DataW H × List MemPlace} (hs:supp P n t=true) (hv:Value.okWide P w r b0 t v) (h:DataW.trod enc P w base (fun _=>true) held fuel t v.cells.toList=some x) :
  ∃ cs,Sh P n t cs∧CV (pinAll w) (mkA P t cs) noNm v:=by
 obtain ⟨cs,h1,h2,h3⟩:=in_of_trod n t fuel _ x hs h
 refine ⟨cs,h1,?_⟩
 have one:isAg P t=false→v.cells=#[v]→CV (pinAll w) (mkA P t cs) noNm v:=by
  intro ha hc
  rw [hc] at h3
  unfold mkA
  rw [ha]
  match cs,h3 with
  | [y],h3 =>
   simp only [CVl] at h3
   obtain ⟨u,us,e,hy,hn⟩:=h3
   simp at e
   rw [e.1]; exact hy
  | [],h3=>simp [CVl] at h3
  | _::_::_,h3 =>
   simp [CVl] at h3
   obtain ⟨u,us,⟨_,e⟩,_,u',us',e',_⟩:=h3
   rw [e] at e'; cases e'
 have agg:isAg P t=true→∀ us,v=.agg us→CV (pinAll w) (mkA P t cs) noNm v:=by
  intro ha us e
  subst e
  unfold mkA
  rw [ha]
  exact ⟨us,rfl,h3⟩
 unfold Value.okWide at hv
 cases n with
 | zero=>simp [supp] at hs
 | succ n =>
  unfold supp at hs
  split at hs
  ·next ht =>
   rw [ht] at hv
   simp only [Cell.okWide,Cell.ok,ht] at hv
   refine one (by unfold isAg; rw [ht]) ?_
   split at hv <;> first | rfl | (split at hv <;> first | rfl | cases hv) | cases hv
  ·next k ht =>
   rw [ht] at hv
   simp only [Cell.okWide,Cell.ok,ht] at hv
   refine one (by unfold isAg; rw [ht]) ?_
   split at hv <;> first | rfl | (split at hv <;> first | rfl | cases hv) | cases hv
  ·next ht =>
   rw [ht] at hv
   simp only [Cell.okWide,Cell.ok,ht] at hv
   refine one (by unfold isAg; rw [ht]) ?_
   split at hv <;> first | rfl | (split at hv <;> first | rfl | cases hv) | cases hv
  ·next e ht =>
   rw [ht] at hv
   simp only [Cell.okWide,Cell.ok,ht] at hv
   refine one (by unfold isAg; rw [ht]) ?_
   split at hv <;> first | rfl | (split at hv <;> first | rfl | cases hv) | cases hv
  ·next fs ht =>
   rw [ht] at hv
   obtain ⟨us,e,_⟩:=hv
   exact agg (by unfold isAg; rw [ht]) us e
  ·next m e ht =>
   rw [ht] at hv
   obtain ⟨us,e,_⟩:=hv
   exact agg (by unfold isAg; rw [ht]) us e
  ·cases hs
theorem in_all {r:Reach} {b0:Nat}:∀ (ts:List TypeId) (vs:List Value) (ds:List (DataW H)) (ps:List MemPlace) (K:List AV→Prop),(ts.all fun t=>supp P 50 t)=true→DataW.TrodAll enc P w base (fun _=>true) held ts vs ds ps →
  (∀ (j:Nat) t v,ts[j]?=some t→vs[j]?=some v→Value.okWide P w r b0 t v)→ShAll P ts K→∃ xs,K xs∧CVl (pinAll w) xs noNm vs
 | [],[],[],ps,K,_,h,_,hK=>⟨[],hK,by simp only [CVl]⟩
 | t::ts,v::vs,d::ds,ps,K,hs,h,hv,hK=>by
  simp only [List.all_cons,Bool.and_eq_true] at hs
  obtain ⟨p,q,⟨fuel,h1⟩,h2,_⟩:=h
  obtain ⟨cs,k1,k2⟩:=in_one hs.1 (hv 0 t v rfl rfl) h1
  obtain ⟨xs,q1,q2⟩:=in_all ts vs ds q (fun xs=>K (mkA P t cs::xs)) hs.2 h2 (fun j t v ht hv'=>hv (j+1) t v (by simpa using ht) (by simpa using hv')) (hK cs k1)
  exact ⟨_,q1,by simp only [CVl]; exact ⟨v,vs,rfl,k2,q2⟩⟩
 | [],v::vs,ds,ps,K,_,h,_,_=>by cases ds <;> simp [DataW.TrodAll] at h
 | [],[],d::ds,ps,K,_,h,_,_=>by simp [DataW.TrodAll] at h
 | t::ts,[],ds,ps,K,_,h,_,_=>by cases ds <;> simp [DataW.TrodAll] at h
 | t::ts,v::vs,[],ps,K,_,h,_,_=>by simp [DataW.TrodAll] at h
theorem law_calls {gl:Glob} {f:FuncId} {r:Reach} {b0:Nat} {ts:List TypeId} {args:Array Value} {ds:List (DataW H)} {ps:List MemPlace} (hs:(ts.all fun t=>supp P 50 t)=true) (hg:GOKg gl (pinAll w))
  (h:ShAll P ts fun xs=>PureC P gl f xs (.bool true)) (hA:DataW.TrodAll enc P w base (fun _=>true) held ts args.toList ds ps)
  (hv:∀ (j:Nat) t v,ts[j]?=some t→args.toList[j]?=some v→Value.okWide P w r b0 t v) :
  Calls P f args w fun e w'=>e=.returned (.bool true)∧Below w.heap.size w w':=by
 obtain ⟨xs,h1,h2⟩:=in_all ts _ ds ps _ hs hA hv h
 refine (h1 w (pinAll w) args hg (agree_all w) h2).mono fun e w' h=>?_
 obtain ⟨u,S',h3,h4,_,_,_,h5⟩:=h
 simp only [CV] at h5
 exact ⟨by rw [h3,h5],h4⟩
theorem trodAll_stay (hl:laidOutB P=true) {w':World} (hb:Below w.heap.size w w'):∀ (ts:List TypeId) (vs:List Value) (ds:List (DataW H)) (ps:List MemPlace),(ts.all fun t=>P.readableRec t&&decide (t < P.types.size))=true →
  DataW.TrodAll enc P w 0 (fun _=>true) true ts vs ds ps→DataW.TrodAll enc P w' 0 (fun b=>decide (b < w.heap.size)) true ts vs ds ps
 | [],[],[],ps,_,h=>h
 | t::ts,v::vs,d::ds,ps,hs,h=>by
  simp only [List.all_cons,Bool.and_eq_true,decide_eq_true_eq] at hs
  obtain ⟨p,q,h1,h2,h3⟩:=h
  have hlt:∀ x ∈ p,x.block < w.heap.size:=by obtain ⟨m,hm⟩:=h1; exact DataW.trod_lt m _ _ _ hm
  exact ⟨p,q,Below.trod hl hs.1.1 hs.1.2 h1 hb hlt,trodAll_stay hl hb ts vs ds q hs.2 h2,h3⟩
 | [],v::vs,ds,ps,_,h=>by cases ds <;> simp [DataW.TrodAll] at h
 | [],[],d::ds,ps,_,h=>by simp [DataW.TrodAll] at h
 | t::ts,[],ds,ps,_,h=>by cases ds <;> simp [DataW.TrodAll] at h
 | t::ts,v::vs,[],ps,_,h=>by simp [DataW.TrodAll] at h
def suppG (P:Program):Nat→TypeId→Bool
 | 0,_=>false
 | n+1,t=>match P.underlying t with
  | some .bool=>true
  | some (.int _)=>true
  | some .string=>true
  | some (.struct fs)=>tiles P fs.toList 0 (P.cellsOf t)&&fs.toList.all fun f=>suppG P n f.type
  | some (.array m e)=>Nat.beq (m*P.cellsOf e) (P.cellsOf t)&&suppG P n e
  | _=>false
mutual
def flatD:DataW H→List AV
 | .lit (.bool b)=>[.bool b]
 | .lit (.int k z)=>[.int k z]
 | .lit (.string l)=>[.str ⟨l.toArray⟩]
 | .agg ds=>flatDs ds
 | _=>[.dead]
def flatDs:List (DataW H)→List AV
 | []=>[]
 | d::ds=>flatD d++flatDs ds
end
theorem flatF {S:Pin} {vs:List Value}:∀ (fs:List Field) (ds:List (DataW H)) (o tot:Nat),tiles P fs o tot=true→vs.length=tot→ds.length=fs.length →
  (∀ (i:Nat) (f:Field) (d:DataW H),fs[i]?=some f→ds[i]?=some d→CVl S (flatD d) noNm ((vs.drop f.offset).take (P.cellsOf f.type)))→CVl S (flatDs ds) noNm (vs.drop o)
 | [],[],o,tot,ht,hl,_,_=>by
  simp only [tiles] at ht
  have:=Nat.eq_of_beq_eq_true ht
  simp only [flatDs,CVl]; exact List.drop_eq_nil_of_le (by omega)
 | f::fs,d::ds,o,tot,ht,hl,hd,h=>by
  simp only [tiles,Bool.and_eq_true] at ht
  obtain ⟨ho,ht⟩:=ht
  have ho:=Nat.eq_of_beq_eq_true ho
  have h1:=h 0 f d rfl rfl
  have h2:=flatF fs ds _ tot ht hl (by simpa using hd) (fun i g d' hg hd'=>h (i+1) g d' (by simpa using hg) (by simpa using hd'))
  rw [ho] at h1
  have e:vs.drop o=(vs.drop o).take (P.cellsOf f.type)++vs.drop (o+P.cellsOf f.type):=by
   rw [← List.drop_drop]; exact (List.take_append_drop _ _).symm
  rw [e]
  simp only [flatDs]
  exact CVl.append h1 h2
 | [],_::_,_,_,_,_,hd,_=>by simp at hd
 | _::_,[],_,_,_,_,hd,_=>by simp at hd
theorem flatE {S:Pin} {s:Nat}:∀ (ds:List (DataW H)) (vs:List Value),vs.length=ds.length*s→(∀ (i:Nat) (d:DataW H),ds[i]?=some d→CVl S (flatD d) noNm ((vs.drop (i*s)).take s))→CVl S (flatDs ds) noNm vs
 | [],vs,hl,_=>by simp only [flatDs,CVl]; exact List.eq_nil_of_length_eq_zero (by simpa using hl)
 | d::ds,vs,hl,h=>by
  have h1:=h 0 d rfl
  have hl':vs.length=ds.length*s+s:=by rw [hl,List.length_cons,Nat.succ_mul]
  have h2:=flatE (S:=S) (s:=s) ds (vs.drop s) (by rw [List.length_drop]; omega) (fun i d' hd=>by
   have:=h (i+1) d' (by simpa using hd)
   rw [List.drop_drop,show s+i*s=(i+1)*s by rw [Nat.succ_mul]; omega]
   exact this)
  rw [Nat.zero_mul,List.drop_zero] at h1
  have e:vs=vs.take s++vs.drop s:=(List.take_append_drop _ _).symm
  rw [e]
  simp only [flatDs]
  exact CVl.append h1 h2
theorem flat_of_trod {S:Pin} {spare:Nat→Bool}:∀ (n:Nat) (t:TypeId) (fuel:Nat) (vs:List Value) (x:DataW H × List MemPlace),suppG P n t=true→DataW.trod enc P w base spare held fuel t vs=some x→CVl S (flatD x.1) noNm vs
 | 0,t,_,_,_,hs,_=>by simp [suppG] at hs
 | n+1,t,fuel,vs,x,hs,h=>by
  unfold suppG at hs
  split at hs
  ·next ht =>
   obtain ⟨b,rfl,rfl⟩:=DataW.trod_bool ht h
   exact ⟨_,_,rfl,rfl,rfl⟩
  ·next k ht =>
   obtain ⟨z,rfl,rfl,hw⟩:=DataW.trod_int ht h
   exact ⟨_,_,rfl,⟨rfl,rng_wf hw⟩,rfl⟩
  ·next ht =>
   obtain ⟨s,rfl,rfl,hw⟩:=DataW.trod_string ht h
   exact ⟨_,_,rfl,⟨by simp,by simpa using hw⟩,rfl⟩
  ·next fs ht =>
   simp only [Bool.and_eq_true,List.all_eq_true] at hs
   obtain ⟨xs,m,_,rfl,hl,hxl,hf⟩:=DataW.trod_struct ht h
   have:=flatF (S:=S) (vs:=vs) fs.toList (xs.map (·.1)) 0 _ hs.1 hl (by simpa using hxl) (fun i f d hi hd=>by
    have h1:=hf i f (by simpa using hi)
    rw [List.getElem?_map] at hd
    cases hx:xs[i]? with
    | none=>rw [hx] at hd; cases hd
    | some y =>
     rw [hx] at hd h1
     simp only [Option.map_some,Option.some.injEq] at hd
     subst hd
     exact flat_of_trod n f.type m _ _ (hs.2 f (List.mem_of_getElem? hi)) h1)
   simpa [flatD] using this
  ·next m e ht =>
   simp only [Bool.and_eq_true] at hs
   obtain ⟨xs,q,_,rfl,hl,hxl,hf⟩:=DataW.trod_array ht h
   have hsz:=Nat.eq_of_beq_eq_true hs.1
   have:=flatE (S:=S) (s:=P.cellsOf e) (xs.map (·.1)) vs (by simp only [List.length_map]; rw [hxl]; omega) (fun i d hd=>by
    rw [List.getElem?_map] at hd
    cases hx:xs[i]? with
    | none=>rw [hx] at hd; cases hd
    | some y =>
     have hi:i < m:=by have:=(List.getElem?_eq_some_iff.1 hx).1; omega
     have h1:=hf i hi
     rw [hx] at hd h1
     simp only [Option.map_some,Option.some.injEq] at hd
     subst hd
     exact flat_of_trod n e q _ _ hs.2 h1)
   simpa [flatD] using this
  ·cases hs
end
theorem intsA_of {xs:List (List AV)} (h:∀ x ∈ xs,∃ z,rng .i64 z∧x=[.int .i64 z]):IntsA xs:=fun x hx=>by
 obtain ⟨z,h1,h2⟩:=h x hx
 exact ⟨z,h2,h1⟩
theorem glob_cells {W:World} {g:Nat} {cs:Array Value} {az:List AV} (hc:∀ i,W.cell? ⟨g,i,none⟩=cs[i]?) (h:CVl (pinAll W) az noNm cs.toList) (h1:allOne az=true):CC (pinAll W) az g 0:=by
 refine CC.mk fun j x hx=>?_
 obtain ⟨u,hu,hcv⟩:=CVl.get h hx
 have h2:=hc j
 rw [show cs[j]?=some u by simpa using hu] at h2
 rw [Nat.zero_add]
 exact ⟨u,pinAll_some h2 (allOne_cv h h1 u (List.mem_of_getElem? hu)),hcv⟩
end Go.Proofs.YtldiagnbagpliaaGreatDoor
