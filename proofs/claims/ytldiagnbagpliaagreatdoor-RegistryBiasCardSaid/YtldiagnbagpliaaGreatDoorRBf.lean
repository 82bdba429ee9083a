import Derived.Test.YtldiagnbagpliaaGreatDoorRBe
set_option maxRecDepth 100000
namespace Go.Proofs.YtldiagnbagpliaaGreatDoor
open Go
set_option linter.unusedVariables false
set_option linter.unusedSimpArgs false
abbrev LLR:=List (List AV)
def pdA (fr:Int) (cl:Bool) (f a b c:Int) (bs:LLR):List AV:=[.int .i64 fr,.bool cl,.int .i64 f,.int .i64 a,.int .i64 b,.int .i64 c,.sl 2 false bs]
def stA (k:Int) (nm:ByteArray) (ps:LLR):List AV:=[.int .i64 k,.str nm,.sl 7 false ps]
structure PdsP (ps:LLR):Prop where
 fr:∀ i,i < ps.length→∃ (fr:Int) (cl:Bool) (f a b c:Int) (bs:LLR),ps.getD i []=pdA fr cl f a b c bs∧RdsP bs∧bs.length≤1000
 fs:ps.length≤1000000
structure StsP (l:LLR):Prop where
 fr:∀ i,i < l.length→∃ (k:Int) (nm:ByteArray) (ps:LLR),l.getD i []=stA k nm ps∧PdsP ps
 fs:l.length≤1000000
def exK (k:Int):Bool:=decide (1≤k∧k≤3)
def nonP (f a b c:Int):Bool:=decide (f=0∧a=0∧b=0∧c=0)
def bsX (bs:LLR) (i:Nat):Bool:=!(okC (rE (bs.getD i [])))||(decide (1000 < rV (bs.getD i []))||(decide (rV (bs.getD i []) < -1000)||(decide (0 < i)&&decide (rE (bs.getD i [])≤rE (bs.getD (i - 1) [])))))
def bsOk (bs:LLR):Bool:=decide (∀ i,i < bs.length→bsX bs i=false)
def pdV (k fr:Int) (cl:Bool) (f a b c:Int) (bs:LLR):Bool :=
 if fr < 0∨52595999 < fr then false else if cl=true then nonP f a b c&&decide (bs.length=0) else if bsOk bs then (if k=1 then isN f a b c else nonP f a b c) else false
def sNm (r:List AV):ByteArray:=match r with
 | [_,.str s,_]=>s
 | _=>⟨#[]⟩
def sPs (r:List AV):LLR:=match r with
 | [_,_,.sl _ _ ps]=>ps
 | _=>[]
def pdR (k:Int) (r:List AV):Bool:=match r with
 | [.int _ fr,.bool cl,.int _ f,.int _ a,.int _ b,.int _ c,.sl _ _ bs]=>pdV k fr cl f a b c bs
 | _=>false
def s1B (ps:LLR):Bool:=decide (ps.length=0)||decide (8 < (ps.length:Int))
def bdP (k:Int) (r:List AV):Bool:=!(pdR k r)
def p1R (r:List AV):Bool:=s1B (sPs r)
def p2R (r:List AV):Bool:=!(exK (rE r))
def p3R (r:List AV):Bool:=!(nmOk (sNm r))
def p4R (r:List AV):Bool:=(sPs r).any (bdP (rE r))
def p5R (r:List AV):Bool:=!(ascB (sPs r))
structure StsW (l:LLR) (q m:Nat):Prop where
 fr:∀ i,i < l.length→∃ (k:Int) (nm:ByteArray) (ps:LLR),l.getD i []=stA k nm ps∧PdsP ps∧ps.length≤q
 fl:l.length≤m
structure PrdQ (bs:LLR) (j:Int):Prop where
 fr:RdsP bs
 fl:bs.length≤11
 fj:0≤j
structure PrdP (x:Int × Int × Int × Int × Int × Int × Int × LLR):Prop where
 fc:1≤x.2.2.2.2.2.1∧x.2.2.2.2.2.1≤12
 fj:0≤x.2.2.2.2.2.2.1
 fr:RdsP x.2.2.2.2.2.2.2
 fl:(x.2.2.2.2.2.2.2.length:Int) < x.2.2.2.2.2.1
def prdI (xs:List (List AV)):LInv:=⟨Int × Int × Int × Int × Int × Int × Int × LLR,fun x=>⟨[(0,.ptr 0 0),(6,.ptr 1006 0),(7,.ptr 1007 0),(8,.int .i64 x.2.2.2.2.2.1)],[(0,.cells [.sl 1 false xs,.int .i64 x.2.2.2.2.2.2.1]),(1006,.cells [.int .i64 0,.bool false,.int .i64 0,.int .i64 0,.int .i64 0,.int .i64 0,.nils]),(1007,.cells [.int .i64 x.1,.bool false,.int .i64 x.2.1,.int .i64 x.2.2.1,.int .i64 x.2.2.2.1,.int .i64 x.2.2.2.2.1,.rw 1501 2 x.2.2.2.2.2.2.2.length]),(1501,.row 76 2 x.2.2.2.2.2.2.2)]⟩,PrdP,fun x=>(12 - x.2.2.2.2.2.1).toNat,none⟩
theorem rdsP_nil:RdsP []:=⟨fun i h=>by simp at h,by simp⟩
theorem rds_add {bs:LLR} {e v:Int} (h:RdsP bs) (he:rng .i64 e) (hv:rng .i64 v) (hl:bs.length≤1000):RdsP (bs++[[.int .i64 e,.int .i64 v]]):=by
 refine ⟨fun i hi=>?_,by simp; omega⟩
 rw [List.length_append,List.length_singleton] at hi
 rw [gD_app]
 by_cases q:i < bs.length
 ·rw [if_pos q]; exact h.row i q
 ·rw [if_neg q,show i - bs.length=0 by omega]
  exact ⟨e,v,rfl,he,hv⟩
theorem pick_rng {v j:Int} (h:PickQ [[.int .i64 0],[.int .i64 3],[.int .i64 (-5)],[.int .i64 20],[.int .i64 1000],[.int .i64 (-1000)]] (.int .i64 v) j):rng .i64 v:=by
 have:=pick_of [0,3,-5,20,1000,-1000] h
 simp only [List.mem_cons,List.not_mem_nil,or_false] at this
 show _∧_
 omega
def qperiod_s:SpQ
 | [.ptr 0 0,.int .i64 k,.int .i64 near],[.cells [.sl 1 false xs,.int .i64 i]]=>some (fun K=>(SrcQ xs i∧0≤near∧near≤52595999)∧(∀ (fr:Int) (cl:Bool) (f a b c:Int) (bs:List (List AV)) (j:Int),(PrdQ bs j)→K (.agg [.int .i64 fr,.bool cl,.int .i64 f,.int .i64 a,.int .i64 b,.int .i64 c,.sl 2 false bs]) [.cells [.sl 1 false xs,.int .i64 j]]))
 | _,_=>none
def qperiod_T:Prop :=
  ∀ (gl:Glob) (xs:List (List AV)) (i k near:Int),SrcQ xs i∧(0:Int)≤near∧near≤(52595999:Int)→(SrcQ xs i∧(-200:Int)≤(200:Int)∧(-1000000000:Int)≤(-200
 :Int)∧(200:Int)≤(1000000000:Int))∧∀ (v j:Int),((-200:Int)≤v∧v≤(200:Int))∧(0:Int)≤j→bif decide (rng IntKind.i64 ((0:Int) - near)) then (SrcQ xs j ∧
  ((4:Nat)=[[AV.int IntKind.i64 (-100000:Int)],[AV.int IntKind.i64 (-1000:Int)],[AV.int IntKind.i64 v],[AV.int IntKind.i64 ((0:Int) - near)]].length∧(1:Nat)≤(4 :
  Nat)∧(4:Nat)≤(1000:Nat))∧IntsB [[AV.int IntKind.i64 (-100000:Int)],[AV.int IntKind.i64 (-1000:Int)],[AV.int IntKind.i64 v],[AV.int IntKind.i64 ((0:Int) -
  near)]])∧∀ (v_1 j:Int),PickQ [[AV.int IntKind.i64 (-100000:Int)],[AV.int IntKind.i64 (-1000:Int)],[AV.int IntKind.i64 v],[AV.int IntKind.i64 ((0:Int) - near)]]
  (AV.int IntKind.i64 v_1) j→bif decide (rng IntKind.i64 (near+v_1)) then SrcQ xs j∧∀ (v j:Int),NumQ (7:Int) v j→bif decide (v=(6:Int)) then ∃ fr cl f a b c bs j_1,
  PrdQ bs j_1∧(max (0:Int) (min (52595999:Int) (near+v_1))=fr∧true=cl∧(0:Int)=f∧(0:Int)=a∧(0:Int)=b∧(0:Int)=c∧bs=[]∧True)∧((True∧xs =
  xs)∧j=j_1∧True)∧True else bif decide (k=(1:Int)) then SrcQ xs j∧∀ (f a b c j:Int),PlaQ f a b c j→(∃ x,PrdP x∧((0:Nat)=(0:Nat)∧(0:Nat)=(0:Nat) ∧
  (0:Nat)=(0:Nat)∧(1:Int)=x.snd.snd.snd.snd.snd.fst∧True)∧((True∧xs=xs)∧j=x.snd.snd.snd.snd.snd.snd.fst∧True)∧((0:Int)=(0:Int)∧false=false∧(0
 :Int)=(0:Int)∧(0:Int)=(0:Int)∧(0:Int)=(0:Int)∧(0:Int)=(0:Int)∧True∧True)∧(max (0:Int) (min (52595999:Int) (near+v_1))=x.fst∧false =
  false∧f=x.snd.fst∧a=x.snd.snd.fst∧b=x.snd.snd.snd.fst∧c=x.snd.snd.snd.snd.fst∧(0:Nat)=List.length x.snd.snd.snd.snd.snd.snd.snd∧True)∧[] =
  x.snd.snd.snd.snd.snd.snd.snd∧True)∧∀ (x:Int × Int × Int × Int × Int × Int × Int × LLR),PrdP x→bif decide (x.snd.snd.snd.snd.snd.fst≤(11:Int)) then SrcQ xs
  x.snd.snd.snd.snd.snd.snd.fst∧∀ (v j:Int),NumQ (7:Int) v j→bif decide (v=(6:Int)) then (SrcQ xs j∧((6:Nat)=(6:Nat)∧(1:Nat)≤(6:Nat)∧(6:Nat)≤(1000
 :Nat))∧IntsB [[AV.int IntKind.i64 (0:Int)],[AV.int IntKind.i64 (3:Int)],[AV.int IntKind.i64 (-5:Int)],[AV.int IntKind.i64 (20:Int)],[AV.int IntKind.i64 (1000 :
  Int)],[AV.int IntKind.i64 (-1000:Int)]])∧∀ (v j:Int),PickQ [[AV.int IntKind.i64 (0:Int)],[AV.int IntKind.i64 (3:Int)],[AV.int IntKind.i64 (-5:Int)],[AV.int
  IntKind.i64 (20:Int)],[AV.int IntKind.i64 (1000:Int)],[AV.int IntKind.i64 (-1000:Int)]] (AV.int IntKind.i64 v) j→bif decide (List.length x.snd.snd.snd.snd.snd.snd.snd =
  List.length x.snd.snd.snd.snd.snd.snd.snd∧List.length x.snd.snd.snd.snd.snd.snd.snd+[[AV.int IntKind.i64 x.snd.snd.snd.snd.snd.fst,AV.int IntKind.i64 v]].length ≤
  (9223372036854775807:Nat)∧(List.length x.snd.snd.snd.snd.snd.snd.snd+[[AV.int IntKind.i64 x.snd.snd.snd.snd.snd.fst,AV.int IntKind.i64 v]].length)*(16:Nat) ≤
  (140737488355328:Nat)) then bif decide (rng IntKind.i64 (x.snd.snd.snd.snd.snd.fst+(1:Int))) then ∃ y,PrdP y∧(prdI xs).m y < (prdI xs).m x∧((0:Nat)=(0:Nat)∧(0 :
  Nat)=(0:Nat)∧(0:Nat)=(0:Nat)∧x.snd.snd.snd.snd.snd.fst+(1:Int)=y.snd.snd.snd.snd.snd.fst∧True)∧((True∧xs=xs)∧j=y.snd.snd.snd.snd.snd.snd.fst∧True)
 ∧((0:Int)=(0:Int)∧false=false∧(0:Int)=(0:Int)∧(0:Int)=(0:Int)∧(0:Int)=(0:Int)∧(0:Int)=(0:Int)∧True∧True)∧(x.fst=y.fst∧false =
  false∧x.snd.fst=y.snd.fst∧x.snd.snd.fst=y.snd.snd.fst∧x.snd.snd.snd.fst=y.snd.snd.snd.fst∧x.snd.snd.snd.snd.fst=y.snd.snd.snd.snd.fst ∧
  (x.snd.snd.snd.snd.snd.snd.snd++[[AV.int IntKind.i64 x.snd.snd.snd.snd.snd.fst,AV.int IntKind.i64 v]]).length=List.length y.snd.snd.snd.snd.snd.snd.snd∧True) ∧
  x.snd.snd.snd.snd.snd.snd.snd++[[AV.int IntKind.i64 x.snd.snd.snd.snd.snd.fst,AV.int IntKind.i64 v]]=y.snd.snd.snd.snd.snd.snd.snd∧True else False else False else bif decide
  (rng IntKind.i64 (x.snd.snd.snd.snd.snd.fst+(1:Int))) then ∃ y,PrdP y∧(prdI xs).m y < (prdI xs).m x∧((0:Nat)=(0:Nat)∧(0:Nat)=(0:Nat)∧(0:Nat)=(0:Nat)
 ∧x.snd.snd.snd.snd.snd.fst+(1:Int)=y.snd.snd.snd.snd.snd.fst∧True)∧((True∧xs=xs)∧j=y.snd.snd.snd.snd.snd.snd.fst∧True)∧((0:Int)=(0:Int)∧false=false
 ∧(0:Int)=(0:Int)∧(0:Int)=(0:Int)∧(0:Int)=(0:Int)∧(0:Int)=(0:Int)∧True∧True)∧(x.fst=y.fst∧false=false∧x.snd.fst=y.snd.fst ∧
  x.snd.snd.fst=y.snd.snd.fst∧x.snd.snd.snd.fst=y.snd.snd.snd.fst∧x.snd.snd.snd.snd.fst=y.snd.snd.snd.snd.fst∧List.length x.snd.snd.snd.snd.snd.snd.snd=List.length
  y.snd.snd.snd.snd.snd.snd.snd∧True)∧x.snd.snd.snd.snd.snd.snd.snd=y.snd.snd.snd.snd.snd.snd.snd∧True else False else bif decide (List.length x.snd.snd.snd.snd.snd.snd.snd =
  List.length x.snd.snd.snd.snd.snd.snd.snd) then ∃ fr cl f a b c bs j,PrdQ bs j∧(x.fst=fr∧false=cl∧x.snd.fst=f∧x.snd.snd.fst=a∧x.snd.snd.snd.fst=b ∧
  x.snd.snd.snd.snd.fst=c∧(True∧x.snd.snd.snd.snd.snd.snd.snd=bs)∧True)∧((True∧xs=xs)∧x.snd.snd.snd.snd.snd.snd.fst=j∧True)∧True else False else (∃ x,PrdP x
 ∧((0:Nat)=(0:Nat)∧(0:Nat)=(0:Nat)∧(0:Nat)=(0:Nat)∧(1:Int)=x.snd.snd.snd.snd.snd.fst∧True)∧((True∧xs=xs)∧j=x.snd.snd.snd.snd.snd.snd.fst ∧
  True)∧((0:Int)=(0:Int)∧false=false∧(0:Int)=(0:Int)∧(0:Int)=(0:Int)∧(0:Int)=(0:Int)∧(0:Int)=(0:Int)∧True∧True)∧(max (0:Int) (min
  (52595999:Int) (near+v_1))=x.fst∧false=false∧(0:Int)=x.snd.fst∧(0:Int)=x.snd.snd.fst∧(0:Int)=x.snd.snd.snd.fst∧(0:Int)=x.snd.snd.snd.snd.fst∧(0
 :Nat)=List.length x.snd.snd.snd.snd.snd.snd.snd∧True)∧[]=x.snd.snd.snd.snd.snd.snd.snd∧True)∧∀ (x:Int × Int × Int × Int × Int × Int × Int × LLR),PrdP x→bif decide
  (x.snd.snd.snd.snd.snd.fst≤(11:Int)) then SrcQ xs x.snd.snd.snd.snd.snd.snd.fst∧∀ (v j:Int),NumQ (7:Int) v j→bif decide (v=(6:Int)) then (SrcQ xs j∧((6:Nat) =
  (6:Nat)∧(1:Nat)≤(6:Nat)∧(6:Nat)≤(1000:Nat))∧IntsB [[AV.int IntKind.i64 (0:Int)],[AV.int IntKind.i64 (3:Int)],[AV.int IntKind.i64 (-5:Int)],[AV.int
  IntKind.i64 (20:Int)],[AV.int IntKind.i64 (1000:Int)],[AV.int IntKind.i64 (-1000:Int)]])∧∀ (v j:Int),PickQ [[AV.int IntKind.i64 (0:Int)],[AV.int IntKind.i64 (3 :
  Int)],[AV.int IntKind.i64 (-5:Int)],[AV.int IntKind.i64 (20:Int)],[AV.int IntKind.i64 (1000:Int)],[AV.int IntKind.i64 (-1000:Int)]] (AV.int IntKind.i64 v) j→bif
  decide (List.length x.snd.snd.snd.snd.snd.snd.snd=List.length x.snd.snd.snd.snd.snd.snd.snd∧List.length x.snd.snd.snd.snd.snd.snd.snd+[[AV.int IntKind.i64
  x.snd.snd.snd.snd.snd.fst,AV.int IntKind.i64 v]].length≤(9223372036854775807:Nat)∧(List.length x.snd.snd.snd.snd.snd.snd.snd+[[AV.int IntKind.i64
  x.snd.snd.snd.snd.snd.fst,AV.int IntKind.i64 v]].length)*(16:Nat)≤(140737488355328:Nat)) then bif decide (rng IntKind.i64 (x.snd.snd.snd.snd.snd.fst+(1:Int))) then ∃
  y,PrdP y∧(prdI xs).m y < (prdI xs).m x∧((0:Nat)=(0:Nat)∧(0:Nat)=(0:Nat)∧(0:Nat)=(0:Nat)∧x.snd.snd.snd.snd.snd.fst+(1:Int) =
  y.snd.snd.snd.snd.snd.fst∧True)∧((True∧xs=xs)∧j=y.snd.snd.snd.snd.snd.snd.fst∧True)∧((0:Int)=(0:Int)∧false=false∧(0:Int)=(0:Int)∧(0:Int)=(0
 :Int)∧(0:Int)=(0:Int)∧(0:Int)=(0:Int)∧True∧True)∧(x.fst=y.fst∧false=false∧x.snd.fst=y.snd.fst∧x.snd.snd.fst=y.snd.snd.fst∧x.snd.snd.snd.fst =
  y.snd.snd.snd.fst∧x.snd.snd.snd.snd.fst=y.snd.snd.snd.snd.fst∧(x.snd.snd.snd.snd.snd.snd.snd++[[AV.int IntKind.i64 x.snd.snd.snd.snd.snd.fst,AV.int IntKind.i64 v]]).length
 =List.length y.snd.snd.snd.snd.snd.snd.snd∧True)∧x.snd.snd.snd.snd.snd.snd.snd++[[AV.int IntKind.i64 x.snd.snd.snd.snd.snd.fst,AV.int IntKind.i64 v]] =
  y.snd.snd.snd.snd.snd.snd.snd∧True else False else False else bif decide (rng IntKind.i64 (x.snd.snd.snd.snd.snd.fst+(1:Int))) then ∃ y,PrdP y∧(prdI xs).m y < (prdI xs).m
  x∧((0:Nat)=(0:Nat)∧(0:Nat)=(0:Nat)∧(0:Nat)=(0:Nat)∧x.snd.snd.snd.snd.snd.fst+(1:Int)=y.snd.snd.snd.snd.snd.fst∧True)∧((True∧xs=xs)∧j =
  y.snd.snd.snd.snd.snd.snd.fst∧True)∧((0:Int)=(0:Int)∧false=false∧(0:Int)=(0:Int)∧(0:Int)=(0:Int)∧(0:Int)=(0:Int)∧(0:Int)=(0:Int) ∧
  True∧True)∧(x.fst=y.fst∧false=false∧x.snd.fst=y.snd.fst∧x.snd.snd.fst=y.snd.snd.fst∧x.snd.snd.snd.fst=y.snd.snd.snd.fst∧x.snd.snd.snd.snd.fst =
  y.snd.snd.snd.snd.fst∧List.length x.snd.snd.snd.snd.snd.snd.snd=List.length y.snd.snd.snd.snd.snd.snd.snd∧True)∧x.snd.snd.snd.snd.snd.snd.snd =
  y.snd.snd.snd.snd.snd.snd.snd∧True else False else bif decide (List.length x.snd.snd.snd.snd.snd.snd.snd=List.length x.snd.snd.snd.snd.snd.snd.snd) then ∃ fr cl f a b c bs j,
  PrdQ bs j∧(x.fst=fr∧false=cl∧x.snd.fst=f∧x.snd.snd.fst=a∧x.snd.snd.snd.fst=b∧x.snd.snd.snd.snd.fst=c∧(True∧x.snd.snd.snd.snd.snd.snd.snd=bs)∧True) ∧
  ((True∧xs=xs)∧x.snd.snd.snd.snd.snd.snd.fst=j∧True)∧True else False else False else False
theorem qperiod_P:qperiod_T:=by
 unfold qperiod_T
 intro gl xs i k near ⟨hs,h1,h2⟩
 have s:=hs.s
 refine ⟨⟨hs,by decide,by decide,by decide⟩,fun v j q1=>cdI (by omega) ⟨⟨⟨s,q1.2⟩,⟨rfl,by decide,by decide⟩,ints_of [-100000,-1000,v,0 - near] ?_⟩,fun w j q2=>?_⟩⟩
 ·intro n hn
  simp only [List.mem_cons,List.not_mem_nil,or_false] at hn
  show _∧_
  omega
 have hw:=pick_of [-100000,-1000,v,0 - near] q2
 simp only [List.mem_cons,List.not_mem_nil,or_false] at hw
 refine cdI (by omega) ⟨⟨s,q2.fj⟩,fun v j q3=>csx (fun _=>⟨_,_,_,_,_,_,_,_,⟨rdsP_nil,by simp,q3.fj⟩,⟨rfl,rfl,rfl,rfl,rfl,rfl,rfl,trivial⟩,⟨⟨trivial,rfl⟩,rfl,trivial⟩,trivial⟩) (fun _=>csx (fun _=>⟨⟨s,q3.fj⟩,fun f a b c j q4=>⟨⟨(max 0 (min 52595999 (near+w)),f,a,b,c,1,j,[]),⟨by simp,q4.fj,rdsP_nil,by simp⟩,by (repeat' (first | exact trivial | exact rfl | assumption | apply And.intro))⟩,?_⟩⟩) (fun _=>⟨⟨(max 0 (min 52595999 (near+w)),0,0,0,0,1,j,[]),⟨by simp,q3.fj,rdsP_nil,by simp⟩,by (repeat' (first | exact trivial | exact rfl | assumption | apply And.intro))⟩,?_⟩))⟩
 all_goals
  rintro ⟨fr,f,a,b,c,n,j,bs⟩ ⟨hc,hj,hr,hl⟩
  simp only at hc hj hr hl
  dsimp only
  refine csx (fun h=>⟨⟨s,hj⟩,fun v j q5=>csx (fun _=>⟨⟨⟨s,q5.fj⟩,⟨rfl,by decide,by decide⟩,ints_of [0,3,-5,20,1000,-1000] ?_⟩,fun v j q6=>cd1 ⟨rfl,by simp; omega,by simp; omega⟩ (cdI (by omega) ⟨(fr,f,a,b,c,n+1,j,bs++[[.int .i64 n,.int .i64 v]]),⟨by simp only; omega,q6.fj,rds_add hr (by show _∧_; omega) (pick_rng q6) (by omega),by simp; omega⟩,by simp only [prdI]; omega,by (repeat' (first | exact trivial | exact rfl | assumption | apply And.intro))⟩)⟩) (fun _=>cdI (by omega) ⟨(fr,f,a,b,c,n+1,j,bs),⟨by simp only; omega,q5.fj,hr,by simp only; omega⟩,by simp only [prdI]; omega,by (repeat' (first | exact trivial | exact rfl | assumption | apply And.intro))⟩)⟩) (fun h=>cd1 rfl ⟨fr,false,f,a,b,c,bs,j,⟨hr,by omega,hj⟩,by (repeat' (first | exact trivial | exact rfl | assumption | apply And.intro))⟩)
  intro n hn
  simp only [List.mem_cons,List.not_mem_nil,or_false] at hn
  show _∧_
  omega
def qperiod_S:Prop:=∀ (gl:Glob) (xs:List (List AV)) (i k near:Int),SrcQ xs i∧0≤near∧near≤52595999→fnQ Tryz.prog { glob:=gl,spec:=lk [],specH:=lk [],specQ:=lk [(37,qn_s),(24,qrange_s),(40,qpick_s),(43,qplace_s)],nowf:=true } { nt:=49,drop:=drp [(1,2096640),(2,6291456),(3,16777216),(4,33554432),(5,67108864),(6,1879048192),(8,2147483648),(9,25769803776),(10,103079215104),(11,281200098803712),(12,281474976710656)],fr:=1000,kp:=[0],emp:=fun id=>cond (Nat.beq id 7) [(1100706,1501,76,2)] [] } (invs [(8,prdI xs)]) 6 Tryz.f25 [.ptr 0 0,.int .i64 k,.int .i64 near] [.cells [.sl 1 false xs,.int .i64 i]] (fun r2 bs2=>∃ (fr:Int) (cl:Bool) (f a b c:Int) (bs:List (List AV)) (j:Int),(PrdQ bs j)∧le r2 (.agg [.int .i64 fr,.bool cl,.int .i64 f,.int .i64 a,.int .i64 b,.int .i64 c,.sl 2 false bs])∧leBs bs2 [.cells [.sl 1 false xs,.int .i64 j]])
theorem qperiod_e:qperiod_T=qperiod_S:=by kernel_rfl
theorem qperiod_v:qperiod_S:=Eq.mp (qperiod_e ..) (qperiod_P)
theorem qperiod_ok (gl:Glob):QOK Tryz.prog gl 25 qperiod_s:=by
 refine ⟨fok Tryz.func25 (by kernel_rfl) (by kernel_rfl),?_⟩
 intro xs bs T h K hT
 unfold qperiod_s at h
 split at h
 ·simp only [Option.some.injEq] at h
  subst h
  obtain ⟨hp,hK⟩:=hT
  obtain ⟨r,bs2,⟨o0,o1,o2,o3,o4,o5,o6,o7,hq,hl,hb⟩,hC⟩:=fnQ_sound tyNil (by exact specOK rfl rfl trivial trivial (d:=qsOf rfl ⟨(qn_ok gl),(qrange_ok gl),(qpick_ok gl),(qplace_ok gl),trivial⟩)) (by kernel_rfl) Tryz.func25 (qperiod_v gl _ _ _ _ hp)
  exact ⟨_,_,hK o0 o1 o2 o3 o4 o5 o6 o7 hq,hC.le hl hb⟩
 ·cases h
structure KndQ (k j:Int):Prop where
 fk:1≤k∧k≤3
def qkinds_s:Sp
 | [.str s]=>some (s ∈ nam6,.int .i64 (byteI s 0 % 3+1))
 | _=>none
def qkinds_T:Prop :=
 ∀ (gl:Glob) (s:ByteArray),List.Mem s nam6→s.size.le (9223372036854775807:Nat)→bif decide ((0:Int)≤(0:Int)∧(0:Int) < (↑s.size:Int)) then bif decide (rng
 IntKind.i64 ((1:Int)+(byteI s (0:Nat)).tmod (3:Int))) then (1:Int)+(byteI s (0:Nat)).tmod (3:Int)=byteI s (0:Nat) % (3:Int)+(1:Int) else False else False
theorem qkinds_P:qkinds_T:=by
 unfold qkinds_T
 intro gl s hm _
 have hm:s ∈ nam6:=hm
 unfold nam6 at hm
 simp only [List.mem_cons,List.not_mem_nil,or_false] at hm
 rcases hm with rfl | rfl | rfl | rfl | rfl | rfl <;> exact cd1 (by decide) (cdI (by decide) (by decide))
def qkinds_S:Prop:=∀ (gl:Glob) (s:ByteArray),s ∈ nam6→fnK Tryz.prog { glob:=gl,spec:=lk [],specH:=lk [] } { nt:=8,drop:=drp [(1,248)] } (fun _ _=>none) 6 Tryz.f41 [.str s] (.int .i64 (byteI s 0 % 3+1))
theorem qkinds_e:qkinds_T=qkinds_S:=by kernel_rfl
theorem qkinds_v:qkinds_S:=Eq.mp (qkinds_e ..) (qkinds_P)
theorem qkinds_ok (gl:Glob):SOK Tryz.prog gl 41 qkinds_s:=by
 refine ⟨fok Tryz.func41 (by kernel_rfl) (by kernel_rfl),?_⟩
 intro xs pre r h hp
 unfold qkinds_s at h
 split at h
 ·simp only [Option.some.injEq,Prod.mk.injEq] at h
  obtain ⟨h1,h2⟩:=h
  subst h1 h2
  exact fnK_sound tyNil (by exact specOK rfl rfl trivial trivial) (by kernel_rfl) Tryz.func41 rfl (qkinds_v gl _ hp)
 ·cases h
structure FdP (l:LLR) (i:Int):Prop where
 flo:0≤i
 fhi:i≤l.length
structure FdQ (ps:LLR):Prop where
 fr:PdsP ps
 fl:ps.length≤8
def fd2 (l:LLR) (g:Bool) (nm:ByteArray):LInv:=⟨Int,fun i=>⟨[(1,.str nm),(2,.ptr 1002 0),(4,.ptr 1004 0),(6,.int .i64 i)],[(1002,.cells [.sl 3 g l]),(1004,.cells [.int .i64 0,.str ⟨#[]⟩,.nils])]⟩,FdP l,fun i=>(l.length - i).toNat,none⟩
theorem pds_nil:PdsP []:=⟨fun i h=>by simp at h,by simp⟩
def rfindD_s:SpQ
 | [.agg [.sl 3 g l],.str nm],[]=>some (fun K=>(StsW l 8 60)∧(∀ (k:Int) (n:ByteArray) (ps:List (List AV)) (ok:Bool),(FdQ ps)→K (.tup [.agg [.int .i64 k,.str n,.sl 7 false ps],.bool ok]) []))
 | _,_=>none
def rfindD_T:Prop :=
  ∀ (gl:Glob) (l:List (List AV)) (g:Bool) (nm:ByteArray),StsW l (8:Nat) (60:Nat)→(∃ x,FdP l x∧(nm=nm∧(0:Nat)=(0:Nat)∧(0:Nat)=(0:Nat)∧(0:Int) =
  x∧True)∧(((bif g then g=true else True)∧l=l)∧True)∧((0:Int)=(0:Int)∧(⟨#[]⟩:ByteArray)=(⟨#[]⟩:ByteArray)∧True∧True)∧True)∧∀ (x:Int),FdP l x→bif
  decide (x < (↑l.length:Int)) then bif decide ((0:Int)≤x∧x < (↑l.length:Int)) then ∃ s,List.take [AV.str s].length (List.drop (1:Nat) (l.getD x.toNat []))=[AV.str s]
 ∧bif decide (s=nm) then bif decide ((0:Int)≤x∧x < (↑l.length:Int)) then ∃ n s xs,List.take [AV.int IntKind.i64 n,AV.str s,AV.sl (7:Nat) false xs].length (l.getD
  x.toNat [])=[AV.int IntKind.i64 n,AV.str s,AV.sl (7:Nat) false xs]∧∃ k n_1 ps ok,FdQ ps∧((n=k∧s=n_1∧(True∧xs=ps)∧True)∧true=ok∧True)∧True else
  False else bif decide (rng IntKind.i64 (x+(1:Int))) then ∃ y,FdP l y∧(fd2 l g nm).m y < (fd2 l g nm).m x∧(nm=nm∧(0:Nat)=(0:Nat)∧(0:Nat)=(0:Nat)∧x+(1
 :Int)=y∧True)∧(((bif g then g=true else True)∧l=l)∧True)∧((0:Int)=(0:Int)∧(⟨#[]⟩:ByteArray)=(⟨#[]⟩:ByteArray)∧True∧True)∧True else False else False
  else ∃ k n ps ok,FdQ ps∧(((0:Int)=k∧(⟨#[]⟩:ByteArray)=n∧ps=[]∧True)∧false=ok∧True)∧True
theorem rfindD_P:rfindD_T:=by
 unfold rfindD_T
 intro gl l g nm hl
 have ll:=hl.fl
 have bg:cond g (g=true) True:=by cases g <;> trivial
 refine ⟨⟨0,⟨by decide,by omega⟩,by (repeat' (first | exact trivial | exact rfl | assumption | apply And.intro))⟩,?_⟩
 rintro i ⟨i0,i1⟩
 refine csx (fun hi=>cd1 (by omega) ?_) (fun hi=>⟨0,⟨#[]⟩,[],false,⟨pds_nil,by simp⟩,by (repeat' (first | exact trivial | exact rfl | assumption | apply And.intro))⟩)
 obtain ⟨k,n,ps,hr,hp,h8⟩:=hl.fr i.toNat (by omega)
 exact ⟨n,by rw [hr]; rfl,csx (fun q=>cd1 (by omega) ⟨k,n,ps,by rw [hr]; rfl,k,n,ps,true,⟨hp,h8⟩,by (repeat' (first | exact trivial | exact rfl | assumption | apply And.intro))⟩) (fun q=>cdI (by omega) ⟨i+1,⟨by omega,by omega⟩,by simp only [fd2]; omega,by (repeat' (first | exact trivial | exact rfl | assumption | apply And.intro))⟩)⟩
def rfindD_S:Prop:=∀ (gl:Glob) (l:List (List AV)) (g:Bool) (nm:ByteArray),StsW l 8 60→fnQ Tryz.prog { glob:=gl,spec:=lk [],specH:=lk [],shape:=[19,26],slz:=[(19,[7]),(26,[7])],nowf:=true } { nt:=28,drop:=drp [(2,1920),(3,12288),(4,2080768),(5,130023424),(6,134217728)],fr:=1000,kp:=[] } (invs [(2,fd2 l g nm)]) 6 Tryz.f23 [.agg [.sl 3 g l],.str nm] [] (fun r2 bs2=>∃ (k:Int) (n:ByteArray) (ps:List (List AV)) (ok:Bool),(FdQ ps)∧le r2 (.tup [.agg [.int .i64 k,.str n,.sl 7 false ps],.bool ok])∧leBs bs2 [])
theorem rfindD_e:rfindD_T=rfindD_S:=by kernel_rfl
theorem rfindD_v:rfindD_S:=Eq.mp (rfindD_e ..) (rfindD_P)
theorem rfindD_ok (gl:Glob):QOK Tryz.prog gl 23 rfindD_s:=by
 refine ⟨fok Tryz.func23 (by kernel_rfl) (by kernel_rfl),?_⟩
 intro xs bs T h K hT
 unfold rfindD_s at h
 split at h
 ·simp only [Option.some.injEq] at h
  subst h
  obtain ⟨hp,hK⟩:=hT
  obtain ⟨r,bs2,⟨o0,o1,o2,o3,hq,hl,hb⟩,hC⟩:=fnQ_sound tyNil (by exact specOK rfl rfl trivial trivial) (by kernel_rfl) Tryz.func23 (rfindD_v gl _ _ _ hp)
  exact ⟨_,_,hK o0 o1 o2 o3 hq,hC.le hl hb⟩
 ·cases h
structure BsR (bs:LLR) (i:Int):Prop where
 flo:0≤i
 fhi:i≤bs.length
 fno:∀ j:Nat,(j:Int) < i→bsX bs j=false
def rb2 (bs:LLR) (g:Bool):LInv:=⟨Int,fun i=>⟨[(0,.sl 2 g bs),(3,.int .i64 i)],[]⟩,BsR bs,fun i=>(bs.length - i).toNat,none⟩
def rbias_s (iL:Int→ByteArray) (inLo:Int→Int) (inHi:Int→Int) (inD:Int→Int) (inE:Int→Int) (bsOk:LLR→Bool):Sp
 | [.sl 2 g bs]=>some (RdsP bs,.bool (bsOk bs))
 | _=>none
def rbias_T (iL:Int→ByteArray) (inLo:Int→Int) (inHi:Int→Int) (inD:Int→Int) (inE:Int→Int) (bsOk:LLR→Bool):Prop :=
 ∀ (gl:Glob) (g:Bool) (bs:List (List AV)),RdsP bs→True→(∃ x,BsR bs x∧(((bif g then g=true else True)∧bs=bs)∧(0:Int)=x∧True)∧True)∧∀ (x:Int),BsR bs
 x→bif decide (x < (↑bs.length:Int)) then bif decide ((0:Int)≤x∧x < (↑bs.length:Int)) then ∃ n,List.take [AV.int IntKind.i64 n].length (List.drop (0:Nat) (bs.getD
 x.toNat []))=[AV.int IntKind.i64 n]∧True∧bif decide ¬inE n=(0:Int) then false=bsOk bs else bif decide ((0:Int)≤x∧x < (↑bs.length:Int)) then ∃ n,List.take
 [AV.int IntKind.i64 n].length (List.drop (1:Nat) (bs.getD x.toNat []))=[AV.int IntKind.i64 n]∧bif decide (n < (-1000:Int)) then false=bsOk bs else bif decide ((0:Int) ≤
 x∧x < (↑bs.length:Int)) then ∃ n,List.take [AV.int IntKind.i64 n].length (List.drop (1:Nat) (bs.getD x.toNat []))=[AV.int IntKind.i64 n]∧bif decide ((1000:Int) < n)
 then false=bsOk bs else bif decide ((0:Int) < x) then bif decide (rng IntKind.i64 (x - (1:Int))) then bif decide ((0:Int)≤x - (1:Int)∧x - (1:Int) < (↑bs.length :
 Int)) then ∃ n,List.take [AV.int IntKind.i64 n].length (List.drop (0:Nat) (bs.getD (x - (1:Int)).toNat []))=[AV.int IntKind.i64 n]∧bif decide ((0:Int)≤x∧x <
 (↑bs.length:Int)) then ∃ n_1,List.take [AV.int IntKind.i64 n_1].length (List.drop (0:Nat) (bs.getD x.toNat []))=[AV.int IntKind.i64 n_1]∧bif decide (n_1≤n) then false =
 bsOk bs else bif decide (rng IntKind.i64 (x+(1:Int))) then ∃ y,BsR bs y∧(rb2 bs g).m y < (rb2 bs g).m x∧(((bif g then g=true else True)∧bs=bs)∧x+(1:Int)=y ∧
 True)∧True else False else False else False else False else bif decide (rng IntKind.i64 (x+(1:Int))) then ∃ y,BsR bs y∧(rb2 bs g).m y < (rb2 bs g).m x∧(((bif g then g =
 true else True)∧bs=bs)∧x+(1:Int)=y∧True)∧True else False else False else False else False else true=bsOk bs
theorem rbias_P:rbias_T iL inLo inHi inD inE bsOk:=by
 unfold rbias_T
 intro gl g bs hp _
 have hs:=hp.sm
 have bg:cond g (g=true) True:=by cases g <;> trivial
 refine ⟨⟨0,⟨by decide,by omega,fun j h=>by omega⟩,by (repeat' (first | exact trivial | exact rfl | assumption | apply And.intro))⟩,?_⟩
 rintro i ⟨h0,h1,hn⟩
 have bad:i < bs.length→bsX bs i.toNat=true→false=bsOk bs:=fun hi hx=>(decide_eq_false fun h=>by rw [h i.toNat (by omega)] at hx; cases hx).symm
 have good:i < bs.length→bsX bs i.toNat=false→BsR bs (i+1):=fun hi hx=>⟨by omega,by omega,fun j hj=>by
  rcases Nat.lt_or_ge j i.toNat with k | k
  ·exact hn j (by omega)
  ·rw [show j=i.toNat by omega]; exact hx⟩
 refine csx (fun hi=>cd1 (by omega) ?_) (fun hi=>(decide_eq_true fun j hj=>hn j (by omega)).symm)
 obtain ⟨e,v,he,_,_⟩:=hp.row i.toNat (by omega)
 have X:bsX bs i.toNat=(!(okC e)||(decide (1000 < v)||(decide (v < -1000)||(decide (0 < i.toNat)&&decide (e≤rE (bs.getD (i.toNat - 1) [])))))):=by unfold bsX; rw [he]; rfl
 have hE:inE e=0↔okC e=true:=by unfold inE; cases okC e <;> simp
 refine ⟨e,by rw [he]; rfl,trivial,csx (fun q=>bad hi ?_) (fun q=>cd1 (by omega) ⟨v,by rw [he]; rfl,csx (fun q2=>bad hi ?_) (fun q2=>cd1 (by omega) ⟨v,by rw [he]; rfl,csx (fun q3=>bad hi ?_) (fun q3=>csx (fun q4=>cdI (by omega) (cd1 (by omega) ?_)) (fun q4=>cdI (by omega) ⟨i+1,good hi ?_,by simp only [rb2]; omega,by (repeat' (first | exact trivial | exact rfl | assumption | apply And.intro))⟩))⟩)⟩)⟩
 ·have:okC e=false:=by
   cases h:okC e with
   | false=>rfl
   | true=>exact absurd (hE.2 h) q
  rw [X,this]; rfl
 ·rw [X,decide_eq_true q2]; simp
 ·rw [X,decide_eq_true q3]; simp
 ·obtain ⟨e',v',he',_,_⟩:=hp.row (i - 1).toNat (by omega)
  have P:rE (bs.getD (i.toNat - 1) [])=e':=by rw [show i.toNat - 1=(i - 1).toNat by omega,he']; rfl
  refine ⟨e',by rw [he']; rfl,cd1 (by omega) ⟨e,by rw [he]; rfl,csx (fun q5=>bad hi ?_) (fun q5=>cdI (by omega) ⟨i+1,good hi ?_,by simp only [rb2]; omega,by (repeat' (first | exact trivial | exact rfl | assumption | apply And.intro))⟩)⟩⟩
  ·rw [X,P,decide_eq_true q5,decide_eq_true (show 0 < i.toNat by omega)]; simp
  ·rw [X,P,decide_eq_false q5,decide_eq_false q3,decide_eq_false q2,hE.1 (Decidable.not_not.1 q)]; simp
 ·rw [X,decide_eq_false (show ¬ 0 < i.toNat by omega),decide_eq_false q3,decide_eq_false q2,hE.1 (Decidable.not_not.1 q)]; simp
def rbias_S (iL:Int→ByteArray) (inLo:Int→Int) (inHi:Int→Int) (inD:Int→Int) (inE:Int→Int) (bsOk:LLR→Bool):Prop:=∀ (gl:Glob) (g:Bool) (bs:List (List AV)),RdsP bs→fnK Tryz.prog { glob:=gl,spec:=lk [(53,(rdesc_s iL inLo inHi inD inE))],specH:=lk [],shape:=[17,28,36,48,53],nowf:=true } { nt:=57,drop:=drp [(2,448),(3,3072),(4,2093072),(5,72057594035830784)] } (invs [(2,rb2 bs g)]) 6 Tryz.f109 [.sl 2 g bs] (.bool (bsOk bs))
theorem rbias_e (iL:Int→ByteArray) (inLo:Int→Int) (inHi:Int→Int) (inD:Int→Int) (inE:Int→Int) (bsOk:LLR→Bool):rbias_T iL inLo inHi inD inE bsOk=rbias_S iL inLo inHi inD inE bsOk:=by kernel_rfl
theorem rbias_v:rbias_S iL inLo inHi inD inE bsOk:=Eq.mp (rbias_e ..) (rbias_P)
theorem rbias_ok (gl:Glob):SOK Tryz.prog gl 109 (rbias_s iL inLo inHi inD inE bsOk):=by
 refine ⟨fok Tryz.func109 (by kernel_rfl) (by kernel_rfl),?_⟩
 intro xs pre r h hp
 unfold rbias_s at h
 split at h
 ·simp only [Option.some.injEq,Prod.mk.injEq] at h
  obtain ⟨h1,h2⟩:=h
  subst h1 h2
  exact fnK_sound tyNil (by exact specOK rfl rfl ⟨(rdesc_ok gl),trivial⟩ trivial) (by kernel_rfl) Tryz.func109 rfl (rbias_v gl _ _ hp)
 ·cases h
def rperiod_s (nrm:Int→Int→Int→Int→Int × Int × Int × Int) (vld:Int→Int→Int→Int→Bool) (isN:Int→Int→Int→Int→Bool) (pdV:Int→Int→Bool→Int→Int→Int→Int→LLR→Bool) (inB:Int→Bool) (bsOk:LLR→Bool):Sp
 | [.int .i64 k,.agg [.int .i64 fr,.bool cl,.int .i64 f,.int .i64 a,.int .i64 b,.int .i64 c,.sl 2 g bs]]=>some (RdsP bs,.bool (pdV k fr cl f a b c bs))
 | _=>none
def rperiod_T (nrm:Int→Int→Int→Int→Int × Int × Int × Int) (vld:Int→Int→Int→Int→Bool) (isN:Int→Int→Int→Int→Bool) (pdV:Int→Int→Bool→Int→Int→Int→Int→LLR→Bool) (inB:Int→Bool) (bsOk:LLR→Bool) (iL:Int→ByteArray) (inLo:Int→Int) (inHi:Int→Int) (inD:Int→Int) (inE:Int→Int):Prop :=
  ∀ (gl:Glob) (k fr f a b c:Int) (cl g:Bool) (bs:List (List AV)),RdsP bs→(-9223372036854775808:Int)≤k∧k≤(9223372036854775807:Int)→((-9223372036854775808:Int)
 ≤fr∧fr≤(9223372036854775807:Int))∧True∧((-9223372036854775808:Int)≤f∧f≤(9223372036854775807:Int))∧((-9223372036854775808:Int)≤a∧a ≤
  (9223372036854775807:Int))∧((-9223372036854775808:Int)≤b∧b≤(9223372036854775807:Int))∧((-9223372036854775808:Int)≤c∧c≤(9223372036854775807:Int))∧True ∧
  True→True∧bif !inB fr then false=pdV k fr cl f a b c bs else bif cl then bif decide (f=(0:Int))&&(decide (a=(0:Int))&&(decide (b=(0:Int))&&(decide (c=(0 :
  Int))&&true))) then decide ((↑bs.length:Int)=(0:Int))=pdV k fr cl f a b c bs else false=pdV k fr cl f a b c bs else bif decide (k=(1:Int)) then True∧bif isN f a b
  c then RdsP bs∧bsOk bs=pdV k fr cl f a b c bs else false=pdV k fr cl f a b c bs else bif decide (f=(0:Int))&&(decide (a=(0:Int))&&(decide (b=(0:Int)) &&
  (decide (c=(0:Int))&&true))) then RdsP bs∧bsOk bs=pdV k fr cl f a b c bs else false=pdV k fr cl f a b c bs
theorem rperiod_P:rperiod_T nrm vld isN pdV inB bsOk iL inLo inHi inD inE:=by
 unfold rperiod_T
 intro gl k fr f a b c cl g bs hp _ _
 have nb:(decide (f=0)&&(decide (a=0)&&(decide (b=0)&&(decide (c=0)&&true))))=nonP f a b c:=by
  unfold nonP
  rw [Bool.eq_iff_iff]; simp
 rw [nb]
 unfold pdV
 refine ⟨trivial,csplit (fun q=>?_) (fun q=>?_)⟩
 ·rw [if_pos (by simp [inB] at q; omega)]
 ·rw [if_neg (by simp [inB] at q; omega)]
  refine csplit (fun q2=>?_) (fun q2=>?_)
  ·rw [if_pos q2]
   have el:decide ((bs.length:Int)=0)=decide (bs.length=0):=decide_eq_decide.2 (by omega)
   rw [el]
   refine csplit (fun q3=>?_) (fun q3=>?_)
   ·rw [q3]; rfl
   ·rw [q3]; rfl
  ·rw [if_neg (by rw [q2]; decide)]
   refine csx (fun q3=>⟨trivial,csplit (fun q4=>⟨hp,?_⟩) (fun q4=>?_)⟩) (fun q3=>csplit (fun q4=>⟨hp,?_⟩) (fun q4=>?_))
   ·rw [if_pos q3,q4]; cases bsOk bs <;> rfl
   ·rw [if_pos q3,q4]; cases bsOk bs <;> rfl
   ·rw [if_neg q3,q4]; cases bsOk bs <;> rfl
   ·rw [if_neg q3,q4]; cases bsOk bs <;> rfl
def rperiod_S (nrm:Int→Int→Int→Int→Int × Int × Int × Int) (vld:Int→Int→Int→Int→Bool) (isN:Int→Int→Int→Int→Bool) (pdV:Int→Int→Bool→Int→Int→Int→Int→LLR→Bool) (inB:Int→Bool) (bsOk:LLR→Bool) (iL:Int→ByteArray) (inLo:Int→Int) (inHi:Int→Int) (inD:Int→Int) (inE:Int→Int):Prop:=∀ (gl:Glob) (k fr f a b c:Int) (cl g:Bool) (bs:List (List AV)),RdsP bs→fnK Tryz.prog { glob:=gl,spec:=lk [(108,(rIn_s inB)),(52,(rIsN_s nrm vld isN)),(109,(rbias_s iL inLo inHi inD inE bsOk))],specH:=lk [],nowf:=true } { nt:=40,drop:=drp [(1,224),(3,512),(4,2095104),(5,2097152),(6,2139095040),(7,1097364144128)],tys:=[26] } (fun _ _=>none) 6 Tryz.f76 [.int .i64 k,.agg [.int .i64 fr,.bool cl,.int .i64 f,.int .i64 a,.int .i64 b,.int .i64 c,.sl 2 g bs]] (.bool (pdV k fr cl f a b c bs))
theorem rperiod_e (nrm:Int→Int→Int→Int→Int × Int × Int × Int) (vld:Int→Int→Int→Int→Bool) (isN:Int→Int→Int→Int→Bool) (pdV:Int→Int→Bool→Int→Int→Int→Int→LLR→Bool) (inB:Int→Bool) (bsOk:LLR→Bool) (iL:Int→ByteArray) (inLo:Int→Int) (inHi:Int→Int) (inD:Int→Int) (inE:Int→Int):rperiod_T nrm vld isN pdV inB bsOk iL inLo inHi inD inE=rperiod_S nrm vld isN pdV inB bsOk iL inLo inHi inD inE:=by kernel_rfl
theorem rperiod_v:rperiod_S nrm vld isN pdV inB bsOk iL inLo inHi inD inE:=Eq.mp (rperiod_e ..) (rperiod_P)
theorem rperiod_ok (gl:Glob):SOK Tryz.prog gl 76 (rperiod_s nrm vld isN pdV inB bsOk):=by
 refine ⟨fok Tryz.func76 (by kernel_rfl) (by kernel_rfl),?_⟩
 intro xs pre r h hp
 unfold rperiod_s at h
 split at h
 ·simp only [Option.some.injEq,Prod.mk.injEq] at h
  obtain ⟨h1,h2⟩:=h
  subst h1 h2
  exact fnK_sound (tyOf (by kernel_rfl)) (by exact specOK rfl rfl ⟨(rIn_ok gl),(rIsN_ok gl),(rbias_ok gl),trivial⟩ trivial) (by kernel_rfl) Tryz.func76 rfl (rperiod_v gl _ _ _ _ _ _ _ _ _ hp)
 ·cases h
structure AnyI (e:Int):Prop where
 ft:True
structure VaI (l:LLR) (x:Int × Bool):Prop where
 flo:0≤x.1
 fhi:x.1≤l.length
def va3 (l:LLR) (g:Bool):LInv:=⟨Int × Bool,fun x=>⟨[(1,.ptr 1001 0),(3,.ptr 1003 0),(4,.int .i64 x.1)],[(1001,.cells [.sl 3 g l]),(1003,.cells [.bool x.2,.bool false,.bool false,.bool false])]⟩,VaI l,fun x=>(l.length - x.1).toNat,none⟩
structure VaJ (l:LLR) (x:Int × Bool × Bool × Bool × Bool × Bool):Prop where
 flo:0≤x.1
 fhi:x.1≤l.length
def va11 (l:LLR) (g:Bool):LInv:=⟨Int × Bool × Bool × Bool × Bool × Bool,fun x=>⟨[(1,.ptr 1001 0),(3,.ptr 1003 0),(6,.bool x.2.1),(7,.int .i64 x.1)],[(1001,.cells [.sl 3 g l]),(1003,.cells [.bool x.2.2.1,.bool x.2.2.2.1,.bool x.2.2.2.2.1,.bool x.2.2.2.2.2])]⟩,VaJ l,fun x=>(l.length - x.1).toNat,none⟩
structure VaK (ps:LLR) (x:Int × Bool × Bool × Bool × Bool × Bool):Prop where
 flo:0≤x.1
 fhi:x.1≤ps.length
def va18 (l:LLR) (g:Bool) (i:Int) (k nm:AV) (ps:LLR):LInv:=⟨Int × Bool × Bool × Bool × Bool × Bool,fun x=>⟨[(1,.ptr 1001 0),(3,.ptr 1003 0),(6,.bool x.2.1),(7,.int .i64 i),(8,.ptr 1008 0),(9,.int .i64 x.1)],[(1001,.cells [.sl 3 g l]),(1003,.cells [.bool x.2.2.1,.bool x.2.2.2.1,.bool x.2.2.2.2.1,.bool x.2.2.2.2.2]),(1008,.cells [k,nm,.sl 7 false ps])]⟩,VaK ps,fun x=>(ps.length - x.1).toNat,none⟩
structure Any5 (x:Bool × Bool × Bool × Bool × Bool):Prop where
 ft:True
def vaC (l:LLR) (g:Bool) (i:Int) (k nm:AV) (ps:LLR) (more:List (Nat × AV)):LInv:=⟨Bool × Bool × Bool × Bool × Bool,fun x=>⟨[(1,.ptr 1001 0),(3,.ptr 1003 0),(6,.bool x.1),(7,.int .i64 i),(8,.ptr 1008 0)]++more,[(1001,.cells [.sl 3 g l]),(1003,.cells [.bool x.2.1,.bool x.2.2.1,.bool x.2.2.2.1,.bool x.2.2.2.2]),(1008,.cells [k,nm,.sl 7 false ps])]⟩,Any5,fun _=>0,none⟩
def vaX (l:LLR) (g:Bool) (st:St) (more:List (Nat × AV)):Option LInv:=match lk st.tmps 7,lk st.heap 1008 with
 | some (.int _ i),some (.cells [k,nm,.sl _ _ ps])=>some (vaC l g i k nm ps more)
 | _,_=>none
def vaJ (l:LLR) (g:Bool) (id:Nat) (st:St):Option LInv:=cond (Nat.beq id 3) (some (va3 l g)) (cond (Nat.beq id 11) (some (va11 l g)) (cond (Nat.beq id 18) (match lk st.tmps 7,lk st.heap 1008 with
 | some (.int _ i),some (.cells [k,nm,.sl _ _ ps])=>some (va18 l g i k nm ps)
 | _,_=>none) (cond (Nat.beq id 100015||Nat.beq id 100016||Nat.beq id 100017) (vaX l g st []) (cond (Nat.beq id 100021) (match lk st.tmps 9 with
 | some (.int _ q)=>vaX l g st [(9,.int .i64 q)]
 | _=>none) none))))
def rvalidD_s (pdV:Int→Int→Bool→Int→Int→Int→Int→LLR→Bool) (nmOk:ByteArray→Bool):SpQ
 | [.agg [.sl 3 g l]],[]=>some (fun K=>(StsW l 8 60)∧(∀ (e:Int),(AnyI e)→K (.int .i64 e) []))
 | _,_=>none
def rvalidD_T (pdV:Int→Int→Bool→Int→Int→Int→Int→LLR→Bool) (nmOk:ByteArray→Bool) (nrm:Int→Int→Int→Int→Int × Int × Int × Int) (vld:Int→Int→Int→Int→Bool) (isN:Int→Int→Int→Int→Bool) (inB:Int→Bool) (bsOk:LLR→Bool):Prop :=
  ∀ (gl:Glob) (l:List (List AV)) (g:Bool),StsW l (8:Nat) (60:Nat)→(∃ x,VaI l x∧((0:Nat)=(0:Nat)∧(0:Nat)=(0:Nat)∧(0:Int)=x.fst∧True)∧(((bif g
  then g=true else True)∧l=l)∧True)∧(decide ((60:Int) < (↑l.length:Int))=x.snd∧false=false∧false=false∧false=false∧True)∧True)∧∀ (x:Int × Bool),
  VaI l x→bif decide (x.fst < (↑l.length:Int)) then bif !x.snd then bif decide ((0:Int)≤x.fst∧x.fst < (↑l.length:Int)) then ∃ n s xs,List.take [AV.int IntKind.i64 n,
  AV.str s,AV.sl (7:Nat) false xs].length (l.getD x.fst.toNat [])=[AV.int IntKind.i64 n,AV.str s,AV.sl (7:Nat) false xs]∧bif decide ((↑xs.length:Int)=(0:Int)) then
  bif decide (rng IntKind.i64 (x.fst+(1:Int))) then ∃ y,VaI l y∧(va3 l g).m y < (va3 l g).m x∧((0:Nat)=(0:Nat)∧(0:Nat)=(0:Nat)∧x.fst+(1:Int)=y.fst ∧
  True)∧(((bif g then g=true else True)∧l=l)∧True)∧(true=y.snd∧false=false∧false=false∧false=false∧True)∧True else False else bif decide (rng
  IntKind.i64 (x.fst+(1:Int))) then ∃ y,VaI l y∧(va3 l g).m y < (va3 l g).m x∧((0:Nat)=(0:Nat)∧(0:Nat)=(0:Nat)∧x.fst+(1:Int)=y.fst∧True)∧(((bif g
  then g=true else True)∧l=l)∧True)∧(decide ((8:Int) < (↑xs.length:Int))=y.snd∧false=false∧false=false∧false=false∧True)∧True else False else False
  else bif x.snd then ∃ e,AnyI e∧(2:Int)=e∧True else (∃ x_1,VaJ l x_1∧((0:Nat)=(0:Nat)∧(0:Nat)=(0:Nat)∧false=x_1.snd.fst∧(0:Int)=x_1.fst∧True) ∧
  (((bif g then g=true else True)∧l=l)∧True)∧(x.snd=x_1.snd.snd.fst∧false=x_1.snd.snd.snd.fst∧false=x_1.snd.snd.snd.snd.fst∧false=x_1.snd.snd.snd.snd.snd ∧
  True)∧True)∧∀ (x:Int × Bool × Bool × Bool × Bool × Bool),VaJ l x→bif decide (x.fst < (↑l.length:Int)) then bif decide ((0:Int)≤x.fst∧x.fst < (↑l.length:Int))
  then ∃ n s xs,List.take [AV.int IntKind.i64 n,AV.str s,AV.sl (7:Nat) false xs].length (l.getD x.fst.toNat [])=[AV.int IntKind.i64 n,AV.str s,AV.sl (7:Nat) false xs] ∧
  (bif x.snd.snd.snd.fst then ∃ x_1,Any5 x_1∧((0:Nat)=(0:Nat)∧(0:Nat)=(0:Nat)∧x.snd.fst=x_1.fst∧x.fst=x.fst∧(0:Nat)=(0:Nat)∧True)∧(((bif g then g
 =true else True)∧l=l)∧True)∧(x.snd.snd.fst=x_1.snd.fst∧true=x_1.snd.snd.fst∧x.snd.snd.snd.snd.fst=x_1.snd.snd.snd.fst∧x.snd.snd.snd.snd.snd =
  x_1.snd.snd.snd.snd∧True)∧(n=n∧s=s∧(True∧xs=xs)∧True)∧True else True∧∃ x_1,Any5 x_1∧((0:Nat)=(0:Nat)∧(0:Nat)=(0:Nat)∧x.snd.fst=x_1.fst ∧
  x.fst=x.fst∧(0:Nat)=(0:Nat)∧True)∧(((bif g then g=true else True)∧l=l)∧True)∧(x.snd.snd.fst=x_1.snd.fst∧(!decide ((1:Int)≤n∧n≤(3:Int))) =
  x_1.snd.snd.fst∧x.snd.snd.snd.snd.fst=x_1.snd.snd.snd.fst∧x.snd.snd.snd.snd.snd=x_1.snd.snd.snd.snd∧True)∧(n=n∧s=s∧(True∧xs=xs)∧True)∧True)∧∀ (x_1 :
  Bool × Bool × Bool × Bool × Bool),Any5 x_1→(bif x_1.snd.snd.snd.fst then ∃ x_2,Any5 x_2∧((0:Nat)=(0:Nat)∧(0:Nat)=(0:Nat)∧x_1.fst=x_2.fst∧x.fst=x.fst ∧
  (0:Nat)=(0:Nat)∧True)∧(((bif g then g=true else True)∧l=l)∧True)∧(x_1.snd.fst=x_2.snd.fst∧x_1.snd.snd.fst=x_2.snd.snd.fst∧true=x_2.snd.snd.snd.fst ∧
  x_1.snd.snd.snd.snd=x_2.snd.snd.snd.snd∧True)∧(n=n∧s=s∧(True∧xs=xs)∧True)∧True else True∧∃ x_2,Any5 x_2∧((0:Nat)=(0:Nat)∧(0:Nat)=(0:Nat) ∧
  x_1.fst=x_2.fst∧x.fst=x.fst∧(0:Nat)=(0:Nat)∧True)∧(((bif g then g=true else True)∧l=l)∧True)∧(x_1.snd.fst=x_2.snd.fst∧x_1.snd.snd.fst =
  x_2.snd.snd.fst∧(!nmOk s)=x_2.snd.snd.snd.fst∧x_1.snd.snd.snd.snd=x_2.snd.snd.snd.snd∧True)∧(n=n∧s=s∧(True∧xs=xs)∧True)∧True)∧∀ (x_2:Bool × Bool ×
  Bool × Bool × Bool),Any5 x_2→(bif x_2.fst then ∃ x_3,Any5 x_3∧((0:Nat)=(0:Nat)∧(0:Nat)=(0:Nat)∧true=x_3.fst∧x.fst=x.fst∧(0:Nat)=(0:Nat)∧True)
 ∧(((bif g then g=true else True)∧l=l)∧True)∧(x_2.snd.fst=x_3.snd.fst∧x_2.snd.snd.fst=x_3.snd.snd.fst∧x_2.snd.snd.snd.fst=x_3.snd.snd.snd.fst ∧
  x_2.snd.snd.snd.snd=x_3.snd.snd.snd.snd∧True)∧(n=n∧s=s∧(True∧xs=xs)∧True)∧True else bif decide ((0:Int) < x.fst) then bif decide (rng IntKind.i64 (x.fst -
  (1:Int))) then bif decide ((0:Int)≤x.fst - (1:Int)∧x.fst - (1:Int) < (↑l.length:Int)) then ∃ s_1,List.take [AV.str s_1].length (List.drop (1:Nat) (l.getD (x.fst -
  (1:Int)).toNat []))=[AV.str s_1]∧∃ x_3,Any5 x_3∧((0:Nat)=(0:Nat)∧(0:Nat)=(0:Nat)∧(!Op.bytesLess s_1.toList s.toList)=x_3.fst∧x.fst=x.fst∧(0:Nat)
 =(0:Nat)∧True)∧(((bif g then g=true else True)∧l=l)∧True)∧(x_2.snd.fst=x_3.snd.fst∧x_2.snd.snd.fst=x_3.snd.snd.fst∧x_2.snd.snd.snd.fst =
  x_3.snd.snd.snd.fst∧x_2.snd.snd.snd.snd=x_3.snd.snd.snd.snd∧True)∧(n=n∧s=s∧(True∧xs=xs)∧True)∧True else False else False else ∃ x_3,Any5 x_3∧((0:Nat) =
  (0:Nat)∧(0:Nat)=(0:Nat)∧false=x_3.fst∧x.fst=x.fst∧(0:Nat)=(0:Nat)∧True)∧(((bif g then g=true else True)∧l=l)∧True)∧(x_2.snd.fst =
  x_3.snd.fst∧x_2.snd.snd.fst=x_3.snd.snd.fst∧x_2.snd.snd.snd.fst=x_3.snd.snd.snd.fst∧x_2.snd.snd.snd.snd=x_3.snd.snd.snd.snd∧True)∧(n=n∧s=s∧(True∧xs=xs)
 ∧True)∧True)∧∀ (x_3:Bool × Bool × Bool × Bool × Bool),Any5 x_3→(∃ x_4,VaK xs x_4∧((0:Nat)=(0:Nat)∧(0:Nat)=(0:Nat)∧x_3.fst=x_4.snd.fst∧x.fst=x.fst
 ∧(0:Nat)=(0:Nat)∧(0:Int)=x_4.fst∧True)∧(((bif g then g=true else True)∧l=l)∧True)∧(x_3.snd.fst=x_4.snd.snd.fst∧x_3.snd.snd.fst=x_4.snd.snd.snd.fst
 ∧x_3.snd.snd.snd.fst=x_4.snd.snd.snd.snd.fst∧x_3.snd.snd.snd.snd=x_4.snd.snd.snd.snd.snd∧True)∧(n=n∧s=s∧(True∧xs=xs)∧True)∧True)∧∀ (x_4:Int × Bool ×
  Bool × Bool × Bool × Bool),VaK xs x_4→bif decide (x_4.fst < (↑xs.length:Int)) then (bif x_4.snd.snd.snd.snd.snd then ∃ x_5,Any5 x_5∧((0:Nat)=(0:Nat)∧(0:Nat)=(0
 :Nat)∧x_4.snd.fst=x_5.fst∧x.fst=x.fst∧(0:Nat)=(0:Nat)∧x_4.fst=x_4.fst∧True)∧(((bif g then g=true else True)∧l=l)∧True)∧(x_4.snd.snd.fst =
  x_5.snd.fst∧x_4.snd.snd.snd.fst=x_5.snd.snd.fst∧x_4.snd.snd.snd.snd.fst=x_5.snd.snd.snd.fst∧true=x_5.snd.snd.snd.snd∧True)∧(n=n∧s=s∧(True∧xs=xs)∧True)
 ∧True else bif decide ((0:Int)≤x_4.fst∧x_4.fst < (↑xs.length:Int)) then ∃ n_1 b n_2 n_3 n_4 n_5 xs_1,List.take [AV.int IntKind.i64 n_1,AV.bool b,AV.int IntKind.i64 n_2,
  AV.int IntKind.i64 n_3,AV.int IntKind.i64 n_4,AV.int IntKind.i64 n_5,AV.sl (2:Nat) false xs_1].length (xs.getD x_4.fst.toNat [])=[AV.int IntKind.i64 n_1,AV.bool b,AV.int
  IntKind.i64 n_2,AV.int IntKind.i64 n_3,AV.int IntKind.i64 n_4,AV.int IntKind.i64 n_5,AV.sl (2:Nat) false xs_1]∧RdsP xs_1∧∃ x_5,Any5 x_5∧((0:Nat)=(0:Nat)∧(0 :
  Nat)=(0:Nat)∧x_4.snd.fst=x_5.fst∧x.fst=x.fst∧(0:Nat)=(0:Nat)∧x_4.fst=x_4.fst∧True)∧(((bif g then g=true else True)∧l=l)∧True)∧(x_4.snd.snd.fst
 =x_5.snd.fst∧x_4.snd.snd.snd.fst=x_5.snd.snd.fst∧x_4.snd.snd.snd.snd.fst=x_5.snd.snd.snd.fst∧(!pdV n n_1 b n_2 n_3 n_4 n_5 xs_1)=x_5.snd.snd.snd.snd∧True)∧(n=n ∧
  s=s∧(True∧xs=xs)∧True)∧True else False)∧∀ (x_5:Bool × Bool × Bool × Bool × Bool),Any5 x_5→bif x_5.fst then bif decide (rng IntKind.i64 (x_4.fst+(1:Int)))
  then ∃ y,VaK xs y∧(va18 l g x.fst (AV.int IntKind.i64 n) (AV.str s) xs).m y < (va18 l g x.fst (AV.int IntKind.i64 n) (AV.str s) xs).m x_4∧((0:Nat)=(0:Nat)∧(0:Nat) =
  (0:Nat)∧true=y.snd.fst∧x.fst=x.fst∧(0:Nat)=(0:Nat)∧x_4.fst+(1:Int)=y.fst∧True)∧(((bif g then g=true else True)∧l=l)∧True)∧(x_5.snd.fst =
  y.snd.snd.fst∧x_5.snd.snd.fst=y.snd.snd.snd.fst∧x_5.snd.snd.snd.fst=y.snd.snd.snd.snd.fst∧x_5.snd.snd.snd.snd=y.snd.snd.snd.snd.snd∧True)∧(n=n∧s=s∧(True ∧
  xs=xs)∧True)∧True else False else bif decide ((0:Int) < x_4.fst) then bif decide (rng IntKind.i64 (x_4.fst - (1:Int))) then bif decide ((0:Int)≤x_4.fst - (1:Int) ∧
  x_4.fst - (1:Int) < (↑xs.length:Int)) then ∃ n_1,List.take [AV.int IntKind.i64 n_1].length (List.drop (0:Nat) (xs.getD (x_4.fst - (1:Int)).toNat []))=[AV.int IntKind.i64
  n_1]∧bif decide ((0:Int)≤x_4.fst∧x_4.fst < (↑xs.length:Int)) then ∃ n_2,List.take [AV.int IntKind.i64 n_2].length (List.drop (0:Nat) (xs.getD x_4.fst.toNat [])) =
  [AV.int IntKind.i64 n_2]∧bif decide (rng IntKind.i64 (x_4.fst+(1:Int))) then ∃ y,VaK xs y∧(va18 l g x.fst (AV.int IntKind.i64 n) (AV.str s) xs).m y < (va18 l g x.fst
  (AV.int IntKind.i64 n) (AV.str s) xs).m x_4∧((0:Nat)=(0:Nat)∧(0:Nat)=(0:Nat)∧decide (n_2≤n_1)=y.snd.fst∧x.fst=x.fst∧(0:Nat)=(0:Nat)∧x_4.fst+(1
 :Int)=y.fst∧True)∧(((bif g then g=true else True)∧l=l)∧True)∧(x_5.snd.fst=y.snd.snd.fst∧x_5.snd.snd.fst=y.snd.snd.snd.fst∧x_5.snd.snd.snd.fst =
  y.snd.snd.snd.snd.fst∧x_5.snd.snd.snd.snd=y.snd.snd.snd.snd.snd∧True)∧(n=n∧s=s∧(True∧xs=xs)∧True)∧True else False else False else False else False else bif
  decide (rng IntKind.i64 (x_4.fst+(1:Int))) then ∃ y,VaK xs y∧(va18 l g x.fst (AV.int IntKind.i64 n) (AV.str s) xs).m y < (va18 l g x.fst (AV.int IntKind.i64 n) (AV.str s)
  xs).m x_4∧((0:Nat)=(0:Nat)∧(0:Nat)=(0:Nat)∧false=y.snd.fst∧x.fst=x.fst∧(0:Nat)=(0:Nat)∧x_4.fst+(1:Int)=y.fst∧True)∧(((bif g then g =
  true else True)∧l=l)∧True)∧(x_5.snd.fst=y.snd.snd.fst∧x_5.snd.snd.fst=y.snd.snd.snd.fst∧x_5.snd.snd.snd.fst=y.snd.snd.snd.snd.fst∧x_5.snd.snd.snd.snd =
  y.snd.snd.snd.snd.snd∧True)∧(n=n∧s=s∧(True∧xs=xs)∧True)∧True else False else bif decide (rng IntKind.i64 (x.fst+(1:Int))) then ∃ y,VaJ l y∧(va11 l g).m y
  < (va11 l g).m x∧((0:Nat)=(0:Nat)∧(0:Nat)=(0:Nat)∧x_4.snd.fst=y.snd.fst∧x.fst+(1:Int)=y.fst∧True)∧(((bif g then g=true else True)∧l=l)∧True)
 ∧(x_4.snd.snd.fst=y.snd.snd.fst∧x_4.snd.snd.snd.fst=y.snd.snd.snd.fst∧x_4.snd.snd.snd.snd.fst=y.snd.snd.snd.snd.fst∧x_4.snd.snd.snd.snd.snd=y.snd.snd.snd.snd.snd ∧
  True)∧True else False else False else bif x.snd.snd.snd.fst then ∃ e,AnyI e∧(4:Int)=e∧True else bif x.snd.snd.snd.snd.fst then ∃ e,AnyI e∧(3:Int)=e∧True else
  bif x.snd.snd.snd.snd.snd then ∃ e,AnyI e∧(1:Int)=e∧True else bif x.snd.fst then ∃ e,AnyI e∧(8:Int)=e∧True else ∃ e,AnyI e∧(0:Int)=e∧True else bif x.snd
  then ∃ e,AnyI e∧(2:Int)=e∧True else (∃ x_1,VaJ l x_1∧((0:Nat)=(0:Nat)∧(0:Nat)=(0:Nat)∧false=x_1.snd.fst∧(0:Int)=x_1.fst∧True)∧(((bif g then
  g=true else True)∧l=l)∧True)∧(x.snd=x_1.snd.snd.fst∧false=x_1.snd.snd.snd.fst∧false=x_1.snd.snd.snd.snd.fst∧false=x_1.snd.snd.snd.snd.snd∧True)∧True) ∧
  ∀ (x:Int × Bool × Bool × Bool × Bool × Bool),VaJ l x→bif decide (x.fst < (↑l.length:Int)) then bif decide ((0:Int)≤x.fst∧x.fst < (↑l.length:Int)) then ∃ n s xs,
  List.take [AV.int IntKind.i64 n,AV.str s,AV.sl (7:Nat) false xs].length (l.getD x.fst.toNat [])=[AV.int IntKind.i64 n,AV.str s,AV.sl (7:Nat) false xs]∧(bif
  x.snd.snd.snd.fst then ∃ x_1,Any5 x_1∧((0:Nat)=(0:Nat)∧(0:Nat)=(0:Nat)∧x.snd.fst=x_1.fst∧x.fst=x.fst∧(0:Nat)=(0:Nat)∧True)∧(((bif g then g =
  true else True)∧l=l)∧True)∧(x.snd.snd.fst=x_1.snd.fst∧true=x_1.snd.snd.fst∧x.snd.snd.snd.snd.fst=x_1.snd.snd.snd.fst∧x.snd.snd.snd.snd.snd=x_1.snd.snd.snd.snd
 ∧True)∧(n=n∧s=s∧(True∧xs=xs)∧True)∧True else True∧∃ x_1,Any5 x_1∧((0:Nat)=(0:Nat)∧(0:Nat)=(0:Nat)∧x.snd.fst=x_1.fst∧x.fst=x.fst∧(0 :
  Nat)=(0:Nat)∧True)∧(((bif g then g=true else True)∧l=l)∧True)∧(x.snd.snd.fst=x_1.snd.fst∧(!decide ((1:Int)≤n∧n≤(3:Int)))=x_1.snd.snd.fst ∧
  x.snd.snd.snd.snd.fst=x_1.snd.snd.snd.fst∧x.snd.snd.snd.snd.snd=x_1.snd.snd.snd.snd∧True)∧(n=n∧s=s∧(True∧xs=xs)∧True)∧True)∧∀ (x_1:Bool × Bool × Bool
  × Bool × Bool),Any5 x_1→(bif x_1.snd.snd.snd.fst then ∃ x_2,Any5 x_2∧((0:Nat)=(0:Nat)∧(0:Nat)=(0:Nat)∧x_1.fst=x_2.fst∧x.fst=x.fst∧(0:Nat)=(0 :
  Nat)∧True)∧(((bif g then g=true else True)∧l=l)∧True)∧(x_1.snd.fst=x_2.snd.fst∧x_1.snd.snd.fst=x_2.snd.snd.fst∧true=x_2.snd.snd.snd.fst ∧
  x_1.snd.snd.snd.snd=x_2.snd.snd.snd.snd∧True)∧(n=n∧s=s∧(True∧xs=xs)∧True)∧True else True∧∃ x_2,Any5 x_2∧((0:Nat)=(0:Nat)∧(0:Nat)=(0:Nat) ∧
  x_1.fst=x_2.fst∧x.fst=x.fst∧(0:Nat)=(0:Nat)∧True)∧(((bif g then g=true else True)∧l=l)∧True)∧(x_1.snd.fst=x_2.snd.fst∧x_1.snd.snd.fst =
  x_2.snd.snd.fst∧(!nmOk s)=x_2.snd.snd.snd.fst∧x_1.snd.snd.snd.snd=x_2.snd.snd.snd.snd∧True)∧(n=n∧s=s∧(True∧xs=xs)∧True)∧True)∧∀ (x_2:Bool × Bool ×
  Bool × Bool × Bool),Any5 x_2→(bif x_2.fst then ∃ x_3,Any5 x_3∧((0:Nat)=(0:Nat)∧(0:Nat)=(0:Nat)∧true=x_3.fst∧x.fst=x.fst∧(0:Nat)=(0:Nat)∧True)
 ∧(((bif g then g=true else True)∧l=l)∧True)∧(x_2.snd.fst=x_3.snd.fst∧x_2.snd.snd.fst=x_3.snd.snd.fst∧x_2.snd.snd.snd.fst=x_3.snd.snd.snd.fst ∧
  x_2.snd.snd.snd.snd=x_3.snd.snd.snd.snd∧True)∧(n=n∧s=s∧(True∧xs=xs)∧True)∧True else bif decide ((0:Int) < x.fst) then bif decide (rng IntKind.i64 (x.fst -
  (1:Int))) then bif decide ((0:Int)≤x.fst - (1:Int)∧x.fst - (1:Int) < (↑l.length:Int)) then ∃ s_1,List.take [AV.str s_1].length (List.drop (1:Nat) (l.getD (x.fst -
  (1:Int)).toNat []))=[AV.str s_1]∧∃ x_3,Any5 x_3∧((0:Nat)=(0:Nat)∧(0:Nat)=(0:Nat)∧(!Op.bytesLess s_1.toList s.toList)=x_3.fst∧x.fst=x.fst∧(0:Nat)
 =(0:Nat)∧True)∧(((bif g then g=true else True)∧l=l)∧True)∧(x_2.snd.fst=x_3.snd.fst∧x_2.snd.snd.fst=x_3.snd.snd.fst∧x_2.snd.snd.snd.fst =
  x_3.snd.snd.snd.fst∧x_2.snd.snd.snd.snd=x_3.snd.snd.snd.snd∧True)∧(n=n∧s=s∧(True∧xs=xs)∧True)∧True else False else False else ∃ x_3,Any5 x_3∧((0:Nat) =
  (0:Nat)∧(0:Nat)=(0:Nat)∧false=x_3.fst∧x.fst=x.fst∧(0:Nat)=(0:Nat)∧True)∧(((bif g then g=true else True)∧l=l)∧True)∧(x_2.snd.fst =
  x_3.snd.fst∧x_2.snd.snd.fst=x_3.snd.snd.fst∧x_2.snd.snd.snd.fst=x_3.snd.snd.snd.fst∧x_2.snd.snd.snd.snd=x_3.snd.snd.snd.snd∧True)∧(n=n∧s=s∧(True∧xs=xs)
 ∧True)∧True)∧∀ (x_3:Bool × Bool × Bool × Bool × Bool),Any5 x_3→(∃ x_4,VaK xs x_4∧((0:Nat)=(0:Nat)∧(0:Nat)=(0:Nat)∧x_3.fst=x_4.snd.fst∧x.fst=x.fst
 ∧(0:Nat)=(0:Nat)∧(0:Int)=x_4.fst∧True)∧(((bif g then g=true else True)∧l=l)∧True)∧(x_3.snd.fst=x_4.snd.snd.fst∧x_3.snd.snd.fst=x_4.snd.snd.snd.fst
 ∧x_3.snd.snd.snd.fst=x_4.snd.snd.snd.snd.fst∧x_3.snd.snd.snd.snd=x_4.snd.snd.snd.snd.snd∧True)∧(n=n∧s=s∧(True∧xs=xs)∧True)∧True)∧∀ (x_4:Int × Bool ×
  Bool × Bool × Bool × Bool),VaK xs x_4→bif decide (x_4.fst < (↑xs.length:Int)) then (bif x_4.snd.snd.snd.snd.snd then ∃ x_5,Any5 x_5∧((0:Nat)=(0:Nat)∧(0:Nat)=(0
 :Nat)∧x_4.snd.fst=x_5.fst∧x.fst=x.fst∧(0:Nat)=(0:Nat)∧x_4.fst=x_4.fst∧True)∧(((bif g then g=true else True)∧l=l)∧True)∧(x_4.snd.snd.fst =
  x_5.snd.fst∧x_4.snd.snd.snd.fst=x_5.snd.snd.fst∧x_4.snd.snd.snd.snd.fst=x_5.snd.snd.snd.fst∧true=x_5.snd.snd.snd.snd∧True)∧(n=n∧s=s∧(True∧xs=xs)∧True)
 ∧True else bif decide ((0:Int)≤x_4.fst∧x_4.fst < (↑xs.length:Int)) then ∃ n_1 b n_2 n_3 n_4 n_5 xs_1,List.take [AV.int IntKind.i64 n_1,AV.bool b,AV.int IntKind.i64 n_2,
  AV.int IntKind.i64 n_3,AV.int IntKind.i64 n_4,AV.int IntKind.i64 n_5,AV.sl (2:Nat) false xs_1].length (xs.getD x_4.fst.toNat [])=[AV.int IntKind.i64 n_1,AV.bool b,AV.int
  IntKind.i64 n_2,AV.int IntKind.i64 n_3,AV.int IntKind.i64 n_4,AV.int IntKind.i64 n_5,AV.sl (2:Nat) false xs_1]∧RdsP xs_1∧∃ x_5,Any5 x_5∧((0:Nat)=(0:Nat)∧(0 :
  Nat)=(0:Nat)∧x_4.snd.fst=x_5.fst∧x.fst=x.fst∧(0:Nat)=(0:Nat)∧x_4.fst=x_4.fst∧True)∧(((bif g then g=true else True)∧l=l)∧True)∧(x_4.snd.snd.fst
 =x_5.snd.fst∧x_4.snd.snd.snd.fst=x_5.snd.snd.fst∧x_4.snd.snd.snd.snd.fst=x_5.snd.snd.snd.fst∧(!pdV n n_1 b n_2 n_3 n_4 n_5 xs_1)=x_5.snd.snd.snd.snd∧True)∧(n=n ∧
  s=s∧(True∧xs=xs)∧True)∧True else False)∧∀ (x_5:Bool × Bool × Bool × Bool × Bool),Any5 x_5→bif x_5.fst then bif decide (rng IntKind.i64 (x_4.fst+(1:Int)))
  then ∃ y,VaK xs y∧(va18 l g x.fst (AV.int IntKind.i64 n) (AV.str s) xs).m y < (va18 l g x.fst (AV.int IntKind.i64 n) (AV.str s) xs).m x_4∧((0:Nat)=(0:Nat)∧(0:Nat) =
  (0:Nat)∧true=y.snd.fst∧x.fst=x.fst∧(0:Nat)=(0:Nat)∧x_4.fst+(1:Int)=y.fst∧True)∧(((bif g then g=true else True)∧l=l)∧True)∧(x_5.snd.fst =
  y.snd.snd.fst∧x_5.snd.snd.fst=y.snd.snd.snd.fst∧x_5.snd.snd.snd.fst=y.snd.snd.snd.snd.fst∧x_5.snd.snd.snd.snd=y.snd.snd.snd.snd.snd∧True)∧(n=n∧s=s∧(True ∧
  xs=xs)∧True)∧True else False else bif decide ((0:Int) < x_4.fst) then bif decide (rng IntKind.i64 (x_4.fst - (1:Int))) then bif decide ((0:Int)≤x_4.fst - (1:Int) ∧
  x_4.fst - (1:Int) < (↑xs.length:Int)) then ∃ n_1,List.take [AV.int IntKind.i64 n_1].length (List.drop (0:Nat) (xs.getD (x_4.fst - (1:Int)).toNat []))=[AV.int IntKind.i64
  n_1]∧bif decide ((0:Int)≤x_4.fst∧x_4.fst < (↑xs.length:Int)) then ∃ n_2,List.take [AV.int IntKind.i64 n_2].length (List.drop (0:Nat) (xs.getD x_4.fst.toNat [])) =
  [AV.int IntKind.i64 n_2]∧bif decide (rng IntKind.i64 (x_4.fst+(1:Int))) then ∃ y,VaK xs y∧(va18 l g x.fst (AV.int IntKind.i64 n) (AV.str s) xs).m y < (va18 l g x.fst
  (AV.int IntKind.i64 n) (AV.str s) xs).m x_4∧((0:Nat)=(0:Nat)∧(0:Nat)=(0:Nat)∧decide (n_2≤n_1)=y.snd.fst∧x.fst=x.fst∧(0:Nat)=(0:Nat)∧x_4.fst+(1
 :Int)=y.fst∧True)∧(((bif g then g=true else True)∧l=l)∧True)∧(x_5.snd.fst=y.snd.snd.fst∧x_5.snd.snd.fst=y.snd.snd.snd.fst∧x_5.snd.snd.snd.fst =
  y.snd.snd.snd.snd.fst∧x_5.snd.snd.snd.snd=y.snd.snd.snd.snd.snd∧True)∧(n=n∧s=s∧(True∧xs=xs)∧True)∧True else False else False else False else False else bif
  decide (rng IntKind.i64 (x_4.fst+(1:Int))) then ∃ y,VaK xs y∧(va18 l g x.fst (AV.int IntKind.i64 n) (AV.str s) xs).m y < (va18 l g x.fst (AV.int IntKind.i64 n) (AV.str s)
  xs).m x_4∧((0:Nat)=(0:Nat)∧(0:Nat)=(0:Nat)∧false=y.snd.fst∧x.fst=x.fst∧(0:Nat)=(0:Nat)∧x_4.fst+(1:Int)=y.fst∧True)∧(((bif g then g =
  true else True)∧l=l)∧True)∧(x_5.snd.fst=y.snd.snd.fst∧x_5.snd.snd.fst=y.snd.snd.snd.fst∧x_5.snd.snd.snd.fst=y.snd.snd.snd.snd.fst∧x_5.snd.snd.snd.snd =
  y.snd.snd.snd.snd.snd∧True)∧(n=n∧s=s∧(True∧xs=xs)∧True)∧True else False else bif decide (rng IntKind.i64 (x.fst+(1:Int))) then ∃ y,VaJ l y∧(va11 l g).m y
  < (va11 l g).m x∧((0:Nat)=(0:Nat)∧(0:Nat)=(0:Nat)∧x_4.snd.fst=y.snd.fst∧x.fst+(1:Int)=y.fst∧True)∧(((bif g then g=true else True)∧l=l)∧True)
 ∧(x_4.snd.snd.fst=y.snd.snd.fst∧x_4.snd.snd.snd.fst=y.snd.snd.snd.fst∧x_4.snd.snd.snd.snd.fst=y.snd.snd.snd.snd.fst∧x_4.snd.snd.snd.snd.snd=y.snd.snd.snd.snd.snd ∧
  True)∧True else False else False else bif x.snd.snd.snd.fst then ∃ e,AnyI e∧(4:Int)=e∧True else bif x.snd.snd.snd.snd.fst then ∃ e,AnyI e∧(3:Int)=e∧True else
  bif x.snd.snd.snd.snd.snd then ∃ e,AnyI e∧(1:Int)=e∧True else bif x.snd.fst then ∃ e,AnyI e∧(8:Int)=e∧True else ∃ e,AnyI e∧(0:Int)=e∧True
theorem rvalidD_P:rvalidD_T pdV nmOk nrm vld isN inB bsOk:=by
 unfold rvalidD_T
 intro gl l g hl
 have ll:=hl.fl
 have bg:cond g (g=true) True:=by cases g <;> trivial
 refine ⟨⟨(0,decide (60 < (l.length:Int))),⟨by simp,by simp⟩,by (repeat' (first | exact trivial | exact rfl | assumption | apply And.intro))⟩,?_⟩
 rintro ⟨i,b⟩ ⟨i0,i1⟩
 simp only at i0 i1
 dsimp only
 refine csx (fun hi=>csplit (fun hb=>cd1 (by omega) ?_) (fun hb=>?_)) (fun hi=>?_)
 ·obtain ⟨k,nm,ps,hr,hp,h8⟩:=hl.fr i.toNat (by omega)
  exact ⟨k,nm,ps,by rw [hr]; rfl,csx (fun q=>cdI (by omega) ⟨(i+1,true),⟨by simp only; omega,by simp only; omega⟩,by simp only [va3]; omega,by (repeat' (first | exact trivial | exact rfl | assumption | apply And.intro))⟩) (fun q=>cdI (by omega) ⟨(i+1,decide (8 < (ps.length:Int))),⟨by simp only; omega,by simp only; omega⟩,by simp only [va3]; omega,by (repeat' (first | exact trivial | exact rfl | assumption | apply And.intro))⟩)⟩
 all_goals
  refine csplit (fun hb=>⟨_,⟨trivial⟩,rfl,trivial⟩) (fun hb=>⟨⟨(0,false,b,false,false,false),⟨by simp,by simp⟩,by (repeat' (first | exact trivial | exact rfl | assumption | apply And.intro))⟩,?_⟩)
  rintro ⟨i,o,b0,b1,b2,b3⟩ ⟨i0,i1⟩
  simp only at i0 i1
  dsimp only
  refine csx (fun hi=>cd1 (by omega) ?_) (fun hi=>csplit (fun _=>⟨_,⟨trivial⟩,rfl,trivial⟩) (fun _=>csplit (fun _=>⟨_,⟨trivial⟩,rfl,trivial⟩) (fun _=>csplit (fun _=>⟨_,⟨trivial⟩,rfl,trivial⟩) (fun _=>csplit (fun _=>⟨_,⟨trivial⟩,rfl,trivial⟩) (fun _=>⟨_,⟨trivial⟩,rfl,trivial⟩)))))
  obtain ⟨k,nm,ps,hr,hp,h8⟩:=hl.fr i.toNat (by omega)
  refine ⟨k,nm,ps,by rw [hr]; rfl,csplit (fun q=>⟨(o,b0,true,b2,b3),⟨trivial⟩,by (repeat' (first | exact trivial | exact rfl | assumption | apply And.intro))⟩) (fun q=>⟨trivial,(o,b0,!decide (1≤k∧k≤3),b2,b3),⟨trivial⟩,by (repeat' (first | exact trivial | exact rfl | assumption | apply And.intro))⟩),?_⟩
  rintro ⟨o,b0,b1,b2,b3⟩ _
  dsimp only
  refine ⟨csplit (fun q=>⟨(o,b0,b1,true,b3),⟨trivial⟩,by (repeat' (first | exact trivial | exact rfl | assumption | apply And.intro))⟩) (fun q=>⟨trivial,(o,b0,b1,!nmOk nm,b3),⟨trivial⟩,by (repeat' (first | exact trivial | exact rfl | assumption | apply And.intro))⟩),?_⟩
  rintro ⟨o,b0,b1,b2,b3⟩ _
  dsimp only
  refine ⟨csplit (fun q=>⟨(true,b0,b1,b2,b3),⟨trivial⟩,by (repeat' (first | exact trivial | exact rfl | assumption | apply And.intro))⟩) (fun q=>csx (fun q2=>cdI (by omega) (cd1 (by omega) ?_)) (fun q2=>⟨(false,b0,b1,b2,b3),⟨trivial⟩,by (repeat' (first | exact trivial | exact rfl | assumption | apply And.intro))⟩)),?_⟩
  ·obtain ⟨k',nm',ps',hr',_⟩:=hl.fr (i - 1).toNat (by omega)
   exact ⟨nm',by rw [hr']; rfl,(!Op.bytesLess nm'.toList nm.toList,b0,b1,b2,b3),⟨trivial⟩,by (repeat' (first | exact trivial | exact rfl | assumption | apply And.intro))⟩
  rintro ⟨o,b0,b1,b2,b3⟩ _
  dsimp only
  refine ⟨⟨(0,o,b0,b1,b2,b3),⟨by simp,by simp⟩,by (repeat' (first | exact trivial | exact rfl | assumption | apply And.intro))⟩,?_⟩
  rintro ⟨q,o,b0,b1,b2,b3⟩ ⟨q0,q1⟩
  simp only at q0 q1
  dsimp only
  refine csx (fun hq=>⟨csplit (fun z=>⟨(o,b0,b1,b2,true),⟨trivial⟩,by (repeat' (first | exact trivial | exact rfl | assumption | apply And.intro))⟩) (fun z=>cd1 (by omega) ?_),?_⟩) (fun hq=>cdI (by omega) ⟨(i+1,o,b0,b1,b2,b3),⟨by simp only; omega,by simp only; omega⟩,by simp only [va11]; omega,by (repeat' (first | exact trivial | exact rfl | assumption | apply And.intro))⟩)
  ·obtain ⟨fr,cl,f,a,b,c,bs,he,hb,_⟩:=hp.fr q.toNat (by omega)
   exact ⟨fr,cl,f,a,b,c,bs,by rw [he]; rfl,hb,(o,b0,b1,b2,!pdV k fr cl f a b c bs),⟨trivial⟩,by (repeat' (first | exact trivial | exact rfl | assumption | apply And.intro))⟩
  rintro ⟨o,b0,b1,b2,b3⟩ _
  dsimp only
  refine csplit (fun z=>cdI (by omega) ⟨(q+1,true,b0,b1,b2,b3),⟨by simp only; omega,by simp only; omega⟩,by simp only [va18]; omega,by (repeat' (first | exact trivial | exact rfl | assumption | apply And.intro))⟩) (fun z=>csx (fun z2=>cdI (by omega) (cd1 (by omega) ?_)) (fun z2=>cdI (by omega) ⟨(q+1,false,b0,b1,b2,b3),⟨by simp only; omega,by simp only; omega⟩,by simp only [va18]; omega,by (repeat' (first | exact trivial | exact rfl | assumption | apply And.intro))⟩))
  obtain ⟨fr,cl,f,a,b,c,bs,he,hb,_⟩:=hp.fr (q - 1).toNat (by omega)
  obtain ⟨fr2,cl2,f2,a2,b2',c2,bs2,he2,hb2,_⟩:=hp.fr q.toNat (by omega)
  exact ⟨fr,by rw [he]; rfl,cd1 (by omega) ⟨fr2,by rw [he2]; rfl,cdI (by omega) ⟨(q+1,decide (fr2≤fr),b0,b1,b2,b3),⟨by simp only; omega,by simp only; omega⟩,by simp only [va18]; omega,by (repeat' (first | exact trivial | exact rfl | assumption | apply And.intro))⟩⟩⟩
def rvalidD_S (pdV:Int→Int→Bool→Int→Int→Int→Int→LLR→Bool) (nmOk:ByteArray→Bool) (nrm:Int→Int→Int→Int→Int × Int × Int × Int) (vld:Int→Int→Int→Int→Bool) (isN:Int→Int→Int→Int→Bool) (inB:Int→Bool) (bsOk:LLR→Bool):Prop:=∀ (gl:Glob) (l:List (List AV)) (g:Bool),StsW l 8 60→fnQ Tryz.prog { glob:=gl,spec:=lk [(51,rkind_s),(75,(rname_s nmOk)),(76,(rperiod_s nrm vld isN pdV inB bsOk))],specH:=lk [],shape:=[31,56,86,108,124,130],slz:=[(31,[7]),(56,[7]),(108,[2])],nowf:=true } { nt:=145,drop:=drp [(1,31744),(3,16744448),(4,100663296),(5,4160749568),(6,8791798054912),(7,8796093022208),(11,527765581332480),(12,3377699720527872),(13,139611588448485376),(14,73642861106762350592),(15,37705144886662323503104),(16,4951722378209658142434787328),(18,74276402357122816493947453440),(19,475368975085586025561263702016),(20,10383959891769541142360244306837504),(21,21778061098346344592000717814640507092992),(22,130668428897640369969935849253798993199104),(24,1045347431181122959759486794030391945592832),(26,8362779449448983678075894352243135564742656),(28,22300745198530623141535718272648361505980416)],fr:=1000,kp:=[] } (vaJ l g) 6 Tryz.f32 [.agg [.sl 3 g l]] [] (fun r2 bs2=>∃ (e:Int),(AnyI e)∧le r2 (.int .i64 e)∧leBs bs2 [])
theorem rvalidD_e (pdV:Int→Int→Bool→Int→Int→Int→Int→LLR→Bool) (nmOk:ByteArray→Bool) (nrm:Int→Int→Int→Int→Int × Int × Int × Int) (vld:Int→Int→Int→Int→Bool) (isN:Int→Int→Int→Int→Bool) (inB:Int→Bool) (bsOk:LLR→Bool):rvalidD_T pdV nmOk nrm vld isN inB bsOk=rvalidD_S pdV nmOk nrm vld isN inB bsOk:=by kernel_rfl
theorem rvalidD_v:rvalidD_S pdV nmOk nrm vld isN inB bsOk:=Eq.mp (rvalidD_e ..) (rvalidD_P)
theorem rvalidD_ok (gl:Glob):QOK Tryz.prog gl 32 (rvalidD_s pdV nmOk):=by
 refine ⟨fok Tryz.func32 (by kernel_rfl) (by kernel_rfl),?_⟩
 intro xs bs T h K hT
 unfold rvalidD_s at h
 split at h
 ·simp only [Option.some.injEq] at h
  subst h
  obtain ⟨hp,hK⟩:=hT
  obtain ⟨r,bs2,⟨o0,hq,hl,hb⟩,hC⟩:=fnQ_sound tyNil (by exact specOK rfl rfl ⟨(rkind_ok gl),(rname_ok gl),(rperiod_ok gl),trivial⟩ trivial) (by kernel_rfl) Tryz.func32 (rvalidD_v gl _ _ hp)
  exact ⟨_,_,hK o0 hq,hC.le hl hb⟩
 ·cases h
structure WthQ (ps l:LLR):Prop where
 fq:∀ q,8≤q→ps.length≤q→StsW l q 61
structure WthI (l ps:LLR) (x:Int × Bool × LLR):Prop where
 flo:0≤x.1
 fhi:x.1≤l.length
 fl:(x.2.2.length:Int)≤x.1+cond x.2.1 1 0
 fr:∀ q,8≤q→ps.length≤q→StsW x.2.2 q 61
def wt4 (l:LLR) (g:Bool) (k:Int) (nm:ByteArray) (ps:LLR):LInv:=⟨Int × Bool × LLR,fun x=>⟨[(2,.ptr 1002 0),(3,.ptr 1003 0),(4,.ptr 1004 0),(5,.ptr 1005 0),(6,.bool x.2.1),(14,.sl 3 g l),(15,.int .i64 l.length),(16,.int .i64 x.1)],[(1002,.cells [.sl 3 g l]),(1003,.cells (stA k nm ps)),(1004,.cells [.nils]),(1005,.cells [.rw 1501 3 x.2.2.length]),(1501,.row 59 3 x.2.2)]⟩,WthI l ps,fun x=>(l.length - x.1).toNat,none⟩
structure PlsQ (ps:LLR):Prop where
 fr:PdsP ps
 fl:ps.length≤9
theorem stw_nil {q m:Nat}:StsW [] q m:=⟨fun i h=>by simp at h,by simp⟩
theorem stw_add {o:LLR} {r:List AV} {q m:Nat} (h:StsW o q m) (hr:∃ (k:Int) (nm:ByteArray) (ps:LLR),r=stA k nm ps∧PdsP ps∧ps.length≤q) (hl:o.length+1≤m):StsW (o++[r]) q m:=by
 refine ⟨fun i hi=>?_,by simp; omega⟩
 rw [List.length_append,List.length_singleton] at hi
 rw [gD_app]
 by_cases z:i < o.length
 ·rw [if_pos z]; exact h.fr i z
 ·rw [if_neg z,show i - o.length=0 by omega]; exact hr
theorem pds_add {o:LLR} {r:List AV} (h:PdsP o) (hr:∃ (fr:Int) (cl:Bool) (f a b c:Int) (bs:LLR),r=pdA fr cl f a b c bs∧RdsP bs∧bs.length≤1000) (hl:o.length≤1000):PdsP (o++[r]):=by
 refine ⟨fun i hi=>?_,by simp; omega⟩
 rw [List.length_append,List.length_singleton] at hi
 rw [gD_app]
 by_cases z:i < o.length
 ·rw [if_pos z]; exact h.fr i z
 ·rw [if_neg z,show i - o.length=0 by omega]; exact hr
def rwithD_s:SpQ
 | [.agg [.sl 3 g l],.agg [.int .i64 k,.str nm,.sl 7 false ps]],[]=>some (fun K=>(StsW l 8 60∧PlsQ ps)∧(∀ (l':List (List AV)),(WthQ ps l')→K (.agg [.sl 3 false l']) []))
 | _,_=>none
def rwithD_T:Prop :=
  ∀ (gl:Glob) (l ps:List (List AV)) (g:Bool) (k:Int) (nm:ByteArray),StsW l (8:Nat) (60:Nat)∧PlsQ ps→(∃ x,WthI l ps x∧((0:Nat)=(0:Nat)∧(0:Nat)=(0 :
  Nat)∧(0:Nat)=(0:Nat)∧(0:Nat)=(0:Nat)∧decide ((↑ps.length:Int)=(0:Int))=x.snd.fst∧((bif g then g=true else True)∧l=l)∧(↑l.length:Int) =
  (↑l.length:Int)∧(0:Int)=x.fst∧True)∧(((bif g then g=true else True)∧l=l)∧True)∧(k=k∧nm=nm∧(True∧ps=ps)∧True)∧(True∧True)∧((0:Nat) =
  List.length x.snd.snd∧True)∧[]=x.snd.snd∧True)∧∀ (x:Int × Bool × LLR),WthI l ps x→bif decide (x.fst < (↑l.length:Int)) then bif decide ((0:Int)≤x.fst∧x.fst <
  (↑l.length:Int)) then ∃ n s xs,List.take [AV.int IntKind.i64 n,AV.str s,AV.sl (7:Nat) false xs].length (l.getD x.fst.toNat [])=[AV.int IntKind.i64 n,AV.str s,AV.sl (7 :
  Nat) false xs]∧bif !x.snd.fst then bif Op.bytesLess nm.toList s.toList||decide (nm=s) then bif decide (List.length x.snd.snd=List.length x.snd.snd∧List.length x.snd.snd +
  [[AV.int IntKind.i64 k,AV.str nm,AV.sl (7:Nat) false ps]].length≤(9223372036854775807:Nat)∧(List.length x.snd.snd+[[AV.int IntKind.i64 k,AV.str nm,AV.sl (7:Nat)
  false ps]].length)*(48:Nat)≤(140737488355328:Nat)) then bif !decide (s=nm) then bif decide ((x.snd.snd++[[AV.int IntKind.i64 k,AV.str nm,AV.sl (7:Nat) false
  ps]]).length=(x.snd.snd++[[AV.int IntKind.i64 k,AV.str nm,AV.sl (7:Nat) false ps]]).length∧(x.snd.snd++[[AV.int IntKind.i64 k,AV.str nm,AV.sl (7:Nat) false
  ps]]).length+[[AV.int IntKind.i64 n,AV.str s,AV.sl (7:Nat) false xs]].length≤(9223372036854775807:Nat)∧((x.snd.snd++[[AV.int IntKind.i64 k,AV.str nm,AV.sl (7:Nat)
  false ps]]).length+[[AV.int IntKind.i64 n,AV.str s,AV.sl (7:Nat) false xs]].length)*(48:Nat)≤(140737488355328:Nat)) then bif decide (rng IntKind.i64 (x.fst+(1 :
  Int))) then ∃ y,WthI l ps y∧(wt4 l g k nm ps).m y < (wt4 l g k nm ps).m x∧((0:Nat)=(0:Nat)∧(0:Nat)=(0:Nat)∧(0:Nat)=(0:Nat)∧(0:Nat)=(0:Nat)∧true
 =y.snd.fst∧((bif g then g=true else True)∧l=l)∧(↑l.length:Int)=(↑l.length:Int)∧x.fst+(1:Int)=y.fst∧True)∧(((bif g then g=true else True)∧l=l) ∧
  True)∧(k=k∧nm=nm∧(True∧ps=ps)∧True)∧(True∧True)∧((x.snd.snd++[[AV.int IntKind.i64 k,AV.str nm,AV.sl (7:Nat) false ps]]++[[AV.int IntKind.i64 n,AV.str
  s,AV.sl (7:Nat) false xs]]).length=List.length y.snd.snd∧True)∧x.snd.snd++[[AV.int IntKind.i64 k,AV.str nm,AV.sl (7:Nat) false ps]]++[[AV.int IntKind.i64 n,AV.str
  s,AV.sl (7:Nat) false xs]]=y.snd.snd∧True else False else False else bif decide (rng IntKind.i64 (x.fst+(1:Int))) then ∃ y,WthI l ps y∧(wt4 l g k nm ps).m y < (wt4 l
  g k nm ps).m x∧((0:Nat)=(0:Nat)∧(0:Nat)=(0:Nat)∧(0:Nat)=(0:Nat)∧(0:Nat)=(0:Nat)∧true=y.snd.fst∧((bif g then g=true else True)∧l=l) ∧
  (↑l.length:Int)=(↑l.length:Int)∧x.fst+(1:Int)=y.fst∧True)∧(((bif g then g=true else True)∧l=l)∧True)∧(k=k∧nm=nm∧(True∧ps=ps)∧True)∧(True
 ∧True)∧((x.snd.snd++[[AV.int IntKind.i64 k,AV.str nm,AV.sl (7:Nat) false ps]]).length=List.length y.snd.snd∧True)∧x.snd.snd++[[AV.int IntKind.i64 k,AV.str nm,
  AV.sl (7:Nat) false ps]]=y.snd.snd∧True else False else False else bif !decide (s=nm) then bif decide (List.length x.snd.snd=List.length x.snd.snd∧List.length x.snd.snd
 +[[AV.int IntKind.i64 n,AV.str s,AV.sl (7:Nat) false xs]].length≤(9223372036854775807:Nat)∧(List.length x.snd.snd+[[AV.int IntKind.i64 n,AV.str s,AV.sl (7:Nat)
  false xs]].length)*(48:Nat)≤(140737488355328:Nat)) then bif decide (rng IntKind.i64 (x.fst+(1:Int))) then ∃ y,WthI l ps y∧(wt4 l g k nm ps).m y < (wt4 l g k nm ps).m
  x∧((0:Nat)=(0:Nat)∧(0:Nat)=(0:Nat)∧(0:Nat)=(0:Nat)∧(0:Nat)=(0:Nat)∧x.snd.fst=y.snd.fst∧((bif g then g=true else True)∧l=l)∧(↑l.length
 :Int)=(↑l.length:Int)∧x.fst+(1:Int)=y.fst∧True)∧(((bif g then g=true else True)∧l=l)∧True)∧(k=k∧nm=nm∧(True∧ps=ps)∧True)∧(True∧True) ∧
  ((x.snd.snd++[[AV.int IntKind.i64 n,AV.str s,AV.sl (7:Nat) false xs]]).length=List.length y.snd.snd∧True)∧x.snd.snd++[[AV.int IntKind.i64 n,AV.str s,AV.sl (7:Nat)
  false xs]]=y.snd.snd∧True else False else False else bif decide (rng IntKind.i64 (x.fst+(1:Int))) then ∃ y,WthI l ps y∧(wt4 l g k nm ps).m y < (wt4 l g k nm ps).m x ∧
  ((0:Nat)=(0:Nat)∧(0:Nat)=(0:Nat)∧(0:Nat)=(0:Nat)∧(0:Nat)=(0:Nat)∧x.snd.fst=y.snd.fst∧((bif g then g=true else True)∧l=l)∧(↑l.length :
  Int)=(↑l.length:Int)∧x.fst+(1:Int)=y.fst∧True)∧(((bif g then g=true else True)∧l=l)∧True)∧(k=k∧nm=nm∧(True∧ps=ps)∧True)∧(True∧True) ∧
  (List.length x.snd.snd=List.length y.snd.snd∧True)∧x.snd.snd=y.snd.snd∧True else False else bif !decide (s=nm) then bif decide (List.length x.snd.snd=List.length
  x.snd.snd∧List.length x.snd.snd+[[AV.int IntKind.i64 n,AV.str s,AV.sl (7:Nat) false xs]].length≤(9223372036854775807:Nat)∧(List.length x.snd.snd+[[AV.int
  IntKind.i64 n,AV.str s,AV.sl (7:Nat) false xs]].length)*(48:Nat)≤(140737488355328:Nat)) then bif decide (rng IntKind.i64 (x.fst+(1:Int))) then ∃ y,WthI l ps y ∧
  (wt4 l g k nm ps).m y < (wt4 l g k nm ps).m x∧((0:Nat)=(0:Nat)∧(0:Nat)=(0:Nat)∧(0:Nat)=(0:Nat)∧(0:Nat)=(0:Nat)∧x.snd.fst=y.snd.fst∧((bif g
  then g=true else True)∧l=l)∧(↑l.length:Int)=(↑l.length:Int)∧x.fst+(1:Int)=y.fst∧True)∧(((bif g then g=true else True)∧l=l)∧True)∧(k=k∧nm =
  nm∧(True∧ps=ps)∧True)∧(True∧True)∧((x.snd.snd++[[AV.int IntKind.i64 n,AV.str s,AV.sl (7:Nat) false xs]]).length=List.length y.snd.snd∧True)∧x.snd.snd ++
  [[AV.int IntKind.i64 n,AV.str s,AV.sl (7:Nat) false xs]]=y.snd.snd∧True else False else False else bif decide (rng IntKind.i64 (x.fst+(1:Int))) then ∃ y,WthI l ps y ∧
  (wt4 l g k nm ps).m y < (wt4 l g k nm ps).m x∧((0:Nat)=(0:Nat)∧(0:Nat)=(0:Nat)∧(0:Nat)=(0:Nat)∧(0:Nat)=(0:Nat)∧x.snd.fst=y.snd.fst∧((bif g
  then g=true else True)∧l=l)∧(↑l.length:Int)=(↑l.length:Int)∧x.fst+(1:Int)=y.fst∧True)∧(((bif g then g=true else True)∧l=l)∧True)∧(k=k∧nm =
  nm∧(True∧ps=ps)∧True)∧(True∧True)∧(List.length x.snd.snd=List.length y.snd.snd∧True)∧x.snd.snd=y.snd.snd∧True else False else False else bif !x.snd.fst then
  bif decide (List.length x.snd.snd=List.length x.snd.snd∧List.length x.snd.snd+[[AV.int IntKind.i64 k,AV.str nm,AV.sl (7:Nat) false ps]].length≤(9223372036854775807 :
  Nat)∧(List.length x.snd.snd+[[AV.int IntKind.i64 k,AV.str nm,AV.sl (7:Nat) false ps]].length)*(48:Nat)≤(140737488355328:Nat)) then bif decide ((x.snd.snd ++
  [[AV.int IntKind.i64 k,AV.str nm,AV.sl (7:Nat) false ps]]).length=(x.snd.snd++[[AV.int IntKind.i64 k,AV.str nm,AV.sl (7:Nat) false ps]]).length) then ∃ l',WthQ ps l' ∧
  ((True∧x.snd.snd++[[AV.int IntKind.i64 k,AV.str nm,AV.sl (7:Nat) false ps]]=l')∧True)∧True else False else False else bif decide (List.length x.snd.snd=List.length
  x.snd.snd) then ∃ l',WthQ ps l'∧((True∧x.snd.snd=l')∧True)∧True else False
theorem rwithD_P:rwithD_T:=by
 unfold rwithD_T
 intro gl l ps g k nm ⟨hl,hp⟩
 have ll:=hl.fl
 have lp:=hp.fl
 have bg:cond g (g=true) True:=by cases g <;> trivial
 refine ⟨⟨(0,decide ((ps.length:Int)=0),[]),⟨by simp,by simp,by show (0:Int)≤0+_; cases decide ((ps.length:Int)=0) <;> decide,fun q _ _=>stw_nil⟩,by (repeat' (first | exact trivial | exact rfl | assumption | apply And.intro))⟩,?_⟩
 rintro ⟨i,d,out⟩ ⟨i0,i1,ol,of⟩
 simp only at i0 i1 ol of
 dsimp only
 have cd:cond d (1:Int) 0≤1:=by cases d <;> decide
 refine csx (fun hi=>cd1 (by omega) ?_) (fun hi=>?_)
 ·obtain ⟨k2,nm2,ps2,hr,hp2,h8⟩:=hl.fr i.toNat (by omega)
  have a2:∀ {o:LLR},(∀ q,8≤q→ps.length≤q→StsW o q 61)→o.length+1≤61→∀ q,8≤q→ps.length≤q→StsW (o++[stA k2 nm2 ps2]) q 61:=fun h hl q h1 h2=>stw_add (h q h1 h2) ⟨k2,nm2,ps2,rfl,hp2,by omega⟩ hl
  have a1:∀ {o:LLR},(∀ q,8≤q→ps.length≤q→StsW o q 61)→o.length+1≤61→∀ q,8≤q→ps.length≤q→StsW (o++[stA k nm ps]) q 61:=fun h hl q h1 h2=>stw_add (h q h1 h2) ⟨k,nm,ps,rfl,hp.fr,h2⟩ hl
  refine ⟨k2,nm2,ps2,by rw [hr]; rfl,csplit (fun hd=>?_) (fun hd=>?_)⟩
  ·have hd:d=false:=by simpa using hd
   subst hd
   simp only [cond_false] at ol
   refine csplit (fun q=>cd1 ⟨rfl,by simp; omega,by simp; omega⟩ (csplit (fun q2=>cd1 ⟨rfl,by simp; omega,by simp; omega⟩ (cdI (by omega) ⟨(i+1,true,out++[stA k nm ps]++[stA k2 nm2 ps2]),⟨by simp only; omega,by simp only; omega,by simp; omega,a2 (a1 of (by omega)) (by simp; omega)⟩,by simp only [wt4]; omega,by (repeat' (first | exact trivial | exact rfl | assumption | apply And.intro))⟩)) (fun q2=>cdI (by omega) ⟨(i+1,true,out++[stA k nm ps]),⟨by simp only; omega,by simp only; omega,by simp; omega,a1 of (by omega)⟩,by simp only [wt4]; omega,by (repeat' (first | exact trivial | exact rfl | assumption | apply And.intro))⟩))) (fun q=>csplit (fun q2=>cd1 ⟨rfl,by simp; omega,by simp; omega⟩ (cdI (by omega) ⟨(i+1,false,out++[stA k2 nm2 ps2]),⟨by simp only; omega,by simp only; omega,by simp; omega,a2 of (by omega)⟩,by simp only [wt4]; omega,by (repeat' (first | exact trivial | exact rfl | assumption | apply And.intro))⟩)) (fun q2=>cdI (by omega) ⟨(i+1,false,out),⟨by simp only; omega,by simp only; omega,by simp only [cond_false]; omega,of⟩,by simp only [wt4]; omega,by (repeat' (first | exact trivial | exact rfl | assumption | apply And.intro))⟩))
  ·have hd:d=true:=by simpa using hd
   subst hd
   simp only [cond_true] at ol
   refine csplit (fun q2=>cd1 ⟨rfl,by simp; omega,by simp; omega⟩ (cdI (by omega) ⟨(i+1,true,out++[stA k2 nm2 ps2]),⟨by simp only; omega,by simp only; omega,by simp; omega,a2 of (by omega)⟩,by simp only [wt4]; omega,by (repeat' (first | exact trivial | exact rfl | assumption | apply And.intro))⟩)) (fun q2=>cdI (by omega) ⟨(i+1,true,out),⟨by simp only; omega,by simp only; omega,by simp only [cond_true]; omega,of⟩,by simp only [wt4]; omega,by (repeat' (first | exact trivial | exact rfl | assumption | apply And.intro))⟩)
 ·refine csplit (fun hd=>?_) (fun hd=>?_)
  ·have hd:d=false:=by simpa using hd
   subst hd
   simp only [cond_false] at ol
   exact cd1 ⟨rfl,by simp; omega,by simp; omega⟩ (cd1 rfl ⟨_,⟨fun q h1 h2=>stw_add (of q h1 h2) ⟨k,nm,ps,rfl,hp.fr,h2⟩ (by omega)⟩,⟨⟨trivial,rfl⟩,trivial⟩,trivial⟩)
  ·exact cd1 rfl ⟨_,⟨of⟩,⟨⟨trivial,rfl⟩,trivial⟩,trivial⟩
def rwithD_S:Prop:=∀ (gl:Glob) (l ps:List (List AV)) (g:Bool) (k:Int) (nm:ByteArray),StsW l 8 60∧PlsQ ps→fnQ Tryz.prog { glob:=gl,spec:=lk [],specH:=lk [],shape:=[19],slz:=[(19,[7])],nowf:=true } { nt:=56,drop:=drp [(2,7680),(3,8192),(5,786432),(6,267386880),(7,33822867456),(9,515396075520),(10,69269232549888),(11,70368744177664),(12,140737488355328),(13,35465847065542656),(14,36028797018963968)],fr:=1000,kp:=[],emp:=fun id=>cond (Nat.beq id 3) [(1100500,1501,59,3)] [] } (invs [(4,wt4 l g k nm ps)]) 6 Tryz.f81 [.agg [.sl 3 g l],.agg [.int .i64 k,.str nm,.sl 7 false ps]] [] (fun r2 bs2=>∃ (l':List (List AV)),(WthQ ps l')∧le r2 (.agg [.sl 3 false l'])∧leBs bs2 [])
theorem rwithD_e:rwithD_T=rwithD_S:=by kernel_rfl
theorem rwithD_v:rwithD_S:=Eq.mp (rwithD_e ..) (rwithD_P)
theorem rwithD_ok (gl:Glob):QOK Tryz.prog gl 81 rwithD_s:=by
 refine ⟨fok Tryz.func81 (by kernel_rfl) (by kernel_rfl),?_⟩
 intro xs bs T h K hT
 unfold rwithD_s at h
 split at h
 ·simp only [Option.some.injEq] at h
  subst h
  obtain ⟨hp,hK⟩:=hT
  obtain ⟨r,bs2,⟨o0,hq,hl,hb⟩,hC⟩:=fnQ_sound tyNil (by exact specOK rfl rfl trivial trivial) (by kernel_rfl) Tryz.func81 (rwithD_v gl _ _ _ _ _ hp)
  exact ⟨_,_,hK o0 hq,hC.le hl hb⟩
 ·cases h
structure SetI (ps0:LLR) (x:Int × Bool × LLR):Prop where
 flo:0≤x.1
 fhi:x.1≤ps0.length
 fl:(x.2.2.length:Int)≤x.1+cond x.2.1 1 0
 fr:PdsP x.2.2
def se16 (l:LLR) (g:Bool) (k:Int) (nm:ByteArray) (p:List AV) (ps0:LLR):LInv:=⟨Int × Bool × LLR,fun x=>⟨[(1,.int .i64 k),(2,.str nm),(4,.ptr 1004 0),(7,.ptr 1007 0),(8,.ptr 1008 0),(13,.ptr 1013 0),(14,.bool x.2.1),(55,.sl 7 false ps0),(56,.int .i64 ps0.length),(57,.int .i64 x.1)],[(1004,.cells [.sl 3 g l]),(1007,.cells p),(1008,.cells [.nils]),(1013,.cells [.int .i64 k,.str nm,.rw 1502 7 x.2.2.length]),(1502,.row 49 7 x.2.2)]⟩,SetI ps0,fun x=>(ps0.length - x.1).toNat,none⟩
def seJ (l:LLR) (g:Bool) (k:Int) (nm:ByteArray) (p:List AV) (id:Nat) (st:St):Option LInv:=cond (Nat.beq id 16) (match lk st.tmps 55 with
 | some (.sl _ _ ps0)=>some (se16 l g k nm p ps0)
 | _=>none) none
structure SetQ (l:LLR):Prop where
 fr:StsW l 8 60
def rsetD_s (pdV:Int→Int→Bool→Int→Int→Int→Int→LLR→Bool) (nmOk:ByteArray→Bool):SpQ
 | [.agg [.sl 3 g l],.int .i64 k,.str nm,.agg [.int .i64 fr,.bool cl,.int .i64 f,.int .i64 a,.int .i64 b,.int .i64 c,.sl 2 false bs]],[]=>some (fun K=>(StsW l 8 60∧RdsP bs∧bs.length≤1000)∧(∀ (l':List (List AV)) (e:Int),(SetQ l')→K (.tup [.agg [.sl 3 false l'],.int .i64 e]) []))
 | _,_=>none
def rsetD_T (pdV:Int→Int→Bool→Int→Int→Int→Int→LLR→Bool) (nmOk:ByteArray→Bool) (nrm:Int→Int→Int→Int→Int × Int × Int × Int) (vld:Int→Int→Int→Int→Bool) (isN:Int→Int→Int→Int→Bool) (inB:Int→Bool) (bsOk:LLR→Bool):Prop :=
  ∀ (gl:Glob) (l bs:List (List AV)) (g cl:Bool) (k fr f a b c:Int) (nm:ByteArray),StsW l (8:Nat) (60:Nat)∧RdsP bs∧bs.length≤(1000:Nat)→StsW l (8:Nat) (60 :
  Nat)∧∀ (e:Int),AnyI e→bif decide ¬e=(0:Int) then ∃ l' e_1,SetQ l'∧((l'=[]∧True)∧e=e_1∧True)∧True else True∧bif !decide ((1:Int)≤k∧k≤(3:Int))
  then ∃ l' e,SetQ l'∧((l'=[]∧True)∧(4:Int)=e∧True)∧True else True∧bif !nmOk nm then ∃ l' e,SetQ l'∧((l'=[]∧True)∧(3:Int)=e∧True)∧True else RdsP
  bs∧bif !pdV k fr cl f a b c bs then ∃ l' e,SetQ l'∧((l'=[]∧True)∧(1:Int)=e∧True)∧True else StsW l (8:Nat) (60:Nat)∧∀ (k_1:Int) (n:ByteArray) (ps:List
  (List AV)) (ok:Bool),FdQ ps→bif ok then bif decide ¬k_1=k then ∃ l' e,SetQ l'∧((l'=[]∧True)∧(7:Int)=e∧True)∧True else (∃ x,SetI ps x∧(k=k∧nm=nm ∧
  (0:Nat)=(0:Nat)∧(0:Nat)=(0:Nat)∧(0:Nat)=(0:Nat)∧(0:Nat)=(0:Nat)∧false=x.snd.fst∧(True∧ps=ps)∧(↑ps.length:Int)=(↑ps.length:Int)∧(0
 :Int)=x.fst∧True)∧(((bif g then g=true else True)∧l=l)∧True)∧(fr=fr∧cl=cl∧f=f∧a=a∧b=b∧c=c∧(True∧bs=bs)∧True)∧(True∧True)∧(k=k
 ∧nm=nm∧(0:Nat)=List.length x.snd.snd∧True)∧[]=x.snd.snd∧True)∧∀ (x:Int × Bool × LLR),SetI ps x→bif decide (x.fst < (↑ps.length:Int)) then bif decide ((0 :
  Int)≤x.fst∧x.fst < (↑ps.length:Int)) then ∃ n b_1 n_1 n_2 n_3 n_4 xs,List.take [AV.int IntKind.i64 n,AV.bool b_1,AV.int IntKind.i64 n_1,AV.int IntKind.i64 n_2,AV.int
  IntKind.i64 n_3,AV.int IntKind.i64 n_4,AV.sl (2:Nat) false xs].length (ps.getD x.fst.toNat [])=[AV.int IntKind.i64 n,AV.bool b_1,AV.int IntKind.i64 n_1,AV.int IntKind.i64
  n_2,AV.int IntKind.i64 n_3,AV.int IntKind.i64 n_4,AV.sl (2:Nat) false xs]∧bif !x.snd.fst then bif decide (fr≤n) then bif decide (List.length x.snd.snd=List.length
  x.snd.snd∧List.length x.snd.snd+[[AV.int IntKind.i64 fr,AV.bool cl,AV.int IntKind.i64 f,AV.int IntKind.i64 a,AV.int IntKind.i64 b,AV.int IntKind.i64 c,AV.sl (2:Nat)
  false bs]].length≤(9223372036854775807:Nat)∧(List.length x.snd.snd+[[AV.int IntKind.i64 fr,AV.bool cl,AV.int IntKind.i64 f,AV.int IntKind.i64 a,AV.int IntKind.i64 b,
  AV.int IntKind.i64 c,AV.sl (2:Nat) false bs]].length)*(72:Nat)≤(140737488355328:Nat)) then bif decide ¬n=fr then bif decide ((x.snd.snd++[[AV.int IntKind.i64 fr,
  AV.bool cl,AV.int IntKind.i64 f,AV.int IntKind.i64 a,AV.int IntKind.i64 b,AV.int IntKind.i64 c,AV.sl (2:Nat) false bs]]).length=(x.snd.snd++[[AV.int IntKind.i64 fr,
  AV.bool cl,AV.int IntKind.i64 f,AV.int IntKind.i64 a,AV.int IntKind.i64 b,AV.int IntKind.i64 c,AV.sl (2:Nat) false bs]]).length∧(x.snd.snd++[[AV.int IntKind.i64 fr,
  AV.bool cl,AV.int IntKind.i64 f,AV.int IntKind.i64 a,AV.int IntKind.i64 b,AV.int IntKind.i64 c,AV.sl (2:Nat) false bs]]).length+[[AV.int IntKind.i64 n,AV.bool b_1,AV.int
  IntKind.i64 n_1,AV.int IntKind.i64 n_2,AV.int IntKind.i64 n_3,AV.int IntKind.i64 n_4,AV.sl (2:Nat) false xs]].length≤(9223372036854775807:Nat)∧((x.snd.snd++[[AV.int
  IntKind.i64 fr,AV.bool cl,AV.int IntKind.i64 f,AV.int IntKind.i64 a,AV.int IntKind.i64 b,AV.int IntKind.i64 c,AV.sl (2:Nat) false bs]]).length+[[AV.int IntKind.i64 n,
  AV.bool b_1,AV.int IntKind.i64 n_1,AV.int IntKind.i64 n_2,AV.int IntKind.i64 n_3,AV.int IntKind.i64 n_4,AV.sl (2:Nat) false xs]].length)*(72:Nat)≤(140737488355328 :
  Nat)) then bif decide (rng IntKind.i64 (x.fst+(1:Int))) then ∃ y,SetI ps y∧(se16 l g k nm (pdA fr cl f a b c bs) ps).m y < (se16 l g k nm (pdA fr cl f a b c bs) ps).m x∧(k
 =k∧nm=nm∧(0:Nat)=(0:Nat)∧(0:Nat)=(0:Nat)∧(0:Nat)=(0:Nat)∧(0:Nat)=(0:Nat)∧true=y.snd.fst∧(True∧ps=ps)∧(↑ps.length:Int) =
  (↑ps.length:Int)∧x.fst+(1:Int)=y.fst∧True)∧(((bif g then g=true else True)∧l=l)∧True)∧(fr=fr∧cl=cl∧f=f∧a=a∧b=b∧c=c∧(True∧bs=bs)
 ∧True)∧(True∧True)∧(k=k∧nm=nm∧(x.snd.snd++[[AV.int IntKind.i64 fr,AV.bool cl,AV.int IntKind.i64 f,AV.int IntKind.i64 a,AV.int IntKind.i64 b,AV.int IntKind.i64
  c,AV.sl (2:Nat) false bs]]++[[AV.int IntKind.i64 n,AV.bool b_1,AV.int IntKind.i64 n_1,AV.int IntKind.i64 n_2,AV.int IntKind.i64 n_3,AV.int IntKind.i64 n_4,AV.sl (2 :
  Nat) false xs]]).length=List.length y.snd.snd∧True)∧x.snd.snd++[[AV.int IntKind.i64 fr,AV.bool cl,AV.int IntKind.i64 f,AV.int IntKind.i64 a,AV.int IntKind.i64 b,AV.int
  IntKind.i64 c,AV.sl (2:Nat) false bs]]++[[AV.int IntKind.i64 n,AV.bool b_1,AV.int IntKind.i64 n_1,AV.int IntKind.i64 n_2,AV.int IntKind.i64 n_3,AV.int IntKind.i64 n_4,
  AV.sl (2:Nat) false xs]]=y.snd.snd∧True else False else False else bif decide (rng IntKind.i64 (x.fst+(1:Int))) then ∃ y,SetI ps y∧(se16 l g k nm (pdA fr cl f a b c
  bs) ps).m y < (se16 l g k nm (pdA fr cl f a b c bs) ps).m x∧(k=k∧nm=nm∧(0:Nat)=(0:Nat)∧(0:Nat)=(0:Nat)∧(0:Nat)=(0:Nat)∧(0:Nat)=(0:Nat) ∧
  true=y.snd.fst∧(True∧ps=ps)∧(↑ps.length:Int)=(↑ps.length:Int)∧x.fst+(1:Int)=y.fst∧True)∧(((bif g then g=true else True)∧l=l)∧True)∧(fr=fr ∧
  cl=cl∧f=f∧a=a∧b=b∧c=c∧(True∧bs=bs)∧True)∧(True∧True)∧(k=k∧nm=nm∧(x.snd.snd++[[AV.int IntKind.i64 fr,AV.bool cl,AV.int IntKind.i64 f,
  AV.int IntKind.i64 a,AV.int IntKind.i64 b,AV.int IntKind.i64 c,AV.sl (2:Nat) false bs]]).length=List.length y.snd.snd∧True)∧x.snd.snd++[[AV.int IntKind.i64 fr,AV.bool
  cl,AV.int IntKind.i64 f,AV.int IntKind.i64 a,AV.int IntKind.i64 b,AV.int IntKind.i64 c,AV.sl (2:Nat) false bs]]=y.snd.snd∧True else False else False else bif decide ¬n =
  fr then bif decide (List.length x.snd.snd=List.length x.snd.snd∧List.length x.snd.snd+[[AV.int IntKind.i64 n,AV.bool b_1,AV.int IntKind.i64 n_1,AV.int IntKind.i64 n_2,
  AV.int IntKind.i64 n_3,AV.int IntKind.i64 n_4,AV.sl (2:Nat) false xs]].length≤(9223372036854775807:Nat)∧(List.length x.snd.snd+[[AV.int IntKind.i64 n,AV.bool b_1,
  AV.int IntKind.i64 n_1,AV.int IntKind.i64 n_2,AV.int IntKind.i64 n_3,AV.int IntKind.i64 n_4,AV.sl (2:Nat) false xs]].length)*(72:Nat)≤(140737488355328:Nat)) then bif
  decide (rng IntKind.i64 (x.fst+(1:Int))) then ∃ y,SetI ps y∧(se16 l g k nm (pdA fr cl f a b c bs) ps).m y < (se16 l g k nm (pdA fr cl f a b c bs) ps).m x∧(k=k∧nm=nm
 ∧(0:Nat)=(0:Nat)∧(0:Nat)=(0:Nat)∧(0:Nat)=(0:Nat)∧(0:Nat)=(0:Nat)∧x.snd.fst=y.snd.fst∧(True∧ps=ps)∧(↑ps.length:Int)=(↑ps.length:Int)
 ∧x.fst+(1:Int)=y.fst∧True)∧(((bif g then g=true else True)∧l=l)∧True)∧(fr=fr∧cl=cl∧f=f∧a=a∧b=b∧c=c∧(True∧bs=bs)∧True)∧(True ∧
  True)∧(k=k∧nm=nm∧(x.snd.snd++[[AV.int IntKind.i64 n,AV.bool b_1,AV.int IntKind.i64 n_1,AV.int IntKind.i64 n_2,AV.int IntKind.i64 n_3,AV.int IntKind.i64 n_4,AV.sl
  (2:Nat) false xs]]).length=List.length y.snd.snd∧True)∧x.snd.snd++[[AV.int IntKind.i64 n,AV.bool b_1,AV.int IntKind.i64 n_1,AV.int IntKind.i64 n_2,AV.int IntKind.i64
  n_3,AV.int IntKind.i64 n_4,AV.sl (2:Nat) false xs]]=y.snd.snd∧True else False else False else bif decide (rng IntKind.i64 (x.fst+(1:Int))) then ∃ y,SetI ps y∧(se16 l
  g k nm (pdA fr cl f a b c bs) ps).m y < (se16 l g k nm (pdA fr cl f a b c bs) ps).m x∧(k=k∧nm=nm∧(0:Nat)=(0:Nat)∧(0:Nat)=(0:Nat)∧(0:Nat)=(0:Nat) ∧
  (0:Nat)=(0:Nat)∧x.snd.fst=y.snd.fst∧(True∧ps=ps)∧(↑ps.length:Int)=(↑ps.length:Int)∧x.fst+(1:Int)=y.fst∧True)∧(((bif g then g=true else True) ∧
  l=l)∧True)∧(fr=fr∧cl=cl∧f=f∧a=a∧b=b∧c=c∧(True∧bs=bs)∧True)∧(True∧True)∧(k=k∧nm=nm∧List.length x.snd.snd=List.length y.snd.snd ∧
  True)∧x.snd.snd=y.snd.snd∧True else False else bif decide ¬n=fr then bif decide (List.length x.snd.snd=List.length x.snd.snd∧List.length x.snd.snd+[[AV.int
  IntKind.i64 n,AV.bool b_1,AV.int IntKind.i64 n_1,AV.int IntKind.i64 n_2,AV.int IntKind.i64 n_3,AV.int IntKind.i64 n_4,AV.sl (2:Nat) false xs]].length≤(9223372036854775807
 :Nat)∧(List.length x.snd.snd+[[AV.int IntKind.i64 n,AV.bool b_1,AV.int IntKind.i64 n_1,AV.int IntKind.i64 n_2,AV.int IntKind.i64 n_3,AV.int IntKind.i64 n_4,AV.sl (2 :
  Nat) false xs]].length)*(72:Nat)≤(140737488355328:Nat)) then bif decide (rng IntKind.i64 (x.fst+(1:Int))) then ∃ y,SetI ps y∧(se16 l g k nm (pdA fr cl f a b c bs)
  ps).m y < (se16 l g k nm (pdA fr cl f a b c bs) ps).m x∧(k=k∧nm=nm∧(0:Nat)=(0:Nat)∧(0:Nat)=(0:Nat)∧(0:Nat)=(0:Nat)∧(0:Nat)=(0:Nat) ∧
  x.snd.fst=y.snd.fst∧(True∧ps=ps)∧(↑ps.length:Int)=(↑ps.length:Int)∧x.fst+(1:Int)=y.fst∧True)∧(((bif g then g=true else True)∧l=l)∧True)∧(fr =
  fr∧cl=cl∧f=f∧a=a∧b=b∧c=c∧(True∧bs=bs)∧True)∧(True∧True)∧(k=k∧nm=nm∧(x.snd.snd++[[AV.int IntKind.i64 n,AV.bool b_1,AV.int IntKind.i64
  n_1,AV.int IntKind.i64 n_2,AV.int IntKind.i64 n_3,AV.int IntKind.i64 n_4,AV.sl (2:Nat) false xs]]).length=List.length y.snd.snd∧True)∧x.snd.snd++[[AV.int IntKind.i64
  n,AV.bool b_1,AV.int IntKind.i64 n_1,AV.int IntKind.i64 n_2,AV.int IntKind.i64 n_3,AV.int IntKind.i64 n_4,AV.sl (2:Nat) false xs]]=y.snd.snd∧True else False else False
  else bif decide (rng IntKind.i64 (x.fst+(1:Int))) then ∃ y,SetI ps y∧(se16 l g k nm (pdA fr cl f a b c bs) ps).m y < (se16 l g k nm (pdA fr cl f a b c bs) ps).m x∧(k=k ∧
  nm=nm∧(0:Nat)=(0:Nat)∧(0:Nat)=(0:Nat)∧(0:Nat)=(0:Nat)∧(0:Nat)=(0:Nat)∧x.snd.fst=y.snd.fst∧(True∧ps=ps)∧(↑ps.length:Int) =
  (↑ps.length:Int)∧x.fst+(1:Int)=y.fst∧True)∧(((bif g then g=true else True)∧l=l)∧True)∧(fr=fr∧cl=cl∧f=f∧a=a∧b=b∧c=c∧(True∧bs=bs)
 ∧True)∧(True∧True)∧(k=k∧nm=nm∧List.length x.snd.snd=List.length y.snd.snd∧True)∧x.snd.snd=y.snd.snd∧True else False else False else bif !x.snd.fst then bif
  decide (List.length x.snd.snd=List.length x.snd.snd∧List.length x.snd.snd+[[AV.int IntKind.i64 fr,AV.bool cl,AV.int IntKind.i64 f,AV.int IntKind.i64 a,AV.int IntKind.i64
  b,AV.int IntKind.i64 c,AV.sl (2:Nat) false bs]].length≤(9223372036854775807:Nat)∧(List.length x.snd.snd+[[AV.int IntKind.i64 fr,AV.bool cl,AV.int IntKind.i64 f,
  AV.int IntKind.i64 a,AV.int IntKind.i64 b,AV.int IntKind.i64 c,AV.sl (2:Nat) false bs]].length)*(72:Nat)≤(140737488355328:Nat)) then bif decide ((x.snd.snd++[[AV.int
  IntKind.i64 fr,AV.bool cl,AV.int IntKind.i64 f,AV.int IntKind.i64 a,AV.int IntKind.i64 b,AV.int IntKind.i64 c,AV.sl (2:Nat) false bs]]).length=(x.snd.snd++[[AV.int
  IntKind.i64 fr,AV.bool cl,AV.int IntKind.i64 f,AV.int IntKind.i64 a,AV.int IntKind.i64 b,AV.int IntKind.i64 c,AV.sl (2:Nat) false bs]]).length) then (StsW l (8:Nat) (60 :
  Nat)∧PlsQ (x.snd.snd++[[AV.int IntKind.i64 fr,AV.bool cl,AV.int IntKind.i64 f,AV.int IntKind.i64 a,AV.int IntKind.i64 b,AV.int IntKind.i64 c,AV.sl (2:Nat) false bs]]))
 ∧∀ (l':List (List AV)),WthQ (x.snd.snd++[[AV.int IntKind.i64 fr,AV.bool cl,AV.int IntKind.i64 f,AV.int IntKind.i64 a,AV.int IntKind.i64 b,AV.int IntKind.i64 c,AV.sl (2
 :Nat) false bs]]) l'→bif decide ((60:Int) < (↑l'.length:Int)) then ∃ l' e,SetQ l'∧((l'=[]∧True)∧(2:Int)=e∧True)∧True else bif decide ((x.snd.snd++[[AV.int
  IntKind.i64 fr,AV.bool cl,AV.int IntKind.i64 f,AV.int IntKind.i64 a,AV.int IntKind.i64 b,AV.int IntKind.i64 c,AV.sl (2:Nat) false bs]]).length=(x.snd.snd++[[AV.int
  IntKind.i64 fr,AV.bool cl,AV.int IntKind.i64 f,AV.int IntKind.i64 a,AV.int IntKind.i64 b,AV.int IntKind.i64 c,AV.sl (2:Nat) false bs]]).length) then bif decide ((8:Int) <
  (↑(x.snd.snd++[[AV.int IntKind.i64 fr,AV.bool cl,AV.int IntKind.i64 f,AV.int IntKind.i64 a,AV.int IntKind.i64 b,AV.int IntKind.i64 c,AV.sl (2:Nat) false bs]]).length :
  Int)) then ∃ l' e,SetQ l'∧((l'=[]∧True)∧(2:Int)=e∧True)∧True else ∃ l'_1 e,SetQ l'_1∧(((True∧l'=l'_1)∧True)∧(0:Int)=e∧True)∧True else False else
  False else False else bif decide (List.length x.snd.snd=List.length x.snd.snd) then (StsW l (8:Nat) (60:Nat)∧PlsQ x.snd.snd)∧∀ (l':List (List AV)),WthQ x.snd.snd l' →
  bif decide ((60:Int) < (↑l'.length:Int)) then ∃ l' e,SetQ l'∧((l'=[]∧True)∧(2:Int)=e∧True)∧True else bif decide (List.length x.snd.snd=List.length x.snd.snd)
  then bif decide ((8:Int) < (↑(List.length x.snd.snd):Int)) then ∃ l' e,SetQ l'∧((l'=[]∧True)∧(2:Int)=e∧True)∧True else ∃ l'_1 e,SetQ l'_1∧(((True∧l' =
  l'_1)∧True)∧(0:Int)=e∧True)∧True else False else False else (∃ x,SetI ps x∧(k=k∧nm=nm∧(0:Nat)=(0:Nat)∧(0:Nat)=(0:Nat)∧(0:Nat)=(0:Nat) ∧
  (0:Nat)=(0:Nat)∧false=x.snd.fst∧(True∧ps=ps)∧(↑ps.length:Int)=(↑ps.length:Int)∧(0:Int)=x.fst∧True)∧(((bif g then g=true else True)∧l=l) ∧
  True)∧(fr=fr∧cl=cl∧f=f∧a=a∧b=b∧c=c∧(True∧bs=bs)∧True)∧(True∧True)∧(k=k∧nm=nm∧(0:Nat)=List.length x.snd.snd∧True)∧[] =
  x.snd.snd∧True)∧∀ (x:Int × Bool × LLR),SetI ps x→bif decide (x.fst < (↑ps.length:Int)) then bif decide ((0:Int)≤x.fst∧x.fst < (↑ps.length:Int)) then ∃ n b_1 n_1
  n_2 n_3 n_4 xs,List.take [AV.int IntKind.i64 n,AV.bool b_1,AV.int IntKind.i64 n_1,AV.int IntKind.i64 n_2,AV.int IntKind.i64 n_3,AV.int IntKind.i64 n_4,AV.sl (2:Nat) false
  xs].length (ps.getD x.fst.toNat [])=[AV.int IntKind.i64 n,AV.bool b_1,AV.int IntKind.i64 n_1,AV.int IntKind.i64 n_2,AV.int IntKind.i64 n_3,AV.int IntKind.i64 n_4,AV.sl (2 :
  Nat) false xs]∧bif !x.snd.fst then bif decide (fr≤n) then bif decide (List.length x.snd.snd=List.length x.snd.snd∧List.length x.snd.snd+[[AV.int IntKind.i64 fr,AV.bool
  cl,AV.int IntKind.i64 f,AV.int IntKind.i64 a,AV.int IntKind.i64 b,AV.int IntKind.i64 c,AV.sl (2:Nat) false bs]].length≤(9223372036854775807:Nat)∧(List.length x.snd.snd
 +[[AV.int IntKind.i64 fr,AV.bool cl,AV.int IntKind.i64 f,AV.int IntKind.i64 a,AV.int IntKind.i64 b,AV.int IntKind.i64 c,AV.sl (2:Nat) false bs]].length)*(72:Nat) ≤
  (140737488355328:Nat)) then bif decide ¬n=fr then bif decide ((x.snd.snd++[[AV.int IntKind.i64 fr,AV.bool cl,AV.int IntKind.i64 f,AV.int IntKind.i64 a,AV.int IntKind.i64
  b,AV.int IntKind.i64 c,AV.sl (2:Nat) false bs]]).length=(x.snd.snd++[[AV.int IntKind.i64 fr,AV.bool cl,AV.int IntKind.i64 f,AV.int IntKind.i64 a,AV.int IntKind.i64 b,
  AV.int IntKind.i64 c,AV.sl (2:Nat) false bs]]).length∧(x.snd.snd++[[AV.int IntKind.i64 fr,AV.bool cl,AV.int IntKind.i64 f,AV.int IntKind.i64 a,AV.int IntKind.i64 b,
  AV.int IntKind.i64 c,AV.sl (2:Nat) false bs]]).length+[[AV.int IntKind.i64 n,AV.bool b_1,AV.int IntKind.i64 n_1,AV.int IntKind.i64 n_2,AV.int IntKind.i64 n_3,AV.int
  IntKind.i64 n_4,AV.sl (2:Nat) false xs]].length≤(9223372036854775807:Nat)∧((x.snd.snd++[[AV.int IntKind.i64 fr,AV.bool cl,AV.int IntKind.i64 f,AV.int IntKind.i64 a,
  AV.int IntKind.i64 b,AV.int IntKind.i64 c,AV.sl (2:Nat) false bs]]).length+[[AV.int IntKind.i64 n,AV.bool b_1,AV.int IntKind.i64 n_1,AV.int IntKind.i64 n_2,AV.int
  IntKind.i64 n_3,AV.int IntKind.i64 n_4,AV.sl (2:Nat) false xs]].length)*(72:Nat)≤(140737488355328:Nat)) then bif decide (rng IntKind.i64 (x.fst+(1:Int))) then ∃ y,
  SetI ps y∧(se16 l g k nm (pdA fr cl f a b c bs) ps).m y < (se16 l g k nm (pdA fr cl f a b c bs) ps).m x∧(k=k∧nm=nm∧(0:Nat)=(0:Nat)∧(0:Nat)=(0:Nat)∧(0 :
  Nat)=(0:Nat)∧(0:Nat)=(0:Nat)∧true=y.snd.fst∧(True∧ps=ps)∧(↑ps.length:Int)=(↑ps.length:Int)∧x.fst+(1:Int)=y.fst∧True)∧(((bif g then g =
  true else True)∧l=l)∧True)∧(fr=fr∧cl=cl∧f=f∧a=a∧b=b∧c=c∧(True∧bs=bs)∧True)∧(True∧True)∧(k=k∧nm=nm∧(x.snd.snd++[[AV.int
  IntKind.i64 fr,AV.bool cl,AV.int IntKind.i64 f,AV.int IntKind.i64 a,AV.int IntKind.i64 b,AV.int IntKind.i64 c,AV.sl (2:Nat) false bs]]++[[AV.int IntKind.i64 n,AV.bool
  b_1,AV.int IntKind.i64 n_1,AV.int IntKind.i64 n_2,AV.int IntKind.i64 n_3,AV.int IntKind.i64 n_4,AV.sl (2:Nat) false xs]]).length=List.length y.snd.snd∧True)∧x.snd.snd
 ++[[AV.int IntKind.i64 fr,AV.bool cl,AV.int IntKind.i64 f,AV.int IntKind.i64 a,AV.int IntKind.i64 b,AV.int IntKind.i64 c,AV.sl (2:Nat) false bs]]++[[AV.int IntKind.i64
  n,AV.bool b_1,AV.int IntKind.i64 n_1,AV.int IntKind.i64 n_2,AV.int IntKind.i64 n_3,AV.int IntKind.i64 n_4,AV.sl (2:Nat) false xs]]=y.snd.snd∧True else False else False
  else bif decide (rng IntKind.i64 (x.fst+(1:Int))) then ∃ y,SetI ps y∧(se16 l g k nm (pdA fr cl f a b c bs) ps).m y < (se16 l g k nm (pdA fr cl f a b c bs) ps).m x∧(k=k ∧
  nm=nm∧(0:Nat)=(0:Nat)∧(0:Nat)=(0:Nat)∧(0:Nat)=(0:Nat)∧(0:Nat)=(0:Nat)∧true=y.snd.fst∧(True∧ps=ps)∧(↑ps.length:Int)=(↑ps.length :
  Int)∧x.fst+(1:Int)=y.fst∧True)∧(((bif g then g=true else True)∧l=l)∧True)∧(fr=fr∧cl=cl∧f=f∧a=a∧b=b∧c=c∧(True∧bs=bs)∧True) ∧
  (True∧True)∧(k=k∧nm=nm∧(x.snd.snd++[[AV.int IntKind.i64 fr,AV.bool cl,AV.int IntKind.i64 f,AV.int IntKind.i64 a,AV.int IntKind.i64 b,AV.int IntKind.i64 c,AV.sl
  (2:Nat) false bs]]).length=List.length y.snd.snd∧True)∧x.snd.snd++[[AV.int IntKind.i64 fr,AV.bool cl,AV.int IntKind.i64 f,AV.int IntKind.i64 a,AV.int IntKind.i64 b,
  AV.int IntKind.i64 c,AV.sl (2:Nat) false bs]]=y.snd.snd∧True else False else False else bif decide ¬n=fr then bif decide (List.length x.snd.snd=List.length x.snd.snd ∧
  List.length x.snd.snd+[[AV.int IntKind.i64 n,AV.bool b_1,AV.int IntKind.i64 n_1,AV.int IntKind.i64 n_2,AV.int IntKind.i64 n_3,AV.int IntKind.i64 n_4,AV.sl (2:Nat) false
  xs]].length≤(9223372036854775807:Nat)∧(List.length x.snd.snd+[[AV.int IntKind.i64 n,AV.bool b_1,AV.int IntKind.i64 n_1,AV.int IntKind.i64 n_2,AV.int IntKind.i64 n_3,
  AV.int IntKind.i64 n_4,AV.sl (2:Nat) false xs]].length)*(72:Nat)≤(140737488355328:Nat)) then bif decide (rng IntKind.i64 (x.fst+(1:Int))) then ∃ y,SetI ps y∧(se16
  l g k nm (pdA fr cl f a b c bs) ps).m y < (se16 l g k nm (pdA fr cl f a b c bs) ps).m x∧(k=k∧nm=nm∧(0:Nat)=(0:Nat)∧(0:Nat)=(0:Nat)∧(0:Nat)=(0:Nat) ∧
  (0:Nat)=(0:Nat)∧x.snd.fst=y.snd.fst∧(True∧ps=ps)∧(↑ps.length:Int)=(↑ps.length:Int)∧x.fst+(1:Int)=y.fst∧True)∧(((bif g then g=true else True) ∧
  l=l)∧True)∧(fr=fr∧cl=cl∧f=f∧a=a∧b=b∧c=c∧(True∧bs=bs)∧True)∧(True∧True)∧(k=k∧nm=nm∧(x.snd.snd++[[AV.int IntKind.i64 n,AV.bool
  b_1,AV.int IntKind.i64 n_1,AV.int IntKind.i64 n_2,AV.int IntKind.i64 n_3,AV.int IntKind.i64 n_4,AV.sl (2:Nat) false xs]]).length=List.length y.snd.snd∧True)∧x.snd.snd
 ++[[AV.int IntKind.i64 n,AV.bool b_1,AV.int IntKind.i64 n_1,AV.int IntKind.i64 n_2,AV.int IntKind.i64 n_3,AV.int IntKind.i64 n_4,AV.sl (2:Nat) false xs]]=y.snd.snd ∧
  True else False else False else bif decide (rng IntKind.i64 (x.fst+(1:Int))) then ∃ y,SetI ps y∧(se16 l g k nm (pdA fr cl f a b c bs) ps).m y < (se16 l g k nm (pdA fr cl f a
  b c bs) ps).m x∧(k=k∧nm=nm∧(0:Nat)=(0:Nat)∧(0:Nat)=(0:Nat)∧(0:Nat)=(0:Nat)∧(0:Nat)=(0:Nat)∧x.snd.fst=y.snd.fst∧(True∧ps=ps) ∧
  (↑ps.length:Int)=(↑ps.length:Int)∧x.fst+(1:Int)=y.fst∧True)∧(((bif g then g=true else True)∧l=l)∧True)∧(fr=fr∧cl=cl∧f=f∧a=a∧b=b∧c =
  c∧(True∧bs=bs)∧True)∧(True∧True)∧(k=k∧nm=nm∧List.length x.snd.snd=List.length y.snd.snd∧True)∧x.snd.snd=y.snd.snd∧True else False else bif decide ¬n
 =fr then bif decide (List.length x.snd.snd=List.length x.snd.snd∧List.length x.snd.snd+[[AV.int IntKind.i64 n,AV.bool b_1,AV.int IntKind.i64 n_1,AV.int IntKind.i64 n_2,
  AV.int IntKind.i64 n_3,AV.int IntKind.i64 n_4,AV.sl (2:Nat) false xs]].length≤(9223372036854775807:Nat)∧(List.length x.snd.snd+[[AV.int IntKind.i64 n,AV.bool b_1,
  AV.int IntKind.i64 n_1,AV.int IntKind.i64 n_2,AV.int IntKind.i64 n_3,AV.int IntKind.i64 n_4,AV.sl (2:Nat) false xs]].length)*(72:Nat)≤(140737488355328:Nat)) then bif
  decide (rng IntKind.i64 (x.fst+(1:Int))) then ∃ y,SetI ps y∧(se16 l g k nm (pdA fr cl f a b c bs) ps).m y < (se16 l g k nm (pdA fr cl f a b c bs) ps).m x∧(k=k∧nm=nm
 ∧(0:Nat)=(0:Nat)∧(0:Nat)=(0:Nat)∧(0:Nat)=(0:Nat)∧(0:Nat)=(0:Nat)∧x.snd.fst=y.snd.fst∧(True∧ps=ps)∧(↑ps.length:Int)=(↑ps.length:Int)
 ∧x.fst+(1:Int)=y.fst∧True)∧(((bif g then g=true else True)∧l=l)∧True)∧(fr=fr∧cl=cl∧f=f∧a=a∧b=b∧c=c∧(True∧bs=bs)∧True)∧(True ∧
  True)∧(k=k∧nm=nm∧(x.snd.snd++[[AV.int IntKind.i64 n,AV.bool b_1,AV.int IntKind.i64 n_1,AV.int IntKind.i64 n_2,AV.int IntKind.i64 n_3,AV.int IntKind.i64 n_4,AV.sl
  (2:Nat) false xs]]).length=List.length y.snd.snd∧True)∧x.snd.snd++[[AV.int IntKind.i64 n,AV.bool b_1,AV.int IntKind.i64 n_1,AV.int IntKind.i64 n_2,AV.int IntKind.i64
  n_3,AV.int IntKind.i64 n_4,AV.sl (2:Nat) false xs]]=y.snd.snd∧True else False else False else bif decide (rng IntKind.i64 (x.fst+(1:Int))) then ∃ y,SetI ps y∧(se16 l
  g k nm (pdA fr cl f a b c bs) ps).m y < (se16 l g k nm (pdA fr cl f a b c bs) ps).m x∧(k=k∧nm=nm∧(0:Nat)=(0:Nat)∧(0:Nat)=(0:Nat)∧(0:Nat)=(0:Nat) ∧
  (0:Nat)=(0:Nat)∧x.snd.fst=y.snd.fst∧(True∧ps=ps)∧(↑ps.length:Int)=(↑ps.length:Int)∧x.fst+(1:Int)=y.fst∧True)∧(((bif g then g=true else True) ∧
  l=l)∧True)∧(fr=fr∧cl=cl∧f=f∧a=a∧b=b∧c=c∧(True∧bs=bs)∧True)∧(True∧True)∧(k=k∧nm=nm∧List.length x.snd.snd=List.length y.snd.snd ∧
  True)∧x.snd.snd=y.snd.snd∧True else False else False else bif !x.snd.fst then bif decide (List.length x.snd.snd=List.length x.snd.snd∧List.length x.snd.snd+[[AV.int
  IntKind.i64 fr,AV.bool cl,AV.int IntKind.i64 f,AV.int IntKind.i64 a,AV.int IntKind.i64 b,AV.int IntKind.i64 c,AV.sl (2:Nat) false bs]].length≤(9223372036854775807:Nat)
 ∧(List.length x.snd.snd+[[AV.int IntKind.i64 fr,AV.bool cl,AV.int IntKind.i64 f,AV.int IntKind.i64 a,AV.int IntKind.i64 b,AV.int IntKind.i64 c,AV.sl (2:Nat) false
  bs]].length)*(72:Nat)≤(140737488355328:Nat)) then bif decide ((x.snd.snd++[[AV.int IntKind.i64 fr,AV.bool cl,AV.int IntKind.i64 f,AV.int IntKind.i64 a,AV.int
  IntKind.i64 b,AV.int IntKind.i64 c,AV.sl (2:Nat) false bs]]).length=(x.snd.snd++[[AV.int IntKind.i64 fr,AV.bool cl,AV.int IntKind.i64 f,AV.int IntKind.i64 a,AV.int
  IntKind.i64 b,AV.int IntKind.i64 c,AV.sl (2:Nat) false bs]]).length) then (StsW l (8:Nat) (60:Nat)∧PlsQ (x.snd.snd++[[AV.int IntKind.i64 fr,AV.bool cl,AV.int
  IntKind.i64 f,AV.int IntKind.i64 a,AV.int IntKind.i64 b,AV.int IntKind.i64 c,AV.sl (2:Nat) false bs]]))∧∀ (l':List (List AV)),WthQ (x.snd.snd++[[AV.int IntKind.i64 fr,
  AV.bool cl,AV.int IntKind.i64 f,AV.int IntKind.i64 a,AV.int IntKind.i64 b,AV.int IntKind.i64 c,AV.sl (2:Nat) false bs]]) l'→bif decide ((60:Int) < (↑l'.length:Int))
  then ∃ l' e,SetQ l'∧((l'=[]∧True)∧(2:Int)=e∧True)∧True else bif decide ((x.snd.snd++[[AV.int IntKind.i64 fr,AV.bool cl,AV.int IntKind.i64 f,AV.int IntKind.i64
  a,AV.int IntKind.i64 b,AV.int IntKind.i64 c,AV.sl (2:Nat) false bs]]).length=(x.snd.snd++[[AV.int IntKind.i64 fr,AV.bool cl,AV.int IntKind.i64 f,AV.int IntKind.i64 a,
  AV.int IntKind.i64 b,AV.int IntKind.i64 c,AV.sl (2:Nat) false bs]]).length) then bif decide ((8:Int) < (↑(x.snd.snd++[[AV.int IntKind.i64 fr,AV.bool cl,AV.int IntKind.i64
  f,AV.int IntKind.i64 a,AV.int IntKind.i64 b,AV.int IntKind.i64 c,AV.sl (2:Nat) false bs]]).length:Int)) then ∃ l' e,SetQ l'∧((l'=[]∧True)∧(2:Int)=e∧True) ∧
  True else ∃ l'_1 e,SetQ l'_1∧(((True∧l'=l'_1)∧True)∧(0:Int)=e∧True)∧True else False else False else False else bif decide (List.length x.snd.snd=List.length
  x.snd.snd) then (StsW l (8:Nat) (60:Nat)∧PlsQ x.snd.snd)∧∀ (l':List (List AV)),WthQ x.snd.snd l'→bif decide ((60:Int) < (↑l'.length:Int)) then ∃ l' e,SetQ l' ∧
  ((l'=[]∧True)∧(2:Int)=e∧True)∧True else bif decide (List.length x.snd.snd=List.length x.snd.snd) then bif decide ((8:Int) < (↑(List.length x.snd.snd):Int)) then
  ∃ l' e,SetQ l'∧((l'=[]∧True)∧(2:Int)=e∧True)∧True else ∃ l'_1 e,SetQ l'_1∧(((True∧l'=l'_1)∧True)∧(0:Int)=e∧True)∧True else False else False
theorem rsetD_P:rsetD_T pdV nmOk nrm vld isN inB bsOk:=by
 unfold rsetD_T
 intro gl l bs g cl k fr f a b c nm ⟨hl,hb,hbl⟩
 have ll:=hl.fl
 have bg:cond g (g=true) True:=by cases g <;> trivial
 have err:∀ e:Int,∃ (l':LLR) (e_1:Int),SetQ l'∧((l'=[]∧True)∧e=e_1∧True)∧True:=fun e=>⟨[],e,⟨stw_nil⟩,⟨⟨rfl,trivial⟩,rfl,trivial⟩,trivial⟩
 have cut:∀ {o l':LLR},WthQ o l'→¬ 8 < (o.length:Int)→¬ 60 < (l'.length:Int)→SetQ l':=fun hw h8 h60=>⟨(hw.fq 8 (Nat.le_refl _) (by omega)).fr,by omega⟩
 have fin:∀ o:LLR,PdsP o→o.length≤9→cond (decide (o.length=o.length)) ((StsW l 8 60∧PlsQ o)∧∀ l':LLR,WthQ o l'→cond (decide (60 < (l'.length:Int))) (∃ (l':LLR) (e:Int),SetQ l'∧((l'=[]∧True)∧2=e∧True)∧True) (cond (decide (o.length=o.length)) (cond (decide (8 < (o.length:Int))) (∃ (l':LLR) (e:Int),SetQ l'∧((l'=[]∧True)∧2=e∧True)∧True) (∃ (l'_1:LLR) (e:Int),SetQ l'_1∧(((True∧l'=l'_1)∧True)∧0=e∧True)∧True)) False)) False:=fun o ho h9 =>
  cd1 rfl ⟨⟨hl,ho,h9⟩,fun l' hw=>csx (fun _=>err 2) (fun h60=>cd1 rfl (csx (fun _=>err 2) (fun h8=>⟨l',0,cut hw h8 h60,⟨⟨⟨trivial,rfl⟩,trivial⟩,rfl,trivial⟩,trivial⟩)))⟩
 refine ⟨hl,fun e _=>csx (fun _=>err e) (fun _=>⟨trivial,csplit (fun _=>err 4) (fun _=>⟨trivial,csplit (fun _=>err 3) (fun _=>⟨hb,csplit (fun _=>err 1) (fun _=>⟨hl,fun k1 n ps ok hps=>csplit (fun hok=>csx (fun _=>err 7) (fun _=>⟨⟨(0,false,[]),⟨by simp,by simp,by simp,pds_nil⟩,by (repeat' (first | exact trivial | exact rfl | assumption | apply And.intro))⟩,?_⟩)) (fun hok=>⟨⟨(0,false,[]),⟨by simp,by simp,by simp,pds_nil⟩,by (repeat' (first | exact trivial | exact rfl | assumption | apply And.intro))⟩,?_⟩)⟩)⟩)⟩)⟩)⟩
 all_goals
  rintro ⟨i,d,out⟩ ⟨i0,i1,ol,of⟩
  have lp:=hps.fl
  simp only at i0 i1 ol of
  dsimp only
  have cd:cond d (1:Int) 0≤1:=by cases d <;> decide
  have ap:∀ {o:LLR},PdsP o→o.length≤1000→PdsP (o++[pdA fr cl f a b c bs]):=fun h hl=>pds_add h ⟨fr,cl,f,a,b,c,bs,rfl,hb,hbl⟩ hl
  refine csx (fun hi=>cd1 (by omega) ?_) (fun hi=>?_)
  ·obtain ⟨fr2,cl2,f2,a2,b2,c2,bs2,hr,hb2,hbl2⟩:=hps.fr.fr i.toNat (by omega)
   have a2':∀ {o:LLR},PdsP o→o.length≤1000→PdsP (o++[pdA fr2 cl2 f2 a2 b2 c2 bs2]):=fun h hl=>pds_add h ⟨fr2,cl2,f2,a2,b2,c2,bs2,rfl,hb2,hbl2⟩ hl
   refine ⟨fr2,cl2,f2,a2,b2,c2,bs2,by rw [hr]; rfl,csplit (fun hd=>?_) (fun hd=>?_)⟩
   ·have hd:d=false:=by simpa using hd
    subst hd
    simp only [cond_false] at ol
    refine csx (fun q=>cd1 ⟨rfl,by simp; omega,by simp; omega⟩ (csx (fun q2=>cd1 ⟨rfl,by simp; omega,by simp; omega⟩ (cdI (by omega) ⟨(i+1,true,out++[pdA fr cl f a b c bs]++[pdA fr2 cl2 f2 a2 b2 c2 bs2]),⟨by simp only; omega,by simp only; omega,by simp; omega,a2' (ap of (by omega)) (by simp; omega)⟩,by simp only [se16]; omega,by (repeat' (first | exact trivial | exact rfl | assumption | apply And.intro))⟩)) (fun q2=>cdI (by omega) ⟨(i+1,true,out++[pdA fr cl f a b c bs]),⟨by simp only; omega,by simp only; omega,by simp; omega,ap of (by omega)⟩,by simp only [se16]; omega,by (repeat' (first | exact trivial | exact rfl | assumption | apply And.intro))⟩))) (fun q=>csx (fun q2=>cd1 ⟨rfl,by simp; omega,by simp; omega⟩ (cdI (by omega) ⟨(i+1,false,out++[pdA fr2 cl2 f2 a2 b2 c2 bs2]),⟨by simp only; omega,by simp only; omega,by simp; omega,a2' of (by omega)⟩,by simp only [se16]; omega,by (repeat' (first | exact trivial | exact rfl | assumption | apply And.intro))⟩)) (fun q2=>cdI (by omega) ⟨(i+1,false,out),⟨by simp only; omega,by simp only; omega,by simp only [cond_false]; omega,of⟩,by simp only [se16]; omega,by (repeat' (first | exact trivial | exact rfl | assumption | apply And.intro))⟩))
   ·have hd:d=true:=by simpa using hd
    subst hd
    simp only [cond_true] at ol
    refine csx (fun q2=>cd1 ⟨rfl,by simp; omega,by simp; omega⟩ (cdI (by omega) ⟨(i+1,true,out++[pdA fr2 cl2 f2 a2 b2 c2 bs2]),⟨by simp only; omega,by simp only; omega,by simp; omega,a2' of (by omega)⟩,by simp only [se16]; omega,by (repeat' (first | exact trivial | exact rfl | assumption | apply And.intro))⟩)) (fun q2=>cdI (by omega) ⟨(i+1,true,out),⟨by simp only; omega,by simp only; omega,by simp only [cond_true]; omega,of⟩,by simp only [se16]; omega,by (repeat' (first | exact trivial | exact rfl | assumption | apply And.intro))⟩)
  ·refine csplit (fun hd=>?_) (fun hd=>?_)
   ·have hd:d=false:=by simpa using hd
    subst hd
    simp only [cond_false] at ol
    exact cd1 ⟨rfl,by simp; omega,by simp; omega⟩ (fin _ (ap of (by omega)) (by simp; omega))
   ·exact fin out of (by omega)
def rsetD_S (pdV:Int→Int→Bool→Int→Int→Int→Int→LLR→Bool) (nmOk:ByteArray→Bool) (nrm:Int→Int→Int→Int→Int × Int × Int × Int) (vld:Int→Int→Int→Int→Bool) (isN:Int→Int→Int→Int→Bool) (inB:Int→Bool) (bsOk:LLR→Bool):Prop:=∀ (gl:Glob) (l bs:List (List AV)) (g cl:Bool) (k fr f a b c:Int) (nm:ByteArray),StsW l 8 60∧RdsP bs∧bs.length≤1000→fnQ Tryz.prog { glob:=gl,spec:=lk [(51,rkind_s),(75,(rname_s nmOk)),(76,(rperiod_s nrm vld isN pdV inB bsOk))],specH:=lk [],specQ:=lk [(32,(rvalidD_s pdV nmOk)),(23,rfindD_s),(81,rwithD_s)],shape:=[60],slz:=[(60,[2])],nowf:=true } { nt:=111,drop:=drp [(1,786432),(2,1048576),(3,12582912),(4,50331648),(5,134217728),(6,805306368),(7,2147483648),(8,30064771072),(9,68719476736),(10,8658654068736),(11,554153860399104),(12,1125899906842624),(13,15762598695796736),(15,18014398509481984),(17,1729382256910270464),(18,587989967349491957760),(19,74377272105196912115712),(21,1133367955888714851287040),(22,152324653271443276012978176),(23,154742504910672534362390528),(24,309485009821345068724781056),(25,77990222474978957318644826112),(26,554597137599850363154807652352),(27,323884728358312612082407668973568),(28,649037107316853453566312041152512),(29,1298074214633706907132624082305024)],fr:=1000,kp:=[],frz:=fun id=>cond (Nat.beq id 26) [1001502] [],emp:=fun id=>cond (Nat.beq id 15) [(1101302,1502,49,7)] [] } (seJ l g k nm (pdA fr cl f a b c bs)) 6 Tryz.f34 [.agg [.sl 3 g l],.int .i64 k,.str nm,.agg [.int .i64 fr,.bool cl,.int .i64 f,.int .i64 a,.int .i64 b,.int .i64 c,.sl 2 false bs]] [] (fun r2 bs2=>∃ (l':List (List AV)) (e:Int),(SetQ l')∧le r2 (.tup [.agg [.sl 3 false l'],.int .i64 e])∧leBs bs2 [])
theorem rsetD_e (pdV:Int→Int→Bool→Int→Int→Int→Int→LLR→Bool) (nmOk:ByteArray→Bool) (nrm:Int→Int→Int→Int→Int × Int × Int × Int) (vld:Int→Int→Int→Int→Bool) (isN:Int→Int→Int→Int→Bool) (inB:Int→Bool) (bsOk:LLR→Bool):rsetD_T pdV nmOk nrm vld isN inB bsOk=rsetD_S pdV nmOk nrm vld isN inB bsOk:=by kernel_rfl
theorem rsetD_v:rsetD_S pdV nmOk nrm vld isN inB bsOk:=Eq.mp (rsetD_e ..) (rsetD_P)
theorem rsetD_ok (gl:Glob):QOK Tryz.prog gl 34 (rsetD_s pdV nmOk):=by
 refine ⟨fok Tryz.func34 (by kernel_rfl) (by kernel_rfl),?_⟩
 intro xs bs T h K hT
 unfold rsetD_s at h
 split at h
 ·simp only [Option.some.injEq] at h
  subst h
  obtain ⟨hp,hK⟩:=hT
  obtain ⟨r,bs2,⟨o0,o1,hq,hl,hb⟩,hC⟩:=fnQ_sound tyNil (by exact specOK rfl rfl ⟨(rkind_ok gl),(rname_ok gl),(rperiod_ok gl),trivial⟩ trivial (d:=qsOf rfl ⟨(rvalidD_ok gl),(rfindD_ok gl),(rwithD_ok gl),trivial⟩)) (by kernel_rfl) Tryz.func34 (rsetD_v gl _ _ _ _ _ _ _ _ _ _ _ hp)
  exact ⟨_,_,hK o0 o1 hq,hC.le hl hb⟩
 ·cases h
structure RegI (x:Int × Int × LLR):Prop where
 fn:x.1≤12
 fj:0≤x.2.1
 fr:StsW x.2.2 8 60
def rg3 (xs:List (List AV)) (near:Int):LInv:=⟨Int × Int × LLR,fun x=>⟨[(0,.ptr 0 0),(1,.int .i64 near),(4,.ptr 1004 0),(5,.ptr 1005 0),(6,.int .i64 x.1)],[(0,.cells [.sl 1 false xs,.int .i64 x.2.1]),(1004,.cells [.nils]),(1005,.cells [.sl 3 false x.2.2])]⟩,RegI,fun x=>(x.1).toNat,none⟩
structure RegQ (l:LLR) (j:Int):Prop where
 fr:StsW l 8 60
 fj:0≤j
def qregistry_s:SpQ
 | [.ptr 0 0,.int .i64 near],[.cells [.sl 1 false xs,.int .i64 i]]=>some (fun K=>(SrcQ xs i∧0≤near∧near≤52595999)∧(∀ (l:List (List AV)) (j:Int),(RegQ l j)→K (.agg [.sl 3 false l]) [.cells [.sl 1 false xs,.int .i64 j]]))
 | _,_=>none
def qregistry_T (pdV:Int→Int→Bool→Int→Int→Int→Int→LLR→Bool) (nmOk:ByteArray→Bool):Prop :=
  ∀ (gl:Glob) (xs:List (List AV)) (i near:Int),SrcQ xs i∧(0:Int)≤near∧near≤(52595999:Int)→SrcQ xs i∧∀ (v j:Int),NumQ (12:Int) v j→(∃ x,RegI x∧((0 :
  Nat)=(0:Nat)∧near=near∧(0:Nat)=(0:Nat)∧(0:Nat)=(0:Nat)∧v=x.fst∧True)∧((True∧xs=xs)∧j=x.snd.fst∧True)∧(True∧True)∧(x.snd.snd=[] ∧
  True)∧True)∧∀ (x:Int × Int × LLR),RegI x→bif decide ((0:Int) < x.fst) then SrcQ xs x.snd.fst∧∀ (s:ByteArray) (j:Int),NamQ s j→List.Mem s nam6∧SrcQ xs j∧∀ (v
  j:Int),NumQ (6:Int) v j→bif decide (v=(0:Int)) then (SrcQ xs j∧(1:Int)≤(3:Int)∧(-1000000000:Int)≤(1:Int)∧(3:Int)≤(1000000000:Int))∧∀ (v j :
  Int),((1:Int)≤v∧v≤(3:Int))∧(0:Int)≤j→(SrcQ xs j∧(0:Int)≤near∧near≤(52595999:Int))∧∀ (fr:Int) (cl:Bool) (f a b c:Int) (bs:List (List AV)) (j
 :Int),PrdQ bs j→(StsW x.snd.snd (8:Nat) (60:Nat)∧RdsP bs∧bs.length≤(1000:Nat))∧∀ (l':List (List AV)) (e:Int),SetQ l'→bif decide (e=(0:Int)) then bif
  decide (rng IntKind.i64 (x.fst - (1:Int))) then ∃ y,RegI y∧(rg3 xs near).m y < (rg3 xs near).m x∧((0:Nat)=(0:Nat)∧near=near∧(0:Nat)=(0:Nat)∧(0:Nat) =
  (0:Nat)∧x.fst - (1:Int)=y.fst∧True)∧((True∧xs=xs)∧j=y.snd.fst∧True)∧(True∧True)∧((True∧l'=y.snd.snd)∧True)∧True else False else bif decide (rng
  IntKind.i64 (x.fst - (1:Int))) then ∃ y,RegI y∧(rg3 xs near).m y < (rg3 xs near).m x∧((0:Nat)=(0:Nat)∧near=near∧(0:Nat)=(0:Nat)∧(0:Nat)=(0:Nat) ∧
  x.fst - (1:Int)=y.fst∧True)∧((True∧xs=xs)∧j=y.snd.fst∧True)∧(True∧True)∧((True∧x.snd.snd=y.snd.snd)∧True)∧True else False else (SrcQ xs j∧(0 :
  Int)≤near∧near≤(52595999:Int))∧∀ (fr:Int) (cl:Bool) (f a b c:Int) (bs:List (List AV)) (j:Int),PrdQ bs j→(StsW x.snd.snd (8:Nat) (60:Nat)∧RdsP bs ∧
  bs.length≤(1000:Nat))∧∀ (l':List (List AV)) (e:Int),SetQ l'→bif decide (e=(0:Int)) then bif decide (rng IntKind.i64 (x.fst - (1:Int))) then ∃ y,RegI y∧(rg3 xs
  near).m y < (rg3 xs near).m x∧((0:Nat)=(0:Nat)∧near=near∧(0:Nat)=(0:Nat)∧(0:Nat)=(0:Nat)∧x.fst - (1:Int)=y.fst∧True)∧((True∧xs=xs)∧j =
  y.snd.fst∧True)∧(True∧True)∧((True∧l'=y.snd.snd)∧True)∧True else False else bif decide (rng IntKind.i64 (x.fst - (1:Int))) then ∃ y,RegI y∧(rg3 xs near).m y <
  (rg3 xs near).m x∧((0:Nat)=(0:Nat)∧near=near∧(0:Nat)=(0:Nat)∧(0:Nat)=(0:Nat)∧x.fst - (1:Int)=y.fst∧True)∧((True∧xs=xs)∧j=y.snd.fst ∧
  True)∧(True∧True)∧((True∧x.snd.snd=y.snd.snd)∧True)∧True else False else ∃ l j,RegQ l j∧((True∧x.snd.snd=l)∧True)∧((True∧xs=xs)∧x.snd.fst=j∧True)
 ∧True
theorem qregistry_P:qregistry_T pdV nmOk:=by
 unfold qregistry_T
 intro gl xs i near ⟨hs,h1,h2⟩
 have s:=hs.s
 refine ⟨hs,fun v j q1=>⟨⟨(v,j,[]),⟨Int.le_of_lt (q1.fv (by decide)).2,q1.fj,stw_nil⟩,by (repeat' (first | exact trivial | exact rfl | assumption | apply And.intro))⟩,?_⟩⟩
 rintro ⟨n,j,l⟩ ⟨n1,j0,hl⟩
 simp only at n1 j0 hl
 dsimp only
 have step:0 < n→∀ (k:Int) (j:Int),0≤j→(SrcQ xs j∧0≤near∧near≤52595999):=fun _ _ j hj=>⟨⟨s,hj⟩,h1,h2⟩
 refine csx (fun hn=>⟨⟨s,j0⟩,fun nm j q2=>⟨q2.fs,⟨s,q2.fj⟩,fun v j q3=>csx (fun _=>⟨⟨⟨s,q3.fj⟩,by decide,by decide,by decide⟩,fun w j q4=>⟨⟨⟨s,q4.2⟩,h1,h2⟩,fun fr cl f a b c bs j q5=>⟨⟨hl,q5.fr,Nat.le_trans q5.fl (by decide)⟩,fun l' e q6=>?_⟩⟩⟩) (fun _=>⟨⟨⟨s,q3.fj⟩,h1,h2⟩,fun fr cl f a b c bs j q5=>⟨⟨hl,q5.fr,Nat.le_trans q5.fl (by decide)⟩,fun l' e q6=>?_⟩⟩)⟩⟩) (fun hn=>⟨l,j,⟨hl,j0⟩,by (repeat' (first | exact trivial | exact rfl | assumption | apply And.intro))⟩)
 all_goals exact csx (fun _=>cdI (by omega) ⟨(n - 1,_,l'),⟨by simp only; omega,q5.fj,q6.fr⟩,by simp only [rg3]; omega,by (repeat' (first | exact trivial | exact rfl | assumption | apply And.intro))⟩) (fun _=>cdI (by omega) ⟨(n - 1,_,l),⟨by simp only; omega,q5.fj,hl⟩,by simp only [rg3]; omega,by (repeat' (first | exact trivial | exact rfl | assumption | apply And.intro))⟩)
def qregistry_S (pdV:Int→Int→Bool→Int→Int→Int→Int→LLR→Bool) (nmOk:ByteArray→Bool):Prop:=∀ (gl:Glob) (xs:List (List AV)) (i near:Int),SrcQ xs i∧0≤near∧near≤52595999→fnQ Tryz.prog { glob:=gl,spec:=lk [(41,qkinds_s)],specH:=lk [],specQ:=lk [(37,qn_s),(24,qrange_s),(22,qname_s),(25,qperiod_s),(34,(rsetD_s pdV nmOk))],nowf:=true } { nt:=41,drop:=drp [(2,6144),(3,8192),(4,98304),(5,393216),(6,1572864),(7,6291456),(8,50331648),(9,137371844608),(10,137438953472),(11,549755813888),(12,1099511627776)],fr:=1000,kp:=[0] } (invs [(3,rg3 xs near)]) 6 Tryz.f12 [.ptr 0 0,.int .i64 near] [.cells [.sl 1 false xs,.int .i64 i]] (fun r2 bs2=>∃ (l:List (List AV)) (j:Int),(RegQ l j)∧le r2 (.agg [.sl 3 false l])∧leBs bs2 [.cells [.sl 1 false xs,.int .i64 j]])
theorem qregistry_e (pdV:Int→Int→Bool→Int→Int→Int→Int→LLR→Bool) (nmOk:ByteArray→Bool):qregistry_T pdV nmOk=qregistry_S pdV nmOk:=by kernel_rfl
theorem qregistry_v:qregistry_S pdV nmOk:=Eq.mp (qregistry_e ..) (qregistry_P)
theorem qregistry_ok (gl:Glob):QOK Tryz.prog gl 12 qregistry_s:=by
 refine ⟨fok Tryz.func12 (by kernel_rfl) (by kernel_rfl),?_⟩
 intro xs bs T h K hT
 unfold qregistry_s at h
 split at h
 ·simp only [Option.some.injEq] at h
  subst h
  obtain ⟨hp,hK⟩:=hT
  obtain ⟨r,bs2,⟨o0,o1,hq,hl,hb⟩,hC⟩:=fnQ_sound tyNil (by exact specOK rfl rfl ⟨(qkinds_ok gl),trivial⟩ trivial (d:=qsOf rfl ⟨(qn_ok gl),(qrange_ok gl),(qname_ok gl),(qperiod_ok gl),(rsetD_ok gl),trivial⟩)) (by kernel_rfl) Tryz.func12 (qregistry_v gl _ _ _ hp)
  exact ⟨_,_,hK o0 o1 hq,hC.le hl hb⟩
 ·cases h
end Go.Proofs.YtldiagnbagpliaaGreatDoor
namespace Go.Proofs.YtldiagnbagpliaaGreatDoor
open Go
set_option linter.unusedVariables false
set_option linter.unusedSimpArgs false
def rxL (k s:Nat) (p:List AV→Bool) (f:Bool) (xs:List (List AV)) (caps:List AV) (hp:List (Nat × Blk)):LInv:=⟨Int,fun i=>⟨[(0,.sl s f xs),(1,.fn k caps),(7,.int .i64 xs.length),(8,.int .i64 i)],hp⟩,IdxI p xs,fun i=>(xs.length - i).toNat,none⟩
def gexists_s (exK:Int→Bool):Sp
 | [.int .i64 k]=>some (True,.bool (exK k))
 | _=>none
def gexists_T (exK:Int→Bool):Prop :=
 ∀ (gl:Glob) (k:Int),(-9223372036854775808:Int)≤k∧k≤(9223372036854775807:Int)→bif decide ((1:Int)≤k) then decide (k≤(3:Int))=exK k else false=exK k
theorem gexists_P:gexists_T exK:=by
 unfold gexists_T
 intro gl k _
 unfold exK
 exact csx (fun h=>by simp [h]) (fun h=>by simp [h])
def gexists_S (exK:Int→Bool):Prop:=∀ (gl:Glob) (k:Int),fnK Tryz.prog { glob:=gl,spec:=lk [],specH:=lk [],nowf:=true } { nt:=9,drop:=drp [(1,504)] } (fun _ _=>none) 6 Tryz.f45 [.int .i64 k] (.bool (exK k))
theorem gexists_e (exK:Int→Bool):gexists_T exK=gexists_S exK:=by kernel_rfl
theorem gexists_v:gexists_S exK:=Eq.mp (gexists_e ..) (gexists_P)
theorem gexists_ok (gl:Glob):SOK Tryz.prog gl 45 (gexists_s exK):=by
 refine ⟨fok Tryz.func45 (by kernel_rfl) (by kernel_rfl),?_⟩
 intro xs pre r h hp
 unfold gexists_s at h
 split at h
 ·simp only [Option.some.injEq,Prod.mk.injEq] at h
  obtain ⟨h1,h2⟩:=h
  subst h1 h2
  exact fnK_sound tyNil (by exact specOK rfl rfl trivial trivial) (by kernel_rfl) Tryz.func45 rfl (gexists_v gl _)
 ·cases h
def gnormalP_s (nrm:Int→Int→Int→Int→Int × Int × Int × Int) (vld:Int→Int→Int→Int→Bool) (isN:Int→Int→Int→Int→Bool):Sp
 | [.agg [.int .i64 f,.int .i64 a,.int .i64 b,.int .i64 c]]=>some (True,.bool (isN f a b c))
 | _=>none
def gnormalP_T (nrm:Int→Int→Int→Int→Int × Int × Int × Int) (vld:Int→Int→Int→Int→Bool) (isN:Int→Int→Int→Int→Bool):Prop :=
  ∀ (f a b c:Int),((-9223372036854775808:Int)≤f∧f≤(9223372036854775807:Int))∧((-9223372036854775808:Int)≤a∧a≤(9223372036854775807:Int)) ∧
  ((-9223372036854775808:Int)≤b∧b≤(9223372036854775807:Int))∧((-9223372036854775808:Int)≤c∧c≤(9223372036854775807:Int))∧True→True∧bif decide (err (vld f a
  b c)=(0:Int)) then (decide (f=(nrm f a b c).fst)&&(decide (a=(nrm f a b c).snd.fst)&&(decide (b=(nrm f a b c).snd.snd.fst)&&(decide (c=(nrm f a b c).snd.snd.snd)
 &&true))))=isN f a b c else false=isN f a b c
theorem gnormalP_P:gnormalP_T nrm vld isN:=by
 unfold gnormalP_T
 intro f a b c _
 refine ⟨trivial,?_⟩
 unfold isN
 cases vld f a b c with
 | false=>exact rfl
 | true=>exact rfl
def gnormalP_S (nrm:Int→Int→Int→Int→Int × Int × Int × Int) (vld:Int→Int→Int→Int→Bool) (isN:Int→Int→Int→Int→Bool):Prop:=∀ (f a b c:Int),fnK Tryz.prog { glob:=glb,spec:=lk [(91,(normal_s vld nrm))],specH:=lk [],nowf:=true } { nt:=17,drop:=drp [(1,992),(2,130048)],tys:=[26] } (fun _ _=>none) 6 Tryz.f49 [.agg [.int .i64 f,.int .i64 a,.int .i64 b,.int .i64 c]] (.bool (isN f a b c))
theorem gnormalP_e (nrm:Int→Int→Int→Int→Int × Int × Int × Int) (vld:Int→Int→Int→Int→Bool) (isN:Int→Int→Int→Int→Bool):gnormalP_T nrm vld isN=gnormalP_S nrm vld isN:=by kernel_rfl
theorem gnormalP_v:gnormalP_S nrm vld isN:=Eq.mp (gnormalP_e ..) (gnormalP_P)
theorem gnormalP_ok:SOK Tryz.prog glb 49 (gnormalP_s nrm vld isN):=by
 refine ⟨fok Tryz.func49 (by kernel_rfl) (by kernel_rfl),?_⟩
 intro xs pre r h hp
 unfold gnormalP_s at h
 split at h
 ·simp only [Option.some.injEq,Prod.mk.injEq] at h
  obtain ⟨h1,h2⟩:=h
  subst h1 h2
  exact fnK_sound (tyOf (by kernel_rfl)) (by exact specOK rfl rfl ⟨(normal_ok),trivial⟩ trivial) (by kernel_rfl) Tryz.func49 rfl (gnormalP_v  _ _ _ _)
 ·cases h
structure BsV (bs:LLR) (i:Int):Prop where
 flo:0≤i
 fhi:i≤bs.length
 fno:∀ j:Nat,(j:Int) < i→bsX bs j=false
def bv7 (k fr:Int) (cl:Bool) (f a b c:Int) (bs:LLR) (g:Bool):LInv:=⟨Int,fun i=>⟨[(0,.int .i64 k),(3,.ptr 3 0),(5,.bool (nonP f a b c)),(32,.sl 2 g bs),(33,.int .i64 bs.length),(34,.int .i64 i)],[(3,.cells [.int .i64 fr,.bool cl,.int .i64 f,.int .i64 a,.int .i64 b,.int .i64 c,.sl 2 g bs])]⟩,BsV bs,fun i=>(bs.length - i).toNat,none⟩
def gvalidP_s (nrm:Int→Int→Int→Int→Int × Int × Int × Int) (vld:Int→Int→Int→Int→Bool) (isN:Int→Int→Int→Int→Bool) (pdV:Int→Int→Bool→Int→Int→Int→Int→LLR→Bool) (nonP:Int→Int→Int→Int→Bool) (iL:Int→ByteArray) (inLo:Int→Int) (inHi:Int→Int) (inD:Int→Int) (inE:Int→Int):Sp
 | [.int .i64 k,.agg [.int .i64 fr,.bool cl,.int .i64 f,.int .i64 a,.int .i64 b,.int .i64 c,.sl 2 g bs]]=>some (RdsP bs,.bool (pdV k fr cl f a b c bs))
 | _=>none
def gvalidP_T (nrm:Int→Int→Int→Int→Int × Int × Int × Int) (vld:Int→Int→Int→Int→Bool) (isN:Int→Int→Int→Int→Bool) (pdV:Int→Int→Bool→Int→Int→Int→Int→LLR→Bool) (nonP:Int→Int→Int→Int→Bool) (iL:Int→ByteArray) (inLo:Int→Int) (inHi:Int→Int) (inD:Int→Int) (inE:Int→Int):Prop :=
  ∀ (k fr f a b c:Int) (cl g:Bool) (bs:List (List AV)),RdsP bs→(-9223372036854775808:Int)≤k∧k≤(9223372036854775807:Int)→((-9223372036854775808:Int)≤fr∧fr ≤
  (9223372036854775807:Int))∧True∧((-9223372036854775808:Int)≤f∧f≤(9223372036854775807:Int))∧((-9223372036854775808:Int)≤a∧a≤(9223372036854775807:Int)) ∧
  ((-9223372036854775808:Int)≤b∧b≤(9223372036854775807:Int))∧((-9223372036854775808:Int)≤c∧c≤(9223372036854775807:Int))∧True∧True→bif decide (fr < (0 :
  Int)) then false=pdV k fr cl f a b c bs else bif decide ((52595999:Int) < fr) then false=pdV k fr cl f a b c bs else bif cl then bif decide (f=(0:Int))&&(decide (a=(0
 :Int))&&(decide (b=(0:Int))&&(decide (c=(0:Int))&&true))) then decide ((↑bs.length:Int)=(0:Int))=pdV k fr cl f a b c bs else false=pdV k fr cl f a b c bs
  else (∃ x,BsV bs x∧(k=k∧(0:Nat)=(0:Nat)∧(decide (f=(0:Int))&&(decide (a=(0:Int))&&(decide (b=(0:Int))&&(decide (c=(0:Int))&&true)))) =
  YtldiagnbagpliaaGreatDoor.nonP f a b c∧((bif g then g=true else True)∧bs=bs)∧(↑bs.length:Int)=(↑bs.length:Int)∧(0:Int)=x∧True)∧(fr=fr∧cl=cl∧f=f
 ∧a=a∧b=b∧c=c∧((bif g then g=true else True)∧bs=bs)∧True)∧True)∧∀ (x:Int),BsV bs x→bif decide (x < (↑bs.length:Int)) then bif decide ((0:Int)≤x ∧
  x < (↑bs.length:Int)) then ∃ n n_1,List.take [AV.int IntKind.i64 n,AV.int IntKind.i64 n_1].length (bs.getD x.toNat [])=[AV.int IntKind.i64 n,AV.int IntKind.i64 n_1]∧True ∧
  bif decide ¬inE n=(0:Int) then false=pdV k fr cl f a b c bs else bif decide ((1000:Int) < n_1) then false=pdV k fr cl f a b c bs else bif decide (n_1 < (-1000:Int))
  then false=pdV k fr cl f a b c bs else bif decide ((0:Int) < x) then bif decide (rng IntKind.i64 (x - (1:Int))) then bif decide ((0:Int)≤x - (1:Int)∧x - (1:Int) <
  (↑bs.length:Int)) then ∃ n_2,List.take [AV.int IntKind.i64 n_2].length (List.drop (0:Nat) (bs.getD (x - (1:Int)).toNat []))=[AV.int IntKind.i64 n_2]∧bif decide (n≤n_2)
  then false=pdV k fr cl f a b c bs else bif decide (rng IntKind.i64 (x+(1:Int))) then ∃ y,BsV bs y∧(bv7 k fr cl f a b c bs g).m y < (bv7 k fr cl f a b c bs g).m x∧(k=k
 ∧(0:Nat)=(0:Nat)∧YtldiagnbagpliaaGreatDoor.nonP f a b c=YtldiagnbagpliaaGreatDoor.nonP f a b c∧((bif g then g=true else True)∧bs=bs)∧(↑bs.length:Int) =
  (↑bs.length:Int)∧x+(1:Int)=y∧True)∧(fr=fr∧cl=cl∧f=f∧a=a∧b=b∧c=c∧((bif g then g=true else True)∧bs=bs)∧True)∧True else False else
  False else False else bif decide (rng IntKind.i64 (x+(1:Int))) then ∃ y,BsV bs y∧(bv7 k fr cl f a b c bs g).m y < (bv7 k fr cl f a b c bs g).m x∧(k=k∧(0:Nat)=(0 :
  Nat)∧YtldiagnbagpliaaGreatDoor.nonP f a b c=YtldiagnbagpliaaGreatDoor.nonP f a b c∧((bif g then g=true else True)∧bs=bs)∧(↑bs.length:Int)=(↑bs.length:Int)∧x +
  (1:Int)=y∧True)∧(fr=fr∧cl=cl∧f=f∧a=a∧b=b∧c=c∧((bif g then g=true else True)∧bs=bs)∧True)∧True else False else False else bif decide (k =
  (1:Int)) then True∧bif isN f a b c then true=pdV k fr cl f a b c bs else bif decide ¬k=(1:Int) then YtldiagnbagpliaaGreatDoor.nonP f a b c=pdV k fr cl f a b c bs else
  false=pdV k fr cl f a b c bs else bif decide ¬k=(1:Int) then YtldiagnbagpliaaGreatDoor.nonP f a b c=pdV k fr cl f a b c bs else false=pdV k fr cl f a b c bs
theorem gvalidP_P:gvalidP_T nrm vld isN pdV nonP iL inLo inHi inD inE:=by
 unfold gvalidP_T
 intro k fr f a b c cl g bs hp _ _
 have hs:=hp.sm
 have bg:cond g (g=true) True:=by cases g <;> trivial
 have nb:(decide (f=0)&&(decide (a=0)&&(decide (b=0)&&(decide (c=0)&&true))))=nonP f a b c:=by
  unfold nonP
  rw [Bool.eq_iff_iff]; simp
 rw [nb]
 refine csx (fun q=>by unfold pdV; rw [if_pos (.inl q)]) (fun q=>csx (fun q2=>by unfold pdV; rw [if_pos (.inr q2)]) (fun q2=>?_))
 have hv:pdV k fr cl f a b c bs=if cl=true then nonP f a b c&&decide (bs.length=0) else if bsOk bs then (if k=1 then isN f a b c else nonP f a b c) else false:=by unfold pdV; rw [if_neg (by omega)]
 rw [hv]
 refine csplit (fun q3=>?_) (fun q3=>?_)
 ·rw [if_pos q3]
  have el:decide ((bs.length:Int)=0)=decide (bs.length=0):=decide_eq_decide.2 (by omega)
  rw [el]
  refine csplit (fun q4=>?_) (fun q4=>?_)
  ·rw [q4]; rfl
  ·rw [q4]; rfl
 rw [if_neg (by rw [q3]; decide)]
 refine ⟨⟨0,⟨by decide,by omega,fun j h=>by omega⟩,by (repeat' (first | exact trivial | exact rfl | assumption | apply And.intro))⟩,?_⟩
 rintro i ⟨h0,h1,hn⟩
 have bad:i < bs.length→bsX bs i.toNat=true→false=if bsOk bs=true then (if k=1 then isN f a b c else nonP f a b c) else false:=fun hi hx=>by
  rw [if_neg]
  intro h
  have:=of_decide_eq_true h i.toNat (by omega)
  rw [this] at hx; cases hx
 have good:i < bs.length→bsX bs i.toNat=false→BsV bs (i+1):=fun hi hx=>⟨by omega,by omega,fun j hj=>by
  rcases Nat.lt_or_ge j i.toNat with k | k
  ·exact hn j (by omega)
  ·rw [show j=i.toNat by omega]; exact hx⟩
 refine csx (fun hi=>cd1 (by omega) ?_) (fun hi=>?_)
 ·obtain ⟨e,v,he,_,_⟩:=hp.row i.toNat (by omega)
  have X:bsX bs i.toNat=(!(okC e)||(decide (1000 < v)||(decide (v < -1000)||(decide (0 < i.toNat)&&decide (e≤rE (bs.getD (i.toNat - 1) [])))))):=by unfold bsX; rw [he]; rfl
  have hE:inE e=0↔okC e=true:=by unfold inE; cases okC e <;> simp
  refine ⟨e,v,by rw [he]; rfl,trivial,csx (fun q=>bad hi ?_) (fun q=>csx (fun q2=>bad hi ?_) (fun q2=>csx (fun q3=>bad hi ?_) (fun q3=>csx (fun q4=>cdI (by omega) (cd1 (by omega) ?_)) (fun q4=>cdI (by omega) ⟨i+1,good hi ?_,by simp only [bv7]; omega,by (repeat' (first | exact trivial | exact rfl | assumption | apply And.intro))⟩))))⟩
  ·have:okC e=false:=by
    cases h:okC e with
    | false=>rfl
    | true=>exact absurd (hE.2 h) q
   rw [X,this]; rfl
  ·rw [X,decide_eq_true q2]; simp
  ·rw [X,decide_eq_true q3]; simp
  ·obtain ⟨e',v',he',_,_⟩:=hp.row (i - 1).toNat (by omega)
   have P:rE (bs.getD (i.toNat - 1) [])=e':=by rw [show i.toNat - 1=(i - 1).toNat by omega,he']; rfl
   refine ⟨e',by rw [he']; rfl,csx (fun q5=>bad hi ?_) (fun q5=>cdI (by omega) ⟨i+1,good hi ?_,by simp only [bv7]; omega,by (repeat' (first | exact trivial | exact rfl | assumption | apply And.intro))⟩)⟩
   ·rw [X,P,decide_eq_true q5,decide_eq_true (show 0 < i.toNat by omega)]; simp
   ·rw [X,P,decide_eq_false q5,decide_eq_false q3,decide_eq_false q2,hE.1 (Decidable.not_not.1 q)]; simp
  ·rw [X,decide_eq_false (show ¬ 0 < i.toNat by omega),decide_eq_false q3,decide_eq_false q2,hE.1 (Decidable.not_not.1 q)]; simp
 ·have ok:bsOk bs=true:=decide_eq_true fun j hj=>hn j (by omega)
  rw [if_pos ok]
  refine csx (fun q4=>⟨trivial,csplit (fun q5=>?_) (fun q5=>csx (fun q6=>absurd q4 q6) (fun q6=>?_))⟩) (fun q4=>csx (fun q6=>?_) (fun q6=>absurd q4 q6))
  ·rw [if_pos q4,q5]
  ·rw [if_pos q4,q5]
  ·rw [if_neg q4]
def gvalidP_S (nrm:Int→Int→Int→Int→Int × Int × Int × Int) (vld:Int→Int→Int→Int→Bool) (isN:Int→Int→Int→Int→Bool) (pdV:Int→Int→Bool→Int→Int→Int→Int→LLR→Bool) (nonP:Int→Int→Int→Int→Bool) (iL:Int→ByteArray) (inLo:Int→Int) (inHi:Int→Int) (inD:Int→Int) (inE:Int→Int):Prop:=∀ (k fr f a b c:Int) (cl g:Bool) (bs:List (List AV)),RdsP bs→fnK Tryz.prog { glob:=glb,spec:=lk [(49,(gnormalP_s nrm vld isN)),(96,(edesc_s iL inLo inHi inD inE))],specH:=lk [],shape:=[38,67],nowf:=true } { nt:=88,drop:=drp [(1,130048),(3,3932160),(4,4194304),(5,2130706432),(6,2147483648),(8,481036337152),(9,34634616275200),(10,4722366447685273124864),(12,9444732965739290427392),(13,309466120355413590143926272)],tys:=[26] } (invs [(7,bv7 k fr cl f a b c bs g)]) 6 Tryz.f57 [.int .i64 k,.agg [.int .i64 fr,.bool cl,.int .i64 f,.int .i64 a,.int .i64 b,.int .i64 c,.sl 2 g bs]] (.bool (pdV k fr cl f a b c bs))
theorem gvalidP_e (nrm:Int→Int→Int→Int→Int × Int × Int × Int) (vld:Int→Int→Int→Int→Bool) (isN:Int→Int→Int→Int→Bool) (pdV:Int→Int→Bool→Int→Int→Int→Int→LLR→Bool) (nonP:Int→Int→Int→Int→Bool) (iL:Int→ByteArray) (inLo:Int→Int) (inHi:Int→Int) (inD:Int→Int) (inE:Int→Int):gvalidP_T nrm vld isN pdV nonP iL inLo inHi inD inE=gvalidP_S nrm vld isN pdV nonP iL inLo inHi inD inE:=by kernel_rfl
theorem gvalidP_v:gvalidP_S nrm vld isN pdV nonP iL inLo inHi inD inE:=Eq.mp (gvalidP_e ..) (gvalidP_P)
theorem gvalidP_ok:SOK Tryz.prog glb 57 (gvalidP_s nrm vld isN pdV nonP iL inLo inHi inD inE):=by
 refine ⟨fok Tryz.func57 (by kernel_rfl) (by kernel_rfl),?_⟩
 intro xs pre r h hp
 unfold gvalidP_s at h
 split at h
 ·simp only [Option.some.injEq,Prod.mk.injEq] at h
  obtain ⟨h1,h2⟩:=h
  subst h1 h2
  exact fnK_sound (tyOf (by kernel_rfl)) (by exact specOK rfl rfl ⟨(gnormalP_ok),(edesc_ok),trivial⟩ trivial) (by kernel_rfl) Tryz.func57 rfl (gvalidP_v  _ _ _ _ _ _ _ _ _ hp)
 ·cases h
def rg1_s (s1B:LLR→Bool):Sp
 | [.agg [.int .i64 k,.str nm,.sl 7 false ps]]=>some (PdsP ps,.bool (s1B ps))
 | _=>none
def rg1_T (s1B:LLR→Bool):Prop :=
 ∀ (gl:Glob) (k:Int) (nm:ByteArray) (ps:List (List AV)),PdsP ps→((-9223372036854775808:Int)≤k∧k≤(9223372036854775807:Int))∧nm.size.le (9223372036854775807 :
 Nat)∧True∧True→bif decide ((↑ps.length:Int)=(0:Int)) then true=s1B ps else decide ((8:Int) < (↑ps.length:Int))=s1B ps
theorem rg1_P:rg1_T s1B:=by
 unfold rg1_T
 intro gl k nm ps hp _
 unfold s1B
 exact csx (fun q=>by rw [decide_eq_true (show ps.length=0 by omega)]; rfl) (fun q=>by rw [decide_eq_false (show ¬ ps.length=0 by omega),Bool.false_or])
def rg1_S (s1B:LLR→Bool):Prop:=∀ (gl:Glob) (k:Int) (nm:ByteArray) (ps:List (List AV)),PdsP ps→fnK Tryz.prog { glob:=gl,spec:=lk [],specH:=lk [],nowf:=true } { nt:=13,drop:=drp [(1,8184)] } (fun _ _=>none) 6 Tryz.f65 [.agg [.int .i64 k,.str nm,.sl 7 false ps]] (.bool (s1B ps))
theorem rg1_e (s1B:LLR→Bool):rg1_T s1B=rg1_S s1B:=by kernel_rfl
theorem rg1_v:rg1_S s1B:=Eq.mp (rg1_e ..) (rg1_P)
theorem rg1_ok (gl:Glob):SOK Tryz.prog gl 65 (rg1_s s1B):=by
 refine ⟨fok Tryz.func65 (by kernel_rfl) (by kernel_rfl),?_⟩
 intro xs pre r h hp
 unfold rg1_s at h
 split at h
 ·simp only [Option.some.injEq,Prod.mk.injEq] at h
  obtain ⟨h1,h2⟩:=h
  subst h1 h2
  exact fnK_sound tyNil (by exact specOK rfl rfl trivial trivial) (by kernel_rfl) Tryz.func65 rfl (rg1_v gl _ _ _ hp)
 ·cases h
def rg2_s (exK:Int→Bool):Sp
 | [.agg [.int .i64 k,.str nm,.sl 7 false ps]]=>some (True,.bool (!(exK k)))
 | _=>none
def rg2_T (exK:Int→Bool):Prop :=
  ∀ (gl:Glob) (k:Int) (nm:ByteArray) (ps:List (List AV)),((-9223372036854775808:Int)≤k∧k≤(9223372036854775807:Int))∧nm.size.le (9223372036854775807:Nat)∧True
 ∧True→True∧(!exK k)=!exK k
theorem rg2_P:rg2_T exK:=by
 unfold rg2_T
 intro gl k nm ps _
 exact ⟨trivial,rfl⟩
def rg2_S (exK:Int→Bool):Prop:=∀ (gl:Glob) (k:Int) (nm:ByteArray) (ps:List (List AV)),fnK Tryz.prog { glob:=gl,spec:=lk [(45,(gexists_s exK))],specH:=lk [],nowf:=true } { nt:=7,drop:=drp [(1,120)] } (fun _ _=>none) 6 Tryz.f66 [.agg [.int .i64 k,.str nm,.sl 7 false ps]] (.bool (!(exK k)))
theorem rg2_e (exK:Int→Bool):rg2_T exK=rg2_S exK:=by kernel_rfl
theorem rg2_v:rg2_S exK:=Eq.mp (rg2_e ..) (rg2_P)
theorem rg2_ok (gl:Glob):SOK Tryz.prog gl 66 (rg2_s exK):=by
 refine ⟨fok Tryz.func66 (by kernel_rfl) (by kernel_rfl),?_⟩
 intro xs pre r h hp
 unfold rg2_s at h
 split at h
 ·simp only [Option.some.injEq,Prod.mk.injEq] at h
  obtain ⟨h1,h2⟩:=h
  subst h1 h2
  exact fnK_sound tyNil (by exact specOK rfl rfl ⟨(gexists_ok gl),trivial⟩ trivial) (by kernel_rfl) Tryz.func66 rfl (rg2_v gl _ _ _)
 ·cases h
def rg3_s (nmOk:ByteArray→Bool):Sp
 | [.agg [.int .i64 k,.str nm,.sl 7 false ps]]=>some (True,.bool (!(nmOk nm)))
 | _=>none
def rg3_T (nmOk:ByteArray→Bool):Prop :=
  ∀ (gl:Glob) (k:Int) (nm:ByteArray) (ps:List (List AV)),((-9223372036854775808:Int)≤k∧k≤(9223372036854775807:Int))∧nm.size.le (9223372036854775807:Nat)∧True
 ∧True→True∧(!nmOk nm)=!nmOk nm
theorem rg3_P:rg3_T nmOk:=by
 unfold rg3_T
 intro gl k nm ps _
 exact ⟨trivial,rfl⟩
def rg3_S (nmOk:ByteArray→Bool):Prop:=∀ (gl:Glob) (k:Int) (nm:ByteArray) (ps:List (List AV)),fnK Tryz.prog { glob:=gl,spec:=lk [(56,(gname_s nmOk))],specH:=lk [],nowf:=true } { nt:=7,drop:=drp [(1,120)] } (fun _ _=>none) 6 Tryz.f67 [.agg [.int .i64 k,.str nm,.sl 7 false ps]] (.bool (!(nmOk nm)))
theorem rg3_e (nmOk:ByteArray→Bool):rg3_T nmOk=rg3_S nmOk:=by kernel_rfl
theorem rg3_v:rg3_S nmOk:=Eq.mp (rg3_e ..) (rg3_P)
theorem rg3_ok (gl:Glob):SOK Tryz.prog gl 67 (rg3_s nmOk):=by
 refine ⟨fok Tryz.func67 (by kernel_rfl) (by kernel_rfl),?_⟩
 intro xs pre r h hp
 unfold rg3_s at h
 split at h
 ·simp only [Option.some.injEq,Prod.mk.injEq] at h
  obtain ⟨h1,h2⟩:=h
  subst h1 h2
  exact fnK_sound tyNil (by exact specOK rfl rfl ⟨(gname_ok gl),trivial⟩ trivial) (by kernel_rfl) Tryz.func67 rfl (rg3_v gl _ _ _)
 ·cases h
def rg41_s (pdV:Int→Int→Bool→Int→Int→Int→Int→LLR→Bool):SpH
 | [.agg [.int .i64 fr,.bool cl,.int .i64 fa,.int .i64 a,.int .i64 b,.int .i64 c,.sl 2 false bs],.ptr 0 0],[.cells [.int .i64 k,.str nm,.sl 7 g ps]]=>some (RdsP bs,.bool (!(pdV k fr cl fa a b c bs)),[.cells [.int .i64 k,.str nm,.sl 7 g ps]])
 | _,_=>none
def rg41_T (pdV:Int→Int→Bool→Int→Int→Int→Int→LLR→Bool) (nrm:Int→Int→Int→Int→Int × Int × Int × Int) (vld:Int→Int→Int→Int→Bool) (isN:Int→Int→Int→Int→Bool) (nonP:Int→Int→Int→Int→Bool) (iL:Int→ByteArray) (inLo:Int→Int) (inHi:Int→Int) (inD:Int→Int) (inE:Int→Int):Prop :=
 ∀ (k fr fa a b c:Int) (cl g:Bool) (nm:ByteArray) (bs ps:List (List AV)),RdsP bs→((-9223372036854775808:Int)≤fr∧fr≤(9223372036854775807:Int))∧True ∧
 ((-9223372036854775808:Int)≤fa∧fa≤(9223372036854775807:Int))∧((-9223372036854775808:Int)≤a∧a≤(9223372036854775807:Int))∧((-9223372036854775808:Int)≤b ∧
 b≤(9223372036854775807:Int))∧((-9223372036854775808:Int)≤c∧c≤(9223372036854775807:Int))∧True∧True→True→(-9223372036854775808:Int)≤k∧k ≤
 (9223372036854775807:Int)→nm.size.le (9223372036854775807:Nat)→True→RdsP bs∧(!pdV k fr cl fa a b c bs)=!pdV k fr cl fa a b c bs∧(k=k∧nm=nm∧((bif g then g =
 true else True)∧ps=ps)∧True)∧True
theorem rg41_P:rg41_T pdV nrm vld isN nonP iL inLo inHi inD inE:=by
 unfold rg41_T
 intro k fr fa a b c cl g nm bs ps hp
 intros
 have bg:cond g (g=true) True:=by cases g <;> trivial
 exact ⟨hp,rfl,by (repeat' (first | exact trivial | exact rfl | assumption | apply And.intro))⟩
def rg41_S (pdV:Int→Int→Bool→Int→Int→Int→Int→LLR→Bool) (nrm:Int→Int→Int→Int→Int × Int × Int × Int) (vld:Int→Int→Int→Int→Bool) (isN:Int→Int→Int→Int→Bool) (nonP:Int→Int→Int→Int→Bool) (iL:Int→ByteArray) (inLo:Int→Int) (inHi:Int→Int) (inD:Int→Int) (inE:Int→Int):Prop:=∀ (k fr fa a b c:Int) (cl g:Bool) (nm:ByteArray) (bs ps:List (List AV)),RdsP bs→fnH Tryz.prog { glob:=glb,spec:=lk [(57,(gvalidP_s nrm vld isN pdV nonP iL inLo inHi inD inE))],specH:=lk [],nowf:=true } { nt:=9,drop:=drp [(1,496)],fr:=1000,kp:=[0] } (fun _ _=>none) 6 Tryz.f70 [.agg [.int .i64 fr,.bool cl,.int .i64 fa,.int .i64 a,.int .i64 b,.int .i64 c,.sl 2 false bs],.ptr 0 0] [.cells [.int .i64 k,.str nm,.sl 7 g ps]] (.bool (!(pdV k fr cl fa a b c bs))) [.cells [.int .i64 k,.str nm,.sl 7 g ps]]
theorem rg41_e (pdV:Int→Int→Bool→Int→Int→Int→Int→LLR→Bool) (nrm:Int→Int→Int→Int→Int × Int × Int × Int) (vld:Int→Int→Int→Int→Bool) (isN:Int→Int→Int→Int→Bool) (nonP:Int→Int→Int→Int→Bool) (iL:Int→ByteArray) (inLo:Int→Int) (inHi:Int→Int) (inD:Int→Int) (inE:Int→Int):rg41_T pdV nrm vld isN nonP iL inLo inHi inD inE=rg41_S pdV nrm vld isN nonP iL inLo inHi inD inE:=by kernel_rfl
theorem rg41_v:rg41_S pdV nrm vld isN nonP iL inLo inHi inD inE:=Eq.mp (rg41_e ..) (rg41_P)
theorem rg41_ok:HOK Tryz.prog glb 70 (rg41_s pdV):=by
 refine ⟨fok Tryz.func70 (by kernel_rfl) (by kernel_rfl),?_⟩
 intro xs bs pre r bs2 h hp
 unfold rg41_s at h
 split at h
 ·simp only [Option.some.injEq,Prod.mk.injEq] at h
  obtain ⟨h1,h2,h3⟩:=h
  subst h1 h2 h3
  exact fnH_sound tyNil (by exact specOK rfl rfl ⟨(gvalidP_ok),trivial⟩ trivial) (by kernel_rfl) Tryz.func70 (rg41_v  _ _ _ _ _ _ _ _ _ _ _ hp)
 ·cases h
def rc4X_s:SpH
 | [.sl 7 f xs,.fn 70 [.ptr 0 0]],[.cells [.int .i64 k,.str nm,.sl 7 g ps]]=>some (PdsP xs,.int .i64 (idxP (bdP k) xs),[.cells [.int .i64 k,.str nm,.sl 7 g ps]])
 | _,_=>none
def rc4X_T (pdV:Int→Int→Bool→Int→Int→Int→Int→LLR→Bool):Prop :=
  ∀ (f:Bool) (xs:List (List AV)) (k:Int) (nm:ByteArray) (ps:List (List AV)) (g:Bool),PdsP xs→True→True→(-9223372036854775808:Int)≤k∧k≤(9223372036854775807
 :Int)→nm.size.le (9223372036854775807:Nat)→True→(∃ x,IdxI (bdP k) xs x∧(((bif f then f=true else True)∧xs=xs)∧((0:Nat)=(0:Nat)∧True)∧(↑xs.length :
  Int)=(↑xs.length:Int)∧(0:Int)=x∧True)∧(k=k∧nm=nm∧((bif g then g=true else True)∧ps=ps)∧True)∧True)∧∀ (x:Int),IdxI (bdP k) xs x→bif decide (x
  < (↑xs.length:Int)) then bif decide ((0:Int)≤x∧x < (↑xs.length:Int)) then ∃ n b n_1 n_2 n_3 n_4 xs_1,List.take [AV.int IntKind.i64 n,AV.bool b,AV.int IntKind.i64 n_1,
  AV.int IntKind.i64 n_2,AV.int IntKind.i64 n_3,AV.int IntKind.i64 n_4,AV.sl (2:Nat) false xs_1].length (xs.getD x.toNat [])=[AV.int IntKind.i64 n,AV.bool b,AV.int
  IntKind.i64 n_1,AV.int IntKind.i64 n_2,AV.int IntKind.i64 n_3,AV.int IntKind.i64 n_4,AV.sl (2:Nat) false xs_1]∧RdsP xs_1∧bif !pdV k n b n_1 n_2 n_3 n_4 xs_1 then x=idxP
  (bdP k) xs∧(k=k∧nm=nm∧((bif g then g=true else True)∧ps=ps)∧True)∧True else bif decide (rng IntKind.i64 (x+(1:Int))) then ∃ y,IdxI (bdP k) xs y∧(rxL (70
 :Nat) (7:Nat) (bdP k) f xs [AV.ptr (0:Nat) (0:Nat)] [((0:Nat),Blk.cells [AV.int IntKind.i64 k,AV.str nm,AV.sl (7:Nat) g ps])]).m y < (rxL (70:Nat) (7:Nat) (bdP k)
  f xs [AV.ptr (0:Nat) (0:Nat)] [((0:Nat),Blk.cells [AV.int IntKind.i64 k,AV.str nm,AV.sl (7:Nat) g ps])]).m x∧(((bif f then f=true else True)∧xs=xs)∧((0:Nat)
 =(0:Nat)∧True)∧(↑xs.length:Int)=(↑xs.length:Int)∧x+(1:Int)=y∧True)∧(k=k∧nm=nm∧((bif g then g=true else True)∧ps=ps)∧True)∧True else False
  else False else (-1:Int)=idxP (bdP k) xs∧(k=k∧nm=nm∧((bif g then g=true else True)∧ps=ps)∧True)∧True
theorem rc4X_P:rc4X_T pdV:=by
 unfold rc4X_T
 intro f xs k nm ps g hp
 intros
 have bf:cond f (f=true) True:=by cases f <;> trivial
 have bg:cond g (g=true) True:=by cases g <;> trivial
 have hs:=hp.fs
 refine ⟨⟨0,⟨by decide,by omega,fun j h=>by omega⟩,by (repeat' (first | exact trivial | exact rfl | assumption | apply And.intro))⟩,?_⟩
 rintro i ⟨h0,h1,hn⟩
 have ei:((i.toNat:Nat):Int)=i:=by omega
 refine cs (fun hl=>?_) (fun hl=>?_)
 ·obtain ⟨fr,cl,fa,a,b,c,bs,he,hq⟩:=hp.fr i.toNat (by omega)
  refine cd1 ⟨h0,hl⟩ ⟨fr,cl,fa,a,b,c,bs,by rw [he]; rfl,hq.1,csplit (fun q=>?_) (fun q=>?_)⟩
  ·have:=idx_some (p:=(bdP k)) (xs:=xs) (i:=i.toNat) (by omega) (by rw [he]; exact q) (fun j hj=>hn j (by omega))
   exact ⟨ei.symm.trans this,by (repeat' (first | exact trivial | exact rfl | assumption | apply And.intro))⟩
  ·refine cdI (by omega) ⟨i+1,⟨by omega,by omega,fun j hj=>?_⟩,by simp only [rxL]; omega,by (repeat' (first | exact trivial | exact rfl | assumption | apply And.intro))⟩
   rcases Nat.lt_or_ge j i.toNat with k | k
   ·exact hn j (by omega)
   ·rw [show j=i.toNat by omega,he]; exact q
 ·exact ⟨idx_none fun j hj=>hn j (by omega),by (repeat' (first | exact trivial | exact rfl | assumption | apply And.intro))⟩
def rc4X_S (pdV:Int→Int→Bool→Int→Int→Int→Int→LLR→Bool):Prop:=∀ (f:Bool) (xs:List (List AV)) (k:Int) (nm:ByteArray) (ps:List (List AV)) (g:Bool),PdsP xs→fnH Tryz.prog { glob:=glb,spec:=lk [],specH:=lk [(70,(rg41_s pdV))],shape:=[15],slz:=[(15,[2])],nowf:=true } { nt:=19,drop:=drp [(1,64),(3,1024),(4,63488),(5,131072),(6,262144)],fr:=1000,kp:=[0] } (invs [(2,rxL 70 7 (bdP k) f xs [.ptr 0 0] [(0,.cells [.int .i64 k,.str nm,.sl 7 g ps])])]) 6 Tryz.f107 [.sl 7 f xs,.fn 70 [.ptr 0 0]] [.cells [.int .i64 k,.str nm,.sl 7 g ps]] (.int .i64 (idxP (bdP k) xs)) [.cells [.int .i64 k,.str nm,.sl 7 g ps]]
theorem rc4X_e (pdV:Int→Int→Bool→Int→Int→Int→Int→LLR→Bool):rc4X_T pdV=rc4X_S pdV:=by kernel_rfl
theorem rc4X_v:rc4X_S pdV:=Eq.mp (rc4X_e ..) (rc4X_P)
theorem rc4X_ok:HOK Tryz.prog glb 107 rc4X_s:=by
 refine ⟨fok Tryz.func107 (by kernel_rfl) (by kernel_rfl),?_⟩
 intro xs bs pre r bs2 h hp
 unfold rc4X_s at h
 split at h
 ·simp only [Option.some.injEq,Prod.mk.injEq] at h
  obtain ⟨h1,h2,h3⟩:=h
  subst h1 h2 h3
  exact fnH_sound tyNil (by exact specOK rfl rfl trivial ⟨(rg41_ok),trivial⟩) (by kernel_rfl) Tryz.func107 (rc4X_v  _ _ _ _ _ _ hp)
 ·cases h
def rc4_s:SpH
 | [.sl 7 f xs,.fn 70 [.ptr 0 0]],[.cells [.int .i64 k,.str nm,.sl 7 g ps]]=>some (PdsP xs,.bool (xs.any (bdP k)),[.cells [.int .i64 k,.str nm,.sl 7 g ps]])
 | _,_=>none
def rc4_T:Prop :=
  ∀ (f:Bool) (xs:List (List AV)) (k:Int) (nm:ByteArray) (ps:List (List AV)) (g:Bool),PdsP xs→True→True→(-9223372036854775808:Int)≤k∧k≤(9223372036854775807
 :Int)→nm.size.le (9223372036854775807:Nat)→True→PdsP xs∧decide ((0:Int)≤idxP (bdP k) xs)=xs.any (bdP k)∧(k=k∧nm=nm∧((bif g then g=true else True)∧ps
 =ps)∧True)∧True
theorem rc4_P:rc4_T:=by
 unfold rc4_T
 intro f xs k nm ps g hp
 intros
 have bg:cond g (g=true) True:=by cases g <;> trivial
 exact ⟨hp,idx_ge,by (repeat' (first | exact trivial | exact rfl | assumption | apply And.intro))⟩
def rc4_S:Prop:=∀ (f:Bool) (xs:List (List AV)) (k:Int) (nm:ByteArray) (ps:List (List AV)) (g:Bool),PdsP xs→fnH Tryz.prog { glob:=glb,spec:=lk [],specH:=lk [(107,rc4X_s)],nowf:=true } { nt:=9,drop:=drp [(1,480)],fr:=1000,kp:=[0] } (fun _ _=>none) 6 Tryz.f69 [.sl 7 f xs,.fn 70 [.ptr 0 0]] [.cells [.int .i64 k,.str nm,.sl 7 g ps]] (.bool (xs.any (bdP k))) [.cells [.int .i64 k,.str nm,.sl 7 g ps]]
theorem rc4_e:rc4_T=rc4_S:=by kernel_rfl
theorem rc4_v:rc4_S:=Eq.mp (rc4_e ..) (rc4_P)
theorem rc4_ok:HOK Tryz.prog glb 69 rc4_s:=by
 refine ⟨fok Tryz.func69 (by kernel_rfl) (by kernel_rfl),?_⟩
 intro xs bs pre r bs2 h hp
 unfold rc4_s at h
 split at h
 ·simp only [Option.some.injEq,Prod.mk.injEq] at h
  obtain ⟨h1,h2,h3⟩:=h
  subst h1 h2 h3
  exact fnH_sound tyNil (by exact specOK rfl rfl trivial ⟨(rc4X_ok),trivial⟩) (by kernel_rfl) Tryz.func69 (rc4_v  _ _ _ _ _ _ hp)
 ·cases h
def rg4_s:Sp
 | [.agg [.int .i64 k,.str nm,.sl 7 false ps]]=>some (PdsP ps,.bool (ps.any (bdP k)))
 | _=>none
def rg4_T:Prop :=
 ∀ (k:Int) (nm:ByteArray) (ps:List (List AV)),PdsP ps→((-9223372036854775808:Int)≤k∧k≤(9223372036854775807:Int))∧nm.size.le (9223372036854775807:Nat)∧True ∧
 True→PdsP ps∧ps.any (bdP k)=ps.any (bdP k)
theorem rg4_P:rg4_T:=by
 unfold rg4_T
 intro k nm ps hp _
 exact ⟨hp,rfl⟩
def rg4_S:Prop:=∀ (k:Int) (nm:ByteArray) (ps:List (List AV)),PdsP ps→fnK Tryz.prog { glob:=glb,spec:=lk [],specH:=lk [(69,rc4_s)],nowf:=true } { nt:=7,drop:=drp [(1,120)] } (fun _ _=>none) 6 Tryz.f68 [.agg [.int .i64 k,.str nm,.sl 7 false ps]] (.bool (ps.any (bdP k)))
theorem rg4_e:rg4_T=rg4_S:=by kernel_rfl
theorem rg4_v:rg4_S:=Eq.mp (rg4_e ..) (rg4_P)
theorem rg4_ok:SOK Tryz.prog glb 68 rg4_s:=by
 refine ⟨fok Tryz.func68 (by kernel_rfl) (by kernel_rfl),?_⟩
 intro xs pre r h hp
 unfold rg4_s at h
 split at h
 ·simp only [Option.some.injEq,Prod.mk.injEq] at h
  obtain ⟨h1,h2⟩:=h
  subst h1 h2
  exact fnK_sound tyNil (by exact specOK rfl rfl trivial ⟨(rc4_ok),trivial⟩) (by kernel_rfl) Tryz.func68 rfl (rg4_v  _ _ _ hp)
 ·cases h
def un2 (k:Int) (nm:ByteArray) (ps:LLR) (g:Bool):LInv:=⟨Int,fun i=>⟨[(1,.ptr 1 0),(3,.int .i64 i)],[(1,.cells [.int .i64 k,.str nm,.sl 7 g ps])]⟩,AscI ps,fun i=>(ps.length+1 - i).toNat,none⟩
def gunord_s (ascB:LLR→Bool):Sp
 | [.agg [.int .i64 k,.str nm,.sl 7 g ps]]=>some (PdsP ps,.bool (!(ascB ps)))
 | _=>none
def gunord_T (ascB:LLR→Bool):Prop :=
 ∀ (gl:Glob) (k:Int) (nm:ByteArray) (g:Bool) (ps:List (List AV)),PdsP ps→((-9223372036854775808:Int)≤k∧k≤(9223372036854775807:Int))∧nm.size.le
 (9223372036854775807:Nat)∧True∧True→(∃ x,AscI ps x∧((0:Nat)=(0:Nat)∧(1:Int)=x∧True)∧(k=k∧nm=nm∧((bif g then g=true else True)∧ps=ps) ∧
 True)∧True)∧∀ (x:Int),AscI ps x→bif decide (x < (↑ps.length:Int)) then bif decide (rng IntKind.i64 (x - (1:Int))) then bif decide ((0:Int)≤x - (1:Int)∧x - (1 :
 Int) < (↑ps.length:Int)) then ∃ n,List.take [AV.int IntKind.i64 n].length (List.drop (0:Nat) (ps.getD (x - (1:Int)).toNat []))=[AV.int IntKind.i64 n]∧bif decide ((0 :
 Int)≤x∧x < (↑ps.length:Int)) then ∃ n_1,List.take [AV.int IntKind.i64 n_1].length (List.drop (0:Nat) (ps.getD x.toNat []))=[AV.int IntKind.i64 n_1]∧bif decide (n_1 ≤
 n) then true=!ascB ps else bif decide (rng IntKind.i64 (x+(1:Int))) then ∃ y,AscI ps y∧(un2 k nm ps g).m y < (un2 k nm ps g).m x∧((0:Nat)=(0:Nat)∧x+(1:Int) =
 y∧True)∧(k=k∧nm=nm∧((bif g then g=true else True)∧ps=ps)∧True)∧True else False else False else False else False else false=!ascB ps
theorem gunord_P:gunord_T ascB:=by
 unfold gunord_T
 intro gl k nm g ps hp _
 have hs:=hp.fs
 have bg:cond g (g=true) True:=by cases g <;> trivial
 refine ⟨⟨1,⟨by decide,.inr rfl,fun j hj _=>.inl (by omega)⟩,by (repeat' (first | exact trivial | exact rfl | assumption | apply And.intro))⟩,?_⟩
 rintro i ⟨h0,h2,hn⟩
 refine csx (fun hl=>cdI (by omega) (cd1 (by omega) ?_)) (fun hl=>?_)
 ·obtain ⟨e,_,_,_,_,_,_,he,_⟩:=hp.fr (i - 1).toNat (by omega)
  obtain ⟨e',_,_,_,_,_,_,he',_⟩:=hp.fr i.toNat (by omega)
  have hi:i.toNat - 1=(i - 1).toNat:=by omega
  have q1:rE (ps.getD (i.toNat - 1) [])=e:=by rw [hi,he]; rfl
  have q2:rE (ps.getD i.toNat [])=e':=by rw [he']; rfl
  refine ⟨e,by rw [he]; rfl,cd1 (by omega) ⟨e',by rw [he']; rfl,csx (fun q=>?_) (fun q=>cdI (by omega) ⟨i+1,⟨by omega,.inl (by omega),fun j hj hlj=>?_⟩,by simp only [un2]; omega,by (repeat' (first | exact trivial | exact rfl | assumption | apply And.intro))⟩)⟩⟩
  ·have:ascB ps=false:=by
    refine decide_eq_false fun h=>?_
    rcases h i.toNat (by omega) with k | k
    ·omega
    ·rw [q1,q2] at k; omega
   rw [this]; rfl
  ·rcases Nat.lt_or_ge j i.toNat with k | k
   ·exact hn j (by omega) hlj
   ·rw [show j=i.toNat by omega,q1,q2]; exact .inr (by omega)
 ·have:ascB ps=true:=decide_eq_true fun j hj=>hn j (by omega) hj
  rw [this]; rfl
def gunord_S (ascB:LLR→Bool):Prop:=∀ (gl:Glob) (k:Int) (nm:ByteArray) (g:Bool) (ps:List (List AV)),PdsP ps→fnK Tryz.prog { glob:=gl,spec:=lk [],specH:=lk [],shape:=[17,23],nowf:=true } { nt:=25,drop:=drp [(2,240),(3,1536),(4,16775168)] } (invs [(2,un2 k nm ps g)]) 6 Tryz.f71 [.agg [.int .i64 k,.str nm,.sl 7 g ps]] (.bool (!(ascB ps)))
theorem gunord_e (ascB:LLR→Bool):gunord_T ascB=gunord_S ascB:=by kernel_rfl
theorem gunord_v:gunord_S ascB:=Eq.mp (gunord_e ..) (gunord_P)
theorem gunord_ok (gl:Glob):SOK Tryz.prog gl 71 (gunord_s ascB):=by
 refine ⟨fok Tryz.func71 (by kernel_rfl) (by kernel_rfl),?_⟩
 intro xs pre r h hp
 unfold gunord_s at h
 split at h
 ·simp only [Option.some.injEq,Prod.mk.injEq] at h
  obtain ⟨h1,h2⟩:=h
  subst h1 h2
  exact fnK_sound tyNil (by exact specOK rfl rfl trivial trivial) (by kernel_rfl) Tryz.func71 rfl (gunord_v gl _ _ _ _ hp)
 ·cases h
def rc1X_s:Sp
 | [.sl 3 f xs,.fn 65 []]=>some (StsP xs,.int .i64 (idxP p1R xs))
 | _=>none
def rc1X_T (s1B:LLR→Bool):Prop :=
  ∀ (gl:Glob) (f:Bool) (xs:List (List AV)),StsP xs→True→True→(∃ x,IdxI p1R xs x∧(((bif f then f=true else True)∧xs=xs)∧True∧(↑xs.length:Int)=(↑xs.length
 :Int)∧(0:Int)=x∧True)∧True)∧∀ (x:Int),IdxI p1R xs x→bif decide (x < (↑xs.length:Int)) then bif decide ((0:Int)≤x∧x < (↑xs.length:Int)) then ∃ n s xs_1,
  List.take [AV.int IntKind.i64 n,AV.str s,AV.sl (7:Nat) false xs_1].length (xs.getD x.toNat [])=[AV.int IntKind.i64 n,AV.str s,AV.sl (7:Nat) false xs_1]∧PdsP xs_1∧bif
  s1B xs_1 then x=idxP p1R xs else bif decide (rng IntKind.i64 (x+(1:Int))) then ∃ y,IdxI p1R xs y∧(rxL (65:Nat) (3:Nat) p1R f xs [] []).m y < (rxL (65:Nat) (3:Nat)
  p1R f xs [] []).m x∧(((bif f then f=true else True)∧xs=xs)∧True∧(↑xs.length:Int)=(↑xs.length:Int)∧x+(1:Int)=y∧True)∧True else False else False else
  (-1:Int)=idxP p1R xs
theorem rc1X_P:rc1X_T s1B:=by
 unfold rc1X_T
 intro gl f xs hp
 intros
 have bf:cond f (f=true) True:=by cases f <;> trivial
 have hs:=hp.fs
 refine ⟨⟨0,⟨by decide,by omega,fun j h=>by omega⟩,by (repeat' (first | exact trivial | exact rfl | assumption | apply And.intro))⟩,?_⟩
 rintro i ⟨h0,h1,hn⟩
 have ei:((i.toNat:Nat):Int)=i:=by omega
 refine cs (fun hl=>?_) (fun hl=>?_)
 ·obtain ⟨k,nm,ps,he,hq⟩:=hp.fr i.toNat (by omega)
  refine cd1 ⟨h0,hl⟩ ⟨k,nm,ps,by rw [he]; rfl,hq,csplit (fun q=>?_) (fun q=>?_)⟩
  ·have:=idx_some (p:=p1R) (xs:=xs) (i:=i.toNat) (by omega) (by rw [he]; exact q) (fun j hj=>hn j (by omega))
   exact ei.symm.trans this
  ·refine cdI (by omega) ⟨i+1,⟨by omega,by omega,fun j hj=>?_⟩,by simp only [rxL]; omega,by (repeat' (first | exact trivial | exact rfl | assumption | apply And.intro))⟩
   rcases Nat.lt_or_ge j i.toNat with k | k
   ·exact hn j (by omega)
   ·rw [show j=i.toNat by omega,he]; exact q
 ·exact idx_none fun j hj=>hn j (by omega)
def rc1X_S (s1B:LLR→Bool):Prop:=∀ (gl:Glob) (f:Bool) (xs:List (List AV)),StsP xs→fnK Tryz.prog { glob:=gl,spec:=lk [(65,(rg1_s s1B))],specH:=lk [],shape:=[15],slz:=[(15,[7])],nowf:=true } { nt:=19,drop:=drp [(1,64),(3,1024),(4,63488),(5,131072),(6,262144)] } (invs [(2,rxL 65 3 p1R f xs [] [])]) 6 Tryz.f122 [.sl 3 f xs,.fn 65 []] (.int .i64 (idxP p1R xs))
theorem rc1X_e (s1B:LLR→Bool):rc1X_T s1B=rc1X_S s1B:=by kernel_rfl
theorem rc1X_v:rc1X_S s1B:=Eq.mp (rc1X_e ..) (rc1X_P)
theorem rc1X_ok (gl:Glob):SOK Tryz.prog gl 122 rc1X_s:=by
 refine ⟨fok Tryz.func122 (by kernel_rfl) (by kernel_rfl),?_⟩
 intro xs pre r h hp
 unfold rc1X_s at h
 split at h
 ·simp only [Option.some.injEq,Prod.mk.injEq] at h
  obtain ⟨h1,h2⟩:=h
  subst h1 h2
  exact fnK_sound tyNil (by exact specOK rfl rfl ⟨(rg1_ok gl),trivial⟩ trivial) (by kernel_rfl) Tryz.func122 rfl (rc1X_v gl _ _ hp)
 ·cases h
def rc1_s:Sp
 | [.sl 3 f xs,.fn 65 []]=>some (StsP xs,.bool (xs.any p1R))
 | _=>none
def rc1_T:Prop :=
 ∀ (gl:Glob) (f:Bool) (xs:List (List AV)),StsP xs→True→True→StsP xs∧decide ((0:Int)≤idxP p1R xs)=xs.any p1R
theorem rc1_P:rc1_T:=by
 unfold rc1_T
 intro gl f xs hp
 intros
 exact ⟨hp,idx_ge⟩
def rc1_S:Prop:=∀ (gl:Glob) (f:Bool) (xs:List (List AV)),StsP xs→fnK Tryz.prog { glob:=gl,spec:=lk [(122,rc1X_s)],specH:=lk [],nowf:=true } { nt:=9,drop:=drp [(1,480)] } (fun _ _=>none) 6 Tryz.f106 [.sl 3 f xs,.fn 65 []] (.bool (xs.any p1R))
theorem rc1_e:rc1_T=rc1_S:=by kernel_rfl
theorem rc1_v:rc1_S:=Eq.mp (rc1_e ..) (rc1_P)
theorem rc1_ok (gl:Glob):SOK Tryz.prog gl 106 rc1_s:=by
 refine ⟨fok Tryz.func106 (by kernel_rfl) (by kernel_rfl),?_⟩
 intro xs pre r h hp
 unfold rc1_s at h
 split at h
 ·simp only [Option.some.injEq,Prod.mk.injEq] at h
  obtain ⟨h1,h2⟩:=h
  subst h1 h2
  exact fnK_sound tyNil (by exact specOK rfl rfl ⟨(rc1X_ok gl),trivial⟩ trivial) (by kernel_rfl) Tryz.func106 rfl (rc1_v gl _ _ hp)
 ·cases h
def rc1s_s:Sp
 | [.agg [.sl 3 f xs],.fn 65 []]=>some (StsP xs,.bool (xs.any p1R))
 | _=>none
def rc1s_T:Prop :=
 ∀ (gl:Glob) (f:Bool) (xs:List (List AV)),StsP xs→True∧True→True→StsP xs∧xs.any p1R=xs.any p1R
theorem rc1s_P:rc1s_T:=by
 unfold rc1s_T
 intro gl f xs hp
 intros
 exact ⟨hp,rfl⟩
def rc1s_S:Prop:=∀ (gl:Glob) (f:Bool) (xs:List (List AV)),StsP xs→fnK Tryz.prog { glob:=gl,spec:=lk [(106,rc1_s)],specH:=lk [],nowf:=true } { nt:=9,drop:=drp [(1,480)] } (fun _ _=>none) 6 Tryz.f64 [.agg [.sl 3 f xs],.fn 65 []] (.bool (xs.any p1R))
theorem rc1s_e:rc1s_T=rc1s_S:=by kernel_rfl
theorem rc1s_v:rc1s_S:=Eq.mp (rc1s_e ..) (rc1s_P)
theorem rc1s_ok (gl:Glob):SOK Tryz.prog gl 64 rc1s_s:=by
 refine ⟨fok Tryz.func64 (by kernel_rfl) (by kernel_rfl),?_⟩
 intro xs pre r h hp
 unfold rc1s_s at h
 split at h
 ·simp only [Option.some.injEq,Prod.mk.injEq] at h
  obtain ⟨h1,h2⟩:=h
  subst h1 h2
  exact fnK_sound tyNil (by exact specOK rfl rfl ⟨(rc1_ok gl),trivial⟩ trivial) (by kernel_rfl) Tryz.func64 rfl (rc1s_v gl _ _ hp)
 ·cases h
def rc2X_s:Sp
 | [.sl 3 f xs,.fn 66 []]=>some (StsP xs,.int .i64 (idxP p2R xs))
 | _=>none
def rc2X_T (exK:Int→Bool):Prop :=
  ∀ (gl:Glob) (f:Bool) (xs:List (List AV)),StsP xs→True→True→(∃ x,IdxI p2R xs x∧(((bif f then f=true else True)∧xs=xs)∧True∧(↑xs.length:Int)=(↑xs.length
 :Int)∧(0:Int)=x∧True)∧True)∧∀ (x:Int),IdxI p2R xs x→bif decide (x < (↑xs.length:Int)) then bif decide ((0:Int)≤x∧x < (↑xs.length:Int)) then ∃ n s xs_1,
  List.take [AV.int IntKind.i64 n,AV.str s,AV.sl (7:Nat) false xs_1].length (xs.getD x.toNat [])=[AV.int IntKind.i64 n,AV.str s,AV.sl (7:Nat) false xs_1]∧True∧bif !exK
  n then x=idxP p2R xs else bif decide (rng IntKind.i64 (x+(1:Int))) then ∃ y,IdxI p2R xs y∧(rxL (66:Nat) (3:Nat) p2R f xs [] []).m y < (rxL (66:Nat) (3:Nat) p2R f
  xs [] []).m x∧(((bif f then f=true else True)∧xs=xs)∧True∧(↑xs.length:Int)=(↑xs.length:Int)∧x+(1:Int)=y∧True)∧True else False else False else (-1 :
  Int)=idxP p2R xs
theorem rc2X_P:rc2X_T exK:=by
 unfold rc2X_T
 intro gl f xs hp
 intros
 have bf:cond f (f=true) True:=by cases f <;> trivial
 have hs:=hp.fs
 refine ⟨⟨0,⟨by decide,by omega,fun j h=>by omega⟩,by (repeat' (first | exact trivial | exact rfl | assumption | apply And.intro))⟩,?_⟩
 rintro i ⟨h0,h1,hn⟩
 have ei:((i.toNat:Nat):Int)=i:=by omega
 refine cs (fun hl=>?_) (fun hl=>?_)
 ·obtain ⟨k,nm,ps,he,hq⟩:=hp.fr i.toNat (by omega)
  refine cd1 ⟨h0,hl⟩ ⟨k,nm,ps,by rw [he]; rfl,trivial,csplit (fun q=>?_) (fun q=>?_)⟩
  ·have:=idx_some (p:=p2R) (xs:=xs) (i:=i.toNat) (by omega) (by rw [he]; exact q) (fun j hj=>hn j (by omega))
   exact ei.symm.trans this
  ·refine cdI (by omega) ⟨i+1,⟨by omega,by omega,fun j hj=>?_⟩,by simp only [rxL]; omega,by (repeat' (first | exact trivial | exact rfl | assumption | apply And.intro))⟩
   rcases Nat.lt_or_ge j i.toNat with k | k
   ·exact hn j (by omega)
   ·rw [show j=i.toNat by omega,he]; exact q
 ·exact idx_none fun j hj=>hn j (by omega)
def rc2X_S (exK:Int→Bool):Prop:=∀ (gl:Glob) (f:Bool) (xs:List (List AV)),StsP xs→fnK Tryz.prog { glob:=gl,spec:=lk [(66,(rg2_s exK))],specH:=lk [],shape:=[15],slz:=[(15,[7])],nowf:=true } { nt:=19,drop:=drp [(1,64),(3,1024),(4,63488),(5,131072),(6,262144)] } (invs [(2,rxL 66 3 p2R f xs [] [])]) 6 Tryz.f122 [.sl 3 f xs,.fn 66 []] (.int .i64 (idxP p2R xs))
theorem rc2X_e (exK:Int→Bool):rc2X_T exK=rc2X_S exK:=by kernel_rfl
theorem rc2X_v:rc2X_S exK:=Eq.mp (rc2X_e ..) (rc2X_P)
theorem rc2X_ok (gl:Glob):SOK Tryz.prog gl 122 rc2X_s:=by
 refine ⟨fok Tryz.func122 (by kernel_rfl) (by kernel_rfl),?_⟩
 intro xs pre r h hp
 unfold rc2X_s at h
 split at h
 ·simp only [Option.some.injEq,Prod.mk.injEq] at h
  obtain ⟨h1,h2⟩:=h
  subst h1 h2
  exact fnK_sound tyNil (by exact specOK rfl rfl ⟨(rg2_ok gl),trivial⟩ trivial) (by kernel_rfl) Tryz.func122 rfl (rc2X_v gl _ _ hp)
 ·cases h
def rc2_s:Sp
 | [.sl 3 f xs,.fn 66 []]=>some (StsP xs,.bool (xs.any p2R))
 | _=>none
def rc2_T:Prop :=
 ∀ (gl:Glob) (f:Bool) (xs:List (List AV)),StsP xs→True→True→StsP xs∧decide ((0:Int)≤idxP p2R xs)=xs.any p2R
theorem rc2_P:rc2_T:=by
 unfold rc2_T
 intro gl f xs hp
 intros
 exact ⟨hp,idx_ge⟩
def rc2_S:Prop:=∀ (gl:Glob) (f:Bool) (xs:List (List AV)),StsP xs→fnK Tryz.prog { glob:=gl,spec:=lk [(122,rc2X_s)],specH:=lk [],nowf:=true } { nt:=9,drop:=drp [(1,480)] } (fun _ _=>none) 6 Tryz.f106 [.sl 3 f xs,.fn 66 []] (.bool (xs.any p2R))
theorem rc2_e:rc2_T=rc2_S:=by kernel_rfl
theorem rc2_v:rc2_S:=Eq.mp (rc2_e ..) (rc2_P)
theorem rc2_ok (gl:Glob):SOK Tryz.prog gl 106 rc2_s:=by
 refine ⟨fok Tryz.func106 (by kernel_rfl) (by kernel_rfl),?_⟩
 intro xs pre r h hp
 unfold rc2_s at h
 split at h
 ·simp only [Option.some.injEq,Prod.mk.injEq] at h
  obtain ⟨h1,h2⟩:=h
  subst h1 h2
  exact fnK_sound tyNil (by exact specOK rfl rfl ⟨(rc2X_ok gl),trivial⟩ trivial) (by kernel_rfl) Tryz.func106 rfl (rc2_v gl _ _ hp)
 ·cases h
def rc2s_s:Sp
 | [.agg [.sl 3 f xs],.fn 66 []]=>some (StsP xs,.bool (xs.any p2R))
 | _=>none
def rc2s_T:Prop :=
 ∀ (gl:Glob) (f:Bool) (xs:List (List AV)),StsP xs→True∧True→True→StsP xs∧xs.any p2R=xs.any p2R
theorem rc2s_P:rc2s_T:=by
 unfold rc2s_T
 intro gl f xs hp
 intros
 exact ⟨hp,rfl⟩
def rc2s_S:Prop:=∀ (gl:Glob) (f:Bool) (xs:List (List AV)),StsP xs→fnK Tryz.prog { glob:=gl,spec:=lk [(106,rc2_s)],specH:=lk [],nowf:=true } { nt:=9,drop:=drp [(1,480)] } (fun _ _=>none) 6 Tryz.f64 [.agg [.sl 3 f xs],.fn 66 []] (.bool (xs.any p2R))
theorem rc2s_e:rc2s_T=rc2s_S:=by kernel_rfl
theorem rc2s_v:rc2s_S:=Eq.mp (rc2s_e ..) (rc2s_P)
theorem rc2s_ok (gl:Glob):SOK Tryz.prog gl 64 rc2s_s:=by
 refine ⟨fok Tryz.func64 (by kernel_rfl) (by kernel_rfl),?_⟩
 intro xs pre r h hp
 unfold rc2s_s at h
 split at h
 ·simp only [Option.some.injEq,Prod.mk.injEq] at h
  obtain ⟨h1,h2⟩:=h
  subst h1 h2
  exact fnK_sound tyNil (by exact specOK rfl rfl ⟨(rc2_ok gl),trivial⟩ trivial) (by kernel_rfl) Tryz.func64 rfl (rc2s_v gl _ _ hp)
 ·cases h
def rc3X_s:Sp
 | [.sl 3 f xs,.fn 67 []]=>some (StsP xs,.int .i64 (idxP p3R xs))
 | _=>none
def rc3X_T (nmOk:ByteArray→Bool):Prop :=
  ∀ (gl:Glob) (f:Bool) (xs:List (List AV)),StsP xs→True→True→(∃ x,IdxI p3R xs x∧(((bif f then f=true else True)∧xs=xs)∧True∧(↑xs.length:Int)=(↑xs.length
 :Int)∧(0:Int)=x∧True)∧True)∧∀ (x:Int),IdxI p3R xs x→bif decide (x < (↑xs.length:Int)) then bif decide ((0:Int)≤x∧x < (↑xs.length:Int)) then ∃ n s xs_1,
  List.take [AV.int IntKind.i64 n,AV.str s,AV.sl (7:Nat) false xs_1].length (xs.getD x.toNat [])=[AV.int IntKind.i64 n,AV.str s,AV.sl (7:Nat) false xs_1]∧True∧bif !nmOk
  s then x=idxP p3R xs else bif decide (rng IntKind.i64 (x+(1:Int))) then ∃ y,IdxI p3R xs y∧(rxL (67:Nat) (3:Nat) p3R f xs [] []).m y < (rxL (67:Nat) (3:Nat) p3R f
  xs [] []).m x∧(((bif f then f=true else True)∧xs=xs)∧True∧(↑xs.length:Int)=(↑xs.length:Int)∧x+(1:Int)=y∧True)∧True else False else False else (-1 :
  Int)=idxP p3R xs
theorem rc3X_P:rc3X_T nmOk:=by
 unfold rc3X_T
 intro gl f xs hp
 intros
 have bf:cond f (f=true) True:=by cases f <;> trivial
 have hs:=hp.fs
 refine ⟨⟨0,⟨by decide,by omega,fun j h=>by omega⟩,by (repeat' (first | exact trivial | exact rfl | assumption | apply And.intro))⟩,?_⟩
 rintro i ⟨h0,h1,hn⟩
 have ei:((i.toNat:Nat):Int)=i:=by omega
 refine cs (fun hl=>?_) (fun hl=>?_)
 ·obtain ⟨k,nm,ps,he,hq⟩:=hp.fr i.toNat (by omega)
  refine cd1 ⟨h0,hl⟩ ⟨k,nm,ps,by rw [he]; rfl,trivial,csplit (fun q=>?_) (fun q=>?_)⟩
  ·have:=idx_some (p:=p3R) (xs:=xs) (i:=i.toNat) (by omega) (by rw [he]; exact q) (fun j hj=>hn j (by omega))
   exact ei.symm.trans this
  ·refine cdI (by omega) ⟨i+1,⟨by omega,by omega,fun j hj=>?_⟩,by simp only [rxL]; omega,by (repeat' (first | exact trivial | exact rfl | assumption | apply And.intro))⟩
   rcases Nat.lt_or_ge j i.toNat with k | k
   ·exact hn j (by omega)
   ·rw [show j=i.toNat by omega,he]; exact q
 ·exact idx_none fun j hj=>hn j (by omega)
def rc3X_S (nmOk:ByteArray→Bool):Prop:=∀ (gl:Glob) (f:Bool) (xs:List (List AV)),StsP xs→fnK Tryz.prog { glob:=gl,spec:=lk [(67,(rg3_s nmOk))],specH:=lk [],shape:=[15],slz:=[(15,[7])],nowf:=true } { nt:=19,drop:=drp [(1,64),(3,1024),(4,63488),(5,131072),(6,262144)] } (invs [(2,rxL 67 3 p3R f xs [] [])]) 6 Tryz.f122 [.sl 3 f xs,.fn 67 []] (.int .i64 (idxP p3R xs))
theorem rc3X_e (nmOk:ByteArray→Bool):rc3X_T nmOk=rc3X_S nmOk:=by kernel_rfl
theorem rc3X_v:rc3X_S nmOk:=Eq.mp (rc3X_e ..) (rc3X_P)
theorem rc3X_ok (gl:Glob):SOK Tryz.prog gl 122 rc3X_s:=by
 refine ⟨fok Tryz.func122 (by kernel_rfl) (by kernel_rfl),?_⟩
 intro xs pre r h hp
 unfold rc3X_s at h
 split at h
 ·simp only [Option.some.injEq,Prod.mk.injEq] at h
  obtain ⟨h1,h2⟩:=h
  subst h1 h2
  exact fnK_sound tyNil (by exact specOK rfl rfl ⟨(rg3_ok gl),trivial⟩ trivial) (by kernel_rfl) Tryz.func122 rfl (rc3X_v gl _ _ hp)
 ·cases h
def rc3_s:Sp
 | [.sl 3 f xs,.fn 67 []]=>some (StsP xs,.bool (xs.any p3R))
 | _=>none
def rc3_T:Prop :=
 ∀ (gl:Glob) (f:Bool) (xs:List (List AV)),StsP xs→True→True→StsP xs∧decide ((0:Int)≤idxP p3R xs)=xs.any p3R
theorem rc3_P:rc3_T:=by
 unfold rc3_T
 intro gl f xs hp
 intros
 exact ⟨hp,idx_ge⟩
def rc3_S:Prop:=∀ (gl:Glob) (f:Bool) (xs:List (List AV)),StsP xs→fnK Tryz.prog { glob:=gl,spec:=lk [(122,rc3X_s)],specH:=lk [],nowf:=true } { nt:=9,drop:=drp [(1,480)] } (fun _ _=>none) 6 Tryz.f106 [.sl 3 f xs,.fn 67 []] (.bool (xs.any p3R))
theorem rc3_e:rc3_T=rc3_S:=by kernel_rfl
theorem rc3_v:rc3_S:=Eq.mp (rc3_e ..) (rc3_P)
theorem rc3_ok (gl:Glob):SOK Tryz.prog gl 106 rc3_s:=by
 refine ⟨fok Tryz.func106 (by kernel_rfl) (by kernel_rfl),?_⟩
 intro xs pre r h hp
 unfold rc3_s at h
 split at h
 ·simp only [Option.some.injEq,Prod.mk.injEq] at h
  obtain ⟨h1,h2⟩:=h
  subst h1 h2
  exact fnK_sound tyNil (by exact specOK rfl rfl ⟨(rc3X_ok gl),trivial⟩ trivial) (by kernel_rfl) Tryz.func106 rfl (rc3_v gl _ _ hp)
 ·cases h
def rc3s_s:Sp
 | [.agg [.sl 3 f xs],.fn 67 []]=>some (StsP xs,.bool (xs.any p3R))
 | _=>none
def rc3s_T:Prop :=
 ∀ (gl:Glob) (f:Bool) (xs:List (List AV)),StsP xs→True∧True→True→StsP xs∧xs.any p3R=xs.any p3R
theorem rc3s_P:rc3s_T:=by
 unfold rc3s_T
 intro gl f xs hp
 intros
 exact ⟨hp,rfl⟩
def rc3s_S:Prop:=∀ (gl:Glob) (f:Bool) (xs:List (List AV)),StsP xs→fnK Tryz.prog { glob:=gl,spec:=lk [(106,rc3_s)],specH:=lk [],nowf:=true } { nt:=9,drop:=drp [(1,480)] } (fun _ _=>none) 6 Tryz.f64 [.agg [.sl 3 f xs],.fn 67 []] (.bool (xs.any p3R))
theorem rc3s_e:rc3s_T=rc3s_S:=by kernel_rfl
theorem rc3s_v:rc3s_S:=Eq.mp (rc3s_e ..) (rc3s_P)
theorem rc3s_ok (gl:Glob):SOK Tryz.prog gl 64 rc3s_s:=by
 refine ⟨fok Tryz.func64 (by kernel_rfl) (by kernel_rfl),?_⟩
 intro xs pre r h hp
 unfold rc3s_s at h
 split at h
 ·simp only [Option.some.injEq,Prod.mk.injEq] at h
  obtain ⟨h1,h2⟩:=h
  subst h1 h2
  exact fnK_sound tyNil (by exact specOK rfl rfl ⟨(rc3_ok gl),trivial⟩ trivial) (by kernel_rfl) Tryz.func64 rfl (rc3s_v gl _ _ hp)
 ·cases h
def rc5X_s:Sp
 | [.sl 3 f xs,.fn 71 []]=>some (StsP xs,.int .i64 (idxP p5R xs))
 | _=>none
def rc5X_T (ascB:LLR→Bool):Prop :=
  ∀ (gl:Glob) (f:Bool) (xs:List (List AV)),StsP xs→True→True→(∃ x,IdxI p5R xs x∧(((bif f then f=true else True)∧xs=xs)∧True∧(↑xs.length:Int)=(↑xs.length
 :Int)∧(0:Int)=x∧True)∧True)∧∀ (x:Int),IdxI p5R xs x→bif decide (x < (↑xs.length:Int)) then bif decide ((0:Int)≤x∧x < (↑xs.length:Int)) then ∃ n s xs_1,
  List.take [AV.int IntKind.i64 n,AV.str s,AV.sl (7:Nat) false xs_1].length (xs.getD x.toNat [])=[AV.int IntKind.i64 n,AV.str s,AV.sl (7:Nat) false xs_1]∧PdsP xs_1∧bif
  !ascB xs_1 then x=idxP p5R xs else bif decide (rng IntKind.i64 (x+(1:Int))) then ∃ y,IdxI p5R xs y∧(rxL (71:Nat) (3:Nat) p5R f xs [] []).m y < (rxL (71:Nat) (3 :
  Nat) p5R f xs [] []).m x∧(((bif f then f=true else True)∧xs=xs)∧True∧(↑xs.length:Int)=(↑xs.length:Int)∧x+(1:Int)=y∧True)∧True else False else False
  else (-1:Int)=idxP p5R xs
theorem rc5X_P:rc5X_T ascB:=by
 unfold rc5X_T
 intro gl f xs hp
 intros
 have bf:cond f (f=true) True:=by cases f <;> trivial
 have hs:=hp.fs
 refine ⟨⟨0,⟨by decide,by omega,fun j h=>by omega⟩,by (repeat' (first | exact trivial | exact rfl | assumption | apply And.intro))⟩,?_⟩
 rintro i ⟨h0,h1,hn⟩
 have ei:((i.toNat:Nat):Int)=i:=by omega
 refine cs (fun hl=>?_) (fun hl=>?_)
 ·obtain ⟨k,nm,ps,he,hq⟩:=hp.fr i.toNat (by omega)
  refine cd1 ⟨h0,hl⟩ ⟨k,nm,ps,by rw [he]; rfl,hq,csplit (fun q=>?_) (fun q=>?_)⟩
  ·have:=idx_some (p:=p5R) (xs:=xs) (i:=i.toNat) (by omega) (by rw [he]; exact q) (fun j hj=>hn j (by omega))
   exact ei.symm.trans this
  ·refine cdI (by omega) ⟨i+1,⟨by omega,by omega,fun j hj=>?_⟩,by simp only [rxL]; omega,by (repeat' (first | exact trivial | exact rfl | assumption | apply And.intro))⟩
   rcases Nat.lt_or_ge j i.toNat with k | k
   ·exact hn j (by omega)
   ·rw [show j=i.toNat by omega,he]; exact q
 ·exact idx_none fun j hj=>hn j (by omega)
def rc5X_S (ascB:LLR→Bool):Prop:=∀ (gl:Glob) (f:Bool) (xs:List (List AV)),StsP xs→fnK Tryz.prog { glob:=gl,spec:=lk [(71,(gunord_s ascB))],specH:=lk [],shape:=[15],slz:=[(15,[7])],nowf:=true } { nt:=19,drop:=drp [(1,64),(3,1024),(4,63488),(5,131072),(6,262144)] } (invs [(2,rxL 71 3 p5R f xs [] [])]) 6 Tryz.f122 [.sl 3 f xs,.fn 71 []] (.int .i64 (idxP p5R xs))
theorem rc5X_e (ascB:LLR→Bool):rc5X_T ascB=rc5X_S ascB:=by kernel_rfl
theorem rc5X_v:rc5X_S ascB:=Eq.mp (rc5X_e ..) (rc5X_P)
theorem rc5X_ok (gl:Glob):SOK Tryz.prog gl 122 rc5X_s:=by
 refine ⟨fok Tryz.func122 (by kernel_rfl) (by kernel_rfl),?_⟩
 intro xs pre r h hp
 unfold rc5X_s at h
 split at h
 ·simp only [Option.some.injEq,Prod.mk.injEq] at h
  obtain ⟨h1,h2⟩:=h
  subst h1 h2
  exact fnK_sound tyNil (by exact specOK rfl rfl ⟨(gunord_ok gl),trivial⟩ trivial) (by kernel_rfl) Tryz.func122 rfl (rc5X_v gl _ _ hp)
 ·cases h
def rc5_s:Sp
 | [.sl 3 f xs,.fn 71 []]=>some (StsP xs,.bool (xs.any p5R))
 | _=>none
def rc5_T:Prop :=
 ∀ (gl:Glob) (f:Bool) (xs:List (List AV)),StsP xs→True→True→StsP xs∧decide ((0:Int)≤idxP p5R xs)=xs.any p5R
theorem rc5_P:rc5_T:=by
 unfold rc5_T
 intro gl f xs hp
 intros
 exact ⟨hp,idx_ge⟩
def rc5_S:Prop:=∀ (gl:Glob) (f:Bool) (xs:List (List AV)),StsP xs→fnK Tryz.prog { glob:=gl,spec:=lk [(122,rc5X_s)],specH:=lk [],nowf:=true } { nt:=9,drop:=drp [(1,480)] } (fun _ _=>none) 6 Tryz.f106 [.sl 3 f xs,.fn 71 []] (.bool (xs.any p5R))
theorem rc5_e:rc5_T=rc5_S:=by kernel_rfl
theorem rc5_v:rc5_S:=Eq.mp (rc5_e ..) (rc5_P)
theorem rc5_ok (gl:Glob):SOK Tryz.prog gl 106 rc5_s:=by
 refine ⟨fok Tryz.func106 (by kernel_rfl) (by kernel_rfl),?_⟩
 intro xs pre r h hp
 unfold rc5_s at h
 split at h
 ·simp only [Option.some.injEq,Prod.mk.injEq] at h
  obtain ⟨h1,h2⟩:=h
  subst h1 h2
  exact fnK_sound tyNil (by exact specOK rfl rfl ⟨(rc5X_ok gl),trivial⟩ trivial) (by kernel_rfl) Tryz.func106 rfl (rc5_v gl _ _ hp)
 ·cases h
def rc5s_s:Sp
 | [.agg [.sl 3 f xs],.fn 71 []]=>some (StsP xs,.bool (xs.any p5R))
 | _=>none
def rc5s_T:Prop :=
 ∀ (gl:Glob) (f:Bool) (xs:List (List AV)),StsP xs→True∧True→True→StsP xs∧xs.any p5R=xs.any p5R
theorem rc5s_P:rc5s_T:=by
 unfold rc5s_T
 intro gl f xs hp
 intros
 exact ⟨hp,rfl⟩
def rc5s_S:Prop:=∀ (gl:Glob) (f:Bool) (xs:List (List AV)),StsP xs→fnK Tryz.prog { glob:=gl,spec:=lk [(106,rc5_s)],specH:=lk [],nowf:=true } { nt:=9,drop:=drp [(1,480)] } (fun _ _=>none) 6 Tryz.f64 [.agg [.sl 3 f xs],.fn 71 []] (.bool (xs.any p5R))
theorem rc5s_e:rc5s_T=rc5s_S:=by kernel_rfl
theorem rc5s_v:rc5s_S:=Eq.mp (rc5s_e ..) (rc5s_P)
theorem rc5s_ok (gl:Glob):SOK Tryz.prog gl 64 rc5s_s:=by
 refine ⟨fok Tryz.func64 (by kernel_rfl) (by kernel_rfl),?_⟩
 intro xs pre r h hp
 unfold rc5s_s at h
 split at h
 ·simp only [Option.some.injEq,Prod.mk.injEq] at h
  obtain ⟨h1,h2⟩:=h
  subst h1 h2
  exact fnK_sound tyNil (by exact specOK rfl rfl ⟨(rc5_ok gl),trivial⟩ trivial) (by kernel_rfl) Tryz.func64 rfl (rc5s_v gl _ _ hp)
 ·cases h
def rc6X_s:Sp
 | [.sl 3 f xs,.fn 68 []]=>some (StsP xs,.int .i64 (idxP p4R xs))
 | _=>none
def rc6X_T:Prop :=
  ∀ (f:Bool) (xs:List (List AV)),StsP xs→True→True→(∃ x,IdxI p4R xs x∧(((bif f then f=true else True)∧xs=xs)∧True∧(↑xs.length:Int)=(↑xs.length:Int)∧(0
 :Int)=x∧True)∧True)∧∀ (x:Int),IdxI p4R xs x→bif decide (x < (↑xs.length:Int)) then bif decide ((0:Int)≤x∧x < (↑xs.length:Int)) then ∃ n s xs_1,List.take
  [AV.int IntKind.i64 n,AV.str s,AV.sl (7:Nat) false xs_1].length (xs.getD x.toNat [])=[AV.int IntKind.i64 n,AV.str s,AV.sl (7:Nat) false xs_1]∧PdsP xs_1∧bif xs_1.any
  (bdP n) then x=idxP p4R xs else bif decide (rng IntKind.i64 (x+(1:Int))) then ∃ y,IdxI p4R xs y∧(rxL (68:Nat) (3:Nat) p4R f xs [] []).m y < (rxL (68:Nat) (3:Nat)
  p4R f xs [] []).m x∧(((bif f then f=true else True)∧xs=xs)∧True∧(↑xs.length:Int)=(↑xs.length:Int)∧x+(1:Int)=y∧True)∧True else False else False else
  (-1:Int)=idxP p4R xs
theorem rc6X_P:rc6X_T:=by
 unfold rc6X_T
 intro f xs hp
 intros
 have bf:cond f (f=true) True:=by cases f <;> trivial
 have hs:=hp.fs
 refine ⟨⟨0,⟨by decide,by omega,fun j h=>by omega⟩,by (repeat' (first | exact trivial | exact rfl | assumption | apply And.intro))⟩,?_⟩
 rintro i ⟨h0,h1,hn⟩
 have ei:((i.toNat:Nat):Int)=i:=by omega
 refine cs (fun hl=>?_) (fun hl=>?_)
 ·obtain ⟨k,nm,ps,he,hq⟩:=hp.fr i.toNat (by omega)
  refine cd1 ⟨h0,hl⟩ ⟨k,nm,ps,by rw [he]; rfl,hq,csplit (fun q=>?_) (fun q=>?_)⟩
  ·have:=idx_some (p:=p4R) (xs:=xs) (i:=i.toNat) (by omega) (by rw [he]; exact q) (fun j hj=>hn j (by omega))
   exact ei.symm.trans this
  ·refine cdI (by omega) ⟨i+1,⟨by omega,by omega,fun j hj=>?_⟩,by simp only [rxL]; omega,by (repeat' (first | exact trivial | exact rfl | assumption | apply And.intro))⟩
   rcases Nat.lt_or_ge j i.toNat with k | k
   ·exact hn j (by omega)
   ·rw [show j=i.toNat by omega,he]; exact q
 ·exact idx_none fun j hj=>hn j (by omega)
def rc6X_S:Prop:=∀ (f:Bool) (xs:List (List AV)),StsP xs→fnK Tryz.prog { glob:=glb,spec:=lk [(68,rg4_s)],specH:=lk [],shape:=[15],slz:=[(15,[7])],nowf:=true } { nt:=19,drop:=drp [(1,64),(3,1024),(4,63488),(5,131072),(6,262144)] } (invs [(2,rxL 68 3 p4R f xs [] [])]) 6 Tryz.f122 [.sl 3 f xs,.fn 68 []] (.int .i64 (idxP p4R xs))
theorem rc6X_e:rc6X_T=rc6X_S:=by kernel_rfl
theorem rc6X_v:rc6X_S:=Eq.mp (rc6X_e ..) (rc6X_P)
theorem rc6X_ok:SOK Tryz.prog glb 122 rc6X_s:=by
 refine ⟨fok Tryz.func122 (by kernel_rfl) (by kernel_rfl),?_⟩
 intro xs pre r h hp
 unfold rc6X_s at h
 split at h
 ·simp only [Option.some.injEq,Prod.mk.injEq] at h
  obtain ⟨h1,h2⟩:=h
  subst h1 h2
  exact fnK_sound tyNil (by exact specOK rfl rfl ⟨(rg4_ok),trivial⟩ trivial) (by kernel_rfl) Tryz.func122 rfl (rc6X_v  _ _ hp)
 ·cases h
def rc6_s:Sp
 | [.sl 3 f xs,.fn 68 []]=>some (StsP xs,.bool (xs.any p4R))
 | _=>none
def rc6_T:Prop :=
 ∀ (f:Bool) (xs:List (List AV)),StsP xs→True→True→StsP xs∧decide ((0:Int)≤idxP p4R xs)=xs.any p4R
theorem rc6_P:rc6_T:=by
 unfold rc6_T
 intro f xs hp
 intros
 exact ⟨hp,idx_ge⟩
def rc6_S:Prop:=∀ (f:Bool) (xs:List (List AV)),StsP xs→fnK Tryz.prog { glob:=glb,spec:=lk [(122,rc6X_s)],specH:=lk [],nowf:=true } { nt:=9,drop:=drp [(1,480)] } (fun _ _=>none) 6 Tryz.f106 [.sl 3 f xs,.fn 68 []] (.bool (xs.any p4R))
theorem rc6_e:rc6_T=rc6_S:=by kernel_rfl
theorem rc6_v:rc6_S:=Eq.mp (rc6_e ..) (rc6_P)
theorem rc6_ok:SOK Tryz.prog glb 106 rc6_s:=by
 refine ⟨fok Tryz.func106 (by kernel_rfl) (by kernel_rfl),?_⟩
 intro xs pre r h hp
 unfold rc6_s at h
 split at h
 ·simp only [Option.some.injEq,Prod.mk.injEq] at h
  obtain ⟨h1,h2⟩:=h
  subst h1 h2
  exact fnK_sound tyNil (by exact specOK rfl rfl ⟨(rc6X_ok),trivial⟩ trivial) (by kernel_rfl) Tryz.func106 rfl (rc6_v  _ _ hp)
 ·cases h
def rc6s_s:Sp
 | [.agg [.sl 3 f xs],.fn 68 []]=>some (StsP xs,.bool (xs.any p4R))
 | _=>none
def rc6s_T:Prop :=
 ∀ (f:Bool) (xs:List (List AV)),StsP xs→True∧True→True→StsP xs∧xs.any p4R=xs.any p4R
theorem rc6s_P:rc6s_T:=by
 unfold rc6s_T
 intro f xs hp
 intros
 exact ⟨hp,rfl⟩
def rc6s_S:Prop:=∀ (f:Bool) (xs:List (List AV)),StsP xs→fnK Tryz.prog { glob:=glb,spec:=lk [(106,rc6_s)],specH:=lk [],nowf:=true } { nt:=9,drop:=drp [(1,480)] } (fun _ _=>none) 6 Tryz.f64 [.agg [.sl 3 f xs],.fn 68 []] (.bool (xs.any p4R))
theorem rc6s_e:rc6s_T=rc6s_S:=by kernel_rfl
theorem rc6s_v:rc6s_S:=Eq.mp (rc6s_e ..) (rc6s_P)
theorem rc6s_ok:SOK Tryz.prog glb 64 rc6s_s:=by
 refine ⟨fok Tryz.func64 (by kernel_rfl) (by kernel_rfl),?_⟩
 intro xs pre r h hp
 unfold rc6s_s at h
 split at h
 ·simp only [Option.some.injEq,Prod.mk.injEq] at h
  obtain ⟨h1,h2⟩:=h
  subst h1 h2
  exact fnK_sound tyNil (by exact specOK rfl rfl ⟨(rc6_ok),trivial⟩ trivial) (by kernel_rfl) Tryz.func64 rfl (rc6s_v  _ _ hp)
 ·cases h
def snO (l:LLR):Bool:=decide (∀ j,j < l.length→j=0∨Op.bytesLess (sNm (l.getD (j - 1) [])).toList (sNm (l.getD j [])).toList=true)
def rgV (l:LLR):Int:=if 60 < (l.length:Int)∨l.any p1R=true then 2 else if l.any p2R=true then 4 else if l.any p3R=true then 3 else if l.any p4R=true then 1 else if l.any p5R=true then 8 else if snO l=true then 0 else 8
structure SnI (l:LLR) (i:Int):Prop where
 lo:1≤i
 hi:i≤l.length∨i=1
 asc:∀ j:Nat,(j:Int) < i→j < l.length→j=0∨Op.bytesLess (sNm (l.getD (j - 1) [])).toList (sNm (l.getD j [])).toList=true
def vl12 (l:LLR) (g:Bool):LInv:=⟨Int,fun i=>⟨[(1,.ptr 1 0),(3,.int .i64 i)],[(1,.cells [.sl 3 g l])]⟩,SnI l,fun i=>(l.length+1 - i).toNat,none⟩
def gvalidR_s (rgV:LLR→Int) (p1R:List AV→Bool) (p2R:List AV→Bool) (p3R:List AV→Bool) (p4R:List AV→Bool) (p5R:List AV→Bool):Sp
 | [.agg [.sl 3 g l]]=>some (StsP l,.int .i64 (rgV l))
 | _=>none
def gvalidR_T (rgV:LLR→Int) (p1R:List AV→Bool) (p2R:List AV→Bool) (p3R:List AV→Bool) (p4R:List AV→Bool) (p5R:List AV→Bool):Prop :=
 ∀ (g:Bool) (l:List (List AV)),StsP l→True∧True→bif decide ((60:Int) < (↑l.length:Int)) then (2:Int)=rgV l else StsP l∧bif l.any YtldiagnbagpliaaGreatDoor.p1R
 then (2:Int)=rgV l else StsP l∧bif l.any YtldiagnbagpliaaGreatDoor.p2R then (4:Int)=rgV l else StsP l∧bif l.any YtldiagnbagpliaaGreatDoor.p3R then (3:Int)=rgV l
 else StsP l∧bif l.any YtldiagnbagpliaaGreatDoor.p4R then (1:Int)=rgV l else StsP l∧bif l.any YtldiagnbagpliaaGreatDoor.p5R then (8:Int)=rgV l else (∃ x,SnI l x∧((0 :
 Nat)=(0:Nat)∧(1:Int)=x∧True)∧(((bif g then g=true else True)∧l=l)∧True)∧True)∧∀ (x:Int),SnI l x→bif decide (x < (↑l.length:Int)) then bif decide
 (rng IntKind.i64 (x - (1:Int))) then bif decide ((0:Int)≤x - (1:Int)∧x - (1:Int) < (↑l.length:Int)) then ∃ s,List.take [AV.str s].length (List.drop (1:Nat) (l.getD
 (x - (1:Int)).toNat []))=[AV.str s]∧bif decide ((0:Int)≤x∧x < (↑l.length:Int)) then ∃ s_1,List.take [AV.str s_1].length (List.drop (1:Nat) (l.getD x.toNat [])) =
 [AV.str s_1]∧bif !Op.bytesLess s.toList s_1.toList then (8:Int)=rgV l else bif decide (rng IntKind.i64 (x+(1:Int))) then ∃ y,SnI l y∧(vl12 l g).m y < (vl12 l g).m x ∧
 ((0:Nat)=(0:Nat)∧x+(1:Int)=y∧True)∧(((bif g then g=true else True)∧l=l)∧True)∧True else False else False else False else False else (0:Int)=rgV l
theorem gvalidR_P:gvalidR_T rgV p1R p2R p3R p4R p5R:=by
 unfold gvalidR_T
 intro g l hp _
 have hs:=hp.fs
 have bg:cond g (g=true) True:=by cases g <;> trivial
 have nt:∀ {b:Bool},b=false→¬ b=true:=fun h=>by rw [h]; decide
 refine csx (fun q=>by unfold rgV; rw [if_pos (.inl q)]) (fun q=>⟨hp,csplit (fun q1=>by unfold rgV; rw [if_pos (.inr q1)]) (fun q1=>?_)⟩)
 have e1:rgV l=if l.any p2R=true then 4 else if l.any p3R=true then 3 else if l.any p4R=true then 1 else if l.any p5R=true then 8 else if snO l=true then 0 else 8:=by unfold rgV; rw [if_neg (fun h=>h.elim q (nt q1))]
 rw [e1]
 refine ⟨hp,csplit (fun q2=>by rw [if_pos q2]) (fun q2=>⟨hp,csplit (fun q3=>by rw [if_neg (nt q2),if_pos q3]) (fun q3=>⟨hp,csplit (fun q4=>by rw [if_neg (nt q2),if_neg (nt q3),if_pos q4]) (fun q4=>⟨hp,csplit (fun q5=>by rw [if_neg (nt q2),if_neg (nt q3),if_neg (nt q4),if_pos q5]) (fun q5=>?_)⟩)⟩)⟩)⟩
 rw [if_neg (nt q2),if_neg (nt q3),if_neg (nt q4),if_neg (nt q5)]
 refine ⟨⟨1,⟨by decide,.inr rfl,fun j hj _=>.inl (by omega)⟩,by (repeat' (first | exact trivial | exact rfl | assumption | apply And.intro))⟩,?_⟩
 rintro i ⟨h0,h2,hn⟩
 refine csx (fun hl=>cdI (by omega) (cd1 (by omega) ?_)) (fun hl=>?_)
 ·obtain ⟨_,e,_,he,_⟩:=hp.fr (i - 1).toNat (by omega)
  obtain ⟨_,e',_,he',_⟩:=hp.fr i.toNat (by omega)
  have hi:i.toNat - 1=(i - 1).toNat:=by omega
  have q1:sNm (l.getD (i.toNat - 1) [])=e:=by rw [hi,he]; rfl
  have q2:sNm (l.getD i.toNat [])=e':=by rw [he']; rfl
  refine ⟨e,by rw [he]; rfl,cd1 (by omega) ⟨e',by rw [he']; rfl,csplit (fun q=>?_) (fun q=>cdI (by omega) ⟨i+1,⟨by omega,.inl (by omega),fun j hj hlj=>?_⟩,by simp only [vl12]; omega,by (repeat' (first | exact trivial | exact rfl | assumption | apply And.intro))⟩)⟩⟩
  ·rw [if_neg]
   intro h
   rcases of_decide_eq_true h i.toNat (by omega) with k | k
   ·omega
   ·rw [q1,q2] at k; rw [k] at q; cases q
  ·rcases Nat.lt_or_ge j i.toNat with k | k
   ·exact hn j (by omega) hlj
   ·rw [show j=i.toNat by omega,q1,q2]; exact .inr (by simpa using q)
 ·rw [if_pos]
  exact decide_eq_true fun j hj=>hn j (by omega) hj
def gvalidR_S (rgV:LLR→Int) (p1R:List AV→Bool) (p2R:List AV→Bool) (p3R:List AV→Bool) (p4R:List AV→Bool) (p5R:List AV→Bool):Prop:=∀ (g:Bool) (l:List (List AV)),StsP l→fnK Tryz.prog { glob:=glb,spec:=lk [(64,(orSp rc1s_s (orSp rc2s_s (orSp rc3s_s (orSp rc5s_s rc6s_s)))))],specH:=lk [],shape:=[38,44],nowf:=true } { nt:=46,drop:=drp [(1,8160),(3,49152),(5,393216),(7,3145728),(9,25165824),(12,503316480),(13,3221225472),(14,35180077121536)] } (invs [(12,vl12 l g)]) 6 Tryz.f28 [.agg [.sl 3 g l]] (.int .i64 (rgV l))
theorem gvalidR_e (rgV:LLR→Int) (p1R:List AV→Bool) (p2R:List AV→Bool) (p3R:List AV→Bool) (p4R:List AV→Bool) (p5R:List AV→Bool):gvalidR_T rgV p1R p2R p3R p4R p5R=gvalidR_S rgV p1R p2R p3R p4R p5R:=by kernel_rfl
theorem gvalidR_v:gvalidR_S rgV p1R p2R p3R p4R p5R:=Eq.mp (gvalidR_e ..) (gvalidR_P)
theorem gvalidR_ok:SOK Tryz.prog glb 28 (gvalidR_s rgV p1R p2R p3R p4R p5R):=by
 refine ⟨fok Tryz.func28 (by kernel_rfl) (by kernel_rfl),?_⟩
 intro xs pre r h hp
 unfold gvalidR_s at h
 split at h
 ·simp only [Option.some.injEq,Prod.mk.injEq] at h
  obtain ⟨h1,h2⟩:=h
  subst h1 h2
  exact fnK_sound tyNil (by exact specOK rfl rfl ⟨(SOK.or (rc1s_ok glb) (SOK.or (rc2s_ok glb) (SOK.or (rc3s_ok glb) (SOK.or (rc5s_ok glb) (rc6s_ok))))),trivial⟩ trivial) (by kernel_rfl) Tryz.func28 rfl (gvalidR_v  _ _ hp)
 ·cases h
end Go.Proofs.YtldiagnbagpliaaGreatDoor
namespace Go.Proofs.YtldiagnbagpliaaGreatDoor
open Go
set_option linter.unusedVariables false
set_option linter.unusedSimpArgs false
def unR (bs:LLR) (r:List AV):List AV:=[.int .i64 (rE r),.int .i64 (IntKind.i64.wrap (rV r - fdV bs (rE r)))]
def ckZ (r:List AV):Bool:=decide (ck (rE r) (rV r)=0)
def unb (rd bs:LLR):LLR:=(rd.map (unR bs)).filter ckZ
theorem unR_e (bs:LLR) (r:List AV):rE (unR bs r)=rE r:=rfl
theorem unR_v (bs:LLR) (r:List AV):rV (unR bs r)=IntKind.i64.wrap (rV r - fdV bs (rE r)):=rfl
theorem gD_lt {xs:LLR} {i:Nat} (h:i < xs.length):xs.getD i []=xs[i]:=by
 rw [List.getD_eq_getElem?_getD,List.getElem?_eq_getElem h]; rfl
theorem ck_cases (e v:Int):ck e v=0∨ck e v=1∨ck e v=4:=by
 unfold ck
 split
 ·split
  ·exact .inr (.inl rfl)
  ·exact .inl rfl
 ·exact .inr (.inr rfl)
abbrev AscP (xs:LLR):Prop:=xs.Pairwise (fun a b=>rE a < rE b)
theorem asc_step {xs:LLR} (h:ascB xs=true):∀ (d i:Nat),i+d+1 < xs.length→rE (xs.getD i []) < rE (xs.getD (i+d+1) [])
 | 0,i,hi=>by
  rcases of_decide_eq_true h (i+1) hi with q | q
  ·omega
  ·simpa using q
 | d+1,i,hi=>by
  have h1:=asc_step h d i (by omega)
  rcases of_decide_eq_true h (i+d+1+1) (by omega) with q | q
  ·omega
  ·simp only [Nat.add_sub_cancel] at q
   rw [show i+(d+1)+1=i+d+1+1 by omega]
   exact Int.lt_trans h1 q
theorem asc_pw {xs:LLR}:ascB xs=true↔AscP xs:=by
 constructor
 ·intro h
  rw [AscP,List.pairwise_iff_getElem]
  intro i j hi hj hij
  have:=asc_step h (j - i - 1) i (by omega)
  rw [show i+(j - i - 1)+1=j by omega,gD_lt hi,gD_lt hj] at this
  exact this
 ·intro h
  rw [AscP,List.pairwise_iff_getElem] at h
  refine decide_eq_true fun j hj=>?_
  by_cases hz:j=0
  ·exact .inl hz
  ·refine .inr ?_
   rw [gD_lt hj,gD_lt (show j - 1 < xs.length by omega)]
   exact h (j - 1) j (by omega) hj (by omega)
theorem vd_zero {xs:LLR}:vdE xs=0↔(∀ r ∈ xs,ck (rE r) (rV r)=0)∧AscP xs:=by
 unfold vdE
 rw [← asc_pw]
 constructor
 ·intro h
  split at h
  ·cases h
  ·next h4 =>
   split at h
   ·cases h
   ·next h1 =>
    split at h
    ·next ha =>
     refine ⟨fun r hr=>?_,ha⟩
     rcases ck_cases (rE r) (rV r) with e | e | e
     ·exact e
     ·exact absurd (List.any_eq_true.2 ⟨r,hr,decide_eq_true e⟩) h1
     ·exact absurd (List.any_eq_true.2 ⟨r,hr,decide_eq_true e⟩) h4
    ·cases h
 ·rintro ⟨h,ha⟩
  have nk:∀ n,n≠0→ckA n xs=false:=fun n hn=>by
   unfold ckA
   rw [List.any_eq_false]
   intro r hr q
   have:=of_decide_eq_true q
   rw [h r hr] at this
   exact hn this.symm
  rw [nk 4 (by decide),nk 1 (by decide),ha]; rfl
theorem fdB_any {xs:LLR} {c:Int}:fdB xs c=xs.any (cdP c):=idx_ge
theorem fd_mem {xs:LLR} (ha:AscP xs) {r:List AV} (hr:r ∈ xs):fdB xs (rE r)=true∧fdV xs (rE r)=rV r:=by
 have hb:fdB xs (rE r)=true:=by rw [fdB_any]; exact List.any_eq_true.2 ⟨r,hr,decide_eq_true rfl⟩
 refine ⟨hb,?_⟩
 unfold fdV
 rw [if_pos hb]
 obtain ⟨i,hi,rfl⟩:=List.mem_iff_getElem.1 hr
 rw [AscP,List.pairwise_iff_getElem] at ha
 have:(i:Int)=idxP (cdP (rE xs[i])) xs:=idx_some hi (by rw [gD_lt hi]; exact decide_eq_true rfl) (fun j hj=>by
  rw [gD_lt (by omega)]
  have:=ha j i (by omega) hi hj
  exact decide_eq_false (by omega))
 show rV (xs.getD (cdI' (rE xs[i]) xs).toNat [])=_
 unfold cdI'
 rw [← this,Int.toNat_natCast,gD_lt hi]
theorem fd_has {xs:LLR} {c:Int} (h:fdB xs c=true):∃ r ∈ xs,rE r=c:=by
 rw [fdB_any] at h
 obtain ⟨r,hr,hc⟩:=List.any_eq_true.1 h
 exact ⟨r,hr,of_decide_eq_true hc⟩
theorem fd_no {xs:LLR} {c:Int} (h:fdB xs c=false):fdV xs c=0:=by unfold fdV; rw [h]; rfl
theorem unb_mem {rd bs:LLR} {r:List AV}:r ∈ unb rd bs↔∃ q ∈ rd,unR bs q=r∧ck (rE r) (rV r)=0:=by
 unfold unb
 rw [List.mem_filter,List.mem_map]
 constructor
 ·rintro ⟨⟨q,hq,e⟩,h⟩
  exact ⟨q,hq,e,of_decide_eq_true h⟩
 ·rintro ⟨q,hq,e,h⟩
  exact ⟨⟨q,hq,e⟩,decide_eq_true h⟩
theorem unb_asc {rd bs:LLR} (h:AscP rd):AscP (unb rd bs):=by
 unfold unb
 refine List.Pairwise.filter _ ?_
 rw [List.pairwise_map]
 exact h
theorem unb_ok {rd bs:LLR} (h:vdE rd=0):vdE (unb rd bs)=0 :=
 vd_zero.2 ⟨fun r hr=>by obtain ⟨_,_,_,e⟩:=unb_mem.1 hr; exact e,unb_asc (vd_zero.1 h).2⟩
theorem unb_is {rd bs:LLR} {c:Int} (h:vdE rd=0) (hu:fdB (unb rd bs) c=true):fdB rd c=true∧IntKind.i64.wrap (fdV rd c - fdV bs c)=fdV (unb rd bs) c:=by
 obtain ⟨r,hr,rfl⟩:=fd_has hu
 obtain ⟨q,hq,rfl,_⟩:=unb_mem.1 hr
 have h1:=fd_mem (vd_zero.1 h).2 hq
 have h2:=fd_mem (unb_asc (bs:=bs) (vd_zero.1 h).2) hr
 rw [unR_e] at *
 rw [h2.2,h1.2,unR_v]
 exact ⟨h1.1,rfl⟩
theorem unb_not {rd bs:LLR} {c:Int} (h:vdE rd=0) (hp:RdsP rd) (ho:fdB rd c=true) (hu:fdB (unb rd bs) c=false):fdB bs c=true∧fdV bs c≠0:=by
 have key:fdV bs c≠0:=fun hz=>by
  obtain ⟨r,hr,rfl⟩:=fd_has ho
  have hm:unR bs r ∈ unb rd bs:=by
   refine unb_mem.2 ⟨r,hr,rfl,?_⟩
   rw [unR_e,unR_v,hz,Int.sub_zero]
   obtain ⟨i,hi,e⟩:=List.mem_iff_getElem.1 hr
   obtain ⟨a,b,e1,_,e3⟩:=hp.row i hi
   rw [gD_lt hi,e] at e1
   have:IntKind.i64.wrap (rV r)=rV r:=by rw [e1]; exact wrap_eq e3
   rw [this]
   exact (vd_zero.1 h).1 r hr
  have:=(fd_mem (unb_asc (bs:=bs) (vd_zero.1 h).2) hm).1
  rw [unR_e,hu] at this
  cases this
 refine ⟨?_,key⟩
 cases hb:fdB bs c with
 | true=>rfl
 | false=>exact absurd (fd_no hb) key
theorem unb_take {rd bs:LLR} {i:Nat} (hi:i < rd.length):unb (rd.take (i+1)) bs=if ck (rE (rd.getD i [])) (IntKind.i64.wrap (rV (rd.getD i []) - fdV bs (rE (rd.getD i []))))=0 then unb (rd.take i) bs++[unR bs (rd.getD i [])] else unb (rd.take i) bs:=by
 unfold unb
 rw [List.take_add_one,List.getElem?_eq_getElem hi,gD_lt hi,Option.toList_some,List.map_append,List.filter_append]
 show _++(List.filter ckZ [unR bs rd[i]])=_
 by_cases h:ck (rE rd[i]) (IntKind.i64.wrap (rV rd[i] - fdV bs (rE rd[i])))=0
 ·rw [if_pos h,List.filter_cons_of_pos (show ckZ (unR bs rd[i])=true from decide_eq_true h)]; rfl
 ·rw [if_neg h,List.filter_cons_of_neg (show ¬ ckZ (unR bs rd[i])=true from fun q=>h (of_decide_eq_true q)),List.filter_nil,List.append_nil]
theorem unb_len (rd bs:LLR):(unb rd bs).length≤rd.length:=by
 unfold unb
 exact Nat.le_trans (List.length_filter_le _ _) (by rw [List.length_map]; exact Nat.le_refl _)
end Go.Proofs.YtldiagnbagpliaaGreatDoor
