import Derived.Test.YtldiagnbagpliaaDoorRCe
set_option maxRecDepth 100000
namespace Go.Proofs.YtldiagnbagpliaaDoor
open Go
set_option linter.unusedVariables false
set_option linter.unusedSimpArgs false
def rxL (k s:Nat) (p:List AV→Bool) (f:Bool) (xs:List (List AV)) (caps:List AV) (hp:List (Nat × Blk)):LInv:=⟨Int,fun i=>⟨[(0,.sl s f xs),(1,.fn k caps),(7,.int .i64 xs.length),(8,.int .i64 i)],hp⟩,IdxI p xs,fun i=>(xs.length - i).toNat,none⟩
def gexists_s (exK:Int→Bool):Sp
 | [.int .i64 k]=>some (True,.bool (exK k))
 | _=>none
def gexists_T (exK:Int→Bool):Prop :=
 ∀ (gl:Glob) (k:Int),IR9 k→bif decide (1≤k) then decide (k≤(3:Int))=exK k else false=exK k
theorem gexists_P:gexists_T exK:=by
 unfold gexists_T
 intro gl k _
 unfold exK
 exact csx (fun h=>by simp [h]) (fun h=>by simp [h])
def gexists_S (exK:Int→Bool):Prop:=∀ (gl:Glob) (k:Int),fnK Tryd.prog { glob:=gl,spec:=lk [],specH:=lk [],nowf:=true } { nt:=9,drop:=drp [(1,504)] } (fun _ _=>none) 6 Tryd.f17 [.int .i64 k] (.bool (exK k))
theorem gexists_e (exK:Int→Bool):gexists_T exK=gexists_S exK:=by kernel_rfl
theorem gexists_v:gexists_S exK:=Eq.mp (gexists_e ..) (gexists_P)
theorem gexists_ok (gl:Glob):SOK Tryd.prog gl 17 (gexists_s exK):=by
 refine ⟨fok Tryd.func17 (by kernel_rfl) (by kernel_rfl),?_⟩
 intro xs pre r h hp
 unfold gexists_s at h
 split at h
 ·simp only [Option.some.injEq,Prod.mk.injEq] at h
  obtain ⟨h1,h2⟩:=h
  subst h1 h2
  exact fnK_sound tyNil (by exact specOK rfl rfl trivial trivial) (by kernel_rfl) Tryd.func17 rfl (gexists_v gl _)
 ·cases h
def gnormalP_s (nrm:Int→Int→Int→Int→Int × Int × Int × Int) (vld:Int→Int→Int→Int→Bool) (isN:Int→Int→Int→Int→Bool):Sp
 | [.agg [.int .i64 f,.int .i64 a,.int .i64 b,.int .i64 c]]=>some (True,.bool (isN f a b c))
 | _=>none
def gnormalP_T (nrm:Int→Int→Int→Int→Int × Int × Int × Int) (vld:Int→Int→Int→Int→Bool) (isN:Int→Int→Int→Int→Bool):Prop :=
  ∀ (f a b c:Int),(IR9 f)∧(IR9 a)∧(IR9 b)∧(IR9 c)∧True→True∧bif decide (err (vld f a b c)=(0:Int)) then (decide (f=(nrm f a b c).fst)&&(decide (a=(nrm f a b c).snd.fst)&&(decide
 (b=(nrm f a b c).snd.snd.fst)&&(decide (c=(nrm f a b c).snd.snd.snd)&&true))))=isN f a b c else false=isN f a b c
theorem gnormalP_P:gnormalP_T nrm vld isN:=by
 unfold gnormalP_T
 intro f a b c _
 refine ⟨trivial,?_⟩
 unfold isN
 cases vld f a b c with
 | false=>exact rfl
 | true=>exact rfl
def gnormalP_S (nrm:Int→Int→Int→Int→Int × Int × Int × Int) (vld:Int→Int→Int→Int→Bool) (isN:Int→Int→Int→Int→Bool):Prop:=∀ (f a b c:Int),fnK Tryd.prog { glob:=glb,spec:=lk [(73,(normal_s vld nrm))],specH:=lk [],nowf:=true } { nt:=17,drop:=drp [(1,992),(2,130048)],tys:=[27] } (fun _ _=>none) 6 Tryd.f34 [.agg [.int .i64 f,.int .i64 a,.int .i64 b,.int .i64 c]] (.bool (isN f a b c))
theorem gnormalP_e (nrm:Int→Int→Int→Int→Int × Int × Int × Int) (vld:Int→Int→Int→Int→Bool) (isN:Int→Int→Int→Int→Bool):gnormalP_T nrm vld isN=gnormalP_S nrm vld isN:=by kernel_rfl
theorem gnormalP_v:gnormalP_S nrm vld isN:=Eq.mp (gnormalP_e ..) (gnormalP_P)
theorem gnormalP_ok:SOK Tryd.prog glb 34 (gnormalP_s nrm vld isN):=by
 refine ⟨fok Tryd.func34 (by kernel_rfl) (by kernel_rfl),?_⟩
 intro xs pre r h hp
 unfold gnormalP_s at h
 split at h
 ·simp only [Option.some.injEq,Prod.mk.injEq] at h
  obtain ⟨h1,h2⟩:=h
  subst h1 h2
  exact fnK_sound (tyOf (by kernel_rfl)) (by exact specOK rfl rfl ⟨(normal_ok),trivial⟩ trivial) (by kernel_rfl) Tryd.func34 rfl (gnormalP_v  _ _ _ _)
 ·cases h
structure BsV (bs:LLR) (i:Int):Prop where
 flo:0≤i
 fhi:i≤bs.length
 fno:∀ j:Nat,(j:Int) < i→bsX bs j=false
def bv7 (k fr:Int) (cl:Bool) (f a b c:Int) (bs:LLR) (g:Bool):LInv:=⟨Int,fun i=>⟨[(0,.int .i64 k),(3,.ptr 3 0),(5,.bool (nonP f a b c)),(32,.sl 2 g bs),(33,.int .i64 bs.length),(34,.int .i64 i)],[(3,.cells [.int .i64 fr,.bool cl,.int .i64 f,.int .i64 a,.int .i64 b,.int .i64 c,.sl 2 g bs])]⟩,BsV bs,fun i=>(bs.length - i).toNat,none⟩
def gvalidP_s (nrm:Int→Int→Int→Int→Int × Int × Int × Int) (vld:Int→Int→Int→Int→Bool) (isN:Int→Int→Int→Int→Bool) (pdV:Int→Int→Bool→Int→Int→Int→Int→LLR→Bool) (nonP:Int→Int→Int→Int→Bool) (iL:Int→ByteArray) (inLo:Int→Int) (inHi:Int→Int) (inD:Int→Int) (inE:Int→Int):Sp
 | [.int .i64 k,.agg [.int .i64 fr,.bool cl,.int .i64 f,.int .i64 a,.int .i64 b,.int .i64 c,.sl 2 g bs]]=>some (RdsP bs,.bool (pdV k fr cl f a b c bs))
 | _=>none
def gvalidP_T (nrm:Int→Int→Int→Int→Int × Int × Int × Int) (vld:Int→Int→Int→Int→Bool) (isN:Int→Int→Int→Int→Bool) (pdV:Int→Int→Bool→Int→Int→Int→Int→LLR→Bool) (nonP:Int→Int→Int→Int→Bool) (iL:Int→ByteArray) (inLo:Int→Int) (inHi:Int→Int) (inD:Int→Int) (inE:Int→Int):Prop :=
  ∀ (k fr f a b c:Int) (cl g:Bool) (bs:List (List AV)),RdsP bs→IR9 k→(IR9 fr)∧True∧(IR9 f)∧(IR9 a)∧((-9223372036854775808:Int)≤b∧b ≤
 (9223372036854775807:Int))∧(IR9 c)∧True∧True→bif decide (fr < (0:Int)) then false=pdV k fr cl f a b c bs else bif decide (52595999 < fr) then false=pdV k fr cl f a b c bs else bif cl then bif decide (f=(0:Int))&&(decide (a=(0:Int))&&(decide (b=(0:Int))&&(decide (c=(0:Int))&&true))) then decide ((↑bs.length:Int)=(0:Int))=pdV k fr
 cl f a b c bs else false=pdV k fr cl f a b c bs else (∃ x,BsV bs x∧(k=k∧(0:Nat)=0∧(decide (f=(0:Int))&&(decide (a=(0:Int))&&(decide (b=(0:Int))&&(decide (c=(0:Int))&&true))))=YtldiagnbagpliaaDoor.nonP f a b c∧((bif g then g=true else True)∧bs=bs)∧(↑bs.length:Int)=(↑bs.length:Int)∧(0:Int)=x∧True)∧(fr=fr∧cl=cl∧f=f∧a=a∧b=b∧c=c∧((bif g then g=true else True)∧bs=bs)∧True)∧True)∧∀ (x:Int),BsV bs
 x→bif decide (x < (↑bs.length:Int)) then bif decide (0≤x∧x < (↑bs.length:Int)) then ∃ n n_1,List.take [AV.int .i64 n,.int .i64 n_1].length (bs.getD x.toNat [])=[AV.int .i64 n,.int .i64 n_1]∧True∧bif decide ¬inE n=(0:Int) then false=pdV k fr cl f a b c bs else bif decide (1000 < n_1) then false=pdV k fr cl f a b c bs else bif decide (n_1 < (-1000:Int)) then false=pdV k fr cl f a b c bs
 else bif decide (0 < x) then bif decide (rng .i64 (x - (1:Int))) then bif decide (0≤x - (1:Int)∧x - (1:Int) < (↑bs.length:Int)) then ∃ n_2,List.take [AV.int .i64 n_2].length (List.drop (0:Nat) (bs.getD (x - (1:Int)).toNat []))=[AV.int .i64 n_2]∧bif decide (n≤n_2) then false=pdV k fr cl f a b c bs else bif decide (rng .i64 (x+(1:Int))) then ∃ y,BsV bs y∧(bv7 k fr cl f a b c bs g).m
 y < (bv7 k fr cl f a b c bs g).m x∧(k=k∧(0:Nat)=0∧YtldiagnbagpliaaDoor.nonP f a b c=YtldiagnbagpliaaDoor.nonP f a b c∧((bif g then g=true else True)∧bs=bs)∧(↑bs.length:Int)=(↑bs.length:Int)∧x+(1:Int)=y∧True)∧(fr=fr∧cl=cl∧f=f∧a=a∧b=b∧c=c∧((bif g then g=true else True)∧bs=bs)∧True)∧True else False else False else False else bif decide (rng .i64 (x+(1:Int))) then ∃ y,BsV bs y∧(bv7 k fr cl f a b c
 bs g).m y < (bv7 k fr cl f a b c bs g).m x∧(k=k∧(0:Nat)=0∧YtldiagnbagpliaaDoor.nonP f a b c=YtldiagnbagpliaaDoor.nonP f a b c∧((bif g then g=true else True)∧bs=bs)∧(↑bs.length:Int)=(↑bs.length:Int)∧x+(1:Int)=y∧True)∧(fr=fr∧cl=cl∧f=f∧a=a∧b=b∧c=c∧((bif g then g=true else True)∧bs=bs)∧True)∧True else False else False else bif decide (k=(1:Int)) then True∧bif isN f a b c then true=pdV k fr cl f a b c
 bs else bif decide ¬k=(1:Int) then YtldiagnbagpliaaDoor.nonP f a b c=pdV k fr cl f a b c bs else false=pdV k fr cl f a b c bs else bif decide ¬k=(1:Int) then YtldiagnbagpliaaDoor.nonP f a b c=pdV k fr cl f a b c bs else false=pdV k fr cl f a b c bs
theorem gvalidP_P:gvalidP_T nrm vld isN pdV nonP iL inLo inHi inD inE:=by
 unfold gvalidP_T
 intro k fr f a b c cl g bs hp _ _
 have hs:=hp.sm
 have bg:cond g (g=true) True:=by cases g <;> trivial
 have nb:(decide (f=0)&&(decide (a=0)&&(decide (b=0)&&(decide (c=0)&&true))))=nonP f a b c:=by
  unfold nonP
  rw [Bool.eq_iff_iff]; simp
 rw [nb]
 refine csx (fun q=>by unfold pdV; rw [if_pos (.inl q)]) (fun q=>csx (fun q2=>by unfold pdV; rw [if_pos (.inr q2)]) (fun q2=>?_))
 have hv:pdV k fr cl f a b c bs=if cl=true then nonP f a b c&&decide (bs.length=0) else if bsOk bs then (if k=1 then isN f a b c else nonP f a b c) else false:=by unfold pdV; rw [if_neg (by omega)]
 rw [hv]
 refine csplit (fun q3=>?_) (fun q3=>?_)
 ·rw [if_pos q3]
  have el:decide ((bs.length:Int)=0)=decide (bs.length=0):=decide_eq_decide.2 (by omega)
  rw [el]
  refine csplit (fun q4=>?_) (fun q4=>?_)
  ·rw [q4]; rfl
  ·rw [q4]; rfl
 rw [if_neg (by rw [q3]; decide)]
 refine ⟨⟨0,⟨by decide,by omega,fun j h=>by omega⟩,by (repeat' (first | exact trivial | exact rfl | assumption | apply And.intro))⟩,?_⟩
 rintro i ⟨h0,h1,hn⟩
 have bad:i < bs.length→bsX bs i.toNat=true→false=if bsOk bs=true then (if k=1 then isN f a b c else nonP f a b c) else false:=fun hi hx=>by
  rw [if_neg]
  intro h
  have:=of_decide_eq_true h i.toNat (by omega)
  rw [this] at hx; cases hx
 have good:i < bs.length→bsX bs i.toNat=false→BsV bs (i+1):=fun hi hx=>⟨by omega,by omega,fun j hj=>by
  rcases Nat.lt_or_ge j i.toNat with k | k
  ·exact hn j (by omega)
  ·rw [show j=i.toNat by omega]; exact hx⟩
 refine csx (fun hi=>cd1 (by omega) ?_) (fun hi=>?_)
 ·obtain ⟨e,v,he,_,_⟩:=hp.row i.toNat (by omega)
  have X:bsX bs i.toNat=(!(okC e)||(decide (1000 < v)||(decide (v < -1000)||(decide (0 < i.toNat)&&decide (e≤rE (bs.getD (i.toNat - 1) [])))))):=by unfold bsX; rw [he]; rfl
  have hE:inE e=0↔okC e=true:=by unfold inE; cases okC e <;> simp
  refine ⟨e,v,by rw [he]; rfl,trivial,csx (fun q=>bad hi ?_) (fun q=>csx (fun q2=>bad hi ?_) (fun q2=>csx (fun q3=>bad hi ?_) (fun q3=>csx (fun q4=>cdI (by omega) (cd1 (by omega) ?_)) (fun q4=>cdI (by omega) ⟨i+1,good hi ?_,by simp only [bv7]; omega,by (repeat' (first | exact trivial | exact rfl | assumption | apply And.intro))⟩))))⟩
  ·have:okC e=false:=by
    cases h:okC e with
    | false=>rfl
    | true=>exact absurd (hE.2 h) q
   rw [X,this]; rfl
  ·rw [X,decide_eq_true q2]; simp
  ·rw [X,decide_eq_true q3]; simp
  ·obtain ⟨e',v',he',_,_⟩:=hp.row (i - 1).toNat (by omega)
   have P:rE (bs.getD (i.toNat - 1) [])=e':=by rw [show i.toNat - 1=(i - 1).toNat by omega,he']; rfl
   refine ⟨e',by rw [he']; rfl,csx (fun q5=>bad hi ?_) (fun q5=>cdI (by omega) ⟨i+1,good hi ?_,by simp only [bv7]; omega,by (repeat' (first | exact trivial | exact rfl | assumption | apply And.intro))⟩)⟩
   ·rw [X,P,decide_eq_true q5,decide_eq_true (show 0 < i.toNat by omega)]; simp
   ·rw [X,P,decide_eq_false q5,decide_eq_false q3,decide_eq_false q2,hE.1 (Decidable.not_not.1 q)]; simp
  ·rw [X,decide_eq_false (show ¬ 0 < i.toNat by omega),decide_eq_false q3,decide_eq_false q2,hE.1 (Decidable.not_not.1 q)]; simp
 ·have ok:bsOk bs=true:=decide_eq_true fun j hj=>hn j (by omega)
  rw [if_pos ok]
  refine csx (fun q4=>⟨trivial,csplit (fun q5=>?_) (fun q5=>csx (fun q6=>absurd q4 q6) (fun q6=>?_))⟩) (fun q4=>csx (fun q6=>?_) (fun q6=>absurd q4 q6))
  ·rw [if_pos q4,q5]
  ·rw [if_pos q4,q5]
  ·rw [if_neg q4]
def gvalidP_S (nrm:Int→Int→Int→Int→Int × Int × Int × Int) (vld:Int→Int→Int→Int→Bool) (isN:Int→Int→Int→Int→Bool) (pdV:Int→Int→Bool→Int→Int→Int→Int→LLR→Bool) (nonP:Int→Int→Int→Int→Bool) (iL:Int→ByteArray) (inLo:Int→Int) (inHi:Int→Int) (inD:Int→Int) (inE:Int→Int):Prop:=∀ (k fr f a b c:Int) (cl g:Bool) (bs:List (List AV)),RdsP bs→fnK Tryd.prog { glob:=glb,spec:=lk [(34,(gnormalP_s nrm vld isN)),(47,(edesc_s iL inLo inHi inD inE))],specH:=lk [],shape:=[38,67],nowf:=true } { nt:=88,drop:=drp [(1,130048),(3,3932160),(4,4194304),(5,2130706432),(6,2147483648),(8,481036337152),(9,34634616275200),(10,4722366447685273124864),(12,9444732965739290427392),(13,309466120355413590143926272)],tys:=[27] } (invs [(7,bv7 k fr cl f a b c bs g)]) 6 Tryd.f19 [.int .i64 k,.agg [.int .i64 fr,.bool cl,.int .i64 f,.int .i64 a,.int .i64 b,.int .i64 c,.sl 2 g bs]] (.bool (pdV k fr cl f a b c bs))
theorem gvalidP_e (nrm:Int→Int→Int→Int→Int × Int × Int × Int) (vld:Int→Int→Int→Int→Bool) (isN:Int→Int→Int→Int→Bool) (pdV:Int→Int→Bool→Int→Int→Int→Int→LLR→Bool) (nonP:Int→Int→Int→Int→Bool) (iL:Int→ByteArray) (inLo:Int→Int) (inHi:Int→Int) (inD:Int→Int) (inE:Int→Int):gvalidP_T nrm vld isN pdV nonP iL inLo inHi inD inE=gvalidP_S nrm vld isN pdV nonP iL inLo inHi inD inE:=by kernel_rfl
theorem gvalidP_v:gvalidP_S nrm vld isN pdV nonP iL inLo inHi inD inE:=Eq.mp (gvalidP_e ..) (gvalidP_P)
theorem gvalidP_ok:SOK Tryd.prog glb 19 (gvalidP_s nrm vld isN pdV nonP iL inLo inHi inD inE):=by
 refine ⟨fok Tryd.func19 (by kernel_rfl) (by kernel_rfl),?_⟩
 intro xs pre r h hp
 unfold gvalidP_s at h
 split at h
 ·simp only [Option.some.injEq,Prod.mk.injEq] at h
  obtain ⟨h1,h2⟩:=h
  subst h1 h2
  exact fnK_sound (tyOf (by kernel_rfl)) (by exact specOK rfl rfl ⟨(gnormalP_ok),(edesc_ok),trivial⟩ trivial) (by kernel_rfl) Tryd.func19 rfl (gvalidP_v  _ _ _ _ _ _ _ _ _ hp)
 ·cases h
def rg1_s (s1B:LLR→Bool):Sp
 | [.agg [.int .i64 k,.str nm,.sl 7 false ps]]=>some (PdsP ps,.bool (s1B ps))
 | _=>none
def rg1_T (s1B:LLR→Bool):Prop :=
 ∀ (gl:Glob) (k:Int) (nm:ByteArray) (ps:List (List AV)),PdsP ps→(IR9 k)∧nm.size.le (9223372036854775807:Nat)∧True∧True→bif decide ((↑ps.length:Int)=(0:Int)) then true=s1B ps else decide ((8:Int) < (↑ps.length:Int))=s1B ps
theorem rg1_P:rg1_T s1B:=by
 unfold rg1_T
 intro gl k nm ps hp _
 unfold s1B
 exact csx (fun q=>by rw [decide_eq_true (show ps.length=0 by omega)]; rfl) (fun q=>by rw [decide_eq_false (show ¬ ps.length=0 by omega),Bool.false_or])
def rg1_S (s1B:LLR→Bool):Prop:=∀ (gl:Glob) (k:Int) (nm:ByteArray) (ps:List (List AV)),PdsP ps→fnK Tryd.prog { glob:=gl,spec:=lk [],specH:=lk [],nowf:=true } { nt:=13,drop:=drp [(1,8184)] } (fun _ _=>none) 6 Tryd.f38 [.agg [.int .i64 k,.str nm,.sl 7 false ps]] (.bool (s1B ps))
theorem rg1_e (s1B:LLR→Bool):rg1_T s1B=rg1_S s1B:=by kernel_rfl
theorem rg1_v:rg1_S s1B:=Eq.mp (rg1_e ..) (rg1_P)
theorem rg1_ok (gl:Glob):SOK Tryd.prog gl 38 (rg1_s s1B):=by
 refine ⟨fok Tryd.func38 (by kernel_rfl) (by kernel_rfl),?_⟩
 intro xs pre r h hp
 unfold rg1_s at h
 split at h
 ·simp only [Option.some.injEq,Prod.mk.injEq] at h
  obtain ⟨h1,h2⟩:=h
  subst h1 h2
  exact fnK_sound tyNil (by exact specOK rfl rfl trivial trivial) (by kernel_rfl) Tryd.func38 rfl (rg1_v gl _ _ _ hp)
 ·cases h
def rg2_s (exK:Int→Bool):Sp
 | [.agg [.int .i64 k,.str nm,.sl 7 false ps]]=>some (True,.bool (!(exK k)))
 | _=>none
def rg2_T (exK:Int→Bool):Prop :=
 ∀ (gl:Glob) (k:Int) (nm:ByteArray) (ps:List (List AV)),(IR9 k)∧nm.size.le (9223372036854775807:Nat)∧True∧True→True∧(!exK k)=!exK k
theorem rg2_P:rg2_T exK:=by
 unfold rg2_T
 intro gl k nm ps _
 exact ⟨trivial,rfl⟩
def rg2_S (exK:Int→Bool):Prop:=∀ (gl:Glob) (k:Int) (nm:ByteArray) (ps:List (List AV)),fnK Tryd.prog { glob:=gl,spec:=lk [(17,(gexists_s exK))],specH:=lk [],nowf:=true } { nt:=7,drop:=drp [(1,120)] } (fun _ _=>none) 6 Tryd.f39 [.agg [.int .i64 k,.str nm,.sl 7 false ps]] (.bool (!(exK k)))
theorem rg2_e (exK:Int→Bool):rg2_T exK=rg2_S exK:=by kernel_rfl
theorem rg2_v:rg2_S exK:=Eq.mp (rg2_e ..) (rg2_P)
theorem rg2_ok (gl:Glob):SOK Tryd.prog gl 39 (rg2_s exK):=by
 refine ⟨fok Tryd.func39 (by kernel_rfl) (by kernel_rfl),?_⟩
 intro xs pre r h hp
 unfold rg2_s at h
 split at h
 ·simp only [Option.some.injEq,Prod.mk.injEq] at h
  obtain ⟨h1,h2⟩:=h
  subst h1 h2
  exact fnK_sound tyNil (by exact specOK rfl rfl ⟨(gexists_ok gl),trivial⟩ trivial) (by kernel_rfl) Tryd.func39 rfl (rg2_v gl _ _ _)
 ·cases h
def rg3_s (nmOk:ByteArray→Bool):Sp
 | [.agg [.int .i64 k,.str nm,.sl 7 false ps]]=>some (True,.bool (!(nmOk nm)))
 | _=>none
def rg3_T (nmOk:ByteArray→Bool):Prop :=
 ∀ (gl:Glob) (k:Int) (nm:ByteArray) (ps:List (List AV)),(IR9 k)∧nm.size.le (9223372036854775807:Nat)∧True∧True→True∧(!nmOk nm)=!nmOk nm
theorem rg3_P:rg3_T nmOk:=by
 unfold rg3_T
 intro gl k nm ps _
 exact ⟨trivial,rfl⟩
def rg3_S (nmOk:ByteArray→Bool):Prop:=∀ (gl:Glob) (k:Int) (nm:ByteArray) (ps:List (List AV)),fnK Tryd.prog { glob:=gl,spec:=lk [(18,(gname_s nmOk))],specH:=lk [],nowf:=true } { nt:=7,drop:=drp [(1,120)] } (fun _ _=>none) 6 Tryd.f40 [.agg [.int .i64 k,.str nm,.sl 7 false ps]] (.bool (!(nmOk nm)))
theorem rg3_e (nmOk:ByteArray→Bool):rg3_T nmOk=rg3_S nmOk:=by kernel_rfl
theorem rg3_v:rg3_S nmOk:=Eq.mp (rg3_e ..) (rg3_P)
theorem rg3_ok (gl:Glob):SOK Tryd.prog gl 40 (rg3_s nmOk):=by
 refine ⟨fok Tryd.func40 (by kernel_rfl) (by kernel_rfl),?_⟩
 intro xs pre r h hp
 unfold rg3_s at h
 split at h
 ·simp only [Option.some.injEq,Prod.mk.injEq] at h
  obtain ⟨h1,h2⟩:=h
  subst h1 h2
  exact fnK_sound tyNil (by exact specOK rfl rfl ⟨(gname_ok gl),trivial⟩ trivial) (by kernel_rfl) Tryd.func40 rfl (rg3_v gl _ _ _)
 ·cases h
def rg41_s (pdV:Int→Int→Bool→Int→Int→Int→Int→LLR→Bool):SpH
 | [.agg [.int .i64 fr,.bool cl,.int .i64 fa,.int .i64 a,.int .i64 b,.int .i64 c,.sl 2 false bs],.ptr 0 0],[.cells [.int .i64 k,.str nm,.sl 7 g ps]]=>some (RdsP bs,.bool (!(pdV k fr cl fa a b c bs)),[.cells [.int .i64 k,.str nm,.sl 7 g ps]])
 | _,_=>none
def rg41_T (pdV:Int→Int→Bool→Int→Int→Int→Int→LLR→Bool) (nrm:Int→Int→Int→Int→Int × Int × Int × Int) (vld:Int→Int→Int→Int→Bool) (isN:Int→Int→Int→Int→Bool) (nonP:Int→Int→Int→Int→Bool) (iL:Int→ByteArray) (inLo:Int→Int) (inHi:Int→Int) (inD:Int→Int) (inE:Int→Int):Prop :=
  ∀ (k fr fa a b c:Int) (cl g:Bool) (nm:ByteArray) (bs ps:List (List AV)),RdsP bs→(IR9 fr)∧True∧(IR9 fa)∧(IR9 a)∧(IR9 b)∧((-9223372036854775808:Int)≤c∧c ≤
 (9223372036854775807:Int))∧True∧True→True→IR9 k→nm.size.le (9223372036854775807:Nat)→True→RdsP bs∧(!pdV k fr cl fa a b c bs)=!pdV k fr cl fa a b c bs∧(k=k∧nm=nm∧((bif g then g=true else True)∧ps=ps)∧True)∧True
theorem rg41_P:rg41_T pdV nrm vld isN nonP iL inLo inHi inD inE:=by
 unfold rg41_T
 intro k fr fa a b c cl g nm bs ps hp
 intros
 have bg:cond g (g=true) True:=by cases g <;> trivial
 exact ⟨hp,rfl,by (repeat' (first | exact trivial | exact rfl | assumption | apply And.intro))⟩
def rg41_S (pdV:Int→Int→Bool→Int→Int→Int→Int→LLR→Bool) (nrm:Int→Int→Int→Int→Int × Int × Int × Int) (vld:Int→Int→Int→Int→Bool) (isN:Int→Int→Int→Int→Bool) (nonP:Int→Int→Int→Int→Bool) (iL:Int→ByteArray) (inLo:Int→Int) (inHi:Int→Int) (inD:Int→Int) (inE:Int→Int):Prop:=∀ (k fr fa a b c:Int) (cl g:Bool) (nm:ByteArray) (bs ps:List (List AV)),RdsP bs→fnH Tryd.prog { glob:=glb,spec:=lk [(19,(gvalidP_s nrm vld isN pdV nonP iL inLo inHi inD inE))],specH:=lk [],nowf:=true } { nt:=9,drop:=drp [(1,496)],fr:=1000,kp:=[0] } (fun _ _=>none) 6 Tryd.f43 [.agg [.int .i64 fr,.bool cl,.int .i64 fa,.int .i64 a,.int .i64 b,.int .i64 c,.sl 2 false bs],.ptr 0 0] [.cells [.int .i64 k,.str nm,.sl 7 g ps]] (.bool (!(pdV k fr cl fa a b c bs))) [.cells [.int .i64 k,.str nm,.sl 7 g ps]]
theorem rg41_e (pdV:Int→Int→Bool→Int→Int→Int→Int→LLR→Bool) (nrm:Int→Int→Int→Int→Int × Int × Int × Int) (vld:Int→Int→Int→Int→Bool) (isN:Int→Int→Int→Int→Bool) (nonP:Int→Int→Int→Int→Bool) (iL:Int→ByteArray) (inLo:Int→Int) (inHi:Int→Int) (inD:Int→Int) (inE:Int→Int):rg41_T pdV nrm vld isN nonP iL inLo inHi inD inE=rg41_S pdV nrm vld isN nonP iL inLo inHi inD inE:=by kernel_rfl
theorem rg41_v:rg41_S pdV nrm vld isN nonP iL inLo inHi inD inE:=Eq.mp (rg41_e ..) (rg41_P)
theorem rg41_ok:HOK Tryd.prog glb 43 (rg41_s pdV):=by
 refine ⟨fok Tryd.func43 (by kernel_rfl) (by kernel_rfl),?_⟩
 intro xs bs pre r bs2 h hp
 unfold rg41_s at h
 split at h
 ·simp only [Option.some.injEq,Prod.mk.injEq] at h
  obtain ⟨h1,h2,h3⟩:=h
  subst h1 h2 h3
  exact fnH_sound tyNil (by exact specOK rfl rfl ⟨(gvalidP_ok),trivial⟩ trivial) (by kernel_rfl) Tryd.func43 (rg41_v  _ _ _ _ _ _ _ _ _ _ _ hp)
 ·cases h
def rc4X_s:SpH
 | [.sl 7 f xs,.fn 43 [.ptr 0 0]],[.cells [.int .i64 k,.str nm,.sl 7 g ps]]=>some (PdsP xs,.int .i64 (idxP (bdP k) xs),[.cells [.int .i64 k,.str nm,.sl 7 g ps]])
 | _,_=>none
def rc4X_T (pdV:Int→Int→Bool→Int→Int→Int→Int→LLR→Bool):Prop :=
  ∀ (f:Bool) (xs:List (List AV)) (k:Int) (nm:ByteArray) (ps:List (List AV)) (g:Bool),PdsP xs→True→True→IR9 k→nm.size.le (9223372036854775807:Nat)→True→(∃ x,IdxI (bdP k) xs x∧(((bif f then f=true else True)∧xs=xs)∧((0:Nat)=0∧True)∧(↑xs.length:Int)=(↑xs.length:Int)∧(0:Int)=x∧True)∧(k=k∧nm=nm∧((bif g then g=true else
 True)∧ps=ps)∧True)∧True)∧∀ (x:Int),IdxI (bdP k) xs x→bif decide (x < (↑xs.length:Int)) then bif decide (0≤x∧x < (↑xs.length:Int)) then ∃ n b n_1 n_2 n_3 n_4 xs_1,List.take [AV.int .i64 n,.bool b,.int .i64 n_1,.int .i64 n_2,.int .i64 n_3,.int .i64 n_4,.sl (2:Nat) false xs_1].length (xs.getD x.toNat [])=[AV.int .i64 n,.bool b,.int .i64 n_1,.int .i64 n_2,.int .i64 n_3,.int .i64 n_4,.sl (2:Nat)
 false xs_1]∧RdsP xs_1∧bif !pdV k n b n_1 n_2 n_3 n_4 xs_1 then x=idxP (bdP k) xs∧(k=k∧nm=nm∧((bif g then g=true else True)∧ps=ps)∧True)∧True else bif decide (rng .i64 (x+(1:Int))) then ∃ y,IdxI (bdP k) xs y∧(rxL (43:Nat) (7:Nat) (bdP k) f xs [AV.ptr (0:Nat) (0:Nat)] [((0:Nat),Blk.cells [AV.int .i64 k,.str nm,.sl (7:Nat) g ps])]).m y < (rxL (43:Nat) (7:Nat) (bdP k) f xs [AV.ptr (0:Nat) (0:Nat)]
 [((0:Nat),Blk.cells [AV.int .i64 k,.str nm,.sl (7:Nat) g ps])]).m x∧(((bif f then f=true else True)∧xs=xs)∧((0:Nat)=0∧True)∧(↑xs.length:Int)=(↑xs.length:Int)∧x+(1:Int)=y∧True)∧(k=k∧nm=nm∧((bif g then g=true else True)∧ps=ps)∧True)∧True else False else False else (-1:Int)=idxP (bdP k) xs∧(k=k∧nm=nm∧((bif g then g=true else True)∧ps=ps)∧True)∧True
theorem rc4X_P:rc4X_T pdV:=by
 unfold rc4X_T
 intro f xs k nm ps g hp
 intros
 have bf:cond f (f=true) True:=by cases f <;> trivial
 have bg:cond g (g=true) True:=by cases g <;> trivial
 have hs:=hp.fs
 refine ⟨⟨0,⟨by decide,by omega,fun j h=>by omega⟩,by (repeat' (first | exact trivial | exact rfl | assumption | apply And.intro))⟩,?_⟩
 rintro i ⟨h0,h1,hn⟩
 have ei:((i.toNat:Nat):Int)=i:=by omega
 refine cs (fun hl=>?_) (fun hl=>?_)
 ·obtain ⟨fr,cl,fa,a,b,c,bs,he,hq⟩:=hp.fr i.toNat (by omega)
  refine cd1 ⟨h0,hl⟩ ⟨fr,cl,fa,a,b,c,bs,by rw [he]; rfl,hq.1,csplit (fun q=>?_) (fun q=>?_)⟩
  ·have:=idx_some (p:=(bdP k)) (xs:=xs) (i:=i.toNat) (by omega) (by rw [he]; exact q) (fun j hj=>hn j (by omega))
   exact ⟨ei.symm.trans this,by (repeat' (first | exact trivial | exact rfl | assumption | apply And.intro))⟩
  ·refine cdI (by omega) ⟨i+1,⟨by omega,by omega,fun j hj=>?_⟩,by simp only [rxL]; omega,by (repeat' (first | exact trivial | exact rfl | assumption | apply And.intro))⟩
   rcases Nat.lt_or_ge j i.toNat with k | k
   ·exact hn j (by omega)
   ·rw [show j=i.toNat by omega,he]; exact q
 ·exact ⟨idx_none fun j hj=>hn j (by omega),by (repeat' (first | exact trivial | exact rfl | assumption | apply And.intro))⟩
def rc4X_S (pdV:Int→Int→Bool→Int→Int→Int→Int→LLR→Bool):Prop:=∀ (f:Bool) (xs:List (List AV)) (k:Int) (nm:ByteArray) (ps:List (List AV)) (g:Bool),PdsP xs→fnH Tryd.prog { glob:=glb,spec:=lk [],specH:=lk [(43,(rg41_s pdV))],shape:=[15],slz:=[(15,[2])],nowf:=true } { nt:=19,drop:=drp [(1,64),(3,1024),(4,63488),(5,131072),(6,262144)],fr:=1000,kp:=[0] } (invs [(2,rxL 43 7 (bdP k) f xs [.ptr 0 0] [(0,.cells [.int .i64 k,.str nm,.sl 7 g ps])])]) 6 Tryd.f79 [.sl 7 f xs,.fn 43 [.ptr 0 0]] [.cells [.int .i64 k,.str nm,.sl 7 g ps]] (.int .i64 (idxP (bdP k) xs)) [.cells [.int .i64 k,.str nm,.sl 7 g ps]]
theorem rc4X_e (pdV:Int→Int→Bool→Int→Int→Int→Int→LLR→Bool):rc4X_T pdV=rc4X_S pdV:=by kernel_rfl
theorem rc4X_v:rc4X_S pdV:=Eq.mp (rc4X_e ..) (rc4X_P)
theorem rc4X_ok:HOK Tryd.prog glb 79 rc4X_s:=by
 refine ⟨fok Tryd.func79 (by kernel_rfl) (by kernel_rfl),?_⟩
 intro xs bs pre r bs2 h hp
 unfold rc4X_s at h
 split at h
 ·simp only [Option.some.injEq,Prod.mk.injEq] at h
  obtain ⟨h1,h2,h3⟩:=h
  subst h1 h2 h3
  exact fnH_sound tyNil (by exact specOK rfl rfl trivial ⟨(rg41_ok),trivial⟩) (by kernel_rfl) Tryd.func79 (rc4X_v  _ _ _ _ _ _ hp)
 ·cases h
def rc4_s:SpH
 | [.sl 7 f xs,.fn 43 [.ptr 0 0]],[.cells [.int .i64 k,.str nm,.sl 7 g ps]]=>some (PdsP xs,.bool (xs.any (bdP k)),[.cells [.int .i64 k,.str nm,.sl 7 g ps]])
 | _,_=>none
def rc4_T:Prop :=
 ∀ (f:Bool) (xs:List (List AV)) (k:Int) (nm:ByteArray) (ps:List (List AV)) (g:Bool),PdsP xs→True→True→IR9 k→nm.size.le (9223372036854775807:Nat)→True→PdsP xs∧decide (0≤idxP (bdP k) xs)=xs.any (bdP k)∧(k=k∧nm=nm∧((bif g then g=true else True)∧ps=ps)∧True)∧True
theorem rc4_P:rc4_T:=by
 unfold rc4_T
 intro f xs k nm ps g hp
 intros
 have bg:cond g (g=true) True:=by cases g <;> trivial
 exact ⟨hp,idx_ge,by (repeat' (first | exact trivial | exact rfl | assumption | apply And.intro))⟩
def rc4_S:Prop:=∀ (f:Bool) (xs:List (List AV)) (k:Int) (nm:ByteArray) (ps:List (List AV)) (g:Bool),PdsP xs→fnH Tryd.prog { glob:=glb,spec:=lk [],specH:=lk [(79,rc4X_s)],nowf:=true } { nt:=9,drop:=drp [(1,480)],fr:=1000,kp:=[0] } (fun _ _=>none) 6 Tryd.f42 [.sl 7 f xs,.fn 43 [.ptr 0 0]] [.cells [.int .i64 k,.str nm,.sl 7 g ps]] (.bool (xs.any (bdP k))) [.cells [.int .i64 k,.str nm,.sl 7 g ps]]
theorem rc4_e:rc4_T=rc4_S:=by kernel_rfl
theorem rc4_v:rc4_S:=Eq.mp (rc4_e ..) (rc4_P)
theorem rc4_ok:HOK Tryd.prog glb 42 rc4_s:=by
 refine ⟨fok Tryd.func42 (by kernel_rfl) (by kernel_rfl),?_⟩
 intro xs bs pre r bs2 h hp
 unfold rc4_s at h
 split at h
 ·simp only [Option.some.injEq,Prod.mk.injEq] at h
  obtain ⟨h1,h2,h3⟩:=h
  subst h1 h2 h3
  exact fnH_sound tyNil (by exact specOK rfl rfl trivial ⟨(rc4X_ok),trivial⟩) (by kernel_rfl) Tryd.func42 (rc4_v  _ _ _ _ _ _ hp)
 ·cases h
def rg4_s:Sp
 | [.agg [.int .i64 k,.str nm,.sl 7 false ps]]=>some (PdsP ps,.bool (ps.any (bdP k)))
 | _=>none
def rg4_T:Prop :=
 ∀ (k:Int) (nm:ByteArray) (ps:List (List AV)),PdsP ps→(IR9 k)∧nm.size.le (9223372036854775807:Nat)∧True∧True→PdsP ps∧ps.any (bdP k)=ps.any (bdP k)
theorem rg4_P:rg4_T:=by
 unfold rg4_T
 intro k nm ps hp _
 exact ⟨hp,rfl⟩
def rg4_S:Prop:=∀ (k:Int) (nm:ByteArray) (ps:List (List AV)),PdsP ps→fnK Tryd.prog { glob:=glb,spec:=lk [],specH:=lk [(42,rc4_s)],nowf:=true } { nt:=7,drop:=drp [(1,120)] } (fun _ _=>none) 6 Tryd.f41 [.agg [.int .i64 k,.str nm,.sl 7 false ps]] (.bool (ps.any (bdP k)))
theorem rg4_e:rg4_T=rg4_S:=by kernel_rfl
theorem rg4_v:rg4_S:=Eq.mp (rg4_e ..) (rg4_P)
theorem rg4_ok:SOK Tryd.prog glb 41 rg4_s:=by
 refine ⟨fok Tryd.func41 (by kernel_rfl) (by kernel_rfl),?_⟩
 intro xs pre r h hp
 unfold rg4_s at h
 split at h
 ·simp only [Option.some.injEq,Prod.mk.injEq] at h
  obtain ⟨h1,h2⟩:=h
  subst h1 h2
  exact fnK_sound tyNil (by exact specOK rfl rfl trivial ⟨(rc4_ok),trivial⟩) (by kernel_rfl) Tryd.func41 rfl (rg4_v  _ _ _ hp)
 ·cases h
def un2 (k:Int) (nm:ByteArray) (ps:LLR) (g:Bool):LInv:=⟨Int,fun i=>⟨[(1,.ptr 1 0),(3,.int .i64 i)],[(1,.cells [.int .i64 k,.str nm,.sl 7 g ps])]⟩,AscI ps,fun i=>(ps.length+1 - i).toNat,none⟩
def gunord_s (ascB:LLR→Bool):Sp
 | [.agg [.int .i64 k,.str nm,.sl 7 g ps]]=>some (PdsP ps,.bool (!(ascB ps)))
 | _=>none
def gunord_T (ascB:LLR→Bool):Prop :=
  ∀ (gl:Glob) (k:Int) (nm:ByteArray) (g:Bool) (ps:List (List AV)),PdsP ps→(IR9 k)∧nm.size.le (9223372036854775807:Nat)∧True∧True→(∃ x,AscI ps x∧((0:Nat)=0∧(1:Int)=x∧True)∧(k=k∧nm=nm∧((bif g then g=true else True)∧ps=ps)∧True)∧True)∧∀ (x:Int),AscI ps x→bif decide (x < (↑ps.length:Int)) then bif decide (rng .i64 (x - (1:Int))) then bif
 decide (0≤x - (1:Int)∧x - (1:Int) < (↑ps.length:Int)) then ∃ n,List.take [AV.int .i64 n].length (List.drop (0:Nat) (ps.getD (x - (1:Int)).toNat []))=[AV.int .i64 n]∧bif decide (0≤x∧x < (↑ps.length:Int)) then ∃ n_1,List.take [AV.int .i64 n_1].length (List.drop (0:Nat) (ps.getD x.toNat []))=[AV.int .i64 n_1]∧bif decide (n_1≤n) then true=!ascB ps else bif decide (rng .i64 (x +
 (1:Int))) then ∃ y,AscI ps y∧(un2 k nm ps g).m y < (un2 k nm ps g).m x∧((0:Nat)=0∧x+(1:Int)=y∧True)∧(k=k∧nm=nm∧((bif g then g=true else True)∧ps=ps)∧True)∧True else False else False else False else False else false=!ascB ps
theorem gunord_P:gunord_T ascB:=by
 unfold gunord_T
 intro gl k nm g ps hp _
 have hs:=hp.fs
 have bg:cond g (g=true) True:=by cases g <;> trivial
 refine ⟨⟨1,⟨by decide,.inr rfl,fun j hj _=>.inl (by omega)⟩,by (repeat' (first | exact trivial | exact rfl | assumption | apply And.intro))⟩,?_⟩
 rintro i ⟨h0,h2,hn⟩
 refine csx (fun hl=>cdI (by omega) (cd1 (by omega) ?_)) (fun hl=>?_)
 ·obtain ⟨e,_,_,_,_,_,_,he,_⟩:=hp.fr (i - 1).toNat (by omega)
  obtain ⟨e',_,_,_,_,_,_,he',_⟩:=hp.fr i.toNat (by omega)
  have hi:i.toNat - 1=(i - 1).toNat:=by omega
  have q1:rE (ps.getD (i.toNat - 1) [])=e:=by rw [hi,he]; rfl
  have q2:rE (ps.getD i.toNat [])=e':=by rw [he']; rfl
  refine ⟨e,by rw [he]; rfl,cd1 (by omega) ⟨e',by rw [he']; rfl,csx (fun q=>?_) (fun q=>cdI (by omega) ⟨i+1,⟨by omega,.inl (by omega),fun j hj hlj=>?_⟩,by simp only [un2]; omega,by (repeat' (first | exact trivial | exact rfl | assumption | apply And.intro))⟩)⟩⟩
  ·have:ascB ps=false:=by
    refine decide_eq_false fun h=>?_
    rcases h i.toNat (by omega) with k | k
    ·omega
    ·rw [q1,q2] at k; omega
   rw [this]; rfl
  ·rcases Nat.lt_or_ge j i.toNat with k | k
   ·exact hn j (by omega) hlj
   ·rw [show j=i.toNat by omega,q1,q2]; exact .inr (by omega)
 ·have:ascB ps=true:=decide_eq_true fun j hj=>hn j (by omega) hj
  rw [this]; rfl
def gunord_S (ascB:LLR→Bool):Prop:=∀ (gl:Glob) (k:Int) (nm:ByteArray) (g:Bool) (ps:List (List AV)),PdsP ps→fnK Tryd.prog { glob:=gl,spec:=lk [],specH:=lk [],shape:=[17,23],nowf:=true } { nt:=25,drop:=drp [(2,240),(3,1536),(4,16775168)] } (invs [(2,un2 k nm ps g)]) 6 Tryd.f44 [.agg [.int .i64 k,.str nm,.sl 7 g ps]] (.bool (!(ascB ps)))
theorem gunord_e (ascB:LLR→Bool):gunord_T ascB=gunord_S ascB:=by kernel_rfl
theorem gunord_v:gunord_S ascB:=Eq.mp (gunord_e ..) (gunord_P)
theorem gunord_ok (gl:Glob):SOK Tryd.prog gl 44 (gunord_s ascB):=by
 refine ⟨fok Tryd.func44 (by kernel_rfl) (by kernel_rfl),?_⟩
 intro xs pre r h hp
 unfold gunord_s at h
 split at h
 ·simp only [Option.some.injEq,Prod.mk.injEq] at h
  obtain ⟨h1,h2⟩:=h
  subst h1 h2
  exact fnK_sound tyNil (by exact specOK rfl rfl trivial trivial) (by kernel_rfl) Tryd.func44 rfl (gunord_v gl _ _ _ _ hp)
 ·cases h
def rc1X_s:Sp
 | [.sl 3 f xs,.fn 38 []]=>some (StsP xs,.int .i64 (idxP p1R xs))
 | _=>none
def rc1X_T (s1B:LLR→Bool):Prop :=
  ∀ (gl:Glob) (f:Bool) (xs:List (List AV)),StsP xs→True→True→(∃ x,IdxI p1R xs x∧(((bif f then f=true else True)∧xs=xs)∧True∧(↑xs.length:Int)=(↑xs.length:Int)∧(0:Int)=x∧True)∧True)∧∀ (x:Int),IdxI p1R xs x→bif decide (x < (↑xs.length:Int)) then bif decide (0≤x∧x < (↑xs.length:Int)) then ∃ n s xs_1,List.take [AV.int .i64 n,.str s,.sl (7:Nat) false xs_1].length (xs.getD x.toNat [])=[AV.int
 .i64 n,.str s,.sl (7:Nat) false xs_1]∧PdsP xs_1∧bif s1B xs_1 then x=idxP p1R xs else bif decide (rng .i64 (x+(1:Int))) then ∃ y,IdxI p1R xs y∧(rxL (38:Nat) (3:Nat) p1R f xs [] []).m y < (rxL (38:Nat) (3:Nat) p1R f xs [] []).m x∧(((bif f then f=true else True)∧xs=xs)∧True∧(↑xs.length:Int)=(↑xs.length:Int)∧x+(1:Int)=y∧True)∧True else False else False else (-1:Int)=idxP p1R xs
theorem rc1X_P:rc1X_T s1B:=by
 unfold rc1X_T
 intro gl f xs hp
 intros
 have bf:cond f (f=true) True:=by cases f <;> trivial
 have hs:=hp.fs
 refine ⟨⟨0,⟨by decide,by omega,fun j h=>by omega⟩,by (repeat' (first | exact trivial | exact rfl | assumption | apply And.intro))⟩,?_⟩
 rintro i ⟨h0,h1,hn⟩
 have ei:((i.toNat:Nat):Int)=i:=by omega
 refine cs (fun hl=>?_) (fun hl=>?_)
 ·obtain ⟨k,nm,ps,he,hq⟩:=hp.fr i.toNat (by omega)
  refine cd1 ⟨h0,hl⟩ ⟨k,nm,ps,by rw [he]; rfl,hq,csplit (fun q=>?_) (fun q=>?_)⟩
  ·have:=idx_some (p:=p1R) (xs:=xs) (i:=i.toNat) (by omega) (by rw [he]; exact q) (fun j hj=>hn j (by omega))
   exact ei.symm.trans this
  ·refine cdI (by omega) ⟨i+1,⟨by omega,by omega,fun j hj=>?_⟩,by simp only [rxL]; omega,by (repeat' (first | exact trivial | exact rfl | assumption | apply And.intro))⟩
   rcases Nat.lt_or_ge j i.toNat with k | k
   ·exact hn j (by omega)
   ·rw [show j=i.toNat by omega,he]; exact q
 ·exact idx_none fun j hj=>hn j (by omega)
def rc1X_S (s1B:LLR→Bool):Prop:=∀ (gl:Glob) (f:Bool) (xs:List (List AV)),StsP xs→fnK Tryd.prog { glob:=gl,spec:=lk [(38,(rg1_s s1B))],specH:=lk [],shape:=[15],slz:=[(15,[7])],nowf:=true } { nt:=19,drop:=drp [(1,64),(3,1024),(4,63488),(5,131072),(6,262144)] } (invs [(2,rxL 38 3 p1R f xs [] [])]) 6 Tryd.f94 [.sl 3 f xs,.fn 38 []] (.int .i64 (idxP p1R xs))
theorem rc1X_e (s1B:LLR→Bool):rc1X_T s1B=rc1X_S s1B:=by kernel_rfl
theorem rc1X_v:rc1X_S s1B:=Eq.mp (rc1X_e ..) (rc1X_P)
theorem rc1X_ok (gl:Glob):SOK Tryd.prog gl 94 rc1X_s:=by
 refine ⟨fok Tryd.func94 (by kernel_rfl) (by kernel_rfl),?_⟩
 intro xs pre r h hp
 unfold rc1X_s at h
 split at h
 ·simp only [Option.some.injEq,Prod.mk.injEq] at h
  obtain ⟨h1,h2⟩:=h
  subst h1 h2
  exact fnK_sound tyNil (by exact specOK rfl rfl ⟨(rg1_ok gl),trivial⟩ trivial) (by kernel_rfl) Tryd.func94 rfl (rc1X_v gl _ _ hp)
 ·cases h
def rc1_s:Sp
 | [.sl 3 f xs,.fn 38 []]=>some (StsP xs,.bool (xs.any p1R))
 | _=>none
def rc1_T:Prop :=
 ∀ (gl:Glob) (f:Bool) (xs:List (List AV)),StsP xs→True→True→StsP xs∧decide (0≤idxP p1R xs)=xs.any p1R
theorem rc1_P:rc1_T:=by
 unfold rc1_T
 intro gl f xs hp
 intros
 exact ⟨hp,idx_ge⟩
def rc1_S:Prop:=∀ (gl:Glob) (f:Bool) (xs:List (List AV)),StsP xs→fnK Tryd.prog { glob:=gl,spec:=lk [(94,rc1X_s)],specH:=lk [],nowf:=true } { nt:=9,drop:=drp [(1,480)] } (fun _ _=>none) 6 Tryd.f78 [.sl 3 f xs,.fn 38 []] (.bool (xs.any p1R))
theorem rc1_e:rc1_T=rc1_S:=by kernel_rfl
theorem rc1_v:rc1_S:=Eq.mp (rc1_e ..) (rc1_P)
theorem rc1_ok (gl:Glob):SOK Tryd.prog gl 78 rc1_s:=by
 refine ⟨fok Tryd.func78 (by kernel_rfl) (by kernel_rfl),?_⟩
 intro xs pre r h hp
 unfold rc1_s at h
 split at h
 ·simp only [Option.some.injEq,Prod.mk.injEq] at h
  obtain ⟨h1,h2⟩:=h
  subst h1 h2
  exact fnK_sound tyNil (by exact specOK rfl rfl ⟨(rc1X_ok gl),trivial⟩ trivial) (by kernel_rfl) Tryd.func78 rfl (rc1_v gl _ _ hp)
 ·cases h
def rc1s_s:Sp
 | [.agg [.sl 3 f xs],.fn 38 []]=>some (StsP xs,.bool (xs.any p1R))
 | _=>none
def rc1s_T:Prop :=
 ∀ (gl:Glob) (f:Bool) (xs:List (List AV)),StsP xs→True∧True→True→StsP xs∧xs.any p1R=xs.any p1R
theorem rc1s_P:rc1s_T:=by
 unfold rc1s_T
 intro gl f xs hp
 intros
 exact ⟨hp,rfl⟩
def rc1s_S:Prop:=∀ (gl:Glob) (f:Bool) (xs:List (List AV)),StsP xs→fnK Tryd.prog { glob:=gl,spec:=lk [(78,rc1_s)],specH:=lk [],nowf:=true } { nt:=9,drop:=drp [(1,480)] } (fun _ _=>none) 6 Tryd.f37 [.agg [.sl 3 f xs],.fn 38 []] (.bool (xs.any p1R))
theorem rc1s_e:rc1s_T=rc1s_S:=by kernel_rfl
theorem rc1s_v:rc1s_S:=Eq.mp (rc1s_e ..) (rc1s_P)
theorem rc1s_ok (gl:Glob):SOK Tryd.prog gl 37 rc1s_s:=by
 refine ⟨fok Tryd.func37 (by kernel_rfl) (by kernel_rfl),?_⟩
 intro xs pre r h hp
 unfold rc1s_s at h
 split at h
 ·simp only [Option.some.injEq,Prod.mk.injEq] at h
  obtain ⟨h1,h2⟩:=h
  subst h1 h2
  exact fnK_sound tyNil (by exact specOK rfl rfl ⟨(rc1_ok gl),trivial⟩ trivial) (by kernel_rfl) Tryd.func37 rfl (rc1s_v gl _ _ hp)
 ·cases h
def rc2X_s:Sp
 | [.sl 3 f xs,.fn 39 []]=>some (StsP xs,.int .i64 (idxP p2R xs))
 | _=>none
def rc2X_T (exK:Int→Bool):Prop :=
  ∀ (gl:Glob) (f:Bool) (xs:List (List AV)),StsP xs→True→True→(∃ x,IdxI p2R xs x∧(((bif f then f=true else True)∧xs=xs)∧True∧(↑xs.length:Int)=(↑xs.length:Int)∧(0:Int)=x∧True)∧True)∧∀ (x:Int),IdxI p2R xs x→bif decide (x < (↑xs.length:Int)) then bif decide (0≤x∧x < (↑xs.length:Int)) then ∃ n s xs_1,List.take [AV.int .i64 n,.str s,.sl (7:Nat) false xs_1].length (xs.getD x.toNat [])=[AV.int
 .i64 n,.str s,.sl (7:Nat) false xs_1]∧True∧bif !exK n then x=idxP p2R xs else bif decide (rng .i64 (x+(1:Int))) then ∃ y,IdxI p2R xs y∧(rxL (39:Nat) (3:Nat) p2R f xs [] []).m y < (rxL (39:Nat) (3:Nat) p2R f xs [] []).m x∧(((bif f then f=true else True)∧xs=xs)∧True∧(↑xs.length:Int)=(↑xs.length:Int)∧x+(1:Int)=y∧True)∧True else False else False else (-1:Int)=idxP p2R xs
theorem rc2X_P:rc2X_T exK:=by
 unfold rc2X_T
 intro gl f xs hp
 intros
 have bf:cond f (f=true) True:=by cases f <;> trivial
 have hs:=hp.fs
 refine ⟨⟨0,⟨by decide,by omega,fun j h=>by omega⟩,by (repeat' (first | exact trivial | exact rfl | assumption | apply And.intro))⟩,?_⟩
 rintro i ⟨h0,h1,hn⟩
 have ei:((i.toNat:Nat):Int)=i:=by omega
 refine cs (fun hl=>?_) (fun hl=>?_)
 ·obtain ⟨k,nm,ps,he,hq⟩:=hp.fr i.toNat (by omega)
  refine cd1 ⟨h0,hl⟩ ⟨k,nm,ps,by rw [he]; rfl,trivial,csplit (fun q=>?_) (fun q=>?_)⟩
  ·have:=idx_some (p:=p2R) (xs:=xs) (i:=i.toNat) (by omega) (by rw [he]; exact q) (fun j hj=>hn j (by omega))
   exact ei.symm.trans this
  ·refine cdI (by omega) ⟨i+1,⟨by omega,by omega,fun j hj=>?_⟩,by simp only [rxL]; omega,by (repeat' (first | exact trivial | exact rfl | assumption | apply And.intro))⟩
   rcases Nat.lt_or_ge j i.toNat with k | k
   ·exact hn j (by omega)
   ·rw [show j=i.toNat by omega,he]; exact q
 ·exact idx_none fun j hj=>hn j (by omega)
def rc2X_S (exK:Int→Bool):Prop:=∀ (gl:Glob) (f:Bool) (xs:List (List AV)),StsP xs→fnK Tryd.prog { glob:=gl,spec:=lk [(39,(rg2_s exK))],specH:=lk [],shape:=[15],slz:=[(15,[7])],nowf:=true } { nt:=19,drop:=drp [(1,64),(3,1024),(4,63488),(5,131072),(6,262144)] } (invs [(2,rxL 39 3 p2R f xs [] [])]) 6 Tryd.f94 [.sl 3 f xs,.fn 39 []] (.int .i64 (idxP p2R xs))
theorem rc2X_e (exK:Int→Bool):rc2X_T exK=rc2X_S exK:=by kernel_rfl
theorem rc2X_v:rc2X_S exK:=Eq.mp (rc2X_e ..) (rc2X_P)
theorem rc2X_ok (gl:Glob):SOK Tryd.prog gl 94 rc2X_s:=by
 refine ⟨fok Tryd.func94 (by kernel_rfl) (by kernel_rfl),?_⟩
 intro xs pre r h hp
 unfold rc2X_s at h
 split at h
 ·simp only [Option.some.injEq,Prod.mk.injEq] at h
  obtain ⟨h1,h2⟩:=h
  subst h1 h2
  exact fnK_sound tyNil (by exact specOK rfl rfl ⟨(rg2_ok gl),trivial⟩ trivial) (by kernel_rfl) Tryd.func94 rfl (rc2X_v gl _ _ hp)
 ·cases h
def rc2_s:Sp
 | [.sl 3 f xs,.fn 39 []]=>some (StsP xs,.bool (xs.any p2R))
 | _=>none
def rc2_T:Prop :=
 ∀ (gl:Glob) (f:Bool) (xs:List (List AV)),StsP xs→True→True→StsP xs∧decide (0≤idxP p2R xs)=xs.any p2R
theorem rc2_P:rc2_T:=by
 unfold rc2_T
 intro gl f xs hp
 intros
 exact ⟨hp,idx_ge⟩
def rc2_S:Prop:=∀ (gl:Glob) (f:Bool) (xs:List (List AV)),StsP xs→fnK Tryd.prog { glob:=gl,spec:=lk [(94,rc2X_s)],specH:=lk [],nowf:=true } { nt:=9,drop:=drp [(1,480)] } (fun _ _=>none) 6 Tryd.f78 [.sl 3 f xs,.fn 39 []] (.bool (xs.any p2R))
theorem rc2_e:rc2_T=rc2_S:=by kernel_rfl
theorem rc2_v:rc2_S:=Eq.mp (rc2_e ..) (rc2_P)
theorem rc2_ok (gl:Glob):SOK Tryd.prog gl 78 rc2_s:=by
 refine ⟨fok Tryd.func78 (by kernel_rfl) (by kernel_rfl),?_⟩
 intro xs pre r h hp
 unfold rc2_s at h
 split at h
 ·simp only [Option.some.injEq,Prod.mk.injEq] at h
  obtain ⟨h1,h2⟩:=h
  subst h1 h2
  exact fnK_sound tyNil (by exact specOK rfl rfl ⟨(rc2X_ok gl),trivial⟩ trivial) (by kernel_rfl) Tryd.func78 rfl (rc2_v gl _ _ hp)
 ·cases h
def rc2s_s:Sp
 | [.agg [.sl 3 f xs],.fn 39 []]=>some (StsP xs,.bool (xs.any p2R))
 | _=>none
def rc2s_T:Prop :=
 ∀ (gl:Glob) (f:Bool) (xs:List (List AV)),StsP xs→True∧True→True→StsP xs∧xs.any p2R=xs.any p2R
theorem rc2s_P:rc2s_T:=by
 unfold rc2s_T
 intro gl f xs hp
 intros
 exact ⟨hp,rfl⟩
def rc2s_S:Prop:=∀ (gl:Glob) (f:Bool) (xs:List (List AV)),StsP xs→fnK Tryd.prog { glob:=gl,spec:=lk [(78,rc2_s)],specH:=lk [],nowf:=true } { nt:=9,drop:=drp [(1,480)] } (fun _ _=>none) 6 Tryd.f37 [.agg [.sl 3 f xs],.fn 39 []] (.bool (xs.any p2R))
theorem rc2s_e:rc2s_T=rc2s_S:=by kernel_rfl
theorem rc2s_v:rc2s_S:=Eq.mp (rc2s_e ..) (rc2s_P)
theorem rc2s_ok (gl:Glob):SOK Tryd.prog gl 37 rc2s_s:=by
 refine ⟨fok Tryd.func37 (by kernel_rfl) (by kernel_rfl),?_⟩
 intro xs pre r h hp
 unfold rc2s_s at h
 split at h
 ·simp only [Option.some.injEq,Prod.mk.injEq] at h
  obtain ⟨h1,h2⟩:=h
  subst h1 h2
  exact fnK_sound tyNil (by exact specOK rfl rfl ⟨(rc2_ok gl),trivial⟩ trivial) (by kernel_rfl) Tryd.func37 rfl (rc2s_v gl _ _ hp)
 ·cases h
def rc3X_s:Sp
 | [.sl 3 f xs,.fn 40 []]=>some (StsP xs,.int .i64 (idxP p3R xs))
 | _=>none
def rc3X_T (nmOk:ByteArray→Bool):Prop :=
  ∀ (gl:Glob) (f:Bool) (xs:List (List AV)),StsP xs→True→True→(∃ x,IdxI p3R xs x∧(((bif f then f=true else True)∧xs=xs)∧True∧(↑xs.length:Int)=(↑xs.length:Int)∧(0:Int)=x∧True)∧True)∧∀ (x:Int),IdxI p3R xs x→bif decide (x < (↑xs.length:Int)) then bif decide (0≤x∧x < (↑xs.length:Int)) then ∃ n s xs_1,List.take [AV.int .i64 n,.str s,.sl (7:Nat) false xs_1].length (xs.getD x.toNat [])=[AV.int
 .i64 n,.str s,.sl (7:Nat) false xs_1]∧True∧bif !nmOk s then x=idxP p3R xs else bif decide (rng .i64 (x+(1:Int))) then ∃ y,IdxI p3R xs y∧(rxL (40:Nat) (3:Nat) p3R f xs [] []).m y < (rxL (40:Nat) (3:Nat) p3R f xs [] []).m x∧(((bif f then f=true else True)∧xs=xs)∧True∧(↑xs.length:Int)=(↑xs.length:Int)∧x+(1:Int)=y∧True)∧True else False else False else (-1:Int)=idxP p3R xs
theorem rc3X_P:rc3X_T nmOk:=by
 unfold rc3X_T
 intro gl f xs hp
 intros
 have bf:cond f (f=true) True:=by cases f <;> trivial
 have hs:=hp.fs
 refine ⟨⟨0,⟨by decide,by omega,fun j h=>by omega⟩,by (repeat' (first | exact trivial | exact rfl | assumption | apply And.intro))⟩,?_⟩
 rintro i ⟨h0,h1,hn⟩
 have ei:((i.toNat:Nat):Int)=i:=by omega
 refine cs (fun hl=>?_) (fun hl=>?_)
 ·obtain ⟨k,nm,ps,he,hq⟩:=hp.fr i.toNat (by omega)
  refine cd1 ⟨h0,hl⟩ ⟨k,nm,ps,by rw [he]; rfl,trivial,csplit (fun q=>?_) (fun q=>?_)⟩
  ·have:=idx_some (p:=p3R) (xs:=xs) (i:=i.toNat) (by omega) (by rw [he]; exact q) (fun j hj=>hn j (by omega))
   exact ei.symm.trans this
  ·refine cdI (by omega) ⟨i+1,⟨by omega,by omega,fun j hj=>?_⟩,by simp only [rxL]; omega,by (repeat' (first | exact trivial | exact rfl | assumption | apply And.intro))⟩
   rcases Nat.lt_or_ge j i.toNat with k | k
   ·exact hn j (by omega)
   ·rw [show j=i.toNat by omega,he]; exact q
 ·exact idx_none fun j hj=>hn j (by omega)
def rc3X_S (nmOk:ByteArray→Bool):Prop:=∀ (gl:Glob) (f:Bool) (xs:List (List AV)),StsP xs→fnK Tryd.prog { glob:=gl,spec:=lk [(40,(rg3_s nmOk))],specH:=lk [],shape:=[15],slz:=[(15,[7])],nowf:=true } { nt:=19,drop:=drp [(1,64),(3,1024),(4,63488),(5,131072),(6,262144)] } (invs [(2,rxL 40 3 p3R f xs [] [])]) 6 Tryd.f94 [.sl 3 f xs,.fn 40 []] (.int .i64 (idxP p3R xs))
theorem rc3X_e (nmOk:ByteArray→Bool):rc3X_T nmOk=rc3X_S nmOk:=by kernel_rfl
theorem rc3X_v:rc3X_S nmOk:=Eq.mp (rc3X_e ..) (rc3X_P)
theorem rc3X_ok (gl:Glob):SOK Tryd.prog gl 94 rc3X_s:=by
 refine ⟨fok Tryd.func94 (by kernel_rfl) (by kernel_rfl),?_⟩
 intro xs pre r h hp
 unfold rc3X_s at h
 split at h
 ·simp only [Option.some.injEq,Prod.mk.injEq] at h
  obtain ⟨h1,h2⟩:=h
  subst h1 h2
  exact fnK_sound tyNil (by exact specOK rfl rfl ⟨(rg3_ok gl),trivial⟩ trivial) (by kernel_rfl) Tryd.func94 rfl (rc3X_v gl _ _ hp)
 ·cases h
def rc3_s:Sp
 | [.sl 3 f xs,.fn 40 []]=>some (StsP xs,.bool (xs.any p3R))
 | _=>none
def rc3_T:Prop :=
 ∀ (gl:Glob) (f:Bool) (xs:List (List AV)),StsP xs→True→True→StsP xs∧decide (0≤idxP p3R xs)=xs.any p3R
theorem rc3_P:rc3_T:=by
 unfold rc3_T
 intro gl f xs hp
 intros
 exact ⟨hp,idx_ge⟩
def rc3_S:Prop:=∀ (gl:Glob) (f:Bool) (xs:List (List AV)),StsP xs→fnK Tryd.prog { glob:=gl,spec:=lk [(94,rc3X_s)],specH:=lk [],nowf:=true } { nt:=9,drop:=drp [(1,480)] } (fun _ _=>none) 6 Tryd.f78 [.sl 3 f xs,.fn 40 []] (.bool (xs.any p3R))
theorem rc3_e:rc3_T=rc3_S:=by kernel_rfl
theorem rc3_v:rc3_S:=Eq.mp (rc3_e ..) (rc3_P)
theorem rc3_ok (gl:Glob):SOK Tryd.prog gl 78 rc3_s:=by
 refine ⟨fok Tryd.func78 (by kernel_rfl) (by kernel_rfl),?_⟩
 intro xs pre r h hp
 unfold rc3_s at h
 split at h
 ·simp only [Option.some.injEq,Prod.mk.injEq] at h
  obtain ⟨h1,h2⟩:=h
  subst h1 h2
  exact fnK_sound tyNil (by exact specOK rfl rfl ⟨(rc3X_ok gl),trivial⟩ trivial) (by kernel_rfl) Tryd.func78 rfl (rc3_v gl _ _ hp)
 ·cases h
def rc3s_s:Sp
 | [.agg [.sl 3 f xs],.fn 40 []]=>some (StsP xs,.bool (xs.any p3R))
 | _=>none
def rc3s_T:Prop :=
 ∀ (gl:Glob) (f:Bool) (xs:List (List AV)),StsP xs→True∧True→True→StsP xs∧xs.any p3R=xs.any p3R
theorem rc3s_P:rc3s_T:=by
 unfold rc3s_T
 intro gl f xs hp
 intros
 exact ⟨hp,rfl⟩
def rc3s_S:Prop:=∀ (gl:Glob) (f:Bool) (xs:List (List AV)),StsP xs→fnK Tryd.prog { glob:=gl,spec:=lk [(78,rc3_s)],specH:=lk [],nowf:=true } { nt:=9,drop:=drp [(1,480)] } (fun _ _=>none) 6 Tryd.f37 [.agg [.sl 3 f xs],.fn 40 []] (.bool (xs.any p3R))
theorem rc3s_e:rc3s_T=rc3s_S:=by kernel_rfl
theorem rc3s_v:rc3s_S:=Eq.mp (rc3s_e ..) (rc3s_P)
theorem rc3s_ok (gl:Glob):SOK Tryd.prog gl 37 rc3s_s:=by
 refine ⟨fok Tryd.func37 (by kernel_rfl) (by kernel_rfl),?_⟩
 intro xs pre r h hp
 unfold rc3s_s at h
 split at h
 ·simp only [Option.some.injEq,Prod.mk.injEq] at h
  obtain ⟨h1,h2⟩:=h
  subst h1 h2
  exact fnK_sound tyNil (by exact specOK rfl rfl ⟨(rc3_ok gl),trivial⟩ trivial) (by kernel_rfl) Tryd.func37 rfl (rc3s_v gl _ _ hp)
 ·cases h
def rc5X_s:Sp
 | [.sl 3 f xs,.fn 44 []]=>some (StsP xs,.int .i64 (idxP p5R xs))
 | _=>none
def rc5X_T (ascB:LLR→Bool):Prop :=
  ∀ (gl:Glob) (f:Bool) (xs:List (List AV)),StsP xs→True→True→(∃ x,IdxI p5R xs x∧(((bif f then f=true else True)∧xs=xs)∧True∧(↑xs.length:Int)=(↑xs.length:Int)∧(0:Int)=x∧True)∧True)∧∀ (x:Int),IdxI p5R xs x→bif decide (x < (↑xs.length:Int)) then bif decide (0≤x∧x < (↑xs.length:Int)) then ∃ n s xs_1,List.take [AV.int .i64 n,.str s,.sl (7:Nat) false xs_1].length (xs.getD x.toNat [])=[AV.int
 .i64 n,.str s,.sl (7:Nat) false xs_1]∧PdsP xs_1∧bif !ascB xs_1 then x=idxP p5R xs else bif decide (rng .i64 (x+(1:Int))) then ∃ y,IdxI p5R xs y∧(rxL (44:Nat) (3:Nat) p5R f xs [] []).m y < (rxL (44:Nat) (3:Nat) p5R f xs [] []).m x∧(((bif f then f=true else True)∧xs=xs)∧True∧(↑xs.length:Int)=(↑xs.length:Int)∧x+(1:Int)=y∧True)∧True else False else False else (-1:Int)=idxP p5R xs
theorem rc5X_P:rc5X_T ascB:=by
 unfold rc5X_T
 intro gl f xs hp
 intros
 have bf:cond f (f=true) True:=by cases f <;> trivial
 have hs:=hp.fs
 refine ⟨⟨0,⟨by decide,by omega,fun j h=>by omega⟩,by (repeat' (first | exact trivial | exact rfl | assumption | apply And.intro))⟩,?_⟩
 rintro i ⟨h0,h1,hn⟩
 have ei:((i.toNat:Nat):Int)=i:=by omega
 refine cs (fun hl=>?_) (fun hl=>?_)
 ·obtain ⟨k,nm,ps,he,hq⟩:=hp.fr i.toNat (by omega)
  refine cd1 ⟨h0,hl⟩ ⟨k,nm,ps,by rw [he]; rfl,hq,csplit (fun q=>?_) (fun q=>?_)⟩
  ·have:=idx_some (p:=p5R) (xs:=xs) (i:=i.toNat) (by omega) (by rw [he]; exact q) (fun j hj=>hn j (by omega))
   exact ei.symm.trans this
  ·refine cdI (by omega) ⟨i+1,⟨by omega,by omega,fun j hj=>?_⟩,by simp only [rxL]; omega,by (repeat' (first | exact trivial | exact rfl | assumption | apply And.intro))⟩
   rcases Nat.lt_or_ge j i.toNat with k | k
   ·exact hn j (by omega)
   ·rw [show j=i.toNat by omega,he]; exact q
 ·exact idx_none fun j hj=>hn j (by omega)
def rc5X_S (ascB:LLR→Bool):Prop:=∀ (gl:Glob) (f:Bool) (xs:List (List AV)),StsP xs→fnK Tryd.prog { glob:=gl,spec:=lk [(44,(gunord_s ascB))],specH:=lk [],shape:=[15],slz:=[(15,[7])],nowf:=true } { nt:=19,drop:=drp [(1,64),(3,1024),(4,63488),(5,131072),(6,262144)] } (invs [(2,rxL 44 3 p5R f xs [] [])]) 6 Tryd.f94 [.sl 3 f xs,.fn 44 []] (.int .i64 (idxP p5R xs))
theorem rc5X_e (ascB:LLR→Bool):rc5X_T ascB=rc5X_S ascB:=by kernel_rfl
theorem rc5X_v:rc5X_S ascB:=Eq.mp (rc5X_e ..) (rc5X_P)
theorem rc5X_ok (gl:Glob):SOK Tryd.prog gl 94 rc5X_s:=by
 refine ⟨fok Tryd.func94 (by kernel_rfl) (by kernel_rfl),?_⟩
 intro xs pre r h hp
 unfold rc5X_s at h
 split at h
 ·simp only [Option.some.injEq,Prod.mk.injEq] at h
  obtain ⟨h1,h2⟩:=h
  subst h1 h2
  exact fnK_sound tyNil (by exact specOK rfl rfl ⟨(gunord_ok gl),trivial⟩ trivial) (by kernel_rfl) Tryd.func94 rfl (rc5X_v gl _ _ hp)
 ·cases h
def rc5_s:Sp
 | [.sl 3 f xs,.fn 44 []]=>some (StsP xs,.bool (xs.any p5R))
 | _=>none
def rc5_T:Prop :=
 ∀ (gl:Glob) (f:Bool) (xs:List (List AV)),StsP xs→True→True→StsP xs∧decide (0≤idxP p5R xs)=xs.any p5R
theorem rc5_P:rc5_T:=by
 unfold rc5_T
 intro gl f xs hp
 intros
 exact ⟨hp,idx_ge⟩
def rc5_S:Prop:=∀ (gl:Glob) (f:Bool) (xs:List (List AV)),StsP xs→fnK Tryd.prog { glob:=gl,spec:=lk [(94,rc5X_s)],specH:=lk [],nowf:=true } { nt:=9,drop:=drp [(1,480)] } (fun _ _=>none) 6 Tryd.f78 [.sl 3 f xs,.fn 44 []] (.bool (xs.any p5R))
theorem rc5_e:rc5_T=rc5_S:=by kernel_rfl
theorem rc5_v:rc5_S:=Eq.mp (rc5_e ..) (rc5_P)
theorem rc5_ok (gl:Glob):SOK Tryd.prog gl 78 rc5_s:=by
 refine ⟨fok Tryd.func78 (by kernel_rfl) (by kernel_rfl),?_⟩
 intro xs pre r h hp
 unfold rc5_s at h
 split at h
 ·simp only [Option.some.injEq,Prod.mk.injEq] at h
  obtain ⟨h1,h2⟩:=h
  subst h1 h2
  exact fnK_sound tyNil (by exact specOK rfl rfl ⟨(rc5X_ok gl),trivial⟩ trivial) (by kernel_rfl) Tryd.func78 rfl (rc5_v gl _ _ hp)
 ·cases h
def rc5s_s:Sp
 | [.agg [.sl 3 f xs],.fn 44 []]=>some (StsP xs,.bool (xs.any p5R))
 | _=>none
def rc5s_T:Prop :=
 ∀ (gl:Glob) (f:Bool) (xs:List (List AV)),StsP xs→True∧True→True→StsP xs∧xs.any p5R=xs.any p5R
theorem rc5s_P:rc5s_T:=by
 unfold rc5s_T
 intro gl f xs hp
 intros
 exact ⟨hp,rfl⟩
def rc5s_S:Prop:=∀ (gl:Glob) (f:Bool) (xs:List (List AV)),StsP xs→fnK Tryd.prog { glob:=gl,spec:=lk [(78,rc5_s)],specH:=lk [],nowf:=true } { nt:=9,drop:=drp [(1,480)] } (fun _ _=>none) 6 Tryd.f37 [.agg [.sl 3 f xs],.fn 44 []] (.bool (xs.any p5R))
theorem rc5s_e:rc5s_T=rc5s_S:=by kernel_rfl
theorem rc5s_v:rc5s_S:=Eq.mp (rc5s_e ..) (rc5s_P)
theorem rc5s_ok (gl:Glob):SOK Tryd.prog gl 37 rc5s_s:=by
 refine ⟨fok Tryd.func37 (by kernel_rfl) (by kernel_rfl),?_⟩
 intro xs pre r h hp
 unfold rc5s_s at h
 split at h
 ·simp only [Option.some.injEq,Prod.mk.injEq] at h
  obtain ⟨h1,h2⟩:=h
  subst h1 h2
  exact fnK_sound tyNil (by exact specOK rfl rfl ⟨(rc5_ok gl),trivial⟩ trivial) (by kernel_rfl) Tryd.func37 rfl (rc5s_v gl _ _ hp)
 ·cases h
def rc6X_s:Sp
 | [.sl 3 f xs,.fn 41 []]=>some (StsP xs,.int .i64 (idxP p4R xs))
 | _=>none
def rc6X_T:Prop :=
  ∀ (f:Bool) (xs:List (List AV)),StsP xs→True→True→(∃ x,IdxI p4R xs x∧(((bif f then f=true else True)∧xs=xs)∧True∧(↑xs.length:Int)=(↑xs.length:Int)∧(0:Int)=x∧True)∧True)∧∀ (x:Int),IdxI p4R xs x→bif decide (x < (↑xs.length:Int)) then bif decide (0≤x∧x < (↑xs.length:Int)) then ∃ n s xs_1,List.take [AV.int .i64 n,.str s,.sl (7:Nat) false xs_1].length (xs.getD x.toNat [])=[AV.int .i64 n,.str
 s,.sl (7:Nat) false xs_1]∧PdsP xs_1∧bif xs_1.any (bdP n) then x=idxP p4R xs else bif decide (rng .i64 (x+(1:Int))) then ∃ y,IdxI p4R xs y∧(rxL (41:Nat) (3:Nat) p4R f xs [] []).m y < (rxL (41:Nat) (3:Nat) p4R f xs [] []).m x∧(((bif f then f=true else True)∧xs=xs)∧True∧(↑xs.length:Int)=(↑xs.length:Int)∧x+(1:Int)=y∧True)∧True else False else False else (-1:Int)=idxP p4R xs
theorem rc6X_P:rc6X_T:=by
 unfold rc6X_T
 intro f xs hp
 intros
 have bf:cond f (f=true) True:=by cases f <;> trivial
 have hs:=hp.fs
 refine ⟨⟨0,⟨by decide,by omega,fun j h=>by omega⟩,by (repeat' (first | exact trivial | exact rfl | assumption | apply And.intro))⟩,?_⟩
 rintro i ⟨h0,h1,hn⟩
 have ei:((i.toNat:Nat):Int)=i:=by omega
 refine cs (fun hl=>?_) (fun hl=>?_)
 ·obtain ⟨k,nm,ps,he,hq⟩:=hp.fr i.toNat (by omega)
  refine cd1 ⟨h0,hl⟩ ⟨k,nm,ps,by rw [he]; rfl,hq,csplit (fun q=>?_) (fun q=>?_)⟩
  ·have:=idx_some (p:=p4R) (xs:=xs) (i:=i.toNat) (by omega) (by rw [he]; exact q) (fun j hj=>hn j (by omega))
   exact ei.symm.trans this
  ·refine cdI (by omega) ⟨i+1,⟨by omega,by omega,fun j hj=>?_⟩,by simp only [rxL]; omega,by (repeat' (first | exact trivial | exact rfl | assumption | apply And.intro))⟩
   rcases Nat.lt_or_ge j i.toNat with k | k
   ·exact hn j (by omega)
   ·rw [show j=i.toNat by omega,he]; exact q
 ·exact idx_none fun j hj=>hn j (by omega)
def rc6X_S:Prop:=∀ (f:Bool) (xs:List (List AV)),StsP xs→fnK Tryd.prog { glob:=glb,spec:=lk [(41,rg4_s)],specH:=lk [],shape:=[15],slz:=[(15,[7])],nowf:=true } { nt:=19,drop:=drp [(1,64),(3,1024),(4,63488),(5,131072),(6,262144)] } (invs [(2,rxL 41 3 p4R f xs [] [])]) 6 Tryd.f94 [.sl 3 f xs,.fn 41 []] (.int .i64 (idxP p4R xs))
theorem rc6X_e:rc6X_T=rc6X_S:=by kernel_rfl
theorem rc6X_v:rc6X_S:=Eq.mp (rc6X_e ..) (rc6X_P)
theorem rc6X_ok:SOK Tryd.prog glb 94 rc6X_s:=by
 refine ⟨fok Tryd.func94 (by kernel_rfl) (by kernel_rfl),?_⟩
 intro xs pre r h hp
 unfold rc6X_s at h
 split at h
 ·simp only [Option.some.injEq,Prod.mk.injEq] at h
  obtain ⟨h1,h2⟩:=h
  subst h1 h2
  exact fnK_sound tyNil (by exact specOK rfl rfl ⟨(rg4_ok),trivial⟩ trivial) (by kernel_rfl) Tryd.func94 rfl (rc6X_v  _ _ hp)
 ·cases h
def rc6_s:Sp
 | [.sl 3 f xs,.fn 41 []]=>some (StsP xs,.bool (xs.any p4R))
 | _=>none
def rc6_T:Prop :=
 ∀ (f:Bool) (xs:List (List AV)),StsP xs→True→True→StsP xs∧decide (0≤idxP p4R xs)=xs.any p4R
theorem rc6_P:rc6_T:=by
 unfold rc6_T
 intro f xs hp
 intros
 exact ⟨hp,idx_ge⟩
def rc6_S:Prop:=∀ (f:Bool) (xs:List (List AV)),StsP xs→fnK Tryd.prog { glob:=glb,spec:=lk [(94,rc6X_s)],specH:=lk [],nowf:=true } { nt:=9,drop:=drp [(1,480)] } (fun _ _=>none) 6 Tryd.f78 [.sl 3 f xs,.fn 41 []] (.bool (xs.any p4R))
theorem rc6_e:rc6_T=rc6_S:=by kernel_rfl
theorem rc6_v:rc6_S:=Eq.mp (rc6_e ..) (rc6_P)
theorem rc6_ok:SOK Tryd.prog glb 78 rc6_s:=by
 refine ⟨fok Tryd.func78 (by kernel_rfl) (by kernel_rfl),?_⟩
 intro xs pre r h hp
 unfold rc6_s at h
 split at h
 ·simp only [Option.some.injEq,Prod.mk.injEq] at h
  obtain ⟨h1,h2⟩:=h
  subst h1 h2
  exact fnK_sound tyNil (by exact specOK rfl rfl ⟨(rc6X_ok),trivial⟩ trivial) (by kernel_rfl) Tryd.func78 rfl (rc6_v  _ _ hp)
 ·cases h
def rc6s_s:Sp
 | [.agg [.sl 3 f xs],.fn 41 []]=>some (StsP xs,.bool (xs.any p4R))
 | _=>none
def rc6s_T:Prop :=
 ∀ (f:Bool) (xs:List (List AV)),StsP xs→True∧True→True→StsP xs∧xs.any p4R=xs.any p4R
theorem rc6s_P:rc6s_T:=by
 unfold rc6s_T
 intro f xs hp
 intros
 exact ⟨hp,rfl⟩
def rc6s_S:Prop:=∀ (f:Bool) (xs:List (List AV)),StsP xs→fnK Tryd.prog { glob:=glb,spec:=lk [(78,rc6_s)],specH:=lk [],nowf:=true } { nt:=9,drop:=drp [(1,480)] } (fun _ _=>none) 6 Tryd.f37 [.agg [.sl 3 f xs],.fn 41 []] (.bool (xs.any p4R))
theorem rc6s_e:rc6s_T=rc6s_S:=by kernel_rfl
theorem rc6s_v:rc6s_S:=Eq.mp (rc6s_e ..) (rc6s_P)
theorem rc6s_ok:SOK Tryd.prog glb 37 rc6s_s:=by
 refine ⟨fok Tryd.func37 (by kernel_rfl) (by kernel_rfl),?_⟩
 intro xs pre r h hp
 unfold rc6s_s at h
 split at h
 ·simp only [Option.some.injEq,Prod.mk.injEq] at h
  obtain ⟨h1,h2⟩:=h
  subst h1 h2
  exact fnK_sound tyNil (by exact specOK rfl rfl ⟨(rc6_ok),trivial⟩ trivial) (by kernel_rfl) Tryd.func37 rfl (rc6s_v  _ _ hp)
 ·cases h
def snO (l:LLR):Bool:=decide (∀ j,j < l.length→j=0∨Op.bytesLess (sNm (l.getD (j - 1) [])).toList (sNm (l.getD j [])).toList=true)
def rgV (l:LLR):Int:=if 60 < (l.length:Int)∨l.any p1R=true then 2 else if l.any p2R=true then 4 else if l.any p3R=true then 3 else if l.any p4R=true then 1 else if l.any p5R=true then 8 else if snO l=true then 0 else 8
structure SnI (l:LLR) (i:Int):Prop where
 lo:1≤i
 hi:i≤l.length∨i=1
 asc:∀ j:Nat,(j:Int) < i→j < l.length→j=0∨Op.bytesLess (sNm (l.getD (j - 1) [])).toList (sNm (l.getD j [])).toList=true
def vl12 (l:LLR) (g:Bool):LInv:=⟨Int,fun i=>⟨[(1,.ptr 1 0),(3,.int .i64 i)],[(1,.cells [.sl 3 g l])]⟩,SnI l,fun i=>(l.length+1 - i).toNat,none⟩
def gvalidR_s (rgV:LLR→Int) (p1R:List AV→Bool) (p2R:List AV→Bool) (p3R:List AV→Bool) (p4R:List AV→Bool) (p5R:List AV→Bool):Sp
 | [.agg [.sl 3 g l]]=>some (StsP l,.int .i64 (rgV l))
 | _=>none
def gvalidR_T (rgV:LLR→Int) (p1R:List AV→Bool) (p2R:List AV→Bool) (p3R:List AV→Bool) (p4R:List AV→Bool) (p5R:List AV→Bool):Prop :=
  ∀ (g:Bool) (l:List (List AV)),StsP l→True∧True→bif decide ((60:Int) < (↑l.length:Int)) then (2:Int)=rgV l else StsP l∧bif l.any YtldiagnbagpliaaDoor.p1R then (2:Int)=rgV l else StsP l∧bif l.any YtldiagnbagpliaaDoor.p2R then (4:Int)=rgV l else StsP l∧bif l.any YtldiagnbagpliaaDoor.p3R then (3:Int)=rgV l else StsP l∧bif l.any YtldiagnbagpliaaDoor.p4R then (1:Int)=rgV l else StsP l∧bif l.any
 YtldiagnbagpliaaDoor.p5R then (8:Int)=rgV l else (∃ x,SnI l x∧((0:Nat)=0∧(1:Int)=x∧True)∧(((bif g then g=true else True)∧l=l)∧True)∧True)∧∀ (x:Int),SnI l x→bif decide (x < (↑l.length:Int)) then bif decide (rng .i64 (x - (1:Int))) then bif decide (0≤x - (1:Int)∧x - (1:Int) < (↑l.length:Int)) then ∃ s,List.take [AV.str s].length (List.drop (1:Nat) (l.getD (x - (1:Int)).toNat []))=[AV.str
 s]∧bif decide (0≤x∧x < (↑l.length:Int)) then ∃ s_1,List.take [AV.str s_1].length (List.drop (1:Nat) (l.getD x.toNat []))=[AV.str s_1]∧bif !Op.bytesLess s.toList s_1.toList then (8:Int)=rgV l else bif decide (rng .i64 (x+(1:Int))) then ∃ y,SnI l y∧(vl12 l g).m y < (vl12 l g).m x∧((0:Nat)=0∧x+(1:Int)=y∧True)∧(((bif g then g=true else True)∧l=l)∧True)∧True else False else False else False
 else False else (0:Int)=rgV l
theorem gvalidR_P:gvalidR_T rgV p1R p2R p3R p4R p5R:=by
 unfold gvalidR_T
 intro g l hp _
 have hs:=hp.fs
 have bg:cond g (g=true) True:=by cases g <;> trivial
 have nt:∀ {b:Bool},b=false→¬ b=true:=fun h=>by rw [h]; decide
 refine csx (fun q=>by unfold rgV; rw [if_pos (.inl q)]) (fun q=>⟨hp,csplit (fun q1=>by unfold rgV; rw [if_pos (.inr q1)]) (fun q1=>?_)⟩)
 have e1:rgV l=if l.any p2R=true then 4 else if l.any p3R=true then 3 else if l.any p4R=true then 1 else if l.any p5R=true then 8 else if snO l=true then 0 else 8:=by unfold rgV; rw [if_neg (fun h=>h.elim q (nt q1))]
 rw [e1]
 refine ⟨hp,csplit (fun q2=>by rw [if_pos q2]) (fun q2=>⟨hp,csplit (fun q3=>by rw [if_neg (nt q2),if_pos q3]) (fun q3=>⟨hp,csplit (fun q4=>by rw [if_neg (nt q2),if_neg (nt q3),if_pos q4]) (fun q4=>⟨hp,csplit (fun q5=>by rw [if_neg (nt q2),if_neg (nt q3),if_neg (nt q4),if_pos q5]) (fun q5=>?_)⟩)⟩)⟩)⟩
 rw [if_neg (nt q2),if_neg (nt q3),if_neg (nt q4),if_neg (nt q5)]
 refine ⟨⟨1,⟨by decide,.inr rfl,fun j hj _=>.inl (by omega)⟩,by (repeat' (first | exact trivial | exact rfl | assumption | apply And.intro))⟩,?_⟩
 rintro i ⟨h0,h2,hn⟩
 refine csx (fun hl=>cdI (by omega) (cd1 (by omega) ?_)) (fun hl=>?_)
 ·obtain ⟨_,e,_,he,_⟩:=hp.fr (i - 1).toNat (by omega)
  obtain ⟨_,e',_,he',_⟩:=hp.fr i.toNat (by omega)
  have hi:i.toNat - 1=(i - 1).toNat:=by omega
  have q1:sNm (l.getD (i.toNat - 1) [])=e:=by rw [hi,he]; rfl
  have q2:sNm (l.getD i.toNat [])=e':=by rw [he']; rfl
  refine ⟨e,by rw [he]; rfl,cd1 (by omega) ⟨e',by rw [he']; rfl,csplit (fun q=>?_) (fun q=>cdI (by omega) ⟨i+1,⟨by omega,.inl (by omega),fun j hj hlj=>?_⟩,by simp only [vl12]; omega,by (repeat' (first | exact trivial | exact rfl | assumption | apply And.intro))⟩)⟩⟩
  ·rw [if_neg]
   intro h
   rcases of_decide_eq_true h i.toNat (by omega) with k | k
   ·omega
   ·rw [q1,q2] at k; rw [k] at q; cases q
  ·rcases Nat.lt_or_ge j i.toNat with k | k
   ·exact hn j (by omega) hlj
   ·rw [show j=i.toNat by omega,q1,q2]; exact .inr (by simpa using q)
 ·rw [if_pos]
  exact decide_eq_true fun j hj=>hn j (by omega) hj
def gvalidR_S (rgV:LLR→Int) (p1R:List AV→Bool) (p2R:List AV→Bool) (p3R:List AV→Bool) (p4R:List AV→Bool) (p5R:List AV→Bool):Prop:=∀ (g:Bool) (l:List (List AV)),StsP l→fnK Tryd.prog { glob:=glb,spec:=lk [(37,(orSp rc1s_s (orSp rc2s_s (orSp rc3s_s (orSp rc5s_s rc6s_s)))))],specH:=lk [],shape:=[38,44],nowf:=true } { nt:=46,drop:=drp [(1,8160),(3,49152),(5,393216),(7,3145728),(9,25165824),(12,503316480),(13,3221225472),(14,35180077121536)] } (invs [(12,vl12 l g)]) 6 Tryd.f16 [.agg [.sl 3 g l]] (.int .i64 (rgV l))
theorem gvalidR_e (rgV:LLR→Int) (p1R:List AV→Bool) (p2R:List AV→Bool) (p3R:List AV→Bool) (p4R:List AV→Bool) (p5R:List AV→Bool):gvalidR_T rgV p1R p2R p3R p4R p5R=gvalidR_S rgV p1R p2R p3R p4R p5R:=by kernel_rfl
theorem gvalidR_v:gvalidR_S rgV p1R p2R p3R p4R p5R:=Eq.mp (gvalidR_e ..) (gvalidR_P)
theorem gvalidR_ok:SOK Tryd.prog glb 16 (gvalidR_s rgV p1R p2R p3R p4R p5R):=by
 refine ⟨fok Tryd.func16 (by kernel_rfl) (by kernel_rfl),?_⟩
 intro xs pre r h hp
 unfold gvalidR_s at h
 split at h
 ·simp only [Option.some.injEq,Prod.mk.injEq] at h
  obtain ⟨h1,h2⟩:=h
  subst h1 h2
  exact fnK_sound tyNil (by exact specOK rfl rfl ⟨(SOK.or (rc1s_ok glb) (SOK.or (rc2s_ok glb) (SOK.or (rc3s_ok glb) (SOK.or (rc5s_ok glb) (rc6s_ok))))),trivial⟩ trivial) (by kernel_rfl) Tryd.func16 rfl (gvalidR_v  _ _ hp)
 ·cases h
end Go.Proofs.YtldiagnbagpliaaDoor
namespace Go.Proofs.YtldiagnbagpliaaDoor
open Go
set_option linter.unusedVariables false
set_option linter.unusedSimpArgs false
def unR (bs:LLR) (r:List AV):List AV:=[.int .i64 (rE r),.int .i64 (IntKind.i64.wrap (rV r - fdV bs (rE r)))]
def ckZ (r:List AV):Bool:=decide (ck (rE r) (rV r)=0)
def unb (rd bs:LLR):LLR:=(rd.map (unR bs)).filter ckZ
theorem gD_lt {xs:LLR} {i:Nat} (h:i < xs.length):xs.getD i []=xs[i]:=by
 rw [List.getD_eq_getElem?_getD,List.getElem?_eq_getElem h]; rfl
theorem ck_cases (e v:Int):ck e v=0∨ck e v=1∨ck e v=4:=by
 unfold ck
 split
 ·split
  ·exact .inr (.inl rfl)
  ·exact .inl rfl
 ·exact .inr (.inr rfl)
abbrev AscP (xs:LLR):Prop:=xs.Pairwise (fun a b=>rE a < rE b)
theorem asc_step {xs:LLR} (h:ascB xs=true):∀ (d i:Nat),i+d+1 < xs.length→rE (xs.getD i []) < rE (xs.getD (i+d+1) [])
 | 0,i,hi=>by
  rcases of_decide_eq_true h (i+1) hi with q | q
  ·omega
  ·simpa using q
 | d+1,i,hi=>by
  have h1:=asc_step h d i (by omega)
  rcases of_decide_eq_true h (i+d+1+1) (by omega) with q | q
  ·omega
  ·simp only [Nat.add_sub_cancel] at q
   rw [show i+(d+1)+1=i+d+1+1 by omega]
   exact Int.lt_trans h1 q
theorem asc_pw {xs:LLR}:ascB xs=true↔AscP xs:=by
 constructor
 ·intro h
  rw [AscP,List.pairwise_iff_getElem]
  intro i j hi hj hij
  have:=asc_step h (j - i - 1) i (by omega)
  rw [show i+(j - i - 1)+1=j by omega,gD_lt hi,gD_lt hj] at this
  exact this
 ·intro h
  rw [AscP,List.pairwise_iff_getElem] at h
  refine decide_eq_true fun j hj=>?_
  by_cases hz:j=0
  ·exact .inl hz
  ·refine .inr ?_
   rw [gD_lt hj,gD_lt (show j - 1 < xs.length by omega)]
   exact h (j - 1) j (by omega) hj (by omega)
theorem vd_zero {xs:LLR}:vdE xs=0↔(∀ r ∈ xs,ck (rE r) (rV r)=0)∧AscP xs:=by
 unfold vdE
 rw [← asc_pw]
 constructor
 ·intro h
  split at h
  ·cases h
  ·next h4 =>
   split at h
   ·cases h
   ·next h1 =>
    split at h
    ·next ha =>
     refine ⟨fun r hr=>?_,ha⟩
     rcases ck_cases (rE r) (rV r) with e | e | e
     ·exact e
     ·exact absurd (List.any_eq_true.2 ⟨r,hr,decide_eq_true e⟩) h1
     ·exact absurd (List.any_eq_true.2 ⟨r,hr,decide_eq_true e⟩) h4
    ·cases h
 ·rintro ⟨h,ha⟩
  have nk:∀ n,n≠0→ckA n xs=false:=fun n hn=>by
   unfold ckA
   rw [List.any_eq_false]
   intro r hr q
   have:=of_decide_eq_true q
   rw [h r hr] at this
   exact hn this.symm
  rw [nk 4 (by decide),nk 1 (by decide),ha]; rfl
theorem unb_take {rd bs:LLR} {i:Nat} (hi:i < rd.length):unb (rd.take (i+1)) bs=if ck (rE (rd.getD i [])) (IntKind.i64.wrap (rV (rd.getD i []) - fdV bs (rE (rd.getD i []))))=0 then unb (rd.take i) bs++[unR bs (rd.getD i [])] else unb (rd.take i) bs:=by
 unfold unb
 rw [List.take_add_one,List.getElem?_eq_getElem hi,gD_lt hi,Option.toList_some,List.map_append,List.filter_append]
 show _++(List.filter ckZ [unR bs rd[i]])=_
 by_cases h:ck (rE rd[i]) (IntKind.i64.wrap (rV rd[i] - fdV bs (rE rd[i])))=0
 ·rw [if_pos h,List.filter_cons_of_pos (show ckZ (unR bs rd[i])=true from decide_eq_true h)]; rfl
 ·rw [if_neg h,List.filter_cons_of_neg (show ¬ ckZ (unR bs rd[i])=true from fun q=>h (of_decide_eq_true q)),List.filter_nil,List.append_nil]
theorem unb_len (rd bs:LLR):(unb rd bs).length≤rd.length:=by
 unfold unb
 exact Nat.le_trans (List.length_filter_le _ _) (by rw [List.length_map]; exact Nat.le_refl _)
end Go.Proofs.YtldiagnbagpliaaDoor
namespace Go.Proofs.YtldiagnbagpliaaDoor
open Go
set_option linter.unusedVariables false
set_option linter.unusedSimpArgs false
theorem lex_nm0 (s t:ByteArray):lexI (nmK s.toList) (nmK t.toList)=cmpS s t:=by
 have:=lex_nm (x:=[]) (y:=[]) s.toList t.toList
 rw [List.append_nil,List.append_nil] at this
 rw [this]
 exact orI_z _
theorem less_rfl (s:ByteArray):Op.bytesLess s.toList s.toList=false:=by
 have h:cmpS s s=0:=by rw [← lex_nm0]; exact lexI_rfl _
 unfold cmpS at h
 cases e:Op.bytesLess s.toList s.toList with
 | false=>rfl
 | true=>rw [e] at h; simp at h
theorem less_eq {s t:ByteArray} (h1:Op.bytesLess s.toList t.toList=false) (h2:Op.bytesLess t.toList s.toList=false):s=t:=by
 have h:cmpS s t=0:=by unfold cmpS; rw [h1,h2]; rfl
 rw [← lex_nm0] at h
 have:=lexI_zero h
 have h3:=nmK_inj (x:=[]) (y:=[]) (s:=s.toList) (t:=t.toList) (by rw [this])
 exact str_inj h3.1
def nanS_s:Sp
 | [.str a]=>some (True,.bool false)
 | _=>none
def nanS_T:Prop :=
 ∀ (gl:Glob) (a:ByteArray),a.size.le (9223372036854775807:Nat)→(!decide (a=a))=false
theorem nanS_P:nanS_T:=by
 unfold nanS_T
 intro gl a _
 simp
def nanS_S:Prop:=∀ (gl:Glob) (a:ByteArray),fnK Tryd.prog { glob:=gl,spec:=lk [],specH:=lk [],nowf:=true } { nt:=6,drop:=drp [(1,56)] } (fun _ _=>none) 6 Tryd.f81 [.str a] (.bool false)
theorem nanS_e:nanS_T=nanS_S:=by kernel_rfl
theorem nanS_v:nanS_S:=Eq.mp (nanS_e ..) (nanS_P)
theorem nanS_ok (gl:Glob):SOK Tryd.prog gl 81 nanS_s:=by
 refine ⟨fok Tryd.func81 (by kernel_rfl) (by kernel_rfl),?_⟩
 intro xs pre r h hp
 unfold nanS_s at h
 split at h
 ·simp only [Option.some.injEq,Prod.mk.injEq] at h
  obtain ⟨h1,h2⟩:=h
  subst h1 h2
  exact fnK_sound tyNil (by exact specOK rfl rfl trivial trivial) (by kernel_rfl) Tryd.func81 rfl (nanS_v gl _)
 ·cases h
def fcmpS_s (cmpS:ByteArray→ByteArray→Int):Sp
 | [.str a,.str b]=>some (True,.int .i64 (cmpS a b))
 | _=>none
def fcmpS_T (cmpS:ByteArray→ByteArray→Int):Prop :=
 ∀ (gl:Glob) (a b:ByteArray),a.size.le (9223372036854775807:Nat)→b.size.le (9223372036854775807:Nat)→True∧True∧bif Op.bytesLess a.toList b.toList then (-1:Int)=cmpS a b else bif !(Op.bytesLess a.toList b.toList||decide (a=b)) then (1:Int)=cmpS a b else (0:Int)=cmpS a b
theorem fcmpS_P:fcmpS_T cmpS:=by
 unfold fcmpS_T
 intro gl a b _ _
 refine ⟨trivial,trivial,csplit (fun h=>?_) (fun h=>csplit (fun k=>?_) (fun k=>?_))⟩
 ·unfold cmpS; rw [if_pos h]
 ·unfold cmpS
  rw [h]
  cases e:Op.bytesLess b.toList a.toList with
  | true=>simp
  | false=>rw [h,less_eq h e] at k; simp at k
 ·unfold cmpS
  rw [h] at k ⊢
  have:a=b:=by simpa using k
  subst this
  rw [less_rfl]; simp
def fcmpS_S (cmpS:ByteArray→ByteArray→Int):Prop:=∀ (gl:Glob) (a b:ByteArray),fnK Tryd.prog { glob:=gl,spec:=lk [(81,nanS_s)],specH:=lk [],nowf:=true } { nt:=20,drop:=drp [(1,384),(2,1536),(9,49152),(11,393216)] } (fun _ _=>none) 6 Tryd.f52 [.str a,.str b] (.int .i64 (cmpS a b))
theorem fcmpS_e (cmpS:ByteArray→ByteArray→Int):fcmpS_T cmpS=fcmpS_S cmpS:=by kernel_rfl
theorem fcmpS_v:fcmpS_S cmpS:=Eq.mp (fcmpS_e ..) (fcmpS_P)
theorem fcmpS_ok (gl:Glob):SOK Tryd.prog gl 52 (fcmpS_s cmpS):=by
 refine ⟨fok Tryd.func52 (by kernel_rfl) (by kernel_rfl),?_⟩
 intro xs pre r h hp
 unfold fcmpS_s at h
 split at h
 ·simp only [Option.some.injEq,Prod.mk.injEq] at h
  obtain ⟨h1,h2⟩:=h
  subst h1 h2
  exact fnK_sound tyNil (by exact specOK rfl rfl ⟨(nanS_ok gl),trivial⟩ trivial) (by kernel_rfl) Tryd.func52 rfl (fcmpS_v gl _ _)
 ·cases h
def rdC (xs ys:LLA):Int:=lexI (rdK xs) (rdK ys)
structure CmP (xs ys:LLA) (i:Int):Prop where
 flo:0≤i
 fhi:i≤xs.length
 fhj:i≤ys.length
 fe:rdC xs ys=rdC (xs.drop i.toNat) (ys.drop i.toNat)
end Go.Proofs.YtldiagnbagpliaaDoor
namespace Go.Proofs.YtldiagnbagpliaaDoor
open Go
set_option linter.unusedVariables false
set_option linter.unusedSimpArgs false
def fpI (q:List AV→Int) (l:LLR):Nat:=l.findIdx fun r=>decide (0≤q r)
def fpB (q:List AV→Int) (l:LLR):Bool:=decide (fpI q l < l.length)&&decide (q (l.getD (fpI q l) [])=0)
structure MonQ (q:List AV→Int) (l:LLR):Prop where
 fm:∀ i j:Nat,i < j→j < l.length→q (l.getD j []) < 0→q (l.getD i []) < 0
theorem fp_le (q:List AV→Int) (l:LLR):fpI q l≤l.length:=List.findIdx_le_length
theorem fp_uniq {q:List AV→Int} {l:LLR} {i:Nat} (hi:i≤l.length) (h1:∀ j,j < i→q (l.getD j []) < 0) (h2:i < l.length→0≤q (l.getD i [])):fpI q l=i:=by
 unfold fpI
 by_cases hl:i < l.length
 ·refine (List.findIdx_eq hl).2 ⟨by have:=h2 hl; rw [gD_lt hl] at this; exact decide_eq_true this,fun j hj=>?_⟩
  have:=h1 j hj
  rw [gD_lt (by omega)] at this
  exact decide_eq_false (by omega)
 ·have e:i=l.length:=by omega
  rw [e,List.findIdx_eq_length]
  intro x hx
  obtain ⟨j,hj,rfl⟩:=List.mem_iff_getElem.1 hx
  have:=h1 j (by omega)
  rw [gD_lt hj] at this
  exact decide_eq_false (by omega)
structure BsG (q:List AV→Int) (l:LLR) (p:Int × Int):Prop where
 flo:0≤p.1
 fij:p.1≤p.2
 fhi:p.2≤l.length
 fl:∀ k:Nat,(k:Int) < p.1→q (l.getD k []) < 0
 fr:∀ k:Nat,p.2≤k→k < l.length→0≤q (l.getD k [])
theorem bsG_l {q:List AV→Int} {l:LLR} {i j M:Int} (hm:MonQ q l) (h:BsG q l (i,j)) (m1:i≤M∧M < j) (hq:q (l.getD M.toNat []) < 0):BsG q l (M+1,j):=by
 obtain ⟨i0,ij,j1,hlo,hhi⟩:=h
 simp only at i0 ij j1 hlo hhi
 refine ⟨by simp only; omega,by simp only; omega,j1,fun w hw=>?_,hhi⟩
 simp only at hw
 rcases Nat.lt_or_ge w M.toNat with z | z
 ·exact hm.fm w M.toNat z (by omega) hq
 ·rw [show w=M.toNat by omega]; exact hq
theorem bsG_r {q:List AV→Int} {l:LLR} {i j M:Int} (hm:MonQ q l) (h:BsG q l (i,j)) (m1:i≤M∧M < j) (hq:¬ q (l.getD M.toNat []) < 0):BsG q l (i,M):=by
 obtain ⟨i0,ij,j1,hlo,hhi⟩:=h
 simp only at i0 ij j1 hlo hhi
 refine ⟨i0,by simp only; omega,by simp only; omega,hlo,fun w hw hw2=>?_⟩
 simp only at hw
 rcases Nat.eq_or_lt_of_le (show M.toNat≤w by omega) with z | z
 ·rw [← z]; omega
 ·apply Int.not_lt.1
  intro z2
  exact hq (hm.fm M.toNat w z hw2 z2)
theorem bsG_end {q:List AV→Int} {l:LLR} {i:Int} (h:BsG q l (i,i)):i=(fpI q l:Nat):=by
 obtain ⟨i0,ij,j1,hlo,hhi⟩:=h
 simp only at i0 ij j1 hlo hhi
 have:=fp_uniq (q:=q) (l:=l) (i:=i.toNat) (by omega) (fun w hw=>hlo w (by omega)) (fun hw=>hhi _ (by omega) hw)
 omega
def qS (nm:ByteArray) (r:List AV):Int:=cmpS (sNm r) nm
def qP (t:Int) (r:List AV):Int:=cmpI (rE r) t
def stN (l:LLR) (nm:ByteArray):Nat:=fpI (qS nm) l
def stH (l:LLR) (nm:ByteArray):Bool:=fpB (qS nm) l
def pdN (ps:LLR) (t:Int):Nat:=fpI (qP t) ps
def pdH (ps:LLR) (t:Int):Bool:=fpB (qP t) ps
theorem cmpS_lt {s t:ByteArray}:cmpS s t < 0↔Op.bytesLess s.toList t.toList=true:=by
 unfold cmpS
 constructor
 ·intro h
  split at h
  ·assumption
  ·split at h <;> omega
 ·intro h
  rw [if_pos h]; decide
theorem cmpS_tr {s t u:ByteArray} (h1:cmpS s t < 0) (h2:cmpS t u < 0):cmpS s u < 0:=by
 rw [← lex_nm0] at *
 exact lexI_tr h1 h2
theorem snO_mon {l:LLR} (h:snO l=true) (nm:ByteArray):MonQ (qS nm) l:=by
 have st:∀ (d i:Nat),i+d+1 < l.length→cmpS (sNm (l.getD i [])) (sNm (l.getD (i+d+1) [])) < 0:=by
  intro d
  induction d with
  | zero =>
   intro i hi
   rcases of_decide_eq_true h (i+1) hi with q | q
   ·omega
   ·exact cmpS_lt.2 (by simpa using q)
  | succ d ih =>
   intro i hi
   have h1:=ih i (by omega)
   rcases of_decide_eq_true h (i+d+1+1) (by omega) with q | q
   ·omega
   ·simp only [Nat.add_sub_cancel] at q
    rw [show i+(d+1)+1=i+d+1+1 by omega]
    exact cmpS_tr h1 (cmpS_lt.2 q)
 refine ⟨fun i j hij hj hq=>?_⟩
 have:=st (j - i - 1) i (by omega)
 rw [show i+(j - i - 1)+1=j by omega] at this
 exact cmpS_tr this hq
theorem cmpI_lt {a b:Int}:cmpI a b < 0↔a < b:=by
 unfold cmpI
 constructor
 ·intro h
  split at h
  ·assumption
  ·split at h <;> omega
 ·intro h
  rw [if_pos h]; decide
theorem cmpI_z {a b:Int}:cmpI a b=0↔a=b:=by
 unfold cmpI
 constructor
 ·intro h
  split at h
  ·omega
  ·split at h
   ·omega
   ·omega
 ·intro h
  rw [if_neg (by omega),if_neg (by omega)]
theorem asc_mon {ps:LLR} (h:ascB ps=true) (t:Int):MonQ (qP t) ps:=by
 refine ⟨fun i j hij hj hq=>?_⟩
 have:=asc_step h (j - i - 1) i (by omega)
 rw [show i+(j - i - 1)+1=j by omega] at this
 exact cmpI_lt.2 (Int.lt_trans this (cmpI_lt.1 hq))
def sc1_s (cmpS:ByteArray→ByteArray→Int):Sp
 | [.agg [.int .i64 k,.str nm,.sl 7 false ps],.str n]=>some (True,.int .i64 (cmpS nm n))
 | _=>none
def sc1_T (cmpS:ByteArray→ByteArray→Int):Prop :=
 ∀ (gl:Glob) (k:Int) (nm n:ByteArray) (ps:List (List AV)),(IR9 k)∧nm.size.le (9223372036854775807:Nat)∧True∧True→n.size.le (9223372036854775807:Nat)→True∧cmpS nm n=cmpS nm n
theorem sc1_P:sc1_T cmpS:=by
 unfold sc1_T
 intro gl k nm n ps _ _
 exact ⟨trivial,rfl⟩
def sc1_S (cmpS:ByteArray→ByteArray→Int):Prop:=∀ (gl:Glob) (k:Int) (nm n:ByteArray) (ps:List (List AV)),fnK Tryd.prog { glob:=gl,spec:=lk [(52,(fcmpS_s cmpS))],specH:=lk [],nowf:=true } { nt:=9,drop:=drp [(1,480)] } (fun _ _=>none) 6 Tryd.f51 [.agg [.int .i64 k,.str nm,.sl 7 false ps],.str n] (.int .i64 (cmpS nm n))
theorem sc1_e (cmpS:ByteArray→ByteArray→Int):sc1_T cmpS=sc1_S cmpS:=by kernel_rfl
theorem sc1_v:sc1_S cmpS:=Eq.mp (sc1_e ..) (sc1_P)
theorem sc1_ok (gl:Glob):SOK Tryd.prog gl 51 (sc1_s cmpS):=by
 refine ⟨fok Tryd.func51 (by kernel_rfl) (by kernel_rfl),?_⟩
 intro xs pre r h hp
 unfold sc1_s at h
 split at h
 ·simp only [Option.some.injEq,Prod.mk.injEq] at h
  obtain ⟨h1,h2⟩:=h
  subst h1 h2
  exact fnK_sound tyNil (by exact specOK rfl rfl ⟨(fcmpS_ok gl),trivial⟩ trivial) (by kernel_rfl) Tryd.func51 rfl (sc1_v gl _ _ _ _)
 ·cases h
def pc1_s (cmpI:Int→Int→Int):Sp
 | [.agg [.int .i64 fr,.bool cl,.int .i64 f,.int .i64 a,.int .i64 b,.int .i64 c,.sl 2 false bs],.int .i64 n]=>some (True,.int .i64 (cmpI fr n))
 | _=>none
def pc1_T (cmpI:Int→Int→Int):Prop :=
  ∀ (gl:Glob) (fr f a b c n:Int) (cl:Bool) (bs:List (List AV)),(IR9 fr)∧True∧(IR9 f)∧(IR9 a)∧(IR9 b)∧((-9223372036854775808:Int)≤c∧c ≤
 (9223372036854775807:Int))∧True∧True→IR9 n→True∧cmpI fr n=cmpI fr n
theorem pc1_P:pc1_T cmpI:=by
 unfold pc1_T
 intro gl fr f a b c n cl bs _ _
 exact ⟨trivial,rfl⟩
def pc1_S (cmpI:Int→Int→Int):Prop:=∀ (gl:Glob) (fr f a b c n:Int) (cl:Bool) (bs:List (List AV)),fnK Tryd.prog { glob:=gl,spec:=lk [(57,(fcmpI_s cmpI))],specH:=lk [],nowf:=true } { nt:=9,drop:=drp [(1,480)] } (fun _ _=>none) 6 Tryd.f56 [.agg [.int .i64 fr,.bool cl,.int .i64 f,.int .i64 a,.int .i64 b,.int .i64 c,.sl 2 false bs],.int .i64 n] (.int .i64 (cmpI fr n))
theorem pc1_e (cmpI:Int→Int→Int):pc1_T cmpI=pc1_S cmpI:=by kernel_rfl
theorem pc1_v:pc1_S cmpI:=Eq.mp (pc1_e ..) (pc1_P)
theorem pc1_ok (gl:Glob):SOK Tryd.prog gl 56 (pc1_s cmpI):=by
 refine ⟨fok Tryd.func56 (by kernel_rfl) (by kernel_rfl),?_⟩
 intro xs pre r h hp
 unfold pc1_s at h
 split at h
 ·simp only [Option.some.injEq,Prod.mk.injEq] at h
  obtain ⟨h1,h2⟩:=h
  subst h1 h2
  exact fnK_sound tyNil (by exact specOK rfl rfl ⟨(fcmpI_ok gl),trivial⟩ trivial) (by kernel_rfl) Tryd.func56 rfl (pc1_v gl _ _ _ _ _ _ _ _)
 ·cases h
structure SrcS (l:LLR):Prop where
 fp:StsP l
 fs:snO l=true
structure SrcD (ps:LLR):Prop where
 fp:PdsP ps
 fs:ascB ps=true
def bg3 (s:Nat) (l:LLR) (f:Bool) (tgt:AV) (cf:Nat) (q:List AV→Int):LInv:=⟨Int × Int,fun p=>⟨[(0,.sl s f l),(1,tgt),(2,.fn cf []),(6,.int .i64 0),(7,.bool false),(8,.int .i64 l.length),(9,.int .i64 p.1),(10,.int .i64 p.2)],[]⟩,BsG q l,fun p=>(p.2 - p.1).toNat,none⟩
def bsS_s (cmpS:ByteArray→ByteArray→Int) (stN:LLR→ByteArray→Nat) (stH:LLR→ByteArray→Bool):Sp
 | [.sl 3 f l,.str nm,.fn 51 []]=>some (SrcS l,.tup [.int .i64 (stN l nm:Nat),.bool (stH l nm)])
 | _=>none
def bsS_T (cmpS:ByteArray→ByteArray→Int) (stN:LLR→ByteArray→Nat) (stH:LLR→ByteArray→Bool):Prop :=
  ∀ (gl:Glob) (f:Bool) (l:List (List AV)) (nm:ByteArray),SrcS l→True→nm.size.le (9223372036854775807:Nat)→True→(∃ x,BsG (qS nm) l x∧(((bif f then f=true else True)∧l=l)∧nm=nm∧True∧(0:Int)=0∧false=false∧(↑l.length:Int)=(↑l.length:Int)∧(0:Int)=x.fst∧(↑l.length:Int)=x.snd∧True)∧True)∧∀ (x:Int × Int),BsG (qS nm) l x→bif decide (x.fst < x.snd) then bif decide (rng .i64 (x.fst+x.snd)) then bif
 decide (0≤IntKind.i64.wrap (IntKind.u64.wrap (x.fst+x.snd) / (2:Int))∧IntKind.i64.wrap (IntKind.u64.wrap (x.fst+x.snd) / (2:Int)) < (↑l.length:Int)) then ∃ n s xs,List.take [AV.int .i64 n,.str s,.sl (7:Nat) false xs].length (l.getD (IntKind.i64.wrap (IntKind.u64.wrap (x.fst+x.snd) / (2:Int))).toNat [])=[AV.int .i64 n,.str s,.sl (7:Nat) false xs]∧True∧bif decide (cmpS s nm < (0:Int))
 then bif decide (rng .i64 (IntKind.i64.wrap (IntKind.u64.wrap (x.fst+x.snd) / (2:Int))+(1:Int))) then ∃ y,BsG (qS nm) l y∧(bg3 (3:Nat) l f (AV.str nm) (51:Nat) (qS nm)).m y < (bg3 (3:Nat) l f (AV.str nm) (51:Nat) (qS nm)).m x∧(((bif f then f=true else True)∧l=l)∧nm=nm∧True∧(0:Int)=0∧false=false∧(↑l.length:Int)=(↑l.length:Int)∧IntKind.i64.wrap (IntKind.u64.wrap (x.fst+x.snd) / (2:Int)) +
 (1:Int)=y.fst∧x.snd=y.snd∧True)∧True else False else ∃ y,BsG (qS nm) l y∧(bg3 (3:Nat) l f (AV.str nm) (51:Nat) (qS nm)).m y < (bg3 (3:Nat) l f (AV.str nm) (51:Nat) (qS nm)).m x∧(((bif f then f=true else True)∧l=l)∧nm=nm∧True∧(0:Int)=0∧false=false∧(↑l.length:Int)=(↑l.length:Int)∧x.fst=y.fst∧IntKind.i64.wrap (IntKind.u64.wrap (x.fst+x.snd) / (2:Int))=y.snd∧True)∧True else False else False else bif
 decide (x.fst < (↑l.length:Int)) then bif decide (0≤x.fst∧x.fst < (↑l.length:Int)) then ∃ n s xs,List.take [AV.int .i64 n,.str s,.sl (7:Nat) false xs].length (l.getD x.fst.toNat [])=[AV.int .i64 n,.str s,.sl (7:Nat) false xs]∧True∧x.fst=(↑(stN l nm):Int)∧decide (cmpS s nm=(0:Int))=stH l nm∧True else False else x.fst=(↑(stN l nm):Int)∧false=stH l nm∧True
theorem bsS_P:bsS_T cmpS stN stH:=by
 unfold bsS_T
 intro gl f l nm hp _ _ _
 have hs:=hp.fp.fs
 have bf:cond f (f=true) True:=by cases f <;> trivial
 have hm:=snO_mon hp.fs nm
 refine ⟨⟨(0,(l.length:Int)),⟨by simp,by simp,by simp,fun j hj=>by simp only at hj; omega,fun j hj hj2=>by simp only at hj; omega⟩,by (repeat' (first | exact trivial | exact rfl | assumption | apply And.intro))⟩,?_⟩
 rintro ⟨i,j⟩ hI
 have ⟨i0,ij,j1,_,_⟩:=hI
 simp only at i0 ij j1
 dsimp only
 refine csx (fun hij=>cdI (by omega) ?_) (fun hij=>?_)
 ·have e1:IntKind.u64.wrap (i+j)=i+j:=wrap_eq (by show _∧_; omega)
  have e2:IntKind.i64.wrap ((i+j) / 2)=(i+j) / 2:=wrap_eq (by show _∧_; omega)
  rw [e1,e2]
  obtain ⟨M,hM⟩:∃ M,M=(i+j) / 2:=⟨_,rfl⟩
  rw [← hM]
  have m1:i≤M∧M < j:=by omega
  refine cd1 (by omega) ?_
  obtain ⟨k,nm2,ps,hr,_⟩:=hp.fp.fr M.toNat (by omega)
  have hq:qS nm (l.getD M.toNat [])=cmpS nm2 nm:=by rw [hr]; rfl
  refine ⟨k,nm2,ps,by rw [hr]; rfl,trivial,csx (fun q=>cdI (by omega) ⟨(M+1,j),bsG_l hm hI m1 (by rw [hq]; exact q),by simp only [bg3]; omega,by (repeat' (first | exact trivial | exact rfl | assumption | apply And.intro))⟩) (fun q=>⟨(i,M),bsG_r hm hI m1 (by rw [hq]; exact q),by simp only [bg3]; omega,by (repeat' (first | exact trivial | exact rfl | assumption | apply And.intro))⟩)⟩
 ·have e:i=j:=by omega
  subst e
  have he:=bsG_end hI
  have hx:stN l nm=i.toNat:=by unfold stN; omega
  refine csx (fun hi=>cd1 (by omega) ?_) (fun hi=>⟨by unfold stN; omega,?_,trivial⟩)
  ·obtain ⟨k,nm2,ps,hr,_⟩:=hp.fp.fr i.toNat (by omega)
   refine ⟨k,nm2,ps,by rw [hr]; rfl,trivial,by unfold stN; omega,?_,trivial⟩
   unfold stH fpB
   rw [show fpI (qS nm) l=i.toNat from hx,decide_eq_true (show i.toNat < l.length by omega),hr]; rfl
  ·unfold stH fpB
   rw [show fpI (qS nm) l=i.toNat from hx,decide_eq_false (show ¬ i.toNat < l.length by omega)]; rfl
def bsS_S (cmpS:ByteArray→ByteArray→Int) (stN:LLR→ByteArray→Nat) (stH:LLR→ByteArray→Bool):Prop:=∀ (gl:Glob) (f:Bool) (l:List (List AV)) (nm:ByteArray),SrcS l→fnK Tryd.prog { glob:=gl,spec:=lk [(51,(sc1_s cmpS))],specH:=lk [],shape:=[28,44],slz:=[(28,[7]),(44,[7])],nowf:=true } { nt:=49,drop:=drp [(1,12288),(2,16384),(3,98304),(4,16515072),(5,2130706432),(6,12884901888),(7,17179869184),(8,562915593682944)] } (invs [(3,bg3 3 l f (.str nm) 51 (qS nm))]) 6 Tryd.f50 [.sl 3 f l,.str nm,.fn 51 []] (.tup [.int .i64 (stN l nm:Nat),.bool (stH l nm)])
theorem bsS_e (cmpS:ByteArray→ByteArray→Int) (stN:LLR→ByteArray→Nat) (stH:LLR→ByteArray→Bool):bsS_T cmpS stN stH=bsS_S cmpS stN stH:=by kernel_rfl
theorem bsS_v:bsS_S cmpS stN stH:=Eq.mp (bsS_e ..) (bsS_P)
theorem bsS_ok (gl:Glob):SOK Tryd.prog gl 50 (bsS_s cmpS stN stH):=by
 refine ⟨fok Tryd.func50 (by kernel_rfl) (by kernel_rfl),?_⟩
 intro xs pre r h hp
 unfold bsS_s at h
 split at h
 ·simp only [Option.some.injEq,Prod.mk.injEq] at h
  obtain ⟨h1,h2⟩:=h
  subst h1 h2
  exact fnK_sound tyNil (by exact specOK rfl rfl ⟨(sc1_ok gl),trivial⟩ trivial) (by kernel_rfl) Tryd.func50 rfl (bsS_v gl _ _ _ hp)
 ·cases h
def bsP_s (cmpI:Int→Int→Int) (pdN:LLR→Int→Nat) (pdH:LLR→Int→Bool):Sp
 | [.sl 7 f l,.int .i64 n,.fn 56 []]=>some (SrcD l,.tup [.int .i64 (pdN l n:Nat),.bool (pdH l n)])
 | _=>none
def bsP_T (cmpI:Int→Int→Int) (pdN:LLR→Int→Nat) (pdH:LLR→Int→Bool):Prop :=
  ∀ (gl:Glob) (f:Bool) (l:List (List AV)) (n:Int),SrcD l→True→IR9 n→True→(∃ x,BsG (qP n) l x∧(((bif f then f=true else True)∧l=l)∧n=n∧True∧(0:Int)=0∧false=false∧(↑l.length:Int)=(↑l.length:Int)∧(0:Int)=x.fst∧(↑l.length:Int)=x.snd∧True)∧True)∧∀ (x:Int × Int),BsG (qP n) l x→bif decide (x.fst < x.snd) then bif decide (rng .i64 (x.fst +
 x.snd)) then bif decide (0≤IntKind.i64.wrap (IntKind.u64.wrap (x.fst+x.snd) / (2:Int))∧IntKind.i64.wrap (IntKind.u64.wrap (x.fst+x.snd) / (2:Int)) < (↑l.length:Int)) then ∃ n_1 b n_2 n_3 n_4 n_5 xs,List.take [AV.int .i64 n_1,.bool b,.int .i64 n_2,.int .i64 n_3,.int .i64 n_4,.int .i64 n_5,.sl (2:Nat) false xs].length (l.getD (IntKind.i64.wrap (IntKind.u64.wrap (x.fst+x.snd) /
 (2:Int))).toNat [])=[AV.int .i64 n_1,.bool b,.int .i64 n_2,.int .i64 n_3,.int .i64 n_4,.int .i64 n_5,.sl (2:Nat) false xs]∧True∧bif decide (cmpI n_1 n < (0:Int)) then bif decide (rng .i64 (IntKind.i64.wrap (IntKind.u64.wrap (x.fst+x.snd) / (2:Int))+(1:Int))) then ∃ y,BsG (qP n) l y∧(bg3 (7:Nat) l f (AV.int .i64 n) (56:Nat) (qP n)).m y < (bg3 (7:Nat) l f (AV.int .i64 n) (56:Nat) (qP n)).m
 x∧(((bif f then f=true else True)∧l=l)∧n=n∧True∧(0:Int)=0∧false=false∧(↑l.length:Int)=(↑l.length:Int)∧IntKind.i64.wrap (IntKind.u64.wrap (x.fst+x.snd) / (2:Int))+(1:Int)=y.fst∧x.snd=y.snd∧True)∧True else False else ∃ y,BsG (qP n) l y∧(bg3 (7:Nat) l f (AV.int .i64 n) (56:Nat) (qP n)).m y < (bg3 (7:Nat) l f (AV.int .i64 n) (56:Nat) (qP n)).m x∧(((bif f then f=true else
 True)∧l=l)∧n=n∧True∧(0:Int)=0∧false=false∧(↑l.length:Int)=(↑l.length:Int)∧x.fst=y.fst∧IntKind.i64.wrap (IntKind.u64.wrap (x.fst+x.snd) / (2:Int))=y.snd∧True)∧True else False else False else bif decide (x.fst < (↑l.length:Int)) then bif decide (0≤x.fst∧x.fst < (↑l.length:Int)) then ∃ n_1 b n_2 n_3 n_4 n_5 xs,List.take [AV.int .i64 n_1,.bool b,.int .i64 n_2,.int .i64 n_3,.int .i64 n_4,.int
 .i64 n_5,.sl (2:Nat) false xs].length (l.getD x.fst.toNat [])=[AV.int .i64 n_1,.bool b,.int .i64 n_2,.int .i64 n_3,.int .i64 n_4,.int .i64 n_5,.sl (2:Nat) false xs]∧True∧x.fst=(↑(pdN l n):Int)∧decide (cmpI n_1 n=(0:Int))=pdH l n∧True else False else x.fst=(↑(pdN l n):Int)∧false=pdH l n∧True
theorem bsP_P:bsP_T cmpI pdN pdH:=by
 unfold bsP_T
 intro gl f l n hp _ _ _
 have hs:=hp.fp.fs
 have bf:cond f (f=true) True:=by cases f <;> trivial
 have hm:=asc_mon hp.fs n
 refine ⟨⟨(0,(l.length:Int)),⟨by simp,by simp,by simp,fun j hj=>by simp only at hj; omega,fun j hj hj2=>by simp only at hj; omega⟩,by (repeat' (first | exact trivial | exact rfl | assumption | apply And.intro))⟩,?_⟩
 rintro ⟨i,j⟩ hI
 have ⟨i0,ij,j1,_,_⟩:=hI
 simp only at i0 ij j1
 dsimp only
 refine csx (fun hij=>cdI (by omega) ?_) (fun hij=>?_)
 ·have e1:IntKind.u64.wrap (i+j)=i+j:=wrap_eq (by show _∧_; omega)
  have e2:IntKind.i64.wrap ((i+j) / 2)=(i+j) / 2:=wrap_eq (by show _∧_; omega)
  rw [e1,e2]
  obtain ⟨M,hM⟩:∃ M,M=(i+j) / 2:=⟨_,rfl⟩
  rw [← hM]
  have m1:i≤M∧M < j:=by omega
  refine cd1 (by omega) ?_
  obtain ⟨fr,cl,fa,a,b,c,bs,hr,_⟩:=hp.fp.fr M.toNat (by omega)
  have hq:qP n (l.getD M.toNat [])=cmpI fr n:=by rw [hr]; rfl
  refine ⟨fr,cl,fa,a,b,c,bs,by rw [hr]; rfl,trivial,csx (fun q=>cdI (by omega) ⟨(M+1,j),bsG_l hm hI m1 (by rw [hq]; exact q),by simp only [bg3]; omega,by (repeat' (first | exact trivial | exact rfl | assumption | apply And.intro))⟩) (fun q=>⟨(i,M),bsG_r hm hI m1 (by rw [hq]; exact q),by simp only [bg3]; omega,by (repeat' (first | exact trivial | exact rfl | assumption | apply And.intro))⟩)⟩
 ·have e:i=j:=by omega
  subst e
  have he:=bsG_end hI
  have hx:pdN l n=i.toNat:=by unfold pdN; omega
  refine csx (fun hi=>cd1 (by omega) ?_) (fun hi=>⟨by unfold pdN; omega,?_,trivial⟩)
  ·obtain ⟨fr,cl,fa,a,b,c,bs,hr,_⟩:=hp.fp.fr i.toNat (by omega)
   refine ⟨fr,cl,fa,a,b,c,bs,by rw [hr]; rfl,trivial,by unfold pdN; omega,?_,trivial⟩
   unfold pdH fpB
   rw [show fpI (qP n) l=i.toNat from hx,decide_eq_true (show i.toNat < l.length by omega),hr]; rfl
  ·unfold pdH fpB
   rw [show fpI (qP n) l=i.toNat from hx,decide_eq_false (show ¬ i.toNat < l.length by omega)]; rfl
def bsP_S (cmpI:Int→Int→Int) (pdN:LLR→Int→Nat) (pdH:LLR→Int→Bool):Prop:=∀ (gl:Glob) (f:Bool) (l:List (List AV)) (n:Int),SrcD l→fnK Tryd.prog { glob:=gl,spec:=lk [(56,(pc1_s cmpI))],specH:=lk [],shape:=[28,44],slz:=[(28,[2]),(44,[2])],nowf:=true } { nt:=49,drop:=drp [(1,12288),(2,16384),(3,98304),(4,16515072),(5,2130706432),(6,12884901888),(7,17179869184),(8,562915593682944)] } (invs [(3,bg3 7 l f (.int .i64 n) 56 (qP n))]) 6 Tryd.f55 [.sl 7 f l,.int .i64 n,.fn 56 []] (.tup [.int .i64 (pdN l n:Nat),.bool (pdH l n)])
theorem bsP_e (cmpI:Int→Int→Int) (pdN:LLR→Int→Nat) (pdH:LLR→Int→Bool):bsP_T cmpI pdN pdH=bsP_S cmpI pdN pdH:=by kernel_rfl
theorem bsP_v:bsP_S cmpI pdN pdH:=Eq.mp (bsP_e ..) (bsP_P)
theorem bsP_ok (gl:Glob):SOK Tryd.prog gl 55 (bsP_s cmpI pdN pdH):=by
 refine ⟨fok Tryd.func55 (by kernel_rfl) (by kernel_rfl),?_⟩
 intro xs pre r h hp
 unfold bsP_s at h
 split at h
 ·simp only [Option.some.injEq,Prod.mk.injEq] at h
  obtain ⟨h1,h2⟩:=h
  subst h1 h2
  exact fnK_sound tyNil (by exact specOK rfl rfl ⟨(pc1_ok gl),trivial⟩ trivial) (by kernel_rfl) Tryd.func55 rfl (bsP_v gl _ _ _ hp)
 ·cases h
def gstation_s (stN:LLR→ByteArray→Nat) (stH:LLR→ByteArray→Bool):Sp
 | [.agg [.sl 3 f l],.str nm]=>some (SrcS l,.tup [.int .i64 (stN l nm:Nat),.bool (stH l nm)])
 | _=>none
def gstation_T (stN:LLR→ByteArray→Nat) (stH:LLR→ByteArray→Bool) (cmpS:ByteArray→ByteArray→Int):Prop :=
 ∀ (gl:Glob) (f:Bool) (l:List (List AV)) (nm:ByteArray),SrcS l→True∧True→nm.size.le (9223372036854775807:Nat)→SrcS l∧(↑(stN l nm):Int)=(↑(stN l nm):Int)∧stH l nm=stH l nm∧True
theorem gstation_P:gstation_T stN stH cmpS:=by
 unfold gstation_T
 intro gl f l nm hp _ _
 exact ⟨hp,rfl,rfl,trivial⟩
def gstation_S (stN:LLR→ByteArray→Nat) (stH:LLR→ByteArray→Bool) (cmpS:ByteArray→ByteArray→Int):Prop:=∀ (gl:Glob) (f:Bool) (l:List (List AV)) (nm:ByteArray),SrcS l→fnK Tryd.prog { glob:=gl,spec:=lk [(50,(bsS_s cmpS stN stH))],specH:=lk [],nowf:=true } { nt:=12,drop:=drp [(1,4032)] } (fun _ _=>none) 6 Tryd.f22 [.agg [.sl 3 f l],.str nm] (.tup [.int .i64 (stN l nm:Nat),.bool (stH l nm)])
theorem gstation_e (stN:LLR→ByteArray→Nat) (stH:LLR→ByteArray→Bool) (cmpS:ByteArray→ByteArray→Int):gstation_T stN stH cmpS=gstation_S stN stH cmpS:=by kernel_rfl
theorem gstation_v:gstation_S stN stH cmpS:=Eq.mp (gstation_e ..) (gstation_P)
theorem gstation_ok (gl:Glob):SOK Tryd.prog gl 22 (gstation_s stN stH):=by
 refine ⟨fok Tryd.func22 (by kernel_rfl) (by kernel_rfl),?_⟩
 intro xs pre r h hp
 unfold gstation_s at h
 split at h
 ·simp only [Option.some.injEq,Prod.mk.injEq] at h
  obtain ⟨h1,h2⟩:=h
  subst h1 h2
  exact fnK_sound tyNil (by exact specOK rfl rfl ⟨(bsS_ok gl),trivial⟩ trivial) (by kernel_rfl) Tryd.func22 rfl (gstation_v gl _ _ _ hp)
 ·cases h
def gperiod_s (pdN:LLR→Int→Nat) (pdH:LLR→Int→Bool):Sp
 | [.agg [.int .i64 k,.str nm,.sl 7 f ps],.int .i64 n]=>some (SrcD ps,.tup [.int .i64 (pdN ps n:Nat),.bool (pdH ps n)])
 | _=>none
def gperiod_T (pdN:LLR→Int→Nat) (pdH:LLR→Int→Bool) (cmpI:Int→Int→Int):Prop :=
 ∀ (gl:Glob) (f:Bool) (k:Int) (nm:ByteArray) (ps:List (List AV)) (n:Int),SrcD ps→(IR9 k)∧nm.size.le (9223372036854775807:Nat)∧True∧True→IR9 n→SrcD ps∧(↑(pdN ps n):Int)=(↑(pdN ps n):Int)∧pdH ps n=pdH ps n∧True
theorem gperiod_P:gperiod_T pdN pdH cmpI:=by
 unfold gperiod_T
 intro gl f k nm ps n hp _ _
 exact ⟨hp,rfl,rfl,trivial⟩
def gperiod_S (pdN:LLR→Int→Nat) (pdH:LLR→Int→Bool) (cmpI:Int→Int→Int):Prop:=∀ (gl:Glob) (f:Bool) (k:Int) (nm:ByteArray) (ps:List (List AV)) (n:Int),SrcD ps→fnK Tryd.prog { glob:=gl,spec:=lk [(55,(bsP_s cmpI pdN pdH))],specH:=lk [],nowf:=true } { nt:=12,drop:=drp [(1,4032)] } (fun _ _=>none) 6 Tryd.f24 [.agg [.int .i64 k,.str nm,.sl 7 f ps],.int .i64 n] (.tup [.int .i64 (pdN ps n:Nat),.bool (pdH ps n)])
theorem gperiod_e (pdN:LLR→Int→Nat) (pdH:LLR→Int→Bool) (cmpI:Int→Int→Int):gperiod_T pdN pdH cmpI=gperiod_S pdN pdH cmpI:=by kernel_rfl
theorem gperiod_v:gperiod_S pdN pdH cmpI:=Eq.mp (gperiod_e ..) (gperiod_P)
theorem gperiod_ok (gl:Glob):SOK Tryd.prog gl 24 (gperiod_s pdN pdH):=by
 refine ⟨fok Tryd.func24 (by kernel_rfl) (by kernel_rfl),?_⟩
 intro xs pre r h hp
 unfold gperiod_s at h
 split at h
 ·simp only [Option.some.injEq,Prod.mk.injEq] at h
  obtain ⟨h1,h2⟩:=h
  subst h1 h2
  exact fnK_sound tyNil (by exact specOK rfl rfl ⟨(bsP_ok gl),trivial⟩ trivial) (by kernel_rfl) Tryd.func24 rfl (gperiod_v gl _ _ _ _ _ hp)
 ·cases h
def atK (ps:LLR) (t:Int):Int:=if pdH ps t then (pdN ps t:Int) else (pdN ps t:Int) - 1
def atB (ps:LLR) (t:Int):Bool:=decide (0≤atK ps t)
def pzR:List AV:=pdA 0 false 0 0 0 0 []
def atR (ps:LLR) (t:Int):List AV:=if atB ps t then ps.getD (atK ps t).toNat [] else pzR
def pI (i:Nat) (r:List AV):Int:=cellI ((r.drop i).take 1)
def pC (r:List AV):Bool:=match r with
 | _::.bool b::_=>b
 | _=>false
def pB (r:List AV):LLR:=match r with
 | [_,_,_,_,_,_,.sl _ _ bs]=>bs
 | _=>[]
def cloR_s:Sp
 | [.sl 2 f xs]=>some (xs.length≤1000,.sl 2 false xs)
 | _=>none
def cloR_T:Prop :=
 ∀ (gl:Glob) (f:Bool) (xs:List (List AV)),xs.length≤(1000:Nat)→True→(xs=[]→xs=[])∧bif decide ((0:Nat)=0∧(0:Nat)+xs.length≤(9223372036854775807:Nat)∧((0:Nat)+xs.length)*(16:Nat)≤(140737488355328:Nat)) then bif decide (([]++xs).length=([]++xs).length) then True∧[]++xs=xs else False else False
theorem cloR_P:cloR_T:=by
 unfold cloR_T
 intro gl f xs hl _
 exact ⟨id,cd1 ⟨rfl,by omega,by omega⟩ (cd1 rfl ⟨trivial,rfl⟩)⟩
def cloR_S:Prop:=∀ (gl:Glob) (f:Bool) (xs:List (List AV)),xs.length≤1000→fnK Tryd.prog { glob:=gl,spec:=lk [],specH:=lk [],nowf:=true,nq:=true } { nt:=8,drop:=drp [(1,8),(3,224)] } (fun _ _=>none) 6 Tryd.f21 [.sl 2 f xs] (.sl 2 false xs)
theorem cloR_e:cloR_T=cloR_S:=by kernel_rfl
theorem cloR_v:cloR_S:=Eq.mp (cloR_e ..) (cloR_P)
theorem cloR_ok (gl:Glob):SOK Tryd.prog gl 21 cloR_s:=by
 refine ⟨fok Tryd.func21 (by kernel_rfl) (by kernel_rfl),?_⟩
 intro xs pre r h hp
 unfold cloR_s at h
 split at h
 ·simp only [Option.some.injEq,Prod.mk.injEq] at h
  obtain ⟨h1,h2⟩:=h
  subst h1 h2
  exact fnK_sound tyNil (by exact specOK rfl rfl trivial trivial) (by kernel_rfl) Tryd.func21 rfl (cloR_v gl _ _ hp)
 ·cases h
def gat_s (pdN:LLR→Int→Nat) (pdH:LLR→Int→Bool) (pI:Nat→List AV→Int) (pC:List AV→Bool) (pB:List AV→LLR) (atR:LLR→Int→List AV) (atB:LLR→Int→Bool):Sp
 | [.agg [.int .i64 k,.str nm,.sl 7 f ps],.int .i64 t]=>some (SrcD ps,.tup [.agg [.int .i64 (pI 0 (atR ps t)),.bool (pC (atR ps t)),.int .i64 (pI 2 (atR ps t)),.int .i64 (pI 3 (atR ps t)),.int .i64 (pI 4 (atR ps t)),.int .i64 (pI 5 (atR ps t)),.sl 2 false (pB (atR ps t))],.bool (atB ps t)])
 | _=>none
def gat_T (pdN:LLR→Int→Nat) (pdH:LLR→Int→Bool) (pI:Nat→List AV→Int) (pC:List AV→Bool) (pB:List AV→LLR) (atR:LLR→Int→List AV) (atB:LLR→Int→Bool):Prop :=
  ∀ (gl:Glob) (f:Bool) (k:Int) (nm:ByteArray) (ps:List (List AV)) (t:Int),SrcD ps→(IR9 k)∧nm.size.le (9223372036854775807:Nat)∧True∧True→IR9 t→SrcD ps∧bif !pdH ps t then bif decide (rng .i64 ((↑(pdN ps t):Int) - (1:Int))) then bif decide ((↑(pdN ps t):Int) - (1:Int) < (0:Int)) then
 ((0:Int)=pI (0:Nat) (atR ps t)∧false=pC (atR ps t)∧(0:Int)=pI (2:Nat) (atR ps t)∧(0:Int)=pI (3:Nat) (atR ps t)∧(0:Int)=pI (4:Nat) (atR ps t)∧(0:Int)=pI (5:Nat) (atR ps t)∧pB (atR ps t)=[]∧True)∧false=atB ps t∧True else bif decide ((0:Int)≤(↑(pdN ps t):Int) - (1:Int)∧(↑(pdN ps t):Int) - (1:Int) < (↑ps.length:Int)) then ∃ n b n_1 n_2 n_3 n_4 xs,List.take [AV.int .i64 n,.bool b,.int .i64 n_1,.int
 .i64 n_2,.int .i64 n_3,.int .i64 n_4,.sl (2:Nat) false xs].length (ps.getD ((↑(pdN ps t):Int) - (1:Int)).toNat [])=[AV.int .i64 n,.bool b,.int .i64 n_1,.int .i64 n_2,.int .i64 n_3,.int .i64 n_4,.sl (2:Nat) false xs]∧xs.length≤(1000:Nat)∧(n=pI (0:Nat) (atR ps t)∧b=pC (atR ps t)∧n_1=pI (2:Nat) (atR ps t)∧n_2=pI (3:Nat) (atR ps t)∧n_3=pI (4:Nat) (atR ps t)∧n_4=pI (5:Nat) (atR ps t)∧(True∧xs=pB (atR
 ps t))∧True)∧true=atB ps t∧True else False else False else bif decide ((0:Int)≤(↑(pdN ps t):Int)∧(↑(pdN ps t):Int) < (↑ps.length:Int)) then ∃ n b n_1 n_2 n_3 n_4 xs,List.take [AV.int .i64 n,.bool b,.int .i64 n_1,.int .i64 n_2,.int .i64 n_3,.int .i64 n_4,.sl (2:Nat) false xs].length (ps.getD (↑(pdN ps t):Int).toNat [])=[AV.int .i64 n,.bool b,.int .i64 n_1,.int .i64 n_2,.int .i64 n_3,.int .i64
 n_4,.sl (2:Nat) false xs]∧xs.length≤(1000:Nat)∧(n=pI (0:Nat) (atR ps t)∧b=pC (atR ps t)∧n_1=pI (2:Nat) (atR ps t)∧n_2=pI (3:Nat) (atR ps t)∧n_3=pI (4:Nat) (atR ps t)∧n_4=pI (5:Nat) (atR ps t)∧(True∧xs=pB (atR ps t))∧True)∧true=atB ps t∧True else False
theorem gat_P:gat_T pdN pdH pI pC pB atR atB:=by
 unfold gat_T
 intro gl f k nm ps t hp _ _
 have hs:=hp.fp.fs
 have le:=fp_le (qP t) ps
 have le:pdN ps t≤ps.length:=le
 refine ⟨hp,csplit (fun q=>cdI (by omega) (csx (fun q2=>?_) (fun q2=>cd1 (by omega) ?_))) (fun q=>?_)⟩
 ·have q:pdH ps t=false:=by simpa using q
  have hK:atK ps t=(pdN ps t:Int) - 1:=by unfold atK; rw [if_neg (by rw [q]; decide)]
  have hB:atB ps t=false:=by unfold atB; rw [hK]; exact decide_eq_false (by omega)
  have hR:atR ps t=pzR:=by unfold atR; rw [if_neg (by rw [hB]; decide)]
  rw [hR,hB]
  exact ⟨⟨rfl,rfl,rfl,rfl,rfl,rfl,rfl,trivial⟩,rfl,trivial⟩
 ·have q:pdH ps t=false:=by simpa using q
  have hK:atK ps t=(pdN ps t:Int) - 1:=by unfold atK; rw [if_neg (by rw [q]; decide)]
  have hB:atB ps t=true:=by unfold atB; rw [hK]; exact decide_eq_true (by omega)
  obtain ⟨fr,cl,fa,a,b,c,bs,hr,hb,hl⟩:=hp.fp.fr ((pdN ps t:Int) - 1).toNat (by omega)
  have hR:atR ps t=pdA fr cl fa a b c bs:=by unfold atR; rw [if_pos hB,hK,hr]
  refine ⟨fr,cl,fa,a,b,c,bs,by rw [hr]; rfl,hl,?_⟩
  rw [hR,hB]
  exact ⟨⟨rfl,rfl,rfl,rfl,rfl,rfl,⟨trivial,rfl⟩,trivial⟩,rfl,trivial⟩
 ·have q:pdH ps t=true:=by simpa using q
  have hlt:pdN ps t < ps.length:=by
   have:=q
   unfold pdH fpB at this
   rw [Bool.and_eq_true] at this
   exact of_decide_eq_true this.1
  have hK:atK ps t=(pdN ps t:Int):=by unfold atK; rw [if_pos q]
  have hB:atB ps t=true:=by unfold atB; rw [hK]; exact decide_eq_true (by omega)
  refine cd1 (by omega) ?_
  obtain ⟨fr,cl,fa,a,b,c,bs,hr,hb,hl⟩:=hp.fp.fr ((pdN ps t:Int)).toNat (by omega)
  have hR:atR ps t=pdA fr cl fa a b c bs:=by unfold atR; rw [if_pos hB,hK,hr]
  refine ⟨fr,cl,fa,a,b,c,bs,by rw [hr]; rfl,hl,?_⟩
  rw [hR,hB]
  exact ⟨⟨rfl,rfl,rfl,rfl,rfl,rfl,⟨trivial,rfl⟩,trivial⟩,rfl,trivial⟩
def gat_S (pdN:LLR→Int→Nat) (pdH:LLR→Int→Bool) (pI:Nat→List AV→Int) (pC:List AV→Bool) (pB:List AV→LLR) (atR:LLR→Int→List AV) (atB:LLR→Int→Bool):Prop:=∀ (gl:Glob) (f:Bool) (k:Int) (nm:ByteArray) (ps:List (List AV)) (t:Int),SrcD ps→fnK Tryd.prog { glob:=gl,spec:=lk [(24,(gperiod_s pdN pdH)),(21,cloR_s)],specH:=lk [],shape:=[26],slz:=[(26,[2])],nowf:=true } { nt:=32,drop:=drp [(1,32256),(2,32768),(3,393216),(4,524288),(5,2097152),(6,130023424),(7,2013265920),(8,2147483648)] } (fun _ _=>none) 6 Tryd.f33 [.agg [.int .i64 k,.str nm,.sl 7 f ps],.int .i64 t] (.tup [.agg [.int .i64 (pI 0 (atR ps t)),.bool (pC (atR ps t)),.int .i64 (pI 2 (atR ps t)),.int .i64 (pI 3 (atR ps t)),.int .i64 (pI 4 (atR ps t)),.int .i64 (pI 5 (atR ps t)),.sl 2 false (pB (atR ps t))],.bool (atB ps t)])
theorem gat_e (pdN:LLR→Int→Nat) (pdH:LLR→Int→Bool) (pI:Nat→List AV→Int) (pC:List AV→Bool) (pB:List AV→LLR) (atR:LLR→Int→List AV) (atB:LLR→Int→Bool):gat_T pdN pdH pI pC pB atR atB=gat_S pdN pdH pI pC pB atR atB:=by kernel_rfl
theorem gat_v:gat_S pdN pdH pI pC pB atR atB:=Eq.mp (gat_e ..) (gat_P)
theorem gat_ok (gl:Glob):SOK Tryd.prog gl 33 (gat_s pdN pdH pI pC pB atR atB):=by
 refine ⟨fok Tryd.func33 (by kernel_rfl) (by kernel_rfl),?_⟩
 intro xs pre r h hp
 unfold gat_s at h
 split at h
 ·simp only [Option.some.injEq,Prod.mk.injEq] at h
  obtain ⟨h1,h2⟩:=h
  subst h1 h2
  exact fnK_sound tyNil (by exact specOK rfl rfl ⟨(gperiod_ok gl),(cloR_ok gl),trivial⟩ trivial) (by kernel_rfl) Tryd.func33 rfl (gat_v gl _ _ _ _ _ hp)
 ·cases h
structure UbP (rd bs:LLR) (x:Int × LLR):Prop where
 flo:0≤x.1
 fhi:x.1≤rd.length
 fe:x.2=unb (rd.take x.1.toNat) bs
def ub3 (rd bs:LLR) (f g:Bool):LInv:=⟨Int × LLR,fun x=>⟨[(1,.sl 2 g bs),(5,.rw 1500 2 x.2.length),(10,.sl 2 f rd),(11,.int .i64 rd.length),(12,.int .i64 x.1)],[(1500,.row 60 2 x.2)]⟩,UbP rd bs,fun x=>(rd.length - x.1).toNat,none⟩
def gunb_s (fdV:LLR→Int→Int) (fdB:LLR→Int→Bool) (unb:LLR→LLR→LLR) (vdE:LLR→Int):Sp
 | [.sl 2 f rd,.sl 2 g bs]=>some (RdsP rd∧RdsP bs∧rd.length≤1000,.sl 2 false (unb rd bs))
 | _=>none
def gunb_T (fdV:LLR→Int→Int) (fdB:LLR→Int→Bool) (unb:LLR→LLR→LLR) (vdE:LLR→Int):Prop :=
  ∀ (f g:Bool) (rd bs:List (List AV)),RdsP rd∧RdsP bs∧rd.length≤(1000:Nat)→True→True→(∃ x,UbP rd bs x∧(((bif g then g=true else True)∧bs=bs)∧(0:Nat)=List.length x.snd∧((bif f then f=true else True)∧rd=rd)∧(↑rd.length:Int)=(↑rd.length:Int)∧(0:Int)=x.fst∧True)∧[]=x.snd∧True)∧∀ (x:Int × LLR),UbP rd bs x→bif decide (x.fst < (↑rd.length:Int)) then bif decide (0≤x.fst∧x.fst <
 (↑rd.length:Int)) then ∃ n n_1,List.take [AV.int .i64 n,.int .i64 n_1].length (rd.getD x.fst.toNat [])=[AV.int .i64 n,.int .i64 n_1]∧RdsP bs∧RdsP [[AV.int .i64 n,.int .i64 (IntKind.i64.wrap (n_1 - fdV bs n))]]∧bif decide (vdE [[AV.int .i64 n,.int .i64 (IntKind.i64.wrap (n_1 - fdV bs n))]]=(0:Int)) then bif decide (List.length x.snd=List.length x.snd∧List.length x.snd+[[AV.int .i64 n,.int .i64
 (IntKind.i64.wrap (n_1 - fdV bs n))]].length≤(9223372036854775807:Nat)∧(List.length x.snd+[[AV.int .i64 n,.int .i64 (IntKind.i64.wrap (n_1 - fdV bs n))]].length)*(16:Nat)≤(140737488355328:Nat)) then ∃ y,UbP rd bs y∧(ub3 rd bs f g).m y < (ub3 rd bs f g).m x∧(((bif g then g=true else True)∧bs=bs)∧(x.snd++[[AV.int .i64 n,.int .i64 (IntKind.i64.wrap (n_1 - fdV bs n))]]).length=List.length
 y.snd∧((bif f then f=true else True)∧rd=rd)∧(↑rd.length:Int)=(↑rd.length:Int)∧IntKind.i64.wrap (x.fst+(1:Int))=y.fst∧True)∧x.snd++[[AV.int .i64 n,.int .i64 (IntKind.i64.wrap (n_1 - fdV bs n))]]=y.snd∧True else False else ∃ y,UbP rd bs y∧(ub3 rd bs f g).m y < (ub3 rd bs f g).m x∧(((bif g then g=true else True)∧bs=bs)∧List.length x.snd=List.length y.snd∧((bif f then f=true else
 True)∧rd=rd)∧(↑rd.length:Int)=(↑rd.length:Int)∧IntKind.i64.wrap (x.fst+(1:Int))=y.fst∧True)∧x.snd=y.snd∧True else False else bif decide (List.length x.snd=List.length x.snd) then True∧x.snd=unb rd bs else False
theorem gunb_P:gunb_T fdV fdB unb vdE:=by
 unfold gunb_T
 intro f g rd bs ⟨hr,hb,hl⟩ _ _
 have bf:cond f (f=true) True:=by cases f <;> trivial
 have bg:cond g (g=true) True:=by cases g <;> trivial
 refine ⟨⟨(0,[]),⟨by simp,by simp,by simp [unb]⟩,by (repeat' (first | exact trivial | exact rfl | assumption | apply And.intro))⟩,?_⟩
 rintro ⟨i,out⟩ ⟨i0,i1,e⟩
 simp only at i0 i1 e
 dsimp only
 have w1:i < rd.length→IntKind.i64.wrap (i+1)=i+1:=fun h=>wrap_eq (by show _∧_; omega)
 have ol:out.length≤1000:=by
  rw [e]
  exact Nat.le_trans (unb_len _ _) (Nat.le_trans (by rw [List.length_take]; omega) hl)
 refine csx (fun hi=>cd1 (by omega) ?_) (fun hi=>cd1 rfl ⟨trivial,by rw [e,List.take_of_length_le (by omega)]⟩)
 obtain ⟨n,v,hn,r1,r2⟩:=hr.row i.toNat (by omega)
 have ht:unb (rd.take (i.toNat+1)) bs=if ck n (IntKind.i64.wrap (v - fdV bs n))=0 then out++[[.int .i64 n,.int .i64 (IntKind.i64.wrap (v - fdV bs n))]] else out:=by
  have:=unb_take (bs:=bs) (show i.toNat < rd.length by omega)
  rw [hn,← e] at this
  exact this
 have hz:vdE [[.int .i64 n,.int .i64 (IntKind.i64.wrap (v - fdV bs n))]]=0↔ck n (IntKind.i64.wrap (v - fdV bs n))=0:=by
  rw [vd_zero]
  exact ⟨fun h=>h.1 _ (List.mem_singleton.2 rfl),fun h=>⟨fun r hr=>by rw [List.mem_singleton.1 hr]; exact h,List.pairwise_singleton _ _⟩⟩
 rw [w1 hi]
 refine ⟨n,v,by rw [hn]; rfl,hb,rds_add rdsP_nil r1 (wrap_rng _ _) (by simp),csx (fun q=>cd1 ⟨rfl,by simp; omega,by simp; omega⟩ ⟨(i+1,out++[[.int .i64 n,.int .i64 (IntKind.i64.wrap (v - fdV bs n))]]),⟨by simp only; omega,by simp only; omega,?_⟩,by simp only [ub3]; omega,by (repeat' (first | exact trivial | exact rfl | assumption | apply And.intro))⟩) (fun q=>⟨(i+1,out),⟨by simp only; omega,by simp only; omega,?_⟩,by simp only [ub3]; omega,by (repeat' (first | exact trivial | exact rfl | assumption | apply And.intro))⟩)⟩
 ·simp only
  rw [show (i+1).toNat=i.toNat+1 by omega,ht,if_pos (hz.1 q)]
 ·simp only
  rw [show (i+1).toNat=i.toNat+1 by omega,ht,if_neg (fun z=>q (hz.2 z))]
def gunb_S (fdV:LLR→Int→Int) (fdB:LLR→Int→Bool) (unb:LLR→LLR→LLR) (vdE:LLR→Int):Prop:=∀ (f g:Bool) (rd bs:List (List AV)),RdsP rd∧RdsP bs∧rd.length≤1000→fnK Tryd.prog { glob:=glb,spec:=lk [(74,(efind_s fdV fdB)),(32,(evalid_s vdE))],specH:=lk [],shape:=[15],nowf:=true,wrap:=true } { nt:=38,drop:=drp [(4,49152),(5,8323072),(6,260046848),(7,1879048192),(8,64424509440),(9,68719476736),(10,137438953472)],emp:=fun id=>cond (Nat.beq id 2) [(5,1500,60,2)] [] } (invs [(3,ub3 rd bs f g)]) 6 Tryd.f35 [.sl 2 f rd,.sl 2 g bs] (.sl 2 false (unb rd bs))
theorem gunb_e (fdV:LLR→Int→Int) (fdB:LLR→Int→Bool) (unb:LLR→LLR→LLR) (vdE:LLR→Int):gunb_T fdV fdB unb vdE=gunb_S fdV fdB unb vdE:=by kernel_rfl
theorem gunb_v:gunb_S fdV fdB unb vdE:=Eq.mp (gunb_e ..) (gunb_P)
theorem gunb_ok:SOK Tryd.prog glb 35 (gunb_s fdV fdB unb vdE):=by
 refine ⟨fok Tryd.func35 (by kernel_rfl) (by kernel_rfl),?_⟩
 intro xs pre r h hp
 unfold gunb_s at h
 split at h
 ·simp only [Option.some.injEq,Prod.mk.injEq] at h
  obtain ⟨h1,h2⟩:=h
  subst h1 h2
  exact fnK_sound tyNil (by exact specOK rfl rfl ⟨(efind_ok glb),(evalid_ok),trivial⟩ trivial) (by kernel_rfl) Tryd.func35 rfl (gunb_v  _ _ _ _ hp)
 ·cases h
def apI (l:LLR) (n:ByteArray) (t:Int):Bool:=stH l n&&atB (sPs (l.getD (stN l n) [])) t
def apP (l:LLR) (n:ByteArray) (t:Int):List AV:=if stH l n then atR (sPs (l.getD (stN l n) [])) t else pzR
structure RgZ (l:LLR):Prop where
 fp:StsP l
 fs:snO l=true
 fa:∀ i,i < l.length→ascB (sPs (l.getD i []))=true
theorem rg_zero {l:LLR} (hp:StsP l) (h:rgV l=0):RgZ l:=by
 unfold rgV at h
 repeat' split at h
 all_goals first
  | (exact absurd h (by decide))
  | skip
 next _ _ _ _ h5 hs =>
  refine ⟨hp,hs,fun i hi=>?_⟩
  have h5:l.any p5R=false:=by simpa using h5
  have:=List.any_eq_false.1 h5 (l.getD i []) (by rw [gD_lt hi]; exact List.getElem_mem _)
  unfold p5R at this
  simpa using this
theorem RgZ.src {l:LLR} (h:RgZ l):SrcS l:=⟨h.fp,h.fs⟩
theorem stH_lt {l:LLR} {n:ByteArray} (h:stH l n=true):stN l n < l.length:=by
 unfold stH fpB at h
 rw [Bool.and_eq_true] at h
 exact of_decide_eq_true h.1
def zI (e x:Int):Int:=if e=0 then x else 0
def zN (e:Int) (s:ByteArray):ByteArray:=if e=0 then s else ⟨#[]⟩
def zS (e:Int) (l:LLR):LLR:=if e=0 then l else []
def apE (l:LLR) (k:Int) (n:ByteArray) (t f a b c:Int) (rd:LLR):Int :=
 if rgV l≠0 then rgV l else if exK k=false then 4 else if vdE rd≠0 then vdE rd else if k=1∧apI l n t=false then 6 else if (stH l n=true∧rE (l.getD (stN l n) [])≠k)∨(apI l n t=true∧pC (apP l n t)=true) then 7 else if k≠1∧isN f a b c=false then 9 else 0
def apX (i:Nat) (l:LLR) (k:Int) (n:ByteArray) (t x:Int):Int:=if k=1 then pI i (apP l n t) else x
theorem ap_err {E e k t x2 x3 x4 x5:Int} {n:ByteArray} {U:LLR} (h:E=e) (he:e≠0):(0=zI E k∧(⟨#[]⟩:ByteArray)=zN E n∧0=zI E t∧0=zI E x2∧0=zI E x3∧0=zI E x4∧0=zI E x5∧zS E U=[]∧True)∧e=E∧True:=by
 subst h
 have z:∀ x:Int,0=zI E x:=fun x=>by unfold zI; rw [if_neg he]
 exact ⟨⟨z _,by unfold zN; rw [if_neg he],z _,z _,z _,z _,z _,by unfold zS; rw [if_neg he],trivial⟩,rfl,trivial⟩
theorem ap_ok {E k t x2 x3 x4 x5 y2 y3 y4 y5:Int} {n:ByteArray} {U V:LLR} (h:E=0) (h2:y2=x2) (h3:y3=x3) (h4:y4=x4) (h5:y5=x5) (hu:U=V):(k=zI E k∧n=zN E n∧t=zI E t∧y2=zI E x2∧y3=zI E x3∧y4=zI E x4∧y5=zI E x5∧(True∧U=zS E V)∧True)∧0=E∧True:=by
 subst h h2 h3 h4 h5 hu
 exact ⟨⟨rfl,rfl,rfl,rfl,rfl,rfl,rfl,⟨trivial,rfl⟩,trivial⟩,rfl,trivial⟩
theorem at_bias {ps:LLR} {t:Int} (hp:PdsP ps):RdsP (pB (atR ps t)):=by
 unfold atR
 split
 ·rcases Nat.lt_or_ge (atK ps t).toNat ps.length with h | h
  ·obtain ⟨fr,cl,fa,a,b,c,bs,hr,hb,_⟩:=hp.fr _ h
   rw [hr]; exact hb
  ·rw [List.getD_eq_getElem?_getD,List.getElem?_eq_none h]; exact rdsP_nil
 ·exact rdsP_nil
def gApply_s (rgV:LLR→Int) (stN:LLR→ByteArray→Nat) (stH:LLR→ByteArray→Bool) (pI:Nat→List AV→Int) (pC:List AV→Bool) (pB:List AV→LLR) (atR:LLR→Int→List AV) (atB:LLR→Int→Bool) (exK:Int→Bool) (vdE:LLR→Int) (isN:Int→Int→Int→Int→Bool) (unb:LLR→LLR→LLR) (zI:Int→Int→Int) (zN:Int→ByteArray→ByteArray) (zS:Int→LLR→LLR) (apE:LLR→Int→ByteArray→Int→Int→Int→Int→Int→LLR→Int) (apX:Nat→LLR→Int→ByteArray→Int→Int→Int) (apP:LLR→ByteArray→Int→List AV):Sp
 | [.agg [.sl 3 g l],.agg [.int .i64 k,.str n,.int .i64 t,.int .i64 f,.int .i64 a,.int .i64 b,.int .i64 c,.sl 2 h rd]]=>some (StsP l∧RdsP rd∧rd.length≤1000,.tup [.agg [.int .i64 (zI (apE l k n t f a b c rd) k),.str (zN (apE l k n t f a b c rd) n),.int .i64 (zI (apE l k n t f a b c rd) t),.int .i64 (zI (apE l k n t f a b c rd) (apX 2 l k n t f)),.int .i64 (zI (apE l k n t f a b c rd) (apX 3 l k n t a)),.int .i64 (zI (apE l k n t f a b c rd) (apX 4 l k n t b)),.int .i64 (zI (apE l k n t f a b c rd) (apX 5 l k n t c)),.sl 2 false (zS (apE l k n t f a b c rd) (unb rd (pB (apP l n t))))],.int .i64 (apE l k n t f a b c rd)])
 | _=>none
def gApply_T (rgV:LLR→Int) (stN:LLR→ByteArray→Nat) (stH:LLR→ByteArray→Bool) (pI:Nat→List AV→Int) (pC:List AV→Bool) (pB:List AV→LLR) (atR:LLR→Int→List AV) (atB:LLR→Int→Bool) (exK:Int→Bool) (vdE:LLR→Int) (isN:Int→Int→Int→Int→Bool) (unb:LLR→LLR→LLR) (zI:Int→Int→Int) (zN:Int→ByteArray→ByteArray) (zS:Int→LLR→LLR) (apE:LLR→Int→ByteArray→Int→Int→Int→Int→Int→LLR→Int) (apX:Nat→LLR→Int→ByteArray→Int→Int→Int) (apP:LLR→ByteArray→Int→List AV) (p1R:List AV→Bool) (p2R:List AV→Bool) (p3R:List AV→Bool) (p4R:List AV→Bool) (p5R:List AV→Bool) (pdN:LLR→Int→Nat) (pdH:LLR→Int→Bool) (nrm:Int→Int→Int→Int→Int × Int × Int × Int) (vld:Int→Int→Int→Int→Bool) (fdV:LLR→Int→Int) (fdB:LLR→Int→Bool):Prop :=
  ∀ (g h:Bool) (l rd:List (List AV)) (k t f a b c:Int) (n:ByteArray),StsP l∧RdsP rd∧rd.length≤(1000:Nat)→True∧True→(IR9 k)∧n.size.le (9223372036854775807:Nat)∧(IR9 t)∧(IR9 f)∧((-9223372036854775808:Int)≤a∧a ≤
 (9223372036854775807:Int))∧(IR9 b)∧(IR9 c)∧True∧True→StsP l∧bif decide ¬rgV l=(0:Int) then ((0:Int)=zI (apE l k n t f a b c rd) k∧{ data:=#[] }=zN (apE l k n t f a b c rd) n∧(0:Int)=zI (apE l k n t f a b c rd) t∧(0:Int)=zI (apE l k n t f a b c rd) (apX (2:Nat) l k n t f)∧(0:Int)=zI (apE l
 k n t f a b c rd) (apX (3:Nat) l k n t a)∧(0:Int)=zI (apE l k n t f a b c rd) (apX (4:Nat) l k n t b)∧(0:Int)=zI (apE l k n t f a b c rd) (apX (5:Nat) l k n t c)∧zS (apE l k n t f a b c rd) (unb rd (pB (apP l n t)))=[]∧True)∧rgV l=apE l k n t f a b c rd∧True else True∧bif !exK k then ((0:Int)=zI (apE l k n t f a b c rd) k∧{ data:=#[] }=zN (apE l k n t f a b c rd) n∧(0:Int)=zI (apE l k n t f a b c
 rd) t∧(0:Int)=zI (apE l k n t f a b c rd) (apX (2:Nat) l k n t f)∧(0:Int)=zI (apE l k n t f a b c rd) (apX (3:Nat) l k n t a)∧(0:Int)=zI (apE l k n t f a b c rd) (apX (4:Nat) l k n t b)∧(0:Int)=zI (apE l k n t f a b c rd) (apX (5:Nat) l k n t c)∧zS (apE l k n t f a b c rd) (unb rd (pB (apP l n t)))=[]∧True)∧(4:Int)=apE l k n t f a b c rd∧True else RdsP rd∧bif decide ¬vdE rd=(0:Int) then ((0:Int)=zI
 (apE l k n t f a b c rd) k∧(⟨#[]⟩:ByteArray)=zN (apE l k n t f a b c rd) n∧(0:Int)=zI (apE l k n t f a b c rd) t∧(0:Int)=zI (apE l k n t f a b c rd) (apX (2:Nat) l k n t f)∧(0:Int)=zI (apE l k n t f a b c rd) (apX (3:Nat) l k n t a)∧(0:Int)=zI (apE l k n t f a b c rd) (apX (4:Nat) l k n t b)∧(0:Int)=zI (apE l k n t f a b c rd) (apX (5:Nat) l k n t c)∧zS (apE l k n t f a b c rd) (unb rd (pB (apP l
 n t)))=[]∧True)∧vdE rd=apE l k n t f a b c rd∧True else SrcS l∧bif stH l n then bif decide ((0:Int)≤(↑(stN l n):Int)∧(↑(stN l n):Int) < (↑l.length:Int)) then ∃ n_1 s xs,List.take [AV.int .i64 n_1,.str s,.sl (7:Nat) false xs].length (l.getD (↑(stN l n):Int).toNat [])=[AV.int .i64 n_1,.str s,.sl (7:Nat) false xs]∧SrcD xs∧bif decide (k=(1:Int)) then bif !atB xs t then ((0:Int)=zI (apE l k n t f a b
 c rd) k∧(⟨#[]⟩:ByteArray)=zN (apE l k n t f a b c rd) n∧(0:Int)=zI (apE l k n t f a b c rd) t∧(0:Int)=zI (apE l k n t f a b c rd) (apX (2:Nat) l k n t f)∧(0:Int)=zI (apE l k n t f a b c rd) (apX (3:Nat) l k n t a)∧(0:Int)=zI (apE l k n t f a b c rd) (apX (4:Nat) l k n t b)∧(0:Int)=zI (apE l k n t f a b c rd) (apX (5:Nat) l k n t c)∧zS (apE l k n t f a b c rd) (unb rd (pB (apP l n
 t)))=[]∧True)∧(6:Int)=apE l k n t f a b c rd∧True else bif stH l n then bif decide ((0:Int)≤(↑(stN l n):Int)∧(↑(stN l n):Int) < (↑l.length:Int)) then ∃ n_2,List.take [AV.int .i64 n_2].length (List.drop (0:Nat) (l.getD (↑(stN l n):Int).toNat []))=[AV.int .i64 n_2]∧bif decide ¬n_2=k then ((0:Int)=zI (apE l k n t f a b c rd) k∧(⟨#[]⟩:ByteArray)=zN (apE l k n t f a b c rd) n∧(0:Int)=zI (apE l k n t
 f a b c rd) t∧(0:Int)=zI (apE l k n t f a b c rd) (apX (2:Nat) l k n t f)∧(0:Int)=zI (apE l k n t f a b c rd) (apX (3:Nat) l k n t a)∧(0:Int)=zI (apE l k n t f a b c rd) (apX (4:Nat) l k n t b)∧(0:Int)=zI (apE l k n t f a b c rd) (apX (5:Nat) l k n t c)∧zS (apE l k n t f a b c rd) (unb rd (pB (apP l n t)))=[]∧True)∧(7:Int)=apE l k n t f a b c rd∧True else bif atB xs t then bif pC (atR xs t) then
 ((0:Int)=zI (apE l k n t f a b c rd) k∧(⟨#[]⟩:ByteArray)=zN (apE l k n t f a b c rd) n∧(0:Int)=zI (apE l k n t f a b c rd) t∧(0:Int)=zI (apE l k n t f a b c rd) (apX (2:Nat) l k n t f)∧(0:Int)=zI (apE l k n t f a b c rd) (apX (3:Nat) l k n t a)∧(0:Int)=zI (apE l k n t f a b c rd) (apX (4:Nat) l k n t b)∧(0:Int)=zI (apE l k n t f a b c rd) (apX (5:Nat) l k n t c)∧zS (apE l k n t f a b c rd) (unb
 rd (pB (apP l n t)))=[]∧True)∧(7:Int)=apE l k n t f a b c rd∧True else bif decide ¬k=(1:Int) then True∧bif !isN f a b c then ((0:Int)=zI (apE l k n t f a b c rd) k∧(⟨#[]⟩:ByteArray)=zN (apE l k n t f a b c rd) n∧(0:Int)=zI (apE l k n t f a b c rd) t∧(0:Int)=zI (apE l k n t f a b c rd) (apX (2:Nat) l k n t f)∧(0:Int)=zI (apE l k n t f a b c rd) (apX (3:Nat) l k n t a)∧(0:Int)=zI (apE l k n t f a b
 c rd) (apX (4:Nat) l k n t b)∧(0:Int)=zI (apE l k n t f a b c rd) (apX (5:Nat) l k n t c)∧zS (apE l k n t f a b c rd) (unb rd (pB (apP l n t)))=[]∧True)∧(9:Int)=apE l k n t f a b c rd∧True else bif decide (k=(1:Int)) then (RdsP rd∧RdsP (pB (atR xs t))∧rd.length≤(1000:Nat))∧(k=zI (apE l k n t f a b c rd) k∧n=zN (apE l k n t f a b c rd) n∧t=zI (apE l k n t f a b c rd) t∧pI (2:Nat) (atR xs t)=zI
 (apE l k n t f a b c rd) (apX (2:Nat) l k n t f)∧pI (3:Nat) (atR xs t)=zI (apE l k n t f a b c rd) (apX (3:Nat) l k n t a)∧pI (4:Nat) (atR xs t)=zI (apE l k n t f a b c rd) (apX (4:Nat) l k n t b)∧pI (5:Nat) (atR xs t)=zI (apE l k n t f a b c rd) (apX (5:Nat) l k n t c)∧(True∧unb rd (pB (atR xs t))=zS (apE l k n t f a b c rd) (unb rd (pB (apP l n t))))∧True)∧(0:Int)=apE l k n t f a b c rd∧True else
 (RdsP rd∧RdsP (pB (atR xs t))∧rd.length≤(1000:Nat))∧(k=zI (apE l k n t f a b c rd) k∧n=zN (apE l k n t f a b c rd) n∧t=zI (apE l k n t f a b c rd) t∧f=zI (apE l k n t f a b c rd) (apX (2:Nat) l k n t f)∧a=zI (apE l k n t f a b c rd) (apX (3:Nat) l k n t a)∧b=zI (apE l k n t f a b c rd) (apX (4:Nat) l k n t b)∧c=zI (apE l k n t f a b c rd) (apX (5:Nat) l k n t c)∧(True∧unb rd (pB (atR xs t))=zS
 (apE l k n t f a b c rd) (unb rd (pB (apP l n t))))∧True)∧(0:Int)=apE l k n t f a b c rd∧True else bif decide (k=(1:Int)) then (RdsP rd∧RdsP (pB (atR xs t))∧rd.length≤(1000:Nat))∧(k=zI (apE l k n t f a b c rd) k∧n=zN (apE l k n t f a b c rd) n∧t=zI (apE l k n t f a b c rd) t∧pI (2:Nat) (atR xs t)=zI (apE l k n t f a b c rd) (apX (2:Nat) l k n t f)∧pI (3:Nat) (atR xs t)=zI (apE l k n t f a b c rd)
 (apX (3:Nat) l k n t a)∧pI (4:Nat) (atR xs t)=zI (apE l k n t f a b c rd) (apX (4:Nat) l k n t b)∧pI (5:Nat) (atR xs t)=zI (apE l k n t f a b c rd) (apX (5:Nat) l k n t c)∧(True∧unb rd (pB (atR xs t))=zS (apE l k n t f a b c rd) (unb rd (pB (apP l n t))))∧True)∧(0:Int)=apE l k n t f a b c rd∧True else (RdsP rd∧RdsP (pB (atR xs t))∧rd.length≤(1000:Nat))∧(k=zI (apE l k n t f a b c rd) k∧n=zN (apE l
 k n t f a b c rd) n∧t=zI (apE l k n t f a b c rd) t∧f=zI (apE l k n t f a b c rd) (apX (2:Nat) l k n t f)∧a=zI (apE l k n t f a b c rd) (apX (3:Nat) l k n t a)∧b=zI (apE l k n t f a b c rd) (apX (4:Nat) l k n t b)∧c=zI (apE l k n t f a b c rd) (apX (5:Nat) l k n t c)∧(True∧unb rd (pB (atR xs t))=zS (apE l k n t f a b c rd) (unb rd (pB (apP l n t))))∧True)∧(0:Int)=apE l k n t f a b c rd∧True else
 bif decide ¬k=(1:Int) then True∧bif !isN f a b c then ((0:Int)=zI (apE l k n t f a b c rd) k∧{ data:=#[] }=zN (apE l k n t f a b c rd) n∧(0:Int)=zI (apE l k n t f a b c rd) t∧(0:Int)=zI (apE l k n t f a b c rd) (apX (2:Nat) l k n t f)∧(0:Int)=zI (apE l k n t f a b c rd) (apX (3:Nat) l k n t a)∧(0:Int)=zI (apE l k n t f a b c rd) (apX (4:Nat) l k n t b)∧(0:Int)=zI (apE l k n t f a b c rd) (apX
 (5:Nat) l k n t c)∧zS (apE l k n t f a b c rd) (unb rd (pB (apP l n t)))=[]∧True)∧(9:Int)=apE l k n t f a b c rd∧True else bif decide (k=(1:Int)) then (RdsP rd∧RdsP (pB (atR xs t))∧rd.length≤(1000:Nat))∧(k=zI (apE l k n t f a b c rd) k∧n=zN (apE l k n t f a b c rd) n∧t=zI (apE l k n t f a b c rd) t∧pI (2:Nat) (atR xs t)=zI (apE l k n t f a b c rd) (apX (2:Nat) l k n t f)∧pI (3:Nat) (atR xs t)=zI
 (apE l k n t f a b c rd) (apX (3:Nat) l k n t a)∧pI (4:Nat) (atR xs t)=zI (apE l k n t f a b c rd) (apX (4:Nat) l k n t b)∧pI (5:Nat) (atR xs t)=zI (apE l k n t f a b c rd) (apX (5:Nat) l k n t c)∧(True∧unb rd (pB (atR xs t))=zS (apE l k n t f a b c rd) (unb rd (pB (apP l n t))))∧True)∧(0:Int)=apE l k n t f a b c rd∧True else (RdsP rd∧RdsP (pB (atR xs t))∧rd.length≤(1000:Nat))∧(k=zI (apE l k n t
 f a b c rd) k∧n=zN (apE l k n t f a b c rd) n∧t=zI (apE l k n t f a b c rd) t∧f=zI (apE l k n t f a b c rd) (apX (2:Nat) l k n t f)∧a=zI (apE l k n t f a b c rd) (apX (3:Nat) l k n t a)∧b=zI (apE l k n t f a b c rd) (apX (4:Nat) l k n t b)∧c=zI (apE l k n t f a b c rd) (apX (5:Nat) l k n t c)∧(True∧unb rd (pB (atR xs t))=zS (apE l k n t f a b c rd) (unb rd (pB (apP l n t))))∧True)∧(0:Int)=apE l k n
 t f a b c rd∧True else bif decide (k=(1:Int)) then (RdsP rd∧RdsP (pB (atR xs t))∧rd.length≤(1000:Nat))∧(k=zI (apE l k n t f a b c rd) k∧n=zN (apE l k n t f a b c rd) n∧t=zI (apE l k n t f a b c rd) t∧pI (2:Nat) (atR xs t)=zI (apE l k n t f a b c rd) (apX (2:Nat) l k n t f)∧pI (3:Nat) (atR xs t)=zI (apE l k n t f a b c rd) (apX (3:Nat) l k n t a)∧pI (4:Nat) (atR xs t)=zI (apE l k n t f a b c rd)
 (apX (4:Nat) l k n t b)∧pI (5:Nat) (atR xs t)=zI (apE l k n t f a b c rd) (apX (5:Nat) l k n t c)∧(True∧unb rd (pB (atR xs t))=zS (apE l k n t f a b c rd) (unb rd (pB (apP l n t))))∧True)∧(0:Int)=apE l k n t f a b c rd∧True else (RdsP rd∧RdsP (pB (atR xs t))∧rd.length≤(1000:Nat))∧(k=zI (apE l k n t f a b c rd) k∧n=zN (apE l k n t f a b c rd) n∧t=zI (apE l k n t f a b c rd) t∧f=zI (apE l k n t f a
 b c rd) (apX (2:Nat) l k n t f)∧a=zI (apE l k n t f a b c rd) (apX (3:Nat) l k n t a)∧b=zI (apE l k n t f a b c rd) (apX (4:Nat) l k n t b)∧c=zI (apE l k n t f a b c rd) (apX (5:Nat) l k n t c)∧(True∧unb rd (pB (atR xs t))=zS (apE l k n t f a b c rd) (unb rd (pB (apP l n t))))∧True)∧(0:Int)=apE l k n t f a b c rd∧True else False else bif atB xs t then bif pC (atR xs t) then ((0:Int)=zI (apE l k n t
 f a b c rd) k∧(⟨#[]⟩:ByteArray)=zN (apE l k n t f a b c rd) n∧(0:Int)=zI (apE l k n t f a b c rd) t∧(0:Int)=zI (apE l k n t f a b c rd) (apX (2:Nat) l k n t f)∧(0:Int)=zI (apE l k n t f a b c rd) (apX (3:Nat) l k n t a)∧(0:Int)=zI (apE l k n t f a b c rd) (apX (4:Nat) l k n t b)∧(0:Int)=zI (apE l k n t f a b c rd) (apX (5:Nat) l k n t c)∧zS (apE l k n t f a b c rd) (unb rd (pB (apP l n
 t)))=[]∧True)∧(7:Int)=apE l k n t f a b c rd∧True else bif decide ¬k=(1:Int) then True∧bif !isN f a b c then ((0:Int)=zI (apE l k n t f a b c rd) k∧(⟨#[]⟩:ByteArray)=zN (apE l k n t f a b c rd) n∧(0:Int)=zI (apE l k n t f a b c rd) t∧(0:Int)=zI (apE l k n t f a b c rd) (apX (2:Nat) l k n t f)∧(0:Int)=zI (apE l k n t f a b c rd) (apX (3:Nat) l k n t a)∧(0:Int)=zI (apE l k n t f a b c rd) (apX
 (4:Nat) l k n t b)∧(0:Int)=zI (apE l k n t f a b c rd) (apX (5:Nat) l k n t c)∧zS (apE l k n t f a b c rd) (unb rd (pB (apP l n t)))=[]∧True)∧(9:Int)=apE l k n t f a b c rd∧True else bif decide (k=(1:Int)) then (RdsP rd∧RdsP (pB (atR xs t))∧rd.length≤(1000:Nat))∧(k=zI (apE l k n t f a b c rd) k∧n=zN (apE l k n t f a b c rd) n∧t=zI (apE l k n t f a b c rd) t∧pI (2:Nat) (atR xs t)=zI (apE l k n t f
 a b c rd) (apX (2:Nat) l k n t f)∧pI (3:Nat) (atR xs t)=zI (apE l k n t f a b c rd) (apX (3:Nat) l k n t a)∧pI (4:Nat) (atR xs t)=zI (apE l k n t f a b c rd) (apX (4:Nat) l k n t b)∧pI (5:Nat) (atR xs t)=zI (apE l k n t f a b c rd) (apX (5:Nat) l k n t c)∧(True∧unb rd (pB (atR xs t))=zS (apE l k n t f a b c rd) (unb rd (pB (apP l n t))))∧True)∧(0:Int)=apE l k n t f a b c rd∧True else (RdsP rd∧RdsP
 (pB (atR xs t))∧rd.length≤(1000:Nat))∧(k=zI (apE l k n t f a b c rd) k∧n=zN (apE l k n t f a b c rd) n∧t=zI (apE l k n t f a b c rd) t∧f=zI (apE l k n t f a b c rd) (apX (2:Nat) l k n t f)∧a=zI (apE l k n t f a b c rd) (apX (3:Nat) l k n t a)∧b=zI (apE l k n t f a b c rd) (apX (4:Nat) l k n t b)∧c=zI (apE l k n t f a b c rd) (apX (5:Nat) l k n t c)∧(True∧unb rd (pB (atR xs t))=zS (apE l k n t f a
 b c rd) (unb rd (pB (apP l n t))))∧True)∧(0:Int)=apE l k n t f a b c rd∧True else bif decide (k=(1:Int)) then (RdsP rd∧RdsP (pB (atR xs t))∧rd.length≤(1000:Nat))∧(k=zI (apE l k n t f a b c rd) k∧n=zN (apE l k n t f a b c rd) n∧t=zI (apE l k n t f a b c rd) t∧pI (2:Nat) (atR xs t)=zI (apE l k n t f a b c rd) (apX (2:Nat) l k n t f)∧pI (3:Nat) (atR xs t)=zI (apE l k n t f a b c rd) (apX (3:Nat) l k
 n t a)∧pI (4:Nat) (atR xs t)=zI (apE l k n t f a b c rd) (apX (4:Nat) l k n t b)∧pI (5:Nat) (atR xs t)=zI (apE l k n t f a b c rd) (apX (5:Nat) l k n t c)∧(True∧unb rd (pB (atR xs t))=zS (apE l k n t f a b c rd) (unb rd (pB (apP l n t))))∧True)∧(0:Int)=apE l k n t f a b c rd∧True else (RdsP rd∧RdsP (pB (atR xs t))∧rd.length≤(1000:Nat))∧(k=zI (apE l k n t f a b c rd) k∧n=zN (apE l k n t f a b c
 rd) n∧t=zI (apE l k n t f a b c rd) t∧f=zI (apE l k n t f a b c rd) (apX (2:Nat) l k n t f)∧a=zI (apE l k n t f a b c rd) (apX (3:Nat) l k n t a)∧b=zI (apE l k n t f a b c rd) (apX (4:Nat) l k n t b)∧c=zI (apE l k n t f a b c rd) (apX (5:Nat) l k n t c)∧(True∧unb rd (pB (atR xs t))=zS (apE l k n t f a b c rd) (unb rd (pB (apP l n t))))∧True)∧(0:Int)=apE l k n t f a b c rd∧True else bif decide
 ¬k=(1:Int) then True∧bif !isN f a b c then ((0:Int)=zI (apE l k n t f a b c rd) k∧(⟨#[]⟩:ByteArray)=zN (apE l k n t f a b c rd) n∧(0:Int)=zI (apE l k n t f a b c rd) t∧(0:Int)=zI (apE l k n t f a b c rd) (apX (2:Nat) l k n t f)∧(0:Int)=zI (apE l k n t f a b c rd) (apX (3:Nat) l k n t a)∧(0:Int)=zI (apE l k n t f a b c rd) (apX (4:Nat) l k n t b)∧(0:Int)=zI (apE l k n t f a b c rd) (apX (5:Nat) l
 k n t c)∧zS (apE l k n t f a b c rd) (unb rd (pB (apP l n t)))=[]∧True)∧(9:Int)=apE l k n t f a b c rd∧True else bif decide (k=(1:Int)) then (RdsP rd∧RdsP (pB (atR xs t))∧rd.length≤(1000:Nat))∧(k=zI (apE l k n t f a b c rd) k∧n=zN (apE l k n t f a b c rd) n∧t=zI (apE l k n t f a b c rd) t∧pI (2:Nat) (atR xs t)=zI (apE l k n t f a b c rd) (apX (2:Nat) l k n t f)∧pI (3:Nat) (atR xs t)=zI (apE l k n
 t f a b c rd) (apX (3:Nat) l k n t a)∧pI (4:Nat) (atR xs t)=zI (apE l k n t f a b c rd) (apX (4:Nat) l k n t b)∧pI (5:Nat) (atR xs t)=zI (apE l k n t f a b c rd) (apX (5:Nat) l k n t c)∧(True∧unb rd (pB (atR xs t))=zS (apE l k n t f a b c rd) (unb rd (pB (apP l n t))))∧True)∧(0:Int)=apE l k n t f a b c rd∧True else (RdsP rd∧RdsP (pB (atR xs t))∧rd.length≤(1000:Nat))∧(k=zI (apE l k n t f a b c rd)
 k∧n=zN (apE l k n t f a b c rd) n∧t=zI (apE l k n t f a b c rd) t∧f=zI (apE l k n t f a b c rd) (apX (2:Nat) l k n t f)∧a=zI (apE l k n t f a b c rd) (apX (3:Nat) l k n t a)∧b=zI (apE l k n t f a b c rd) (apX (4:Nat) l k n t b)∧c=zI (apE l k n t f a b c rd) (apX (5:Nat) l k n t c)∧(True∧unb rd (pB (atR xs t))=zS (apE l k n t f a b c rd) (unb rd (pB (apP l n t))))∧True)∧(0:Int)=apE l k n t f a b c
 rd∧True else bif decide (k=(1:Int)) then (RdsP rd∧RdsP (pB (atR xs t))∧rd.length≤(1000:Nat))∧(k=zI (apE l k n t f a b c rd) k∧n=zN (apE l k n t f a b c rd) n∧t=zI (apE l k n t f a b c rd) t∧pI (2:Nat) (atR xs t)=zI (apE l k n t f a b c rd) (apX (2:Nat) l k n t f)∧pI (3:Nat) (atR xs t)=zI (apE l k n t f a b c rd) (apX (3:Nat) l k n t a)∧pI (4:Nat) (atR xs t)=zI (apE l k n t f a b c rd) (apX
 (4:Nat) l k n t b)∧pI (5:Nat) (atR xs t)=zI (apE l k n t f a b c rd) (apX (5:Nat) l k n t c)∧(True∧unb rd (pB (atR xs t))=zS (apE l k n t f a b c rd) (unb rd (pB (apP l n t))))∧True)∧(0:Int)=apE l k n t f a b c rd∧True else (RdsP rd∧RdsP (pB (atR xs t))∧rd.length≤(1000:Nat))∧(k=zI (apE l k n t f a b c rd) k∧n=zN (apE l k n t f a b c rd) n∧t=zI (apE l k n t f a b c rd) t∧f=zI (apE l k n t f a b c
 rd) (apX (2:Nat) l k n t f)∧a=zI (apE l k n t f a b c rd) (apX (3:Nat) l k n t a)∧b=zI (apE l k n t f a b c rd) (apX (4:Nat) l k n t b)∧c=zI (apE l k n t f a b c rd) (apX (5:Nat) l k n t c)∧(True∧unb rd (pB (atR xs t))=zS (apE l k n t f a b c rd) (unb rd (pB (apP l n t))))∧True)∧(0:Int)=apE l k n t f a b c rd∧True else bif stH l n then bif decide ((0:Int)≤(↑(stN l n):Int)∧(↑(stN l n):Int) <
 (↑l.length:Int)) then ∃ n_2,List.take [AV.int .i64 n_2].length (List.drop (0:Nat) (l.getD (↑(stN l n):Int).toNat []))=[AV.int .i64 n_2]∧bif decide ¬n_2=k then ((0:Int)=zI (apE l k n t f a b c rd) k∧(⟨#[]⟩:ByteArray)=zN (apE l k n t f a b c rd) n∧(0:Int)=zI (apE l k n t f a b c rd) t∧(0:Int)=zI (apE l k n t f a b c rd) (apX (2:Nat) l k n t f)∧(0:Int)=zI (apE l k n t f a b c rd) (apX (3:Nat) l k n
 t a)∧(0:Int)=zI (apE l k n t f a b c rd) (apX (4:Nat) l k n t b)∧(0:Int)=zI (apE l k n t f a b c rd) (apX (5:Nat) l k n t c)∧zS (apE l k n t f a b c rd) (unb rd (pB (apP l n t)))=[]∧True)∧(7:Int)=apE l k n t f a b c rd∧True else bif atB xs t then bif pC (atR xs t) then ((0:Int)=zI (apE l k n t f a b c rd) k∧(⟨#[]⟩:ByteArray)=zN (apE l k n t f a b c rd) n∧(0:Int)=zI (apE l k n t f a b c rd)
 t∧(0:Int)=zI (apE l k n t f a b c rd) (apX (2:Nat) l k n t f)∧(0:Int)=zI (apE l k n t f a b c rd) (apX (3:Nat) l k n t a)∧(0:Int)=zI (apE l k n t f a b c rd) (apX (4:Nat) l k n t b)∧(0:Int)=zI (apE l k n t f a b c rd) (apX (5:Nat) l k n t c)∧zS (apE l k n t f a b c rd) (unb rd (pB (apP l n t)))=[]∧True)∧(7:Int)=apE l k n t f a b c rd∧True else bif decide ¬k=(1:Int) then True∧bif !isN f a b c then
 ((0:Int)=zI (apE l k n t f a b c rd) k∧(⟨#[]⟩:ByteArray)=zN (apE l k n t f a b c rd) n∧(0:Int)=zI (apE l k n t f a b c rd) t∧(0:Int)=zI (apE l k n t f a b c rd) (apX (2:Nat) l k n t f)∧(0:Int)=zI (apE l k n t f a b c rd) (apX (3:Nat) l k n t a)∧(0:Int)=zI (apE l k n t f a b c rd) (apX (4:Nat) l k n t b)∧(0:Int)=zI (apE l k n t f a b c rd) (apX (5:Nat) l k n t c)∧zS (apE l k n t f a b c rd) (unb
 rd (pB (apP l n t)))=[]∧True)∧(9:Int)=apE l k n t f a b c rd∧True else bif decide (k=(1:Int)) then (RdsP rd∧RdsP (pB (atR xs t))∧rd.length≤(1000:Nat))∧(k=zI (apE l k n t f a b c rd) k∧n=zN (apE l k n t f a b c rd) n∧t=zI (apE l k n t f a b c rd) t∧pI (2:Nat) (atR xs t)=zI (apE l k n t f a b c rd) (apX (2:Nat) l k n t f)∧pI (3:Nat) (atR xs t)=zI (apE l k n t f a b c rd) (apX (3:Nat) l k n t a)∧pI
 (4:Nat) (atR xs t)=zI (apE l k n t f a b c rd) (apX (4:Nat) l k n t b)∧pI (5:Nat) (atR xs t)=zI (apE l k n t f a b c rd) (apX (5:Nat) l k n t c)∧(True∧unb rd (pB (atR xs t))=zS (apE l k n t f a b c rd) (unb rd (pB (apP l n t))))∧True)∧(0:Int)=apE l k n t f a b c rd∧True else (RdsP rd∧RdsP (pB (atR xs t))∧rd.length≤(1000:Nat))∧(k=zI (apE l k n t f a b c rd) k∧n=zN (apE l k n t f a b c rd) n∧t=zI
 (apE l k n t f a b c rd) t∧f=zI (apE l k n t f a b c rd) (apX (2:Nat) l k n t f)∧a=zI (apE l k n t f a b c rd) (apX (3:Nat) l k n t a)∧b=zI (apE l k n t f a b c rd) (apX (4:Nat) l k n t b)∧c=zI (apE l k n t f a b c rd) (apX (5:Nat) l k n t c)∧(True∧unb rd (pB (atR xs t))=zS (apE l k n t f a b c rd) (unb rd (pB (apP l n t))))∧True)∧(0:Int)=apE l k n t f a b c rd∧True else bif decide (k=(1:Int)) then
 (RdsP rd∧RdsP (pB (atR xs t))∧rd.length≤(1000:Nat))∧(k=zI (apE l k n t f a b c rd) k∧n=zN (apE l k n t f a b c rd) n∧t=zI (apE l k n t f a b c rd) t∧pI (2:Nat) (atR xs t)=zI (apE l k n t f a b c rd) (apX (2:Nat) l k n t f)∧pI (3:Nat) (atR xs t)=zI (apE l k n t f a b c rd) (apX (3:Nat) l k n t a)∧pI (4:Nat) (atR xs t)=zI (apE l k n t f a b c rd) (apX (4:Nat) l k n t b)∧pI (5:Nat) (atR xs t)=zI
 (apE l k n t f a b c rd) (apX (5:Nat) l k n t c)∧(True∧unb rd (pB (atR xs t))=zS (apE l k n t f a b c rd) (unb rd (pB (apP l n t))))∧True)∧(0:Int)=apE l k n t f a b c rd∧True else (RdsP rd∧RdsP (pB (atR xs t))∧rd.length≤(1000:Nat))∧(k=zI (apE l k n t f a b c rd) k∧n=zN (apE l k n t f a b c rd) n∧t=zI (apE l k n t f a b c rd) t∧f=zI (apE l k n t f a b c rd) (apX (2:Nat) l k n t f)∧a=zI (apE l k n
 t f a b c rd) (apX (3:Nat) l k n t a)∧b=zI (apE l k n t f a b c rd) (apX (4:Nat) l k n t b)∧c=zI (apE l k n t f a b c rd) (apX (5:Nat) l k n t c)∧(True∧unb rd (pB (atR xs t))=zS (apE l k n t f a b c rd) (unb rd (pB (apP l n t))))∧True)∧(0:Int)=apE l k n t f a b c rd∧True else bif decide ¬k=(1:Int) then True∧bif !isN f a b c then ((0:Int)=zI (apE l k n t f a b c rd) k∧(⟨#[]⟩:ByteArray)=zN (apE l k
 n t f a b c rd) n∧(0:Int)=zI (apE l k n t f a b c rd) t∧(0:Int)=zI (apE l k n t f a b c rd) (apX (2:Nat) l k n t f)∧(0:Int)=zI (apE l k n t f a b c rd) (apX (3:Nat) l k n t a)∧(0:Int)=zI (apE l k n t f a b c rd) (apX (4:Nat) l k n t b)∧(0:Int)=zI (apE l k n t f a b c rd) (apX (5:Nat) l k n t c)∧zS (apE l k n t f a b c rd) (unb rd (pB (apP l n t)))=[]∧True)∧(9:Int)=apE l k n t f a b c rd∧True else
 bif decide (k=(1:Int)) then (RdsP rd∧RdsP (pB (atR xs t))∧rd.length≤(1000:Nat))∧(k=zI (apE l k n t f a b c rd) k∧n=zN (apE l k n t f a b c rd) n∧t=zI (apE l k n t f a b c rd) t∧pI (2:Nat) (atR xs t)=zI (apE l k n t f a b c rd) (apX (2:Nat) l k n t f)∧pI (3:Nat) (atR xs t)=zI (apE l k n t f a b c rd) (apX (3:Nat) l k n t a)∧pI (4:Nat) (atR xs t)=zI (apE l k n t f a b c rd) (apX (4:Nat) l k n t
 b)∧pI (5:Nat) (atR xs t)=zI (apE l k n t f a b c rd) (apX (5:Nat) l k n t c)∧(True∧unb rd (pB (atR xs t))=zS (apE l k n t f a b c rd) (unb rd (pB (apP l n t))))∧True)∧(0:Int)=apE l k n t f a b c rd∧True else (RdsP rd∧RdsP (pB (atR xs t))∧rd.length≤(1000:Nat))∧(k=zI (apE l k n t f a b c rd) k∧n=zN (apE l k n t f a b c rd) n∧t=zI (apE l k n t f a b c rd) t∧f=zI (apE l k n t f a b c rd) (apX (2:Nat)
 l k n t f)∧a=zI (apE l k n t f a b c rd) (apX (3:Nat) l k n t a)∧b=zI (apE l k n t f a b c rd) (apX (4:Nat) l k n t b)∧c=zI (apE l k n t f a b c rd) (apX (5:Nat) l k n t c)∧(True∧unb rd (pB (atR xs t))=zS (apE l k n t f a b c rd) (unb rd (pB (apP l n t))))∧True)∧(0:Int)=apE l k n t f a b c rd∧True else bif decide (k=(1:Int)) then (RdsP rd∧RdsP (pB (atR xs t))∧rd.length≤(1000:Nat))∧(k=zI (apE l k
 n t f a b c rd) k∧n=zN (apE l k n t f a b c rd) n∧t=zI (apE l k n t f a b c rd) t∧pI (2:Nat) (atR xs t)=zI (apE l k n t f a b c rd) (apX (2:Nat) l k n t f)∧pI (3:Nat) (atR xs t)=zI (apE l k n t f a b c rd) (apX (3:Nat) l k n t a)∧pI (4:Nat) (atR xs t)=zI (apE l k n t f a b c rd) (apX (4:Nat) l k n t b)∧pI (5:Nat) (atR xs t)=zI (apE l k n t f a b c rd) (apX (5:Nat) l k n t c)∧(True∧unb rd (pB (atR
 xs t))=zS (apE l k n t f a b c rd) (unb rd (pB (apP l n t))))∧True)∧(0:Int)=apE l k n t f a b c rd∧True else (RdsP rd∧RdsP (pB (atR xs t))∧rd.length≤(1000:Nat))∧(k=zI (apE l k n t f a b c rd) k∧n=zN (apE l k n t f a b c rd) n∧t=zI (apE l k n t f a b c rd) t∧f=zI (apE l k n t f a b c rd) (apX (2:Nat) l k n t f)∧a=zI (apE l k n t f a b c rd) (apX (3:Nat) l k n t a)∧b=zI (apE l k n t f a b c rd)
 (apX (4:Nat) l k n t b)∧c=zI (apE l k n t f a b c rd) (apX (5:Nat) l k n t c)∧(True∧unb rd (pB (atR xs t))=zS (apE l k n t f a b c rd) (unb rd (pB (apP l n t))))∧True)∧(0:Int)=apE l k n t f a b c rd∧True else False else bif atB xs t then bif pC (atR xs t) then ((0:Int)=zI (apE l k n t f a b c rd) k∧(⟨#[]⟩:ByteArray)=zN (apE l k n t f a b c rd) n∧(0:Int)=zI (apE l k n t f a b c rd) t∧(0:Int)=zI
 (apE l k n t f a b c rd) (apX (2:Nat) l k n t f)∧(0:Int)=zI (apE l k n t f a b c rd) (apX (3:Nat) l k n t a)∧(0:Int)=zI (apE l k n t f a b c rd) (apX (4:Nat) l k n t b)∧(0:Int)=zI (apE l k n t f a b c rd) (apX (5:Nat) l k n t c)∧zS (apE l k n t f a b c rd) (unb rd (pB (apP l n t)))=[]∧True)∧(7:Int)=apE l k n t f a b c rd∧True else bif decide ¬k=(1:Int) then True∧bif !isN f a b c then ((0:Int)=zI
 (apE l k n t f a b c rd) k∧{ data:=#[] }=zN (apE l k n t f a b c rd) n∧(0:Int)=zI (apE l k n t f a b c rd) t∧(0:Int)=zI (apE l k n t f a b c rd) (apX (2:Nat) l k n t f)∧(0:Int)=zI (apE l k n t f a b c rd) (apX (3:Nat) l k n t a)∧(0:Int)=zI (apE l k n t f a b c rd) (apX (4:Nat) l k n t b)∧(0:Int)=zI (apE l k n t f a b c rd) (apX (5:Nat) l k n t c)∧zS (apE l k n t f a b c rd) (unb rd (pB (apP l n
 t)))=[]∧True)∧(9:Int)=apE l k n t f a b c rd∧True else bif decide (k=(1:Int)) then (RdsP rd∧RdsP (pB (atR xs t))∧rd.length≤(1000:Nat))∧(k=zI (apE l k n t f a b c rd) k∧n=zN (apE l k n t f a b c rd) n∧t=zI (apE l k n t f a b c rd) t∧pI (2:Nat) (atR xs t)=zI (apE l k n t f a b c rd) (apX (2:Nat) l k n t f)∧pI (3:Nat) (atR xs t)=zI (apE l k n t f a b c rd) (apX (3:Nat) l k n t a)∧pI (4:Nat) (atR xs
 t)=zI (apE l k n t f a b c rd) (apX (4:Nat) l k n t b)∧pI (5:Nat) (atR xs t)=zI (apE l k n t f a b c rd) (apX (5:Nat) l k n t c)∧(True∧unb rd (pB (atR xs t))=zS (apE l k n t f a b c rd) (unb rd (pB (apP l n t))))∧True)∧(0:Int)=apE l k n t f a b c rd∧True else (RdsP rd∧RdsP (pB (atR xs t))∧rd.length≤(1000:Nat))∧(k=zI (apE l k n t f a b c rd) k∧n=zN (apE l k n t f a b c rd) n∧t=zI (apE l k n t f a
 b c rd) t∧f=zI (apE l k n t f a b c rd) (apX (2:Nat) l k n t f)∧a=zI (apE l k n t f a b c rd) (apX (3:Nat) l k n t a)∧b=zI (apE l k n t f a b c rd) (apX (4:Nat) l k n t b)∧c=zI (apE l k n t f a b c rd) (apX (5:Nat) l k n t c)∧(True∧unb rd (pB (atR xs t))=zS (apE l k n t f a b c rd) (unb rd (pB (apP l n t))))∧True)∧(0:Int)=apE l k n t f a b c rd∧True else bif decide (k=(1:Int)) then (RdsP rd∧RdsP
 (pB (atR xs t))∧rd.length≤(1000:Nat))∧(k=zI (apE l k n t f a b c rd) k∧n=zN (apE l k n t f a b c rd) n∧t=zI (apE l k n t f a b c rd) t∧pI (2:Nat) (atR xs t)=zI (apE l k n t f a b c rd) (apX (2:Nat) l k n t f)∧pI (3:Nat) (atR xs t)=zI (apE l k n t f a b c rd) (apX (3:Nat) l k n t a)∧pI (4:Nat) (atR xs t)=zI (apE l k n t f a b c rd) (apX (4:Nat) l k n t b)∧pI (5:Nat) (atR xs t)=zI (apE l k n t f a
 b c rd) (apX (5:Nat) l k n t c)∧(True∧unb rd (pB (atR xs t))=zS (apE l k n t f a b c rd) (unb rd (pB (apP l n t))))∧True)∧(0:Int)=apE l k n t f a b c rd∧True else (RdsP rd∧RdsP (pB (atR xs t))∧rd.length≤(1000:Nat))∧(k=zI (apE l k n t f a b c rd) k∧n=zN (apE l k n t f a b c rd) n∧t=zI (apE l k n t f a b c rd) t∧f=zI (apE l k n t f a b c rd) (apX (2:Nat) l k n t f)∧a=zI (apE l k n t f a b c rd)
 (apX (3:Nat) l k n t a)∧b=zI (apE l k n t f a b c rd) (apX (4:Nat) l k n t b)∧c=zI (apE l k n t f a b c rd) (apX (5:Nat) l k n t c)∧(True∧unb rd (pB (atR xs t))=zS (apE l k n t f a b c rd) (unb rd (pB (apP l n t))))∧True)∧(0:Int)=apE l k n t f a b c rd∧True else bif decide ¬k=(1:Int) then True∧bif !isN f a b c then ((0:Int)=zI (apE l k n t f a b c rd) k∧{ data:=#[] }=zN (apE l k n t f a b c rd)
 n∧(0:Int)=zI (apE l k n t f a b c rd) t∧(0:Int)=zI (apE l k n t f a b c rd) (apX (2:Nat) l k n t f)∧(0:Int)=zI (apE l k n t f a b c rd) (apX (3:Nat) l k n t a)∧(0:Int)=zI (apE l k n t f a b c rd) (apX (4:Nat) l k n t b)∧(0:Int)=zI (apE l k n t f a b c rd) (apX (5:Nat) l k n t c)∧zS (apE l k n t f a b c rd) (unb rd (pB (apP l n t)))=[]∧True)∧(9:Int)=apE l k n t f a b c rd∧True else bif decide
 (k=(1:Int)) then (RdsP rd∧RdsP (pB (atR xs t))∧rd.length≤(1000:Nat))∧(k=zI (apE l k n t f a b c rd) k∧n=zN (apE l k n t f a b c rd) n∧t=zI (apE l k n t f a b c rd) t∧pI (2:Nat) (atR xs t)=zI (apE l k n t f a b c rd) (apX (2:Nat) l k n t f)∧pI (3:Nat) (atR xs t)=zI (apE l k n t f a b c rd) (apX (3:Nat) l k n t a)∧pI (4:Nat) (atR xs t)=zI (apE l k n t f a b c rd) (apX (4:Nat) l k n t b)∧pI (5:Nat)
 (atR xs t)=zI (apE l k n t f a b c rd) (apX (5:Nat) l k n t c)∧(True∧unb rd (pB (atR xs t))=zS (apE l k n t f a b c rd) (unb rd (pB (apP l n t))))∧True)∧(0:Int)=apE l k n t f a b c rd∧True else (RdsP rd∧RdsP (pB (atR xs t))∧rd.length≤(1000:Nat))∧(k=zI (apE l k n t f a b c rd) k∧n=zN (apE l k n t f a b c rd) n∧t=zI (apE l k n t f a b c rd) t∧f=zI (apE l k n t f a b c rd) (apX (2:Nat) l k n t
 f)∧a=zI (apE l k n t f a b c rd) (apX (3:Nat) l k n t a)∧b=zI (apE l k n t f a b c rd) (apX (4:Nat) l k n t b)∧c=zI (apE l k n t f a b c rd) (apX (5:Nat) l k n t c)∧(True∧unb rd (pB (atR xs t))=zS (apE l k n t f a b c rd) (unb rd (pB (apP l n t))))∧True)∧(0:Int)=apE l k n t f a b c rd∧True else bif decide (k=(1:Int)) then (RdsP rd∧RdsP (pB (atR xs t))∧rd.length≤(1000:Nat))∧(k=zI (apE l k n t f a
 b c rd) k∧n=zN (apE l k n t f a b c rd) n∧t=zI (apE l k n t f a b c rd) t∧pI (2:Nat) (atR xs t)=zI (apE l k n t f a b c rd) (apX (2:Nat) l k n t f)∧pI (3:Nat) (atR xs t)=zI (apE l k n t f a b c rd) (apX (3:Nat) l k n t a)∧pI (4:Nat) (atR xs t)=zI (apE l k n t f a b c rd) (apX (4:Nat) l k n t b)∧pI (5:Nat) (atR xs t)=zI (apE l k n t f a b c rd) (apX (5:Nat) l k n t c)∧(True∧unb rd (pB (atR xs t))=zS
 (apE l k n t f a b c rd) (unb rd (pB (apP l n t))))∧True)∧(0:Int)=apE l k n t f a b c rd∧True else (RdsP rd∧RdsP (pB (atR xs t))∧rd.length≤(1000:Nat))∧(k=zI (apE l k n t f a b c rd) k∧n=zN (apE l k n t f a b c rd) n∧t=zI (apE l k n t f a b c rd) t∧f=zI (apE l k n t f a b c rd) (apX (2:Nat) l k n t f)∧a=zI (apE l k n t f a b c rd) (apX (3:Nat) l k n t a)∧b=zI (apE l k n t f a b c rd) (apX (4:Nat)
 l k n t b)∧c=zI (apE l k n t f a b c rd) (apX (5:Nat) l k n t c)∧(True∧unb rd (pB (atR xs t))=zS (apE l k n t f a b c rd) (unb rd (pB (apP l n t))))∧True)∧(0:Int)=apE l k n t f a b c rd∧True else False else bif decide (k=(1:Int)) then ((0:Int)=zI (apE l k n t f a b c rd) k∧(⟨#[]⟩:ByteArray)=zN (apE l k n t f a b c rd) n∧(0:Int)=zI (apE l k n t f a b c rd) t∧(0:Int)=zI (apE l k n t f a b c rd)
 (apX (2:Nat) l k n t f)∧(0:Int)=zI (apE l k n t f a b c rd) (apX (3:Nat) l k n t a)∧(0:Int)=zI (apE l k n t f a b c rd) (apX (4:Nat) l k n t b)∧(0:Int)=zI (apE l k n t f a b c rd) (apX (5:Nat) l k n t c)∧zS (apE l k n t f a b c rd) (unb rd (pB (apP l n t)))=[]∧True)∧(6:Int)=apE l k n t f a b c rd∧True else bif stH l n then bif decide ((0:Int)≤(↑(stN l n):Int)∧(↑(stN l n):Int) < (↑l.length:Int))
 then ∃ n_1,List.take [AV.int .i64 n_1].length (List.drop (0:Nat) (l.getD (↑(stN l n):Int).toNat []))=[AV.int .i64 n_1]∧bif decide ¬n_1=k then ((0:Int)=zI (apE l k n t f a b c rd) k∧(⟨#[]⟩:ByteArray)=zN (apE l k n t f a b c rd) n∧(0:Int)=zI (apE l k n t f a b c rd) t∧(0:Int)=zI (apE l k n t f a b c rd) (apX (2:Nat) l k n t f)∧(0:Int)=zI (apE l k n t f a b c rd) (apX (3:Nat) l k n t a)∧(0:Int)=zI
 (apE l k n t f a b c rd) (apX (4:Nat) l k n t b)∧(0:Int)=zI (apE l k n t f a b c rd) (apX (5:Nat) l k n t c)∧zS (apE l k n t f a b c rd) (unb rd (pB (apP l n t)))=[]∧True)∧(7:Int)=apE l k n t f a b c rd∧True else bif decide ¬k=(1:Int) then True∧bif !isN f a b c then ((0:Int)=zI (apE l k n t f a b c rd) k∧(⟨#[]⟩:ByteArray)=zN (apE l k n t f a b c rd) n∧(0:Int)=zI (apE l k n t f a b c rd)
 t∧(0:Int)=zI (apE l k n t f a b c rd) (apX (2:Nat) l k n t f)∧(0:Int)=zI (apE l k n t f a b c rd) (apX (3:Nat) l k n t a)∧(0:Int)=zI (apE l k n t f a b c rd) (apX (4:Nat) l k n t b)∧(0:Int)=zI (apE l k n t f a b c rd) (apX (5:Nat) l k n t c)∧zS (apE l k n t f a b c rd) (unb rd (pB (apP l n t)))=[]∧True)∧(9:Int)=apE l k n t f a b c rd∧True else bif decide (k=(1:Int)) then (RdsP rd∧RdsP []∧rd.length
≤(1000:Nat))∧(k=zI (apE l k n t f a b c rd) k∧n=zN (apE l k n t f a b c rd) n∧t=zI (apE l k n t f a b c rd) t∧(0:Int)=zI (apE l k n t f a b c rd) (apX (2:Nat) l k n t f)∧(0:Int)=zI (apE l k n t f a b c rd) (apX (3:Nat) l k n t a)∧(0:Int)=zI (apE l k n t f a b c rd) (apX (4:Nat) l k n t b)∧(0:Int)=zI (apE l k n t f a b c rd) (apX (5:Nat) l k n t c)∧(True∧unb rd []=zS (apE l k n t f a b c rd) (unb
 rd (pB (apP l n t))))∧True)∧(0:Int)=apE l k n t f a b c rd∧True else (RdsP rd∧RdsP []∧rd.length≤(1000:Nat))∧(k=zI (apE l k n t f a b c rd) k∧n=zN (apE l k n t f a b c rd) n∧t=zI (apE l k n t f a b c rd) t∧f=zI (apE l k n t f a b c rd) (apX (2:Nat) l k n t f)∧a=zI (apE l k n t f a b c rd) (apX (3:Nat) l k n t a)∧b=zI (apE l k n t f a b c rd) (apX (4:Nat) l k n t b)∧c=zI (apE l k n t f a b c rd)
 (apX (5:Nat) l k n t c)∧(True∧unb rd []=zS (apE l k n t f a b c rd) (unb rd (pB (apP l n t))))∧True)∧(0:Int)=apE l k n t f a b c rd∧True else bif decide (k=(1:Int)) then (RdsP rd∧RdsP []∧rd.length≤(1000:Nat))∧(k=zI (apE l k n t f a b c rd) k∧n=zN (apE l k n t f a b c rd) n∧t=zI (apE l k n t f a b c rd) t∧(0:Int)=zI (apE l k n t f a b c rd) (apX (2:Nat) l k n t f)∧(0:Int)=zI (apE l k n t f a b c
 rd) (apX (3:Nat) l k n t a)∧(0:Int)=zI (apE l k n t f a b c rd) (apX (4:Nat) l k n t b)∧(0:Int)=zI (apE l k n t f a b c rd) (apX (5:Nat) l k n t c)∧(True∧unb rd []=zS (apE l k n t f a b c rd) (unb rd (pB (apP l n t))))∧True)∧(0:Int)=apE l k n t f a b c rd∧True else (RdsP rd∧RdsP []∧rd.length≤(1000:Nat))∧(k=zI (apE l k n t f a b c rd) k∧n=zN (apE l k n t f a b c rd) n∧t=zI (apE l k n t f a b c rd)
 t∧f=zI (apE l k n t f a b c rd) (apX (2:Nat) l k n t f)∧a=zI (apE l k n t f a b c rd) (apX (3:Nat) l k n t a)∧b=zI (apE l k n t f a b c rd) (apX (4:Nat) l k n t b)∧c=zI (apE l k n t f a b c rd) (apX (5:Nat) l k n t c)∧(True∧unb rd []=zS (apE l k n t f a b c rd) (unb rd (pB (apP l n t))))∧True)∧(0:Int)=apE l k n t f a b c rd∧True else False else bif decide ¬k=(1:Int) then True∧bif !isN f a b c then
 ((0:Int)=zI (apE l k n t f a b c rd) k∧(⟨#[]⟩:ByteArray)=zN (apE l k n t f a b c rd) n∧(0:Int)=zI (apE l k n t f a b c rd) t∧(0:Int)=zI (apE l k n t f a b c rd) (apX (2:Nat) l k n t f)∧(0:Int)=zI (apE l k n t f a b c rd) (apX (3:Nat) l k n t a)∧(0:Int)=zI (apE l k n t f a b c rd) (apX (4:Nat) l k n t b)∧(0:Int)=zI (apE l k n t f a b c rd) (apX (5:Nat) l k n t c)∧zS (apE l k n t f a b c rd) (unb
 rd (pB (apP l n t)))=[]∧True)∧(9:Int)=apE l k n t f a b c rd∧True else bif decide (k=(1:Int)) then (RdsP rd∧RdsP []∧rd.length≤(1000:Nat))∧(k=zI (apE l k n t f a b c rd) k∧n=zN (apE l k n t f a b c rd) n∧t=zI (apE l k n t f a b c rd) t∧(0:Int)=zI (apE l k n t f a b c rd) (apX (2:Nat) l k n t f)∧(0:Int)=zI (apE l k n t f a b c rd) (apX (3:Nat) l k n t a)∧(0:Int)=zI (apE l k n t f a b c rd) (apX
 (4:Nat) l k n t b)∧(0:Int)=zI (apE l k n t f a b c rd) (apX (5:Nat) l k n t c)∧(True∧unb rd []=zS (apE l k n t f a b c rd) (unb rd (pB (apP l n t))))∧True)∧(0:Int)=apE l k n t f a b c rd∧True else (RdsP rd∧RdsP []∧rd.length≤(1000:Nat))∧(k=zI (apE l k n t f a b c rd) k∧n=zN (apE l k n t f a b c rd) n∧t=zI (apE l k n t f a b c rd) t∧f=zI (apE l k n t f a b c rd) (apX (2:Nat) l k n t f)∧a=zI (apE l
 k n t f a b c rd) (apX (3:Nat) l k n t a)∧b=zI (apE l k n t f a b c rd) (apX (4:Nat) l k n t b)∧c=zI (apE l k n t f a b c rd) (apX (5:Nat) l k n t c)∧(True∧unb rd []=zS (apE l k n t f a b c rd) (unb rd (pB (apP l n t))))∧True)∧(0:Int)=apE l k n t f a b c rd∧True else bif decide (k=(1:Int)) then (RdsP rd∧RdsP []∧rd.length≤(1000:Nat))∧(k=zI (apE l k n t f a b c rd) k∧n=zN (apE l k n t f a b c rd)
 n∧t=zI (apE l k n t f a b c rd) t∧(0:Int)=zI (apE l k n t f a b c rd) (apX (2:Nat) l k n t f)∧(0:Int)=zI (apE l k n t f a b c rd) (apX (3:Nat) l k n t a)∧(0:Int)=zI (apE l k n t f a b c rd) (apX (4:Nat) l k n t b)∧(0:Int)=zI (apE l k n t f a b c rd) (apX (5:Nat) l k n t c)∧(True∧unb rd []=zS (apE l k n t f a b c rd) (unb rd (pB (apP l n t))))∧True)∧(0:Int)=apE l k n t f a b c rd∧True else (RdsP
 rd∧RdsP []∧rd.length≤(1000:Nat))∧(k=zI (apE l k n t f a b c rd) k∧n=zN (apE l k n t f a b c rd) n∧t=zI (apE l k n t f a b c rd) t∧f=zI (apE l k n t f a b c rd) (apX (2:Nat) l k n t f)∧a=zI (apE l k n t f a b c rd) (apX (3:Nat) l k n t a)∧b=zI (apE l k n t f a b c rd) (apX (4:Nat) l k n t b)∧c=zI (apE l k n t f a b c rd) (apX (5:Nat) l k n t c)∧(True∧unb rd []=zS (apE l k n t f a b c rd) (unb rd
 (pB (apP l n t))))∧True)∧(0:Int)=apE l k n t f a b c rd∧True
theorem gApply_P:gApply_T rgV stN stH pI pC pB atR atB exK vdE isN unb zI zN zS apE apX apP p1R p2R p3R p4R p5R pdN pdH nrm vld fdV fdB:=by
 unfold gApply_T
 intro g h l rd k t f a b c n ⟨hp,hr,hl⟩ _ _
 obtain ⟨E,hE⟩:∃ E,E=apE l k n t f a b c rd:=⟨_,rfl⟩
 rw [← hE]
 unfold apE at hE
 refine ⟨hp,csx (fun q=>ap_err (hE.trans (if_pos q)) q) (fun q=>?_)⟩
 rw [if_neg q] at hE
 have hz:=rg_zero hp (Decidable.not_not.1 q)
 refine ⟨trivial,csplit (fun q2=>ap_err (hE.trans (if_pos (by simpa using q2))) (by decide)) (fun q2=>?_)⟩
 have q2:exK k=true:=by simpa using q2
 rw [if_neg (by rw [q2]; decide)] at hE
 refine ⟨hr,csx (fun q3=>ap_err (hE.trans (if_pos q3)) q3) (fun q3=>?_)⟩
 rw [if_neg q3] at hE
 refine ⟨hz.src,csplit (fun q4=>?_) (fun q4=>?_)⟩
 ·have hlt:=stH_lt q4
  refine cd1 (by omega) ?_
  obtain ⟨k2,nm2,ps,hrow,hps⟩:=hp.fr ((stN l n:Int)).toNat (by omega)
  have hrow':=hrow
  rw [Int.toNat_natCast] at hrow'
  have hP:sPs (l.getD (stN l n) [])=ps:=by rw [hrow']; rfl
  have hk2:rE (l.getD (stN l n) [])=k2:=by rw [hrow']; rfl
  have hsrc:SrcD ps:=⟨hps,by rw [← hP]; exact hz.fa _ hlt⟩
  have hI:apI l n t=atB ps t:=by unfold apI; rw [q4,hP]; rfl
  have hA:apP l n t=atR ps t:=by unfold apP; rw [if_pos q4,hP]
  have hX:∀ (i:Nat) (x:Int),apX i l k n t x=if k=1 then pI i (atR ps t) else x:=fun i x=>by unfold apX; rw [hA]
  have hb:RdsP (pB (atR ps t)):=at_bias hps
  rw [hI,hA,hk2] at hE
  rw [hA]
  refine ⟨k2,nm2,ps,by rw [hrow]; rfl,hsrc,csx (fun k1=>csplit (fun w=>ap_err (hE.trans (if_pos ⟨k1,by simpa using w⟩)) (by decide)) (fun w=>(fun e6:¬ (k=1∧atB ps t=false)=>?_) (fun z=>by rw [z.2] at w; cases w))) (fun k1=>(fun e6:¬ (k=1∧atB ps t=false)=>?_) (fun z=>k1 z.1))⟩
  all_goals
   rw [if_neg e6] at hE
   refine csplit (fun _=>cd1 (by omega) ⟨k2,by rw [hrow]; rfl,csx (fun w7=>ap_err (hE.trans (if_pos (.inl ⟨q4,w7⟩))) (by decide)) (fun w7=>csplit (fun wb=>csplit (fun wc=>ap_err (hE.trans (if_pos (.inr ⟨wb,wc⟩))) (by decide)) (fun wc=>(fun e7:¬ ((stH l n=true∧k2≠k)∨(atB ps t=true∧pC (atR ps t)=true))=>?_) (fun z=>z.elim (fun y=>w7 y.2) (fun y=>by rw [wc] at y; cases y.2)))) (fun wb=>(fun e7:¬ ((stH l n=true∧k2≠k)∨(atB ps t=true∧pC (atR ps t)=true))=>?_) (fun z=>z.elim (fun y=>w7 y.2) (fun y=>by rw [wb] at y; cases y.1))))⟩) (fun z=>absurd (q4.symm.trans z) (by decide))
  all_goals
   rw [if_neg e7] at hE
   refine csx (fun z1=>⟨trivial,csplit (fun zn=>ap_err (hE.trans (if_pos ⟨z1,by simpa using zn⟩)) (by decide)) (fun zn=>(fun e9:¬ (k≠1∧isN f a b c=false)=>?_) (fun y=>by rw [y.2] at zn; cases zn))⟩) (fun z1=>(fun e9:¬ (k≠1∧isN f a b c=false)=>?_) (fun y=>z1 y.1))
  all_goals
   rw [if_neg e9] at hE
   exact csx (fun y=>⟨⟨hr,hb,hl⟩,ap_ok hE (by rw [hX,if_pos y]) (by rw [hX,if_pos y]) (by rw [hX,if_pos y]) (by rw [hX,if_pos y]) rfl⟩) (fun y=>⟨⟨hr,hb,hl⟩,ap_ok hE (by rw [hX,if_neg y]) (by rw [hX,if_neg y]) (by rw [hX,if_neg y]) (by rw [hX,if_neg y]) rfl⟩)
 ·have hI:apI l n t=false:=by unfold apI; rw [q4]; rfl
  have hA:apP l n t=pzR:=by unfold apP; rw [if_neg (by rw [q4]; decide)]
  have hX:∀ (i:Nat) (x:Int),apX i l k n t x=if k=1 then pI i pzR else x:=fun i x=>by unfold apX; rw [hA]
  rw [hI,hA] at hE
  rw [hA]
  refine csx (fun k1=>ap_err (hE.trans (if_pos ⟨k1,rfl⟩)) (by decide)) (fun k1=>csplit (fun z=>absurd (q4.symm.trans z) (by decide)) (fun _=>csx (fun _=>⟨trivial,?_⟩) (fun z=>absurd k1 z)))
  rw [if_neg (fun z=>k1 z.1),if_neg (fun z=>z.elim (fun w=>by rw [q4] at w; cases w.1) (fun w=>by cases w.1))] at hE
  refine csplit (fun zn=>ap_err (hE.trans (if_pos ⟨k1,by simpa using zn⟩)) (by decide)) (fun zn=>csx (fun y=>absurd y k1) (fun y=>⟨⟨hr,rdsP_nil,hl⟩,ap_ok (hE.trans (if_neg (fun w=>by rw [w.2] at zn; cases zn))) (by rw [hX,if_neg y]) (by rw [hX,if_neg y]) (by rw [hX,if_neg y]) (by rw [hX,if_neg y]) rfl⟩))
def gApply_S (rgV:LLR→Int) (stN:LLR→ByteArray→Nat) (stH:LLR→ByteArray→Bool) (pI:Nat→List AV→Int) (pC:List AV→Bool) (pB:List AV→LLR) (atR:LLR→Int→List AV) (atB:LLR→Int→Bool) (exK:Int→Bool) (vdE:LLR→Int) (isN:Int→Int→Int→Int→Bool) (unb:LLR→LLR→LLR) (zI:Int→Int→Int) (zN:Int→ByteArray→ByteArray) (zS:Int→LLR→LLR) (apE:LLR→Int→ByteArray→Int→Int→Int→Int→Int→LLR→Int) (apX:Nat→LLR→Int→ByteArray→Int→Int→Int) (apP:LLR→ByteArray→Int→List AV) (p1R:List AV→Bool) (p2R:List AV→Bool) (p3R:List AV→Bool) (p4R:List AV→Bool) (p5R:List AV→Bool) (pdN:LLR→Int→Nat) (pdH:LLR→Int→Bool) (nrm:Int→Int→Int→Int→Int × Int × Int × Int) (vld:Int→Int→Int→Int→Bool) (fdV:LLR→Int→Int) (fdB:LLR→Int→Bool):Prop:=∀ (g h:Bool) (l rd:List (List AV)) (k t f a b c:Int) (n:ByteArray),StsP l∧RdsP rd∧rd.length≤1000→fnK Tryd.prog { glob:=glb,spec:=lk [(16,(gvalidR_s rgV p1R p2R p3R p4R p5R)),(17,(gexists_s exK)),(32,(evalid_s vdE)),(22,(gstation_s stN stH)),(33,(gat_s pdN pdH pI pC pB atR atB)),(34,(gnormalP_s nrm vld isN)),(35,(gunb_s fdV fdB unb vdE))],specH:=lk [],shape:=[43,66],slz:=[(43,[7])],nowf:=true } { nt:=103,drop:=drp [(1,12288),(2,16384),(3,196608),(4,1835008),(5,4194304),(6,58720256),(7,67108864),(8,805306368),(10,136365211648),(13,562675075514368),(14,142989288169013248),(15,144115188075855872),(16,302230878442904990253056),(17,302231454903657293676544),(18,617761093823075508274855936),(19,618970019642690137449562112),(20,3713820117856140824697372672),(21,69324642199981295394350956544),(22,4991374238398653268393268871168),(23,5070602400912917605986812821504)],emp:=fun id=>cond (Nat.beq id 22) [(1000806,1500,60,2)] [] } (fun _ _=>none) 6 Tryd.f11 [.agg [.sl 3 g l],.agg [.int .i64 k,.str n,.int .i64 t,.int .i64 f,.int .i64 a,.int .i64 b,.int .i64 c,.sl 2 h rd]] (.tup [.agg [.int .i64 (zI (apE l k n t f a b c rd) k),.str (zN (apE l k n t f a b c rd) n),.int .i64 (zI (apE l k n t f a b c rd) t),.int .i64 (zI (apE l k n t f a b c rd) (apX 2 l k n t f)),.int .i64 (zI (apE l k n t f a b c rd) (apX 3 l k n t a)),.int .i64 (zI (apE l k n t f a b c rd) (apX 4 l k n t b)),.int .i64 (zI (apE l k n t f a b c rd) (apX 5 l k n t c)),.sl 2 false (zS (apE l k n t f a b c rd) (unb rd (pB (apP l n t))))],.int .i64 (apE l k n t f a b c rd)])
theorem gApply_e (rgV:LLR→Int) (stN:LLR→ByteArray→Nat) (stH:LLR→ByteArray→Bool) (pI:Nat→List AV→Int) (pC:List AV→Bool) (pB:List AV→LLR) (atR:LLR→Int→List AV) (atB:LLR→Int→Bool) (exK:Int→Bool) (vdE:LLR→Int) (isN:Int→Int→Int→Int→Bool) (unb:LLR→LLR→LLR) (zI:Int→Int→Int) (zN:Int→ByteArray→ByteArray) (zS:Int→LLR→LLR) (apE:LLR→Int→ByteArray→Int→Int→Int→Int→Int→LLR→Int) (apX:Nat→LLR→Int→ByteArray→Int→Int→Int) (apP:LLR→ByteArray→Int→List AV) (p1R:List AV→Bool) (p2R:List AV→Bool) (p3R:List AV→Bool) (p4R:List AV→Bool) (p5R:List AV→Bool) (pdN:LLR→Int→Nat) (pdH:LLR→Int→Bool) (nrm:Int→Int→Int→Int→Int × Int × Int × Int) (vld:Int→Int→Int→Int→Bool) (fdV:LLR→Int→Int) (fdB:LLR→Int→Bool):gApply_T rgV stN stH pI pC pB atR atB exK vdE isN unb zI zN zS apE apX apP p1R p2R p3R p4R p5R pdN pdH nrm vld fdV fdB=gApply_S rgV stN stH pI pC pB atR atB exK vdE isN unb zI zN zS apE apX apP p1R p2R p3R p4R p5R pdN pdH nrm vld fdV fdB:=by kernel_rfl
theorem gApply_v:gApply_S rgV stN stH pI pC pB atR atB exK vdE isN unb zI zN zS apE apX apP p1R p2R p3R p4R p5R pdN pdH nrm vld fdV fdB:=Eq.mp (gApply_e ..) (gApply_P)
theorem gApply_ok:SOK Tryd.prog glb 11 (gApply_s rgV stN stH pI pC pB atR atB exK vdE isN unb zI zN zS apE apX apP):=by
 refine ⟨fok Tryd.func11 (by kernel_rfl) (by kernel_rfl),?_⟩
 intro xs pre r h hp
 unfold gApply_s at h
 split at h
 ·simp only [Option.some.injEq,Prod.mk.injEq] at h
  obtain ⟨h1,h2⟩:=h
  subst h1 h2
  exact fnK_sound tyNil (by exact specOK rfl rfl ⟨(gvalidR_ok),(gexists_ok glb),(evalid_ok),(gstation_ok glb),(gat_ok glb),(gnormalP_ok),(gunb_ok),trivial⟩ trivial) (by kernel_rfl) Tryd.func11 rfl (gApply_v  _ _ _ _ _ _ _ _ _ _ _ hp)
 ·cases h
end Go.Proofs.YtldiagnbagpliaaDoor
namespace Go.Proofs.YtldiagnbagpliaaDoor
open Go
set_option linter.unusedVariables false
set_option linter.unusedSimpArgs false
def cloRd_s:Sp
 | [.sl 2 f xs]=>some (xs.length≤1000,.sl 2 false xs)
 | _=>none
def cloRd_T:Prop :=
 ∀ (gl:Glob) (f:Bool) (xs:List (List AV)),xs.length≤(1000:Nat)→True→(xs=[]→xs=[])∧bif decide ((0:Nat)=0∧(0:Nat)+xs.length≤(9223372036854775807:Nat)∧((0:Nat)+xs.length)*(16:Nat)≤(140737488355328:Nat)) then bif decide (([]++xs).length=([]++xs).length) then True∧[]++xs=xs else False else False
theorem cloRd_P:cloRd_T:=by
 unfold cloRd_T
 intro gl f xs hl _
 exact ⟨id,cd1 ⟨rfl,by omega,by omega⟩ (cd1 rfl ⟨trivial,rfl⟩)⟩
def cloRd_S:Prop:=∀ (gl:Glob) (f:Bool) (xs:List (List AV)),xs.length≤1000→fnK Tryd.prog { glob:=gl,spec:=lk [],specH:=lk [],nowf:=true,nq:=true } { nt:=8,drop:=drp [(1,8),(3,224)] } (fun _ _=>none) 6 Tryd.f21 [.sl 2 f xs] (.sl 2 false xs)
theorem cloRd_e:cloRd_T=cloRd_S:=by kernel_rfl
theorem cloRd_v:cloRd_S:=Eq.mp (cloRd_e ..) (cloRd_P)
theorem cloRd_ok (gl:Glob):SOK Tryd.prog gl 21 cloRd_s:=by
 refine ⟨fok Tryd.func21 (by kernel_rfl) (by kernel_rfl),?_⟩
 intro xs pre r h hp
 unfold cloRd_s at h
 split at h
 ·simp only [Option.some.injEq,Prod.mk.injEq] at h
  obtain ⟨h1,h2⟩:=h
  subst h1 h2
  exact fnK_sound tyNil (by exact specOK rfl rfl trivial trivial) (by kernel_rfl) Tryd.func21 rfl (cloRd_v gl _ _ hp)
 ·cases h
def cloSt_s:SpH
 | [.sl 3 f xs],[]=>some (xs.length≤1000000,.rw 0 3 xs.length,[.row 66 3 xs])
 | _,_=>none
def cloSt_T:Prop :=
 ∀ (gl:Glob) (f:Bool) (xs:List (List AV)),xs.length≤(1000000:Nat)→True→(xs=[]→(0:Nat)=xs.length∧[]=xs∧True)∧bif decide ((0:Nat)=0∧(0:Nat)+xs.length≤(9223372036854775807:Nat)∧((0:Nat)+xs.length)*(48:Nat)≤(140737488355328:Nat)) then ([]++xs).length=xs.length∧[]++xs=xs∧True else False
theorem cloSt_P:cloSt_T:=by
 unfold cloSt_T
 intro gl f xs hl
 intros
 exact ⟨fun e=>by subst e; exact ⟨rfl,rfl,trivial⟩,cd1 ⟨rfl,by omega,by omega⟩ ⟨rfl,rfl,trivial⟩⟩
def cloSt_S:Prop:=∀ (gl:Glob) (f:Bool) (xs:List (List AV)),xs.length≤1000000→fnH Tryd.prog { glob:=gl,spec:=lk [],specH:=lk [],nowf:=true,nq:=true } { nt:=8,drop:=drp [(1,8),(3,224)],fr:=1000,kp:=[],emp:=fun id=>cond (Nat.beq id 900001) [(2,1500,66,3)] [],own:=true } (fun _ _=>none) 6 Tryd.f48 [.sl 3 f xs] [] (.rw 0 3 xs.length) [.row 66 3 xs]
theorem cloSt_e:cloSt_T=cloSt_S:=by kernel_rfl
theorem cloSt_v:cloSt_S:=Eq.mp (cloSt_e ..) (cloSt_P)
theorem cloSt_ok (gl:Glob):HOK Tryd.prog gl 48 cloSt_s:=by
 refine ⟨fok Tryd.func48 (by kernel_rfl) (by kernel_rfl),?_⟩
 intro xs bs pre r bs2 h hp
 unfold cloSt_s at h
 split at h
 ·simp only [Option.some.injEq,Prod.mk.injEq] at h
  obtain ⟨h1,h2,h3⟩:=h
  subst h1 h2 h3
  exact fnH_sound tyNil (by exact specOK rfl rfl trivial trivial) (by kernel_rfl) Tryd.func48 (cloSt_v gl _ _ hp)
 ·cases h
def cloPd_s:SpH
 | [.sl 7 f xs],[]=>some (xs.length≤1000000,.rw 0 7 xs.length,[.row 38 7 xs])
 | _,_=>none
def cloPd_T:Prop :=
 ∀ (gl:Glob) (f:Bool) (xs:List (List AV)),xs.length≤(1000000:Nat)→True→(xs=[]→(0:Nat)=xs.length∧[]=xs∧True)∧bif decide ((0:Nat)=0∧(0:Nat)+xs.length≤(9223372036854775807:Nat)∧((0:Nat)+xs.length)*(72:Nat)≤(140737488355328:Nat)) then ([]++xs).length=xs.length∧[]++xs=xs∧True else False
theorem cloPd_P:cloPd_T:=by
 unfold cloPd_T
 intro gl f xs hl
 intros
 exact ⟨fun e=>by subst e; exact ⟨rfl,rfl,trivial⟩,cd1 ⟨rfl,by omega,by omega⟩ ⟨rfl,rfl,trivial⟩⟩
def cloPd_S:Prop:=∀ (gl:Glob) (f:Bool) (xs:List (List AV)),xs.length≤1000000→fnH Tryd.prog { glob:=gl,spec:=lk [],specH:=lk [],nowf:=true,nq:=true } { nt:=8,drop:=drp [(1,8),(3,224)],fr:=1000,kp:=[],emp:=fun id=>cond (Nat.beq id 900001) [(2,1500,38,7)] [],own:=true } (fun _ _=>none) 6 Tryd.f49 [.sl 7 f xs] [] (.rw 0 7 xs.length) [.row 38 7 xs]
theorem cloPd_e:cloPd_T=cloPd_S:=by kernel_rfl
theorem cloPd_v:cloPd_S:=Eq.mp (cloPd_e ..) (cloPd_P)
theorem cloPd_ok (gl:Glob):HOK Tryd.prog gl 49 cloPd_s:=by
 refine ⟨fok Tryd.func49 (by kernel_rfl) (by kernel_rfl),?_⟩
 intro xs bs pre r bs2 h hp
 unfold cloPd_s at h
 split at h
 ·simp only [Option.some.injEq,Prod.mk.injEq] at h
  obtain ⟨h1,h2,h3⟩:=h
  subst h1 h2 h3
  exact fnH_sound tyNil (by exact specOK rfl rfl trivial trivial) (by kernel_rfl) Tryd.func49 (cloPd_v gl _ _ hp)
 ·cases h
def hoP (l:LLR) (i:Nat):LLR:=sPs (l.getD i [])
def hol (l:LLR) (i b:Nat):LLR:=setEl l i 2 [.rw b 7 (hoP l i).length]
def hpl (l:LLR) (i:Nat) (x:Int) (b:Nat):LLR:=if (i:Int) < x then hol l i b else l
def hpP (l:LLR) (i:Nat) (x:Int):LLR:=if (i:Int) < x then hoP l i else []
theorem mapLL_setEl (f:AV→AV) (xs:LLR) (j fo:Nat) (ys:List AV):mapLL f (setEl xs j fo ys)=setEl (mapLL f xs) j fo (ys.map f):=by
 unfold mapLL setEl
 rw [List.map_set]
 congr 1
 unfold spl
 rw [List.map_append,List.map_append,List.map_take,List.map_drop,List.length_map]
 have:(xs.map fun x=>x.map f).getD j []=(xs.getD j []).map f:=by
  simp only [List.getD_eq_getElem?_getD,List.getElem?_map]
  cases xs[j]? <;> rfl
 rw [this]
theorem setEl_len (xs:LLR) (j fo:Nat) (ys:List AV):(setEl xs j fo ys).length=xs.length:=by simp [setEl]
theorem setEl_get (xs:LLR) (j fo:Nat) (ys:List AV) (i:Nat):(setEl xs j fo ys).getD i []=if i=j∧j < xs.length then spl (xs.getD j []) fo ys else xs.getD i []:=by
 unfold setEl
 simp only [List.getD_eq_getElem?_getD,List.getElem?_set]
 by_cases e:j=i
 ·subst e
  by_cases h:j < xs.length
  ·rw [if_pos rfl,if_pos h,if_pos ⟨rfl,h⟩]; rfl
  ·rw [if_pos rfl,if_neg h,if_neg (fun q=>h q.2),List.getElem?_eq_none (by omega)]
 ·rw [if_neg e,if_neg (fun q=>e q.1.symm)]
theorem ll_ext {a b:LLR} (hl:a.length=b.length) (h:∀ i,i < a.length→a.getD i []=b.getD i []):a=b:=by
 refine List.ext_getElem hl fun i h1 h2=>?_
 have:=h i h1
 rw [List.getD_eq_getElem?_getD,List.getD_eq_getElem?_getD,List.getElem?_eq_getElem h1,List.getElem?_eq_getElem h2] at this
 exact this
structure Flat (f:AV→AV):Prop where
 fi:∀ k n,f (.int k n)=.int k n
 fb:∀ b,f (.bool b)=.bool b
 fs:∀ s,f (.str s)=.str s
 fl:∀ s g xs,f (.sl s g xs)=.sl s g xs
theorem flat_kill (k:Nat):Flat (killA k):=⟨fun _ _=>rfl,fun _=>rfl,fun _=>rfl,fun _ _ _=>rfl⟩
theorem flat_frs (k s:Nat) (xs:LLR):Flat (frsA k s xs):=⟨fun _ _=>rfl,fun _=>rfl,fun _=>rfl,fun _ _ _=>rfl⟩
theorem flat_ren (j k:Nat):Flat (renA j k):=⟨fun _ _=>rfl,fun _=>rfl,fun _=>rfl,fun _ _ _=>rfl⟩
theorem flat_rn (f:Nat→Option Nat):Flat (rnT f):=⟨fun _ _=>rfl,fun _=>rfl,fun _=>rfl,fun _ _ _=>rfl⟩
theorem mapLL_get (f:AV→AV) (xs:LLR) (i:Nat):(mapLL f xs).getD i []=(xs.getD i []).map f:=by
 unfold mapLL
 simp only [List.getD_eq_getElem?_getD,List.getElem?_map]
 cases xs[i]? <;> rfl
theorem Flat.st {f:AV→AV} (hf:Flat f) {l:LLR} (hl:StsP l):mapLL f l=l:=by
 refine ll_ext (mapLL_len f l) fun i hi=>?_
 rw [mapLL_len] at hi
 obtain ⟨k,nm,ps,hr,_⟩:=hl.fr i hi
 rw [mapLL_get,hr]
 simp only [stA,List.map_cons,List.map_nil,hf.fi,hf.fs,hf.fl]
theorem Flat.hol {f:AV→AV} (hf:Flat f) {l:LLR} (hl:StsP l) {i b c:Nat} (hb:f (.rw b 7 (hoP l i).length)=.rw c 7 (hoP l i).length):mapLL f (hol l i b)=Go.Proofs.YtldiagnbagpliaaDoor.hol l i c:=by
 unfold Go.Proofs.YtldiagnbagpliaaDoor.hol
 rw [mapLL_setEl,hf.st hl,List.map_cons,List.map_nil,hb]
theorem st_nm {l:LLR} (hl:StsP l):NmIn [] l:=by
 intro j i x y hx hy k hk
 have hj:j < l.length:=(List.getElem?_eq_some_iff.1 hx).1
 obtain ⟨kd,nm,ps,hr,_⟩:=hl.fr j hj
 have e:x=stA kd nm ps:=by
  rw [← hr,List.getD_eq_getElem?_getD,hx]; rfl
 subst e
 have hi:i < 3:=by have:=(List.getElem?_eq_some_iff.1 hy).1; simpa [stA] using this
 rcases i with _ | _ | _ | i
 ·simp [stA] at hy; subst hy; cases hk
 ·simp [stA] at hy; subst hy; cases hk
 ·simp [stA] at hy; subst hy; cases hk
 ·omega
theorem setEl_same {l:LLR} {x fo:Nat} {ys:List AV} (h:spl (l.getD x []) fo ys=l.getD x []):setEl l x fo ys=l:=by
 refine ll_ext (setEl_len _ _ _ _) fun i hi=>?_
 rw [setEl_get]
 split
 ·rename_i q; rw [q.1]; exact h
 ·rfl
theorem setEl_out {l:LLR} {x fo:Nat} {ys:List AV} (h:l.length≤x):setEl l x fo ys=l:=by
 refine ll_ext (setEl_len _ _ _ _) fun i hi=>?_
 rw [setEl_get,if_neg (fun q=>by omega)]
theorem setEl_at {l:LLR} {x:Nat} {a b c v:AV} (hx:x < l.length) (h:l.getD x []=[a,b,c]):(setEl l x 2 [v]).getD x []=[a,b,v]:=by
 rw [setEl_get,if_pos ⟨rfl,hx⟩,h]; rfl
theorem hol_len (l:LLR) (i b:Nat):(hol l i b).length=l.length:=setEl_len _ _ _ _
theorem hpl_len (l:LLR) (i:Nat) (x:Int) (b:Nat):(hpl l i x b).length=l.length:=by
 unfold hpl; split
 ·exact hol_len _ _ _
 ·rfl
theorem hpl_at {l:LLR} {i:Nat} {x:Int} {b j:Nat} (h:x≤j):(hpl l i x b).getD j []=l.getD j []:=by
 unfold hpl hol; split
 ·rw [setEl_get,if_neg (fun q=>by omega)]
 ·rfl
theorem Flat.hpl {f:AV→AV} (hf:Flat f) {l:LLR} (hl:StsP l) {i:Nat} {x:Int} {b:Nat} (hb:f (.rw b 7 (hoP l i).length)=.rw b 7 (hoP l i).length):mapLL f (hpl l i x b)=Go.Proofs.YtldiagnbagpliaaDoor.hpl l i x b:=by
 unfold Go.Proofs.YtldiagnbagpliaaDoor.hpl; split
 ·exact hf.hol hl hb
 ·exact hf.st hl
theorem hpl_here {l:LLR} (hl:StsP l) (i:Nat):mapLL (renA 1026 1501) (mapLL (killA 1501) (setEl (hpl l i i 1501) i 2 [.rw 1026 7 (hoP l i).length]))=hpl l i (i+1) 1501:=by
 have e1:hpl l i i 1501=l:=if_neg (by omega)
 have e2:hpl l i (i+1) 1501=hol l i 1501:=if_pos (by omega)
 rw [e1,e2]
 show mapLL (renA 1026 1501) (mapLL (killA 1501) (hol l i 1026))=_
 rw [(flat_kill 1501).hol hl (c:=1026) rfl,(flat_ren 1026 1501).hol hl (c:=1501) rfl]
theorem hpl_else {l:LLR} (hl:StsP l) {i:Nat} {x:Int} (h0:0≤x) (hx:x < l.length) (hn:¬ x=i):mapLL (frsA 1026 7 (hoP l x.toNat)) (setEl (hpl l i x 1501) x.toNat 2 [.rw 1026 7 (hoP l x.toNat).length])=hpl l i (x+1) 1501:=by
 have e1:hpl l i (x+1) 1501=hpl l i x 1501:=by
  unfold hpl
  by_cases q:(i:Int) < x
  ·rw [if_pos q,if_pos (by omega)]
  ·rw [if_neg q,if_neg (by omega)]
 rw [e1,mapLL_setEl,(flat_frs _ _ _).hpl hl rfl]
 refine setEl_same ?_
 rw [hpl_at (by omega)]
 obtain ⟨k,nm,ps,hr,_⟩:=hl.fr x.toNat (by omega)
 have hP:hoP l x.toNat=ps:=by unfold hoP; rw [hr]; rfl
 rw [hP,hr]
 have e2:frsA 1026 7 ps (.rw 1026 7 ps.length)=.sl 7 false ps:=by
  simp only [frsA,if_true,true_and]
 rw [List.map_cons,List.map_nil,e2]
 rfl
theorem hpl_end {l:LLR} (hl:StsP l) {i:Nat} {x:Int} (hx:¬ x < l.length):mapLL (rnT (rnP [1501] [1])) (hpl l i x 1501)=hol l i 1∧hpP l i x=hoP l i:=by
 unfold hpl hpP
 by_cases q:(i:Int) < x
 ·rw [if_pos q,if_pos q]
  exact ⟨(flat_rn _).hol hl rfl,rfl⟩
 ·rw [if_neg q,if_neg q]
  refine ⟨?_,?_⟩
  ·rw [(flat_rn _).st hl]
   exact (setEl_out (by omega)).symm
  ·unfold hoP
   rw [List.getD_eq_getElem?_getD,List.getElem?_eq_none (by omega)]; rfl
structure CoI (l:LLR) (x:Int):Prop where
 flo:0≤x
 fhi:x≤l.length
def co3 (l:LLR) (g:Bool) (i:Nat):LInv:=⟨Int,fun x=>⟨[(1,.ptr 1001 0),(2,.ptr 1002 0),(3,.ptr 1003 0),(13,.int .i64 l.length),(14,.int .i64 x)],[(1001,.cells [.sl 3 g l]),(1002,.cells [.nils]),(1003,.cells [.rw 1009 3 l.length]),(1009,.nrow 66 3 [1501] (hpl l i x 1501)),(1501,.row 38 7 (hpP l i x))]⟩,CoI l,fun x=>(l.length - x).toNat,none⟩
def co8 (l:LLR) (g:Bool) (i:Nat) (x:Int):LInv:=⟨Int,fun k=>⟨[(1,.ptr 1001 0),(2,.ptr 1002 0),(3,.ptr 1003 0),(5,.prw 1009 3 l.length x.toNat 0),(13,.int .i64 l.length),(14,.int .i64 x),(33,.int .i64 (hoP l x.toNat).length),(34,.int .i64 k)],[(1001,.cells [.sl 3 g l]),(1002,.cells [.nils]),(1003,.cells [.rw 1009 3 l.length]),(1009,.nrow 66 3 [1501,1026] (setEl (hpl l i x 1501) x.toNat 2 [.rw 1026 7 (hoP l x.toNat).length])),(1026,.row 38 7 (hoP l x.toNat)),(1501,.row 38 7 (hpP l i x))]⟩,CoI (hoP l x.toNat),fun k=>((hoP l x.toNat).length - k).toNat,none⟩
section
variable (i:Nat)
def gcop_s (i:Nat):SpH
 | [.agg [.sl 3 g l]],[]=>some (StsP l,.agg [.rw 0 3 l.length],[.nrow 66 3 [1] (hol l i 1),.row 38 7 (hoP l i)])
 | _,_=>none
def gcop_T (i:Nat):Prop :=
  ∀ (gl:Glob) (g:Bool) (l:List (List AV)),StsP l→True∧True→l.length≤(1000000:Nat)∧(∀ (j i:Nat) (x:List AV) (y:AV),l[j]?=some x→x[i]?=some y→∀ (k:Nat),nn k y=false→inL k []=true)∧(∃ x,CoI l x∧((0:Nat)=0∧(0:Nat)=0∧(0:Nat)=0∧(↑l.length:Int)=(↑l.length:Int)∧(0:Int)=x∧True)∧(((bif g then g=true else True)∧l=l)∧True)∧(True∧True)∧(l.length=l.length∧True)∧l=hpl l i x (1501:Nat)∧[]=hpP l i
 x∧True)∧∀ (x:Int),CoI l x→bif decide (x < (↑l.length:Int)) then bif decide (0≤x∧x < (↑l.length:Int)) then bif decide (l.length=List.length (hpl l i x (1501:Nat))∧x.toNat < List.length (hpl l i x (1501:Nat))) then ∃ xs,List.take [AV.sl (7:Nat) false xs].length (List.drop (2:Nat) (List.getD (hpl l i x (1501:Nat)) x.toNat []))=[AV.sl (7:Nat) false xs]∧xs.length≤(1000000:Nat)∧bif decide
 (l.length=List.length (hpl l i x (1501:Nat))∧x.toNat < List.length (hpl l i x (1501:Nat))) then bif decide (l.length=(setEl (hpl l i x (1501:Nat)) x.toNat (2:Nat) [AV.rw (1026:Nat) (7:Nat) xs.length]).length∧x.toNat < (setEl (hpl l i x (1501:Nat)) x.toNat (2:Nat) [AV.rw (1026:Nat) (7:Nat) xs.length]).length) then ∃ n,List.take [AV.rw (1026:Nat) (7:Nat) n].length (List.drop (2:Nat) ((setEl (hpl l i
 x (1501:Nat)) x.toNat (2:Nat) [AV.rw (1026:Nat) (7:Nat) xs.length]).getD x.toNat []))=[AV.rw (1026:Nat) (7:Nat) n]∧(∃ x_1,CoI (hoP l x.toNat) x_1∧((0:Nat)=0∧(0:Nat)=0∧(0:Nat)=0∧(l.length=l.length∧x.toNat=x.toNat∧(0:Nat)=0)∧(↑l.length:Int)=(↑l.length:Int)∧x=x∧(↑n:Int)=(↑(List.length (hoP l x.toNat)):Int)∧(0:Int)=x_1∧True)∧(((bif g then g=true else
 True)∧l=l)∧True)∧(True∧True)∧(l.length=l.length∧True)∧setEl (hpl l i x (1501:Nat)) x.toNat (2:Nat) [AV.rw (1026:Nat) (7:Nat) xs.length]=setEl (hpl l i x (1501:Nat)) x.toNat (2:Nat) [AV.rw (1026:Nat) (7:Nat) (List.length (hoP l x.toNat))]∧xs=hoP l x.toNat∧hpP l i x=hpP l i x∧True)∧∀ (x_1:Int),CoI (hoP l x.toNat) x_1→bif decide (x_1 < (↑(List.length (hoP l x.toNat)):Int)) then bif decide
 (l.length=(setEl (hpl l i x (1501:Nat)) x.toNat (2:Nat) [AV.rw (1026:Nat) (7:Nat) (List.length (hoP l x.toNat))]).length∧x.toNat < (setEl (hpl l i x (1501:Nat)) x.toNat (2:Nat) [AV.rw (1026:Nat) (7:Nat) (List.length (hoP l x.toNat))]).length) then ∃ n,List.take [AV.rw (1026:Nat) (7:Nat) n].length (List.drop (2:Nat) ((setEl (hpl l i x (1501:Nat)) x.toNat (2:Nat) [AV.rw (1026:Nat) (7:Nat)
 (List.length (hoP l x.toNat))]).getD x.toNat []))=[AV.rw (1026:Nat) (7:Nat) n]∧bif decide (l.length=(setEl (hpl l i x (1501:Nat)) x.toNat (2:Nat) [AV.rw (1026:Nat) (7:Nat) (List.length (hoP l x.toNat))]).length∧x.toNat < (setEl (hpl l i x (1501:Nat)) x.toNat (2:Nat) [AV.rw (1026:Nat) (7:Nat) (List.length (hoP l x.toNat))]).length) then ∃ n_1,List.take [AV.rw (1026:Nat) (7:Nat) n_1].length
 (List.drop (2:Nat) ((setEl (hpl l i x (1501:Nat)) x.toNat (2:Nat) [AV.rw (1026:Nat) (7:Nat) (List.length (hoP l x.toNat))]).getD x.toNat []))=[AV.rw (1026:Nat) (7:Nat) n_1]∧bif decide (0≤x_1∧x_1 < (↑n_1:Int)) then bif decide (n_1=List.length (hoP l x.toNat)∧x_1.toNat < List.length (hoP l x.toNat)) then ∃ xs,List.take [AV.sl (2:Nat) false xs].length (List.drop (6:Nat) (List.getD (hoP l
 x.toNat) x_1.toNat []))=[AV.sl (2:Nat) false xs]∧xs.length≤(1000:Nat)∧bif decide (0≤x_1∧x_1 < (↑n:Int)) then bif decide (n=List.length (hoP l x.toNat)∧x_1.toNat < List.length (hoP l x.toNat)) then bif decide (rng .i64 (x_1+(1:Int))) then ∃ y,CoI (hoP l x.toNat) y∧((fun x=>co8 l g i x) x).m y < ((fun x=>co8 l g i x) x).m
 x_1∧((0:Nat)=0∧(0:Nat)=0∧(0:Nat)=0∧(l.length=l.length∧x.toNat=x.toNat∧(0:Nat)=0)∧(↑l.length:Int)=(↑l.length:Int)∧x=x∧(↑(List.length (hoP l x.toNat)):Int)=(↑(List.length (hoP l x.toNat)):Int)∧x_1+(1:Int)=y∧True)∧(((bif g then g=true else True)∧l=l)∧True)∧(True∧True)∧(l.length=l.length∧True)∧setEl (hpl l i x (1501:Nat)) x.toNat (2:Nat) [AV.rw (1026:Nat) (7:Nat) (List.length (hoP l x.toNat))]=setEl
 (hpl l i x (1501:Nat)) x.toNat (2:Nat) [AV.rw (1026:Nat) (7:Nat) (List.length (hoP l x.toNat))]∧setEl (hoP l x.toNat) x_1.toNat (6:Nat) [AV.sl (2:Nat) false xs]=hoP l x.toNat∧hpP l i x=hpP l i x∧True else False else False else False else False else False else False else False else (x=(↑i:Int)→bif decide (rng .i64 (x+(1:Int))) then ∃ y,CoI l y∧((fun x=>co3 l g i) (0:Int)).m y < ((fun x=>co3 l
 g i) (0:Int)).m x∧((0:Nat)=0∧(0:Nat)=0∧(0:Nat)=0∧(↑l.length:Int)=(↑l.length:Int)∧x+(1:Int)=y∧True)∧(((bif g then g=true else True)∧l=l)∧True)∧(True∧True)∧(l.length=l.length∧True)∧mapLL (renA (1026:Nat) (1501:Nat)) (mapLL (killA (1501:Nat)) (setEl (hpl l i x (1501:Nat)) x.toNat (2:Nat) [AV.rw (1026:Nat) (7:Nat) (List.length (hoP l x.toNat))]))=hpl l i y (1501:Nat)∧hoP l x.toNat=hpP l i y∧True else
 False)∧(¬x=(↑i:Int)→bif decide (rng .i64 (x+(1:Int))) then ∃ y,CoI l y∧((fun x=>co3 l g i) (0:Int)).m y < ((fun x=>co3 l g i) (0:Int)).m x∧((0:Nat)=0∧(0:Nat)=0∧(0:Nat)=0∧(↑l.length:Int)=(↑l.length:Int)∧x+(1:Int)=y∧True)∧(((bif g then g=true else True)∧l=l)∧True)∧(True∧True)∧(l.length=l.length∧True)∧mapLL (frsA (1026:Nat) (7:Nat) (hoP l x.toNat)) (setEl (hpl l i x (1501:Nat)) x.toNat (2:Nat)
 [AV.rw (1026:Nat) (7:Nat) (List.length (hoP l x.toNat))])=hpl l i y (1501:Nat)∧hpP l i x=hpP l i y∧True else False) else False else False else False else False else (l.length=l.length∧True)∧mapLL (rnT (rnP [(1501:Nat)] [(1:Nat)])) (hpl l i x (1501:Nat))=hol l i (1:Nat)∧hpP l i x=hoP l i∧True
theorem gcop_P:gcop_T i:=by
 unfold gcop_T
 intro gl g l hp _
 have bg:cond g (g=true) True:=by cases g <;> trivial
 have fs:=hp.fs
 refine ⟨fs,st_nm hp,⟨0,⟨by decide,by omega⟩,by (repeat' (first | exact trivial | exact rfl | assumption | apply And.intro)),by (repeat' (first | exact trivial | exact rfl | assumption | apply And.intro)),by (repeat' (first | exact trivial | exact rfl | assumption | apply And.intro)),by (repeat' (first | exact trivial | exact rfl | assumption | apply And.intro)),(if_neg (by omega)).symm,(if_neg (by omega)).symm,trivial⟩,?_⟩
 rintro x ⟨x0,x1⟩
 refine csx (fun hx=>?_) (fun hx=>?_)
 ·have hL:l.length=(hpl l i x 1501).length:=(hpl_len _ _ _ _).symm
  refine cd1 (by omega) (cd1 ⟨hL,by omega⟩ ?_)
  obtain ⟨k,nm,ps,hr,hps⟩:=hp.fr x.toNat (by omega)
  have hg:=(hpl_at (l:=l) (i:=i) (x:=x) (b:=1501) (j:=x.toNat) (by omega)).trans hr
  have hP:hoP l x.toNat=ps:=by unfold hoP; rw [hr]; rfl
  rw [hP]
  refine ⟨ps,by rw [hg]; rfl,hps.fs,cd1 ⟨hL,by omega⟩ (cd1 ⟨by rw [setEl_len]; exact hL,by rw [setEl_len]; omega⟩ ⟨ps.length,by rw [setEl_at (by omega) hg]; rfl,⟨0,⟨by decide,by omega⟩,by (repeat' (first | exact trivial | exact rfl | assumption | apply And.intro))⟩,?_⟩)⟩
  rintro y ⟨y0,y1⟩
  refine csx (fun hy=>cd1 ⟨by rw [setEl_len]; exact hL,by rw [setEl_len]; omega⟩ ⟨ps.length,by rw [setEl_at (by omega) hg]; rfl,cd1 ⟨by rw [setEl_len]; exact hL,by rw [setEl_len]; omega⟩ ⟨ps.length,by rw [setEl_at (by omega) hg]; rfl,cd1 (by omega) (cd1 ⟨rfl,by omega⟩ ?_)⟩⟩) (fun _=>⟨fun e=>?_,fun e=>?_⟩)
  ·obtain ⟨fr,cl,fa,a,b,c,bs,hq,hb,hbl⟩:=hps.fr y.toNat (by omega)
   exact ⟨bs,by rw [hq]; rfl,hbl,cd1 (by omega) (cd1 ⟨rfl,by omega⟩ (cdI (by have:=hps.fs; omega) ⟨y+1,⟨by omega,by omega⟩,by simp only [co8]; rw [hP]; omega,by (repeat' (first | exact trivial | exact rfl | assumption | apply And.intro)),by (repeat' (first | exact trivial | exact rfl | assumption | apply And.intro)),by (repeat' (first | exact trivial | exact rfl | assumption | apply And.intro)),by (repeat' (first | exact trivial | exact rfl | assumption | apply And.intro)),rfl,setEl_same (by rw [hq]; rfl),rfl,trivial⟩))⟩
  ·subst e
   have h9:=hpl_here hp i
   rw [show hoP l i=ps from hP] at h9
   exact cdI (by omega) ⟨(i:Int)+1,⟨by omega,by omega⟩,by simp only [co3]; omega,by (repeat' (first | exact trivial | exact rfl | assumption | apply And.intro)),by (repeat' (first | exact trivial | exact rfl | assumption | apply And.intro)),by (repeat' (first | exact trivial | exact rfl | assumption | apply And.intro)),by (repeat' (first | exact trivial | exact rfl | assumption | apply And.intro)),h9,((if_pos (by omega)).trans hP).symm,trivial⟩
  ·have h9:=hpl_else hp x0 hx e
   rw [hP] at h9
   refine cdI (by omega) ⟨x+1,⟨by omega,by omega⟩,by simp only [co3]; omega,by (repeat' (first | exact trivial | exact rfl | assumption | apply And.intro)),by (repeat' (first | exact trivial | exact rfl | assumption | apply And.intro)),by (repeat' (first | exact trivial | exact rfl | assumption | apply And.intro)),by (repeat' (first | exact trivial | exact rfl | assumption | apply And.intro)),h9,?_,trivial⟩
   unfold hpP
   by_cases q:(i:Int) < x
   ·rw [if_pos q,if_pos (by omega)]
   ·rw [if_neg q,if_neg (by omega)]
 ·have h9:=hpl_end hp (i:=i) (x:=x) (by omega)
  exact ⟨⟨rfl,trivial⟩,h9.1,h9.2,trivial⟩
def gcop_S (i:Nat):Prop:=∀ (gl:Glob) (g:Bool) (l:List (List AV)),StsP l→fnH Tryd.prog { glob:=gl,spec:=lk [(21,cloRd_s)],specH:=lk [(48,cloSt_s),(49,cloPd_s)],shape:=[25,32,40,45,49],slz:=[(25,[7]),(32,[1026007]),(40,[1026007]),(45,[1026007]),(49,[2])],nowf:=true } { nt:=56,drop:=drp [(1,1920),(2,6144),(4,65536),(5,1966080),(6,534773760),(7,8053063680),(9,68719476736),(10,9007061815787520),(11,9007199254740992),(12,18014398509481984),(13,36028797018963968)],fr:=1000,kp:=[],own:=true,act:=fun id=>cond (Nat.beq id 2) [.nop 1009,.mk 1501 38 7] [],cas:=fun id st=>cond (Nat.beq id 12) (match st.get 14 with | .int _ n=>some (n=i,[.kil 1501,.ren 1026 1501],[.frz 1026]) | _=>none) none } (invsN [(3,14,fun _=>co3 l g i),(8,14,fun x=>co8 l g i x)]) 6 Tryd.f20 [.agg [.sl 3 g l]] [] (.agg [.rw 0 3 l.length]) [.nrow 66 3 [1] (hol l i 1),.row 38 7 (hoP l i)]
theorem gcop_e (i:Nat):gcop_T i=gcop_S i:=by kernel_rfl
theorem gcop_v:gcop_S i:=Eq.mp (gcop_e ..) (gcop_P i)
theorem gcop_ok (gl:Glob):HOK Tryd.prog gl 20 (gcop_s i):=by
 refine ⟨fok Tryd.func20 (by kernel_rfl) (by kernel_rfl),?_⟩
 intro xs bs pre r bs2 h hp
 unfold gcop_s at h
 split at h
 ·simp only [Option.some.injEq,Prod.mk.injEq] at h
  obtain ⟨h1,h2,h3⟩:=h
  subst h1 h2 h3
  exact fnH_sound tyNil (by exact specOK rfl rfl ⟨(cloRd_ok gl),trivial⟩ ⟨(cloSt_ok gl),(cloPd_ok gl),trivial⟩) (by kernel_rfl) Tryd.func20 (gcop_v i gl _ _ hp)
 ·cases h
end
end Go.Proofs.YtldiagnbagpliaaDoor
namespace Go.Proofs.YtldiagnbagpliaaDoor
open Go
open Go.RowKit (Below)
set_option linter.unusedVariables false
set_option linter.unusedSimpArgs false
theorem borrow_core {P:Program} {gl:Glob} {f:FuncId} {xs xs2:List AV} {bs:List Blk} {r:AV} (hp:PureC P gl f xs2 r) (hr:∀ S u,CV S r noNm u→∀ S' m',CV S' r m' u)
  (hx:∀ (w:World) (S:Pin) (m:Nm) (vs:List Value),Agree S w→(∀ (q:Nat) (b:Blk),bs[q]?=some b→Held S m w q b)→InjB bs.length m→CVl S xs m vs→∃ S1,Ext S S1∧Agree S1 w∧CVl S1 xs2 noNm vs):HC P gl f xs bs r bs:=by
 intro w S m vs hG hA hn hH hI hv
 obtain ⟨S1,hS1,hA1,hv1⟩:=hx w S m _ hA hH hI hv
 refine (hp w S1 vs (fun q cs e=>CC.mono hS1 cs q 0 (hG q cs e)) hA1 hv1).mono ?_
 rintro e w' ⟨u,S',rfl,hb,hE,hpin,hA',hu⟩
 refine ⟨u,S,m,rfl,hb.os,hb.tape,hb.output,hb.size,Ext.refl S,fun b hlt _=>⟨hb.block b hlt,fun _=>rfl⟩,fun b o v e=>hA' b o v (hE _ _ _ (hS1 _ _ _ e)),fun q b e=>?_,hI,fun q u' g hq hu' hg=>.inr ⟨q,u',hq,hu',hg⟩,MLe.refl m,hr S' u hu S m⟩
 exact (hH q b e).keep (Ext.refl S) (fun _ _ _ hc=>hc) rfl fun u g hu hg=>⟨hb.block g ((hH q b e).lt hu hg),fun _=>rfl⟩
theorem pin_row {S:Pin} {m:Nm} {w:World} {k e s:Nat} {xs:List (List AV)} (hheld:Held S m w k (.row e s xs)) (hcl:e < 2000000) (hA:Agree S w) :
  ∃ S',Ext S S'∧Agree S' w∧(∀ b,(∀ u,m k=some u→bk u≠some b)→∀ o,S' b o=S b o)∧∀ n v,n=xs.length→CV S (.rw k s n) m v→CV S' (.sl s false xs) noNm v:=by
 obtain ⟨A,c,h1,h2,h3,hlen,h4,vals,h5,h6,h7,_,h8⟩:=hheld.vals
 rw [rowNm_lo hcl] at h6
 let S':Pin:=fun b o=>if A=some ⟨b,0,none⟩∧o < vals.length then vals[o]? else S b o
 have hun:∀ b,A=some ⟨b,0,none⟩→∀ o,S b o=none:=by
  intro b hb o
  rcases h4 with ⟨e1,_⟩ | ⟨g,cur,fr,e1,_,_,_,e2⟩
  ·rw [hb] at e1; cases e1
  ·rw [hb] at e1
   injection e1 with e1
   injection e1 with e1
   subst e1
   exact e2 o
 have hS:Ext S S':=by
  intro b o v e1
  show (if A=some ⟨b,0,none⟩∧o < vals.length then vals[o]? else S b o)=some v
  rw [if_neg]
  ·exact e1
  ·rintro ⟨hb,_⟩
   rw [hun b hb] at e1; cases e1
 have hfar:∀ b,A≠some ⟨b,0,none⟩→∀ o,S' b o=S b o:=by
  intro b hb o
  show (if A=some ⟨b,0,none⟩∧o < vals.length then vals[o]? else S b o)=S b o
  rw [if_neg (fun q=>hb q.1)]
 refine ⟨S',hS,?_,fun b hb=>hfar b (fun hA=>hb _ h1 (by rw [hA]; rfl)),?_⟩
 ·intro b o v e1
  by_cases hA2:A=some ⟨b,0,none⟩∧o < vals.length
  ·have e2:vals[o]?=some v:=by
    have:S' b o=vals[o]?:=by show (if A=some ⟨b,0,none⟩∧o < vals.length then vals[o]? else S b o)=_; rw [if_pos hA2]
    rw [← this]; exact e1
   exact ⟨h8 b hA2.1 o v e2,h7 v (List.mem_of_getElem? e2)⟩
  ·have:S' b o=S b o:=by show (if A=some ⟨b,0,none⟩∧o < vals.length then vals[o]? else S b o)=_; rw [if_neg hA2]
   rw [this] at e1
   exact hA b o v e1
 ·intro n v hn hv
  subst hn
  simp only [CV] at hv ⊢
  obtain ⟨⟨B,d,rfl,p1,p2,p3,p4⟩,A1,q1,c1,p5,p6,p7⟩:=hv
  rw [h1] at p5
  injection p5 with p5
  injection p5 with _ p5
  injection p5 with e1 e2 e3
  subst e1; subst e3
  have hv:=p7 (by omega)
  injection hv with e1 e3 e4
  subst e1; subst e4
  refine ⟨B,d,rfl,h2,h3,(fun q=>by cases q),p3,fun ad had=>?_⟩
  obtain ⟨g,eg⟩:=p4 ad had
  subst eg
  refine ⟨fun _=>rfl,CE.mk fun j x hj=>?_⟩
  have hxl:=hlen x (List.mem_of_getElem? hj)
  refine ⟨hxl,CC.mk fun i y hi=>?_⟩
  obtain ⟨u,hu,hy⟩:=h6.get (flat_get hlen hj hi)
  have hlt:j*s+i < vals.length:=(List.getElem?_eq_some_iff.1 hu).1
  refine ⟨u,?_,hy.ext hS (MLe.refl _)⟩
  show (if B=some ⟨g,0,none⟩∧0+j*s+i < vals.length then vals[0+j*s+i]? else S g (0+j*s+i))=some u
  rw [Nat.zero_add,if_pos ⟨had,hlt⟩]
  exact hu
theorem nrow_known {S S1:Pin} {m:Nm} {w:World} {k e s:Nat} {ks:List Nat} {xs:List (List AV)} (h:Held S m w k (.nrow e s ks xs)) (he:e < 1000000) (f:AV→AV)
  (hS:∀ u g,m k=some u→bk u=some g→∀ o,S1 g o=S g o) (hf:∀ y v,(∀ j,nn j y=false→inL j ks=true)→CV S y m v→CV S1 (f y) noNm v):Held S1 m w k (.row e s (mapLL f xs)):=by
 obtain ⟨⟨A,c,p1,p2,p3,p4⟩,hn⟩:=h
 refine ⟨A,c,by rw [mapLL_len]; exact p1,by rw [mapLL_len]; exact p2,p3,?_⟩
 rcases p4 with p4 | ⟨g,cur,fr,rfl,p5,p6,p7,p8,p9⟩
 ·exact .inl p4
 ·rw [rowTy_op] at p5
  refine .inr ⟨g,cur,fr,rfl,by rw [rowTy_lt he]; exact p5,.inl p6.op,p7,fun o=>(hS _ g p1 rfl o).trans (p8 o),fun j x hx=>?_⟩
  obtain ⟨x0,hy,rfl⟩:=mapLL_at hx
  obtain ⟨r1,r2⟩:=p9 j x0 hy
  refine ⟨by rw [List.length_map]; exact r1,fun i y hi=>?_⟩
  rw [List.getElem?_map] at hi
  cases hz:x0[i]? with
  | none=>rw [hz] at hi; cases hi
  | some y0 =>
   rw [hz] at hi
   simp only [Option.map_some,Option.some.injEq] at hi
   subst hi
   obtain ⟨v,q1,q2,q3⟩:=r2 i y0 hz
   rw [rowNm_hi (by omega)] at q3
   rw [rowNm_lo (show e < 2000000 by omega)]
   exact ⟨v,q1,q2,hf y0 v (hn j i x0 y0 hy hz) q3⟩
theorem pin_two {S:Pin} {m:Nm} {w:World} {a b e e2 s s2:Nat} {xs ps:List (List AV)} (ha:Held S m w a (.nrow e s [b] xs)) (hb:Held S m w b (.row e2 s2 ps)) (he:e < 1000000) (he2:e2 < 2000000) (hA:Agree S w)
  (hinj:∀ u u' g,m a=some u→m b=some u'→bk u=some g→bk u'≠some g):∃ S',Ext S S'∧Agree S' w∧(∀ n v,n=xs.length→CV S (.rw a s n) m v→CV S' (.sl s false (mapLL (frsA b s2 ps) xs)) noNm v)∧∀ n v,n=ps.length→CV S (.rw b s2 n) m v→CV S' (.sl s2 false ps) noNm v:=by
 obtain ⟨S1,h1,h2,h3,h4⟩:=pin_row hb he2 hA
 have hk:=nrow_known (S1:=S1) ha he (frsA b s2 ps) (fun u g hu hg=>h3 g (fun u' hu'=>hinj u u' g hu hu' hg)) (fun y v hy hv=>?_)
 ·obtain ⟨S2,k1,k2,k3,k4⟩:=pin_row hk (by omega) h2
  refine ⟨S2,h1.trans k1,k2,fun n v hn hv=>k4 n v (by rw [mapLL_len]; exact hn) (hv.ext h1 (MLe.refl m)),fun n v hn hv=>(h4 n v hn hv).ext k1 (MLe.refl _)⟩
 ·have gen:nn b y=true→CV S1 y noNm v:=fun hq=>CV.mono h1 y m noNm v (fun i u hi e=>by
   have h:=hy i hi
   simp only [inL,Bool.or_false] at h
   have:=Nat.eq_of_beq_eq_true h
   subst this
   rw [hq] at hi; cases hi) hv
  cases y with
  | rw i s3 n =>
   simp only [frsA]
   split
   ·rename_i q
    subst q
    split
    ·rename_i q
     obtain ⟨rfl,q⟩:=q
     exact h4 n v q hv
    ·simp only [CV]
   ·rename_i q; exact gen (by simp only [nn]; rw [nbeq_ne q]; rfl)
  | _=>simp only [frsA]; exact kl_cv gen
theorem hol_frs {l:LLR} (hl:StsP l) (i b:Nat):mapLL (frsA b 7 (hoP l i)) (hol l i b)=l:=by
 unfold hol
 rw [mapLL_setEl,(flat_frs _ _ _).st hl]
 rcases Nat.lt_or_ge i l.length with h | h
 ·refine setEl_same ?_
  obtain ⟨k,nm,ps,hr,_⟩:=hl.fr i h
  have hP:hoP l i=ps:=by unfold hoP; rw [hr]; rfl
  rw [hP,hr]
  have e2:frsA b 7 ps (.rw b 7 ps.length)=.sl 7 false ps:=by simp only [frsA,if_true,true_and]
  rw [List.map_cons,List.map_nil,e2]
  rfl
 ·exact setEl_out h
theorem flat_ib {a:Int} {b:Bool}:∀ S u,CV S (.tup [.int .i64 a,.bool b]) noNm u→∀ S' m',CV S' (.tup [.int .i64 a,.bool b]) m' u:=by
 intro S u h S' m'
 simp only [CV,CVl] at h ⊢
 exact h
def gstB_s (l:LLR) (i:Nat):SpH
 | [.agg [.rw 0 3 n],.str s],[.nrow 66 3 [1] xs,.row 38 7 ps]=>some (((SrcS l∧n=l.length)∧xs=hol l i 1)∧ps=hoP l i,.tup [.int .i64 (stN l s:Nat),.bool (stH l s)],[.nrow 66 3 [1] xs,.row 38 7 ps])
 | _,_=>none
theorem gstB_ok (l:LLR) (i:Nat) (gl:Glob):HOK Tryd.prog gl 22 (gstB_s l i):=by
 refine ⟨(gstation_ok gl).1,?_⟩
 intro xs bs pre r bs2 h hp
 unfold gstB_s at h
 split at h
 ·rename_i n s X ps
  simp only [Option.some.injEq,Prod.mk.injEq] at h
  obtain ⟨h1,h2,h3⟩:=h
  subst h1 h2 h3
  obtain ⟨⟨⟨hs,rfl⟩,rfl⟩,rfl⟩:=hp
  refine borrow_core ((gstation_ok gl).2 [.agg [.sl 3 false l],.str s] _ _ rfl hs) flat_ib ?_
  intro w S m vs hA hH hI hv
  obtain ⟨S',k1,k2,k3,_⟩:=pin_two (hH 0 _ rfl) (hH 1 _ rfl) (by decide) (by decide) hA (fun u u' g hu hu' hg=>hI 0 1 u u' g (by simp) (by simp) (by decide) hu hu' hg)
  rw [hol_frs hs.fp] at k3
  refine ⟨S',k1,k2,?_⟩
  simp only [CVl] at hv ⊢
  obtain ⟨u,us,rfl,hu,u2,us2,rfl,hu2,rfl⟩:=hv
  refine ⟨u,_,rfl,?_,u2,[],rfl,hu2.ext k1 (MLe.refl _) |> fun h=>?_,rfl⟩
  ·simp only [CV,CVl] at hu ⊢
   obtain ⟨us,rfl,z,zs,hz,hc,rfl⟩:=hu
   have:=k3 l.length z (by rw [hol_len]) (by simp only [CV]; exact hc)
   simp only [CV] at this
   exact ⟨us,rfl,z,[],hz,this,rfl⟩
  ·simp only [CV] at h ⊢; exact h
 ·cases h
def gperB_s:SpH
 | [.agg [.int .i64 k,.str nm,.rw 0 7 n],.int .i64 t],[.row 38 7 ps]=>some (SrcD ps∧n=ps.length,.tup [.int .i64 (pdN ps t:Nat),.bool (pdH ps t)],[.row 38 7 ps])
 | _,_=>none
theorem gperB_ok (gl:Glob):HOK Tryd.prog gl 24 gperB_s:=by
 refine ⟨(gperiod_ok gl).1,?_⟩
 intro xs bs pre r bs2 h hp
 unfold gperB_s at h
 split at h
 ·rename_i k nm n t ps
  simp only [Option.some.injEq,Prod.mk.injEq] at h
  obtain ⟨h1,h2,h3⟩:=h
  subst h1 h2 h3
  obtain ⟨hs,rfl⟩:=hp
  refine borrow_core ((gperiod_ok gl).2 [.agg [.int .i64 k,.str nm,.sl 7 false ps],.int .i64 t] _ _ rfl hs) flat_ib ?_
  intro w S m vs hA hH hI hv
  obtain ⟨S',k1,k2,_,k3⟩:=pin_row (hH 0 _ rfl) (by decide) hA
  refine ⟨S',k1,k2,?_⟩
  simp only [CVl,CV] at hv ⊢
  obtain ⟨u,us,rfl,⟨us1,rfl,z1,zs1,e1,h1,z2,zs2,rfl,h2,z3,zs3,rfl,h3,rfl⟩,u2,us2,rfl,hu2,rfl⟩:=hv
  have:=k3 ps.length z3 rfl (by simp only [CV]; exact h3)
  simp only [CV] at this
  exact ⟨_,_,rfl,⟨us1,rfl,z1,_,e1,h1,z2,_,rfl,h2,z3,[],rfl,this,rfl⟩,u2,[],rfl,hu2,rfl⟩
 ·cases h
end Go.Proofs.YtldiagnbagpliaaDoor
