import Derived.Test.YtldiagnbagpliaaGreatDoorRRg
import Derived.Test.YtldiagnbagpliaaGreatDoorRRf
import Derived.Test.YtldiagnbagpliaaGreatDoorRRc
import Derived.ProofKit
import Derived.OpenShut
import Derived.ShutString
import Derived.ChangeOld
import Derived.Carry
import Derived.Deep.Slices
import Derived.WideShapes
import Derived.LaidMore
import Derived.SizedLaws
set_option maxRecDepth 100000
namespace Go.Proofs.YtldiagnbagpliaaGreatDoor
open Go
set_option linter.unusedVariables false
set_option linter.unusedSimpArgs false
def eqRd (xs ys:LLR):Bool:=decide (xs.length=ys.length∧∀ i,i < xs.length→rE (xs.getD i [])=rE (ys.getD i [])∧rV (xs.getD i [])=rV (ys.getD i []))
def smP (a b:List AV):Bool:=if rE a≠rE b then false else if pC a≠pC b then false else if ¬ (pI 2 a=pI 2 b∧pI 3 a=pI 3 b∧pI 4 a=pI 4 b∧pI 5 a=pI 5 b) then false else eqRd (pB a) (pB b)
def smPs (ps qs:LLR):Bool:=decide (ps.length=qs.length∧∀ i,i < ps.length→smP (ps.getD i []) (qs.getD i [])=true)
def smS (r s:List AV):Bool:=if rE r≠rE s then false else if sNm r≠sNm s then false else smPs (sPs r) (sPs s)
def smR (l q:LLR):Bool:=decide (l.length=q.length∧∀ i,i < l.length→smS (l.getD i []) (q.getD i [])=true)
theorem eqRd_rfl (xs:LLR):eqRd xs xs=true:=decide_eq_true ⟨rfl,fun i _=>⟨rfl,rfl⟩⟩
theorem smP_rfl (a:List AV):smP a a=true:=by
 unfold smP; rw [if_neg (by simp),if_neg (by simp),if_neg (by simp)]; exact eqRd_rfl _
theorem smPs_rfl (ps:LLR):smPs ps ps=true:=decide_eq_true ⟨rfl,fun i _=>smP_rfl _⟩
theorem smS_rfl (r:List AV):smS r r=true:=by
 unfold smS; rw [if_neg (by simp),if_neg (by simp)]; exact smPs_rfl _
theorem smR_rfl (l:LLR):smR l l=true:=decide_eq_true ⟨rfl,fun i _=>smS_rfl _⟩
structure EqI (xs ys:LLR) (p:List AV→List AV→Prop) (i:Int):Prop where
 flo:0≤i
 fhi:i≤xs.length
 fl:xs.length=ys.length
 fe:∀ j:Nat,(j:Int) < i→p (xs.getD j []) (ys.getD j [])
theorem EqI.next {xs ys:LLR} {p:List AV→List AV→Prop} {i:Int} (h:EqI xs ys p i) (hi:i < xs.length) (hp:p (xs.getD i.toNat []) (ys.getD i.toNat [])):EqI xs ys p (i+1):=by
 obtain ⟨a,b,c,d⟩:=h
 refine ⟨by omega,by omega,c,fun j hj=>?_⟩
 rcases Nat.lt_or_ge j i.toNat with k | k
 ·exact d j (by omega)
 ·rw [show j=i.toNat by omega]; exact hp
def eqPr (a b:List AV):Prop:=rE a=rE b∧rV a=rV b
def eq3 (xs ys:LLR) (f g:Bool):LInv:=⟨Int,fun i=>⟨[(0,.sl 2 f xs),(1,.sl 2 g ys),(5,.int .i64 i)],[]⟩,EqI xs ys eqPr,fun i=>(xs.length - i).toNat,none⟩
def rsmRd_s (eqRd:LLR→LLR→Bool):Sp
 | [.sl 2 f xs,.sl 2 g ys]=>some (RdsP xs∧RdsP ys,.bool (eqRd xs ys))
 | _=>none
def rsmRd_T (eqRd:LLR→LLR→Bool):Prop :=
  ∀ (gl:Glob) (f g:Bool) (xs ys:List (List AV)),RdsP xs∧RdsP ys→True→True→bif decide ¬(↑xs.length:Int)=(↑ys.length:Int) then false=eqRd xs ys else (∃ x,EqI xs ys eqPr x∧(((bif f then f=true else True)∧xs=xs)∧((bif g then g=true else True)∧ys=ys)∧(0:Int)=x∧True)∧True)∧∀ (x:Int),EqI xs ys eqPr x→bif decide (x < (↑xs.length:Int)) then bif decide (0≤x∧x < (↑xs.length:Int)) then ∃ n
 n_1,List.take [AV.int .i64 n,.int .i64 n_1].length (xs.getD x.toNat [])=[AV.int .i64 n,.int .i64 n_1]∧bif decide (0≤x∧x < (↑ys.length:Int)) then ∃ n_2 n_3,List.take [AV.int .i64 n_2,.int .i64 n_3].length (ys.getD x.toNat [])=[AV.int .i64 n_2,.int .i64 n_3]∧bif !(decide (n=n_2)&&(decide (n_1=n_3)&&true)) then false=eqRd xs ys else bif decide (rng .i64 (x+(1:Int))) then ∃ y,EqI xs ys
 eqPr y∧(eq3 xs ys f g).m y < (eq3 xs ys f g).m x∧(((bif f then f=true else True)∧xs=xs)∧((bif g then g=true else True)∧ys=ys)∧x+(1:Int)=y∧True)∧True else False else False else False else true=eqRd xs ys
theorem rsmRd_P:rsmRd_T eqRd:=by
 unfold rsmRd_T
 intro gl f g xs ys ⟨hx,hy⟩ _ _
 have bf:cond f (f=true) True:=by cases f <;> trivial
 have bg:cond g (g=true) True:=by cases g <;> trivial
 have lx:=hx.sm
 refine csx (fun hl=>(decide_eq_false fun z=>hl (by rw [z.1])).symm) (fun hl=>?_)
 have hl:xs.length=ys.length:=by have:=Decidable.not_not.1 hl; omega
 refine ⟨⟨0,⟨by decide,by omega,hl,fun j h=>by omega⟩,⟨⟨bf,rfl⟩,⟨bg,rfl⟩,rfl,trivial⟩,trivial⟩,?_⟩
 rintro i ⟨h0,h1,h2,hn⟩
 refine csx (fun hi=>?_) (fun hi=>(decide_eq_true ⟨hl,fun j hj=>hn j (by omega)⟩).symm)
 obtain ⟨e,v,he,_⟩:=hx.row i.toNat (by omega)
 obtain ⟨e2,v2,he2,_⟩:=hy.row i.toNat (by omega)
 have r1:rE (xs.getD i.toNat [])=e∧rV (xs.getD i.toNat [])=v:=by rw [he]; exact ⟨rfl,rfl⟩
 have r2:rE (ys.getD i.toNat [])=e2∧rV (ys.getD i.toNat [])=v2:=by rw [he2]; exact ⟨rfl,rfl⟩
 refine cd1 (by omega) ⟨e,v,by rw [he]; rfl,cd1 (by omega) ⟨e2,v2,by rw [he2]; rfl,csplit (fun z=>?_) (fun z=>?_)⟩⟩
 ·refine (decide_eq_false fun q=>?_).symm
  have:=q.2 i.toNat (by omega)
  rw [r1.1,r1.2,r2.1,r2.2] at this
  rw [decide_eq_true this.1,decide_eq_true this.2] at z
  cases z
 ·have hp:e=e2∧v=v2:=by simpa using z
  refine cdI (by omega) ⟨i+1,EqI.next ⟨h0,h1,h2,hn⟩ hi ⟨by rw [r1.1,r2.1]; exact hp.1,by rw [r1.2,r2.2]; exact hp.2⟩,by simp only [eq3]; omega,⟨⟨bf,rfl⟩,⟨bg,rfl⟩,rfl,trivial⟩,trivial⟩
def rsmRd_S (eqRd:LLR→LLR→Bool):Prop:=∀ (gl:Glob) (f g:Bool) (xs ys:List (List AV)),RdsP xs∧RdsP ys→fnK Tryz.prog { glob:=gl,spec:=lk [],specH:=lk [],shape:=[20,24],nowf:=true } { nt:=26,drop:=drp [(1,960),(4,14336),(5,98304),(6,33423360)],tys:=[76] } (invs [(4,eq3 xs ys f g)]) 6 Tryz.f63 [.sl 2 f xs,.sl 2 g ys] (.bool (eqRd xs ys))
theorem rsmRd_e (eqRd:LLR→LLR→Bool):rsmRd_T eqRd=rsmRd_S eqRd:=by kernel_rfl
theorem rsmRd_v:rsmRd_S eqRd:=Eq.mp (rsmRd_e ..) (rsmRd_P)
theorem rsmRd_ok (gl:Glob):SOK Tryz.prog gl 63 (rsmRd_s eqRd):=by
 refine ⟨fok Tryz.func63 (by kernel_rfl) (by kernel_rfl),?_⟩
 intro xs pre r h hp
 unfold rsmRd_s at h
 split at h
 ·simp only [Option.some.injEq,Prod.mk.injEq] at h
  obtain ⟨h1,h2⟩:=h
  subst h1 h2
  exact fnK_sound (tyOf (by kernel_rfl)) (by exact specOK rfl rfl trivial trivial) (by kernel_rfl) Tryz.func63 rfl (rsmRd_v gl _ _ _ _ hp)
 ·cases h
def rsmP_s (eqRd:LLR→LLR→Bool) (smP:List AV→List AV→Bool) (pdA:Int→Bool→Int→Int→Int→Int→LLR→List AV):Sp
 | [.agg [.int .i64 t,.bool cl,.int .i64 f,.int .i64 a,.int .i64 b,.int .i64 c,.sl 2 g bs],.agg [.int .i64 t2,.bool cl2,.int .i64 f2,.int .i64 a2,.int .i64 b2,.int .i64 c2,.sl 2 g2 bs2]]=>some (RdsP bs∧RdsP bs2,.bool (smP (pdA t cl f a b c bs) (pdA t2 cl2 f2 a2 b2 c2 bs2)))
 | _=>none
def rsmP_T (eqRd:LLR→LLR→Bool) (smP:List AV→List AV→Bool) (pdA:Int→Bool→Int→Int→Int→Int→LLR→List AV):Prop :=
 ∀ (gl:Glob) (t:Int) (cl:Bool) (f a b c:Int) (g:Bool) (bs:List (List AV)) (t2:Int) (cl2:Bool) (f2 a2 b2 c2:Int) (g2:Bool) (bs2:List (List AV)),RdsP bs∧RdsP bs2→(IR9 t)∧True∧(IR9 f)∧(IR9 a)∧((-9223372036854775808:Int)≤b∧b
≤(9223372036854775807:Int))∧(IR9 c)∧True∧True→(IR9 t2)∧True∧(IR9 f2)∧(IR9 a2)∧(IR9 b2)∧((-9223372036854775808:Int) ≤
 c2∧c2≤(9223372036854775807:Int))∧True∧True→bif decide (t=t2) then bif decide (cl=cl2) then bif decide (f=f2)&&(decide (a=a2)&&(decide (b=b2)&&(decide (c=c2)&&true))) then (RdsP bs∧RdsP bs2)∧eqRd bs bs2=smP (pdA t cl f a b c bs) (pdA t2 cl2 f2 a2 b2 c2 bs2) else false=smP (pdA t cl f a b c bs) (pdA t2 cl2 f2 a2 b2 c2 bs2) else false=smP (pdA t cl f a b c bs) (pdA t2 cl2 f2 a2 b2 c2 bs2)
 else false=smP (pdA t cl f a b c bs) (pdA t2 cl2 f2 a2 b2 c2 bs2)
theorem rsmP_P:rsmP_T eqRd smP pdA:=by
 unfold rsmP_T
 intro gl t cl f a b c g bs t2 cl2 f2 a2 b2 c2 g2 bs2 hp _ _
 have u:smP (pdA t cl f a b c bs) (pdA t2 cl2 f2 a2 b2 c2 bs2)=(if t≠t2 then false else if cl≠cl2 then false else if ¬ (f=f2∧a=a2∧b=b2∧c=c2) then false else eqRd bs bs2):=rfl
 rw [u]
 refine csx (fun h1=>csplit (fun h2=>csplit (fun h3=>?_) (fun h3=>?_)) (fun h2=>?_)) (fun h1=>(if_pos h1).symm)
 ·refine ⟨hp,?_⟩
  rw [if_neg (by simpa using h1),if_neg (by simpa using h2),if_neg (by simpa using h3)]
 ·rw [if_neg (by simpa using h1),if_neg (by simpa using h2),if_pos (by simpa using h3)]
 ·rw [if_neg (by simpa using h1),if_pos (by simpa using h2)]
def rsmP_S (eqRd:LLR→LLR→Bool) (smP:List AV→List AV→Bool) (pdA:Int→Bool→Int→Int→Int→Int→LLR→List AV):Prop:=∀ (gl:Glob) (t:Int) (cl:Bool) (f a b c:Int) (g:Bool) (bs:List (List AV)) (t2:Int) (cl2:Bool) (f2 a2 b2 c2:Int) (g2:Bool) (bs2:List (List AV)),RdsP bs∧RdsP bs2→fnK Tryz.prog { glob:=gl,spec:=lk [(63,(rsmRd_s eqRd))],specH:=lk [],nowf:=true } { nt:=31,drop:=drp [(1,2147483616)],tys:=[26] } (fun _ _=>none) 6 Tryz.f27 [.agg [.int .i64 t,.bool cl,.int .i64 f,.int .i64 a,.int .i64 b,.int .i64 c,.sl 2 g bs],.agg [.int .i64 t2,.bool cl2,.int .i64 f2,.int .i64 a2,.int .i64 b2,.int .i64 c2,.sl 2 g2 bs2]] (.bool (smP (pdA t cl f a b c bs) (pdA t2 cl2 f2 a2 b2 c2 bs2)))
theorem rsmP_e (eqRd:LLR→LLR→Bool) (smP:List AV→List AV→Bool) (pdA:Int→Bool→Int→Int→Int→Int→LLR→List AV):rsmP_T eqRd smP pdA=rsmP_S eqRd smP pdA:=by kernel_rfl
theorem rsmP_v:rsmP_S eqRd smP pdA:=Eq.mp (rsmP_e ..) (rsmP_P)
theorem rsmP_ok (gl:Glob):SOK Tryz.prog gl 27 (rsmP_s eqRd smP pdA):=by
 refine ⟨fok Tryz.func27 (by kernel_rfl) (by kernel_rfl),?_⟩
 intro xs pre r h hp
 unfold rsmP_s at h
 split at h
 ·simp only [Option.some.injEq,Prod.mk.injEq] at h
  obtain ⟨h1,h2⟩:=h
  subst h1 h2
  exact fnK_sound (tyOf (by kernel_rfl)) (by exact specOK rfl rfl ⟨(rsmRd_ok gl),trivial⟩ trivial) (by kernel_rfl) Tryz.func27 rfl (rsmP_v gl _ _ _ _ _ _ _ _ _ _ _ _ _ _ _ _ hp)
 ·cases h
def sm4 (ps qs:LLR) (f g:Bool):LInv:=⟨Int,fun i=>⟨[(0,.sl 7 f ps),(1,.sl 7 g qs),(5,.int .i64 i)],[]⟩,EqI ps qs (fun a b=>smP a b=true),fun i=>(ps.length - i).toNat,none⟩
def rsmPs_s (smPs:LLR→LLR→Bool) (smP:List AV→List AV→Bool) (pdA:Int→Bool→Int→Int→Int→Int→LLR→List AV):Sp
 | [.sl 7 f ps,.sl 7 g qs]=>some (PdsP ps∧PdsP qs,.bool (smPs ps qs))
 | _=>none
def rsmPs_T (smPs:LLR→LLR→Bool) (smP:List AV→List AV→Bool) (pdA:Int→Bool→Int→Int→Int→Int→LLR→List AV) (eqRd:LLR→LLR→Bool):Prop :=
  ∀ (gl:Glob) (f g:Bool) (ps qs:List (List AV)),PdsP ps∧PdsP qs→True→True→bif decide ¬(↑ps.length:Int)=(↑qs.length:Int) then false=smPs ps qs else (∃ x,EqI ps qs (fun a b=>YtldiagnbagpliaaGreatDoor.smP a b=true) x∧(((bif f then f=true else True)∧ps=ps)∧((bif g then g=true else True)∧qs=qs)∧(0:Int)=x∧True)∧True)∧∀ (x:Int),EqI ps qs (fun a b=>YtldiagnbagpliaaGreatDoor.smP a b=true) x→bif
 decide (x < (↑ps.length:Int)) then bif decide (0≤x∧x < (↑ps.length:Int)) then ∃ n b n_1 n_2 n_3 n_4 xs,List.take [AV.int .i64 n,.bool b,.int .i64 n_1,.int .i64 n_2,.int .i64 n_3,.int .i64 n_4,.sl (2:Nat) false xs].length (ps.getD x.toNat [])=[AV.int .i64 n,.bool b,.int .i64 n_1,.int .i64 n_2,.int .i64 n_3,.int .i64 n_4,.sl (2:Nat) false xs]∧bif decide (0≤x∧x < (↑qs.length:Int)) then
 ∃ n_5 b_1 n_6 n_7 n_8 n_9 xs_1,List.take [AV.int .i64 n_5,.bool b_1,.int .i64 n_6,.int .i64 n_7,.int .i64 n_8,.int .i64 n_9,.sl (2:Nat) false xs_1].length (qs.getD x.toNat [])=[AV.int .i64 n_5,.bool b_1,.int .i64 n_6,.int .i64 n_7,.int .i64 n_8,.int .i64 n_9,.sl (2:Nat) false xs_1]∧(RdsP xs∧RdsP xs_1)∧bif !smP (pdA n b n_1 n_2 n_3 n_4 xs) (pdA n_5 b_1 n_6 n_7 n_8 n_9 xs_1) then false=smPs ps qs
 else bif decide (rng .i64 (x+(1:Int))) then ∃ y,EqI ps qs (fun a b=>YtldiagnbagpliaaGreatDoor.smP a b=true) y∧(sm4 ps qs f g).m y < (sm4 ps qs f g).m x∧(((bif f then f=true else True)∧ps=ps)∧((bif g then g=true else True)∧qs=qs)∧x+(1:Int)=y∧True)∧True else False else False else False else true=smPs ps qs
theorem rsmPs_P:rsmPs_T smPs smP pdA eqRd:=by
 unfold rsmPs_T
 intro gl f g ps qs ⟨hx,hy⟩ _ _
 have bf:cond f (f=true) True:=by cases f <;> trivial
 have bg:cond g (g=true) True:=by cases g <;> trivial
 have lx:=hx.fs
 refine csx (fun hl=>(decide_eq_false fun z=>hl (by rw [z.1])).symm) (fun hl=>?_)
 have hl:ps.length=qs.length:=by have:=Decidable.not_not.1 hl; omega
 refine ⟨⟨0,⟨by decide,by omega,hl,fun j h=>by omega⟩,⟨⟨bf,rfl⟩,⟨bg,rfl⟩,rfl,trivial⟩,trivial⟩,?_⟩
 rintro i ⟨h0,h1,h2,hn⟩
 refine csx (fun hi=>?_) (fun hi=>(decide_eq_true ⟨hl,fun j hj=>hn j (by omega)⟩).symm)
 obtain ⟨t,cl,pf,a,b,c,bs,he,hb,_⟩:=hx.fr i.toNat (by omega)
 obtain ⟨t2,cl2,pf2,a2,b2,c2,bs2,he2,hb2,_⟩:=hy.fr i.toNat (by omega)
 refine cd1 (by omega) ⟨t,cl,pf,a,b,c,bs,by rw [he]; rfl,cd1 (by omega) ⟨t2,cl2,pf2,a2,b2,c2,bs2,by rw [he2]; rfl,⟨hb,hb2⟩,csplit (fun z=>?_) (fun z=>?_)⟩⟩
 ·refine (decide_eq_false fun q=>?_).symm
  have:=q.2 i.toNat (by omega)
  rw [he,he2] at this
  rw [this] at z
  cases z
 ·have hp:smP (ps.getD i.toNat []) (qs.getD i.toNat [])=true:=by rw [he,he2]; simpa using z
  refine cdI (by omega) ⟨i+1,EqI.next ⟨h0,h1,h2,hn⟩ hi hp,by simp only [sm4]; omega,⟨⟨bf,rfl⟩,⟨bg,rfl⟩,rfl,trivial⟩,trivial⟩
def rsmPs_S (smPs:LLR→LLR→Bool) (smP:List AV→List AV→Bool) (pdA:Int→Bool→Int→Int→Int→Int→LLR→List AV) (eqRd:LLR→LLR→Bool):Prop:=∀ (gl:Glob) (f g:Bool) (ps qs:List (List AV)),PdsP ps∧PdsP qs→fnK Tryz.prog { glob:=gl,spec:=lk [(27,(rsmP_s eqRd smP pdA))],specH:=lk [],shape:=[20,24],slz:=[(20,[2]),(24,[2])],nowf:=true } { nt:=27,drop:=drp [(1,960),(4,14336),(5,98304),(6,66977792)] } (invs [(4,sm4 ps qs f g)]) 6 Tryz.f74 [.sl 7 f ps,.sl 7 g qs] (.bool (smPs ps qs))
theorem rsmPs_e (smPs:LLR→LLR→Bool) (smP:List AV→List AV→Bool) (pdA:Int→Bool→Int→Int→Int→Int→LLR→List AV) (eqRd:LLR→LLR→Bool):rsmPs_T smPs smP pdA eqRd=rsmPs_S smPs smP pdA eqRd:=by kernel_rfl
theorem rsmPs_v:rsmPs_S smPs smP pdA eqRd:=Eq.mp (rsmPs_e ..) (rsmPs_P)
theorem rsmPs_ok (gl:Glob):SOK Tryz.prog gl 74 (rsmPs_s smPs smP pdA):=by
 refine ⟨fok Tryz.func74 (by kernel_rfl) (by kernel_rfl),?_⟩
 intro xs pre r h hp
 unfold rsmPs_s at h
 split at h
 ·simp only [Option.some.injEq,Prod.mk.injEq] at h
  obtain ⟨h1,h2⟩:=h
  subst h1 h2
  exact fnK_sound tyNil (by exact specOK rfl rfl ⟨(rsmP_ok gl),trivial⟩ trivial) (by kernel_rfl) Tryz.func74 rfl (rsmPs_v gl _ _ _ _ hp)
 ·cases h
def sm3 (l q:LLR) (f g:Bool):LInv:=⟨Int,fun i=>⟨[(2,.ptr 2 0),(3,.ptr 3 0),(5,.int .i64 i)],[(2,.cells [.sl 3 f l]),(3,.cells [.sl 3 g q])]⟩,EqI l q (fun a b=>smS a b=true),fun i=>(l.length - i).toNat,none⟩
def rsmS_s (smR:LLR→LLR→Bool) (smPs:LLR→LLR→Bool):Sp
 | [.agg [.sl 3 f l],.agg [.sl 3 g q]]=>some (StsP l∧StsP q,.bool (smR l q))
 | _=>none
def rsmS_T (smR:LLR→LLR→Bool) (smPs:LLR→LLR→Bool) (smP:List AV→List AV→Bool) (pdA:Int→Bool→Int→Int→Int→Int→LLR→List AV):Prop :=
  ∀ (gl:Glob) (f g:Bool) (l q:List (List AV)),StsP l∧StsP q→True∧True→True∧True→bif decide ¬(↑l.length:Int)=(↑q.length:Int) then false=smR l q else (∃ x,EqI l q (fun a b=>smS a b=true) x∧((0:Nat)=0∧(0:Nat)=0∧(0:Int)=x∧True)∧(((bif f then f=true else True)∧l=l)∧True)∧(((bif g then g=true else True)∧q=q)∧True)∧True)∧∀ (x:Int),EqI l q (fun a b=>smS a b=true) x→bif decide (x < (↑l.length:Int))
 then bif decide (0≤x∧x < (↑l.length:Int)) then ∃ n s xs,List.take [AV.int .i64 n,.str s,.sl (7:Nat) false xs].length (l.getD x.toNat [])=[AV.int .i64 n,.str s,.sl (7:Nat) false xs]∧bif decide (0≤x∧x < (↑q.length:Int)) then ∃ n_1 s_1 xs_1,List.take [AV.int .i64 n_1,.str s_1,.sl (7:Nat) false xs_1].length (q.getD x.toNat [])=[AV.int .i64 n_1,.str s_1,.sl (7:Nat) false xs_1]∧bif decide
 ¬n=n_1 then false=smR l q else bif !decide (s=s_1) then false=smR l q else (PdsP xs∧PdsP xs_1)∧(True→bif !smPs xs xs_1 then false=smR l q else bif decide (rng .i64 (x+(1:Int))) then ∃ y,EqI l q (fun a b=>smS a b=true) y∧(sm3 l q f g).m y < (sm3 l q f g).m x∧((0:Nat)=0∧(0:Nat)=0∧x+(1:Int)=y∧True)∧(((bif f then f=true else True)∧l=l)∧True)∧(((bif g then g=true else True)∧q=q)∧True)∧True else
 False) else False else False else true=smR l q
theorem rsmS_P:rsmS_T smR smPs smP pdA:=by
 unfold rsmS_T
 intro gl f g l q ⟨hx,hy⟩ _ _
 have bf:cond f (f=true) True:=by cases f <;> trivial
 have bg:cond g (g=true) True:=by cases g <;> trivial
 have lx:=hx.fs
 refine csx (fun hl=>(decide_eq_false fun z=>hl (by rw [z.1])).symm) (fun hl=>?_)
 have hl:l.length=q.length:=by have:=Decidable.not_not.1 hl; omega
 refine ⟨⟨0,⟨by decide,by omega,hl,fun j h=>by omega⟩,by (repeat' (first | exact trivial | exact rfl | assumption | apply And.intro))⟩,?_⟩
 rintro i ⟨h0,h1,h2,hn⟩
 refine csx (fun hi=>?_) (fun hi=>(decide_eq_true ⟨hl,fun j hj=>hn j (by omega)⟩).symm)
 obtain ⟨k,nm,ps,he,hp⟩:=hx.fr i.toNat (by omega)
 obtain ⟨k2,nm2,ps2,he2,hp2⟩:=hy.fr i.toNat (by omega)
 have u:smS (l.getD i.toNat []) (q.getD i.toNat [])=(if k≠k2 then false else if nm≠nm2 then false else smPs ps ps2):=by rw [he,he2]; rfl
 have no:smS (l.getD i.toNat []) (q.getD i.toNat [])=false→false=smR l q:=fun z=>(decide_eq_false fun w=>by have:=w.2 i.toNat (by omega); rw [z] at this; cases this).symm
 refine cd1 (by omega) ⟨k,nm,ps,by rw [he]; rfl,cd1 (by omega) ⟨k2,nm2,ps2,by rw [he2]; rfl,csx (fun z=>no (by rw [u,if_pos z])) (fun z=>csplit (fun y=>no (by rw [u,if_neg z,if_pos (by simpa using y)])) (fun y=>⟨⟨hp,hp2⟩,fun _=>csplit (fun w=>no (by rw [u,if_neg z,if_neg (by simpa using y)]; simpa using w)) (fun w=>?_)⟩))⟩⟩
 exact cdI (by omega) ⟨i+1,EqI.next ⟨h0,h1,h2,hn⟩ hi (by rw [u,if_neg z,if_neg (by simpa using y)]; simpa using w),by simp only [sm3]; omega,by (repeat' (first | exact trivial | exact rfl | assumption | apply And.intro))⟩
def rsmS_S (smR:LLR→LLR→Bool) (smPs:LLR→LLR→Bool) (smP:List AV→List AV→Bool) (pdA:Int→Bool→Int→Int→Int→Int→LLR→List AV):Prop:=∀ (gl:Glob) (f g:Bool) (l q:List (List AV)),StsP l∧StsP q→fnK Tryz.prog { glob:=gl,spec:=lk [(74,(rsmPs_s smPs smP pdA))],specH:=lk [],shape:=[26,31],slz:=[(26,[7]),(31,[7])] } { nt:=52,drop:=drp [(1,16128),(4,491520),(5,3145728),(6,4290772992),(7,2251795518717952)] } (invs [(4,sm3 l q f g)]) 6 Tryz.f31 [.agg [.sl 3 f l],.agg [.sl 3 g q]] (.bool (smR l q))
theorem rsmS_e (smR:LLR→LLR→Bool) (smPs:LLR→LLR→Bool) (smP:List AV→List AV→Bool) (pdA:Int→Bool→Int→Int→Int→Int→LLR→List AV):rsmS_T smR smPs smP pdA=rsmS_S smR smPs smP pdA:=by kernel_rfl
theorem rsmS_v:rsmS_S smR smPs smP pdA:=Eq.mp (rsmS_e ..) (rsmS_P)
theorem rsmS_ok (gl:Glob):SOK Tryz.prog gl 31 (rsmS_s smR smPs):=by
 refine ⟨fok Tryz.func31 (by kernel_rfl) (by kernel_rfl),?_⟩
 intro xs pre r h hp
 unfold rsmS_s at h
 split at h
 ·simp only [Option.some.injEq,Prod.mk.injEq] at h
  obtain ⟨h1,h2⟩:=h
  subst h1 h2
  exact fnK_sound tyNil (by exact specOK rfl rfl ⟨(rsmPs_ok gl),trivial⟩ trivial) (by kernel_rfl) Tryz.func31 rfl (rsmS_v gl _ _ _ _ hp)
 ·cases h
end Go.Proofs.YtldiagnbagpliaaGreatDoor
namespace Go.Proofs.YtldiagnbagpliaaGreatDoor
open Go
set_option linter.unusedVariables false
set_option linter.unusedSimpArgs false
theorem out_no {q:List AV→Int} {l:LLR} (h:fpB q l=false):outQ q l=l:=by
 unfold outQ; rw [h]; exact List.take_append_drop _ _
theorem se_asc {l:LLR} {nm:ByteArray} (hl:StsP l) (h0:rgV l=0) (hs:stH l nm=true):AscP (seD l nm):=by
 obtain ⟨k2,hr,hlt⟩:=seD_at hl hs
 have ha:=(rg_zero hl h0).fa _ hlt
 rw [hr] at ha
 exact asc_pw.1 ha
end Go.Proofs.YtldiagnbagpliaaGreatDoor
namespace Go.Proofs.YtldiagnbagpliaaGreatDoor
open Go
set_option linter.unusedVariables false
set_option linter.unusedSimpArgs false
def laO (ps:LLR) (t i:Int):Option (List AV):=lst (ps.take i.toNat) t
def laR (ps:LLR) (t i:Int):List AV:=(laO ps t i).getD pzR
theorem la_step {ps:LLR} {t i:Int} (h0:0≤i) (hi:i < ps.length):laO ps t (i+1)=if rE (ps.getD i.toNat [])≤t then some (ps.getD i.toNat []) else laO ps t i:=by
 unfold laO lst
 rw [show (i+1).toNat=i.toNat+1 by omega,List.take_add_one,List.getElem?_eq_getElem (show i.toNat < ps.length by omega),gD_lt (show i.toNat < ps.length by omega),Option.toList_some,List.filter_append]
 by_cases h:rE ps[i.toNat]≤t
 ·rw [if_pos h,List.filter_cons_of_pos (show begT t ps[i.toNat]=true from decide_eq_true h),List.filter_nil,List.getLast?_append]; rfl
 ·rw [if_neg h,List.filter_cons_of_neg (show ¬ begT t ps[i.toNat]=true from fun q=>h (of_decide_eq_true q)),List.filter_nil,List.append_nil]
theorem la_all {ps:LLR} {t i:Int} (h:¬ i < ps.length):laO ps t i=lst ps t:=by
 unfold laO; rw [List.take_of_length_le (by omega)]
theorem fi_lst {l:LLR} (hl:StsP l) (h0:rgV l=0) (n:ByteArray) (t:Int):atZ l n t=(lst (fiP l n) t).getD pzR∧atE l n t=(if (lst (fiP l n) t).isSome then 0 else 6)∧apI l n t=(lst (fiP l n) t).isSome∧apP l n t=(lst (fiP l n) t).getD pzR:=by
 have key:apI l n t=(lst (fiP l n) t).isSome∧apP l n t=(lst (fiP l n) t).getD pzR:=by
  rw [(fi_all (rgV_iff.1 h0).2.2 n).1]
  by_cases hs:stH l n=true
  ·rw [if_pos hs]
   obtain ⟨k,hr,hlt⟩:=seD_at hl hs
   obtain ⟨m1,m2⟩:=at_lst (se_asc hl h0 hs) t
   unfold apI apP
   rw [if_pos hs,hs,hr]
   exact ⟨m1,m2⟩
  ·rw [if_neg hs]
   obtain ⟨a1,a2⟩:=ap_none (by simpa using hs) t
   exact ⟨a1,a2⟩
 have e:atE l n t=(if (lst (fiP l n) t).isSome then 0 else 6):=by unfold atE; rw [if_neg (fun z=>z h0),key.1]
 refine ⟨?_,e,key.1,key.2⟩
 unfold atZ
 rw [e]
 cases hq:lst (fiP l n) t with
 | none=>rfl
 | some r=>simp [key.2,hq]
theorem fiP_pd2 {l:LLR} (hl:StsP l) (h0:rgV l=0) (s:ByteArray):PdsP (fiP l s):=by
 rw [(fi_all (rgV_iff.1 h0).2.2 s).1]
 split
 ·rename_i hs
  obtain ⟨k3,n3,ps3,hr3,hp3⟩:=hl.fr _ (stH_lt hs)
  have e:seD l s=ps3:=by unfold seD hoP; rw [hr3]; rfl
  rw [e]; exact hp3
 ·exact ⟨fun i h=>by simp at h,by simp⟩
def ra7 (ps:LLR) (t:Int):LInv:=⟨Int,fun i=>⟨[(2,.int .i64 t),(6,.ptr 6 0),(11,.ptr 11 0),(12,.bool (laO ps t i).isSome),(29,.sl 7 false ps),(30,.int .i64 ps.length),(31,.int .i64 i)],[(6,.cells [.int .i64 0,.bool false,.int .i64 0,.int .i64 0,.int .i64 0,.int .i64 0,.nils]),(11,.cells [.int .i64 (pI 0 (laR ps t i)),.bool (pC (laR ps t i)),.int .i64 (pI 2 (laR ps t i)),.int .i64 (pI 3 (laR ps t i)),.int .i64 (pI 4 (laR ps t i)),.int .i64 (pI 5 (laR ps t i)),.sl 2 false (pB (laR ps t i))])]⟩,CoI ps,fun i=>(ps.length - i).toNat,none⟩
def ratF_s (rgV:LLR→Int) (atZ:LLR→ByteArray→Int→List AV) (atE:LLR→ByteArray→Int→Int) (fiK:LLR→ByteArray→Int) (fiN:LLR→ByteArray→ByteArray) (fiP:LLR→ByteArray→LLR) (fiB:LLR→ByteArray→Bool) (laO:LLR→Int→Int→Option (List AV)) (laR:LLR→Int→Int→List AV) (pI:Nat→List AV→Int) (pC:List AV→Bool) (pB:List AV→LLR):Sp
 | [.agg [.sl 3 g l],.str n,.int .i64 t]=>some (StsP l,.tup [.agg [.int .i64 (pI 0 (atZ l n t)),.bool (pC (atZ l n t)),.int .i64 (pI 2 (atZ l n t)),.int .i64 (pI 3 (atZ l n t)),.int .i64 (pI 4 (atZ l n t)),.int .i64 (pI 5 (atZ l n t)),.sl 2 false (pB (atZ l n t))],.int .i64 (atE l n t)])
 | _=>none
def ratF_T (rgV:LLR→Int) (atZ:LLR→ByteArray→Int→List AV) (atE:LLR→ByteArray→Int→Int) (fiK:LLR→ByteArray→Int) (fiN:LLR→ByteArray→ByteArray) (fiP:LLR→ByteArray→LLR) (fiB:LLR→ByteArray→Bool) (laO':LLR→Int→Int→Option (List AV)) (laR':LLR→Int→Int→List AV) (pI':Nat→List AV→Int) (pC':List AV→Bool) (pB':List AV→LLR) (pdV:Int→Int→Bool→Int→Int→Int→Int→LLR→Bool) (nmOk:ByteArray→Bool):Prop :=
  ∀ (gl:Glob) (g:Bool) (l:List (List AV)) (n:ByteArray) (t:Int),StsP l→True∧True→n.size.le (9223372036854775807:Nat)→IR9 t→StsP l∧bif decide ¬rgV l=(0:Int) then ((0:Int)=pI' (0:Nat) (atZ l n t)∧false=pC' (atZ l n t)∧(0:Int)=pI' (2:Nat) (atZ l n t)∧(0:Int)=pI' (3:Nat) (atZ l n t)∧(0:Int)=pI' (4:Nat) (atZ l n t)∧(0:Int)=pI' (5:Nat) (atZ l n
 t)∧(True∧[]=pB' (atZ l n t))∧True)∧rgV l=atE l n t∧True else StsP l∧(∃ x,CoI (fiP l n) x∧(t=t∧(0:Nat)=0∧(0:Nat)=0∧false=(laO (fiP l n) t x).isSome∧(True∧fiP l n=fiP l n)∧(↑(List.length (fiP l n)):Int)=(↑(List.length (fiP l n)):Int)∧(0:Int)=x∧True)∧((0:Int)=0∧false=false∧(0:Int)=0∧(0:Int)=0∧(0:Int)=0∧(0:Int)=0∧True∧True)∧((0:Int)=pI (0:Nat)
 (laR (fiP l n) t x)∧false=pC (laR (fiP l n) t x)∧(0:Int)=pI (2:Nat) (laR (fiP l n) t x)∧(0:Int)=pI (3:Nat) (laR (fiP l n) t x)∧(0:Int)=pI (4:Nat) (laR (fiP l n) t
 x)∧(0:Int)=pI (5:Nat) (laR (fiP l n) t x)∧(True∧[]=pB (laR (fiP l n) t x))∧True)∧True)∧∀ (x:Int),CoI (fiP l n) x→bif decide (x < (↑(List.length (fiP l n)):Int)) then bif decide (0≤x∧x < (↑(List.length (fiP l n)):Int)) then ∃ n_1 b n_2 n_3 n_4 n_5 xs,List.take [AV.int .i64 n_1,.bool b,.int
 .i64 n_2,.int .i64 n_3,.int .i64 n_4,.int .i64 n_5,.sl (2:Nat) false xs].length (List.getD (fiP l n) x.toNat [])=[AV.int .i64 n_1,.bool b,.int .i64 n_2,.int .i64 n_3,.int .i64 n_4,.int .i64 n_5,.sl (2:Nat) false xs]∧bif decide (n_1≤t) then ∃ y,CoI (fiP l n) y∧(ra7 (fiP l n) t).m y < (ra7 (fiP l n) t).m x∧(t=t∧(0:Nat)=0∧(0:Nat)=0∧true=(laO (fiP l n) t y).isSome∧(True∧fiP
 l n=fiP l n)∧(↑(List.length (fiP l n)):Int)=(↑(List.length (fiP l n)):Int)∧IntKind.i64.wrap (x+(1:Int))=y∧True)∧((0:Int)=0∧false=false∧(0:Int)=0∧(0:Int)=0∧(0:Int)=0∧(0:Int)=0∧True∧True)∧(n_1=pI (0:Nat) (laR (fiP l n) t y)∧b=pC (laR (fiP l n) t y)∧n_2=pI (2:Nat)
 (laR (fiP l n) t y)∧n_3=pI (3:Nat) (laR (fiP l n) t y)∧n_4=pI (4:Nat) (laR (fiP l n) t y)∧n_5=pI (5:Nat) (laR (fiP l n) t y)∧(True∧xs=pB (laR (fiP l n) t
 y))∧True)∧True else ∃ y,CoI (fiP l n) y∧(ra7 (fiP l n) t).m y < (ra7 (fiP l n) t).m x∧(t=t∧(0:Nat)=0∧(0:Nat)=0∧(laO (fiP l n) t x).isSome=(laO (fiP l n) t y).isSome∧(True∧fiP l n=fiP l n)∧(↑(List.length (fiP l n)):Int)=(↑(List.length (fiP l n)):Int)∧IntKind.i64.wrap (x +
 (1:Int))=y∧True)∧((0:Int)=0∧false=false∧(0:Int)=0∧(0:Int)=0∧(0:Int)=0∧(0:Int)=0∧True∧True)∧(pI (0:Nat) (laR (fiP l n) t x)=pI (0:Nat) (laR (fiP l n) t y)∧pC (laR (fiP l n) t x)=pC (laR (fiP l
 n) t y)∧pI (2:Nat) (laR (fiP l n) t x)=pI (2:Nat) (laR (fiP l n) t y)∧pI (3:Nat) (laR (fiP l n) t x)=pI (3:Nat) (laR (fiP l n) t y)∧pI (4:Nat)
 (laR (fiP l n) t x)=pI (4:Nat) (laR (fiP l n) t y)∧pI (5:Nat) (laR (fiP l n) t x)=pI (5:Nat) (laR (fiP l n) t y)∧(True∧pB (laR (fiP l n) t
 x)=pB (laR (fiP l n) t y))∧True)∧True else False else bif !(laO (fiP l n) t x).isSome then ((0:Int)=pI' (0:Nat) (atZ l n t)∧false=pC' (atZ l n t)∧(0:Int)=pI' (2:Nat) (atZ l n t)∧(0:Int)=pI' (3:Nat) (atZ l n t)∧(0:Int)=pI' (4:Nat) (atZ l n t)∧(0:Int)=pI' (5:Nat) (atZ l n t)∧(True∧[]=pB' (atZ l n t))∧True)∧(6:Int)=atE l n t∧True
 else (pI (0:Nat) (laR (fiP l n) t x)=pI' (0:Nat) (atZ l n t)∧pC (laR (fiP l n) t x)=pC' (atZ l n t)∧pI (2:Nat) (laR (fiP l n) t x)=pI' (2:Nat) (atZ l n t)∧pI (3:Nat) (laR (fiP l n) t x)=pI' (3:Nat)
 (atZ l n t)∧pI (4:Nat) (laR (fiP l n) t x)=pI' (4:Nat) (atZ l n t)∧pI (5:Nat) (laR (fiP l n) t x)=pI' (5:Nat) (atZ l n t)∧(True∧pB (laR (fiP l n) t x)=pB' (atZ l n t))∧True)∧(0:Int)=atE l n t∧True
theorem ratF_P:ratF_T rgV atZ atE fiK fiN fiP fiB laO laR pI pC pB pdV nmOk:=by
 unfold ratF_T
 intro gl g l n t hl _ _ _
 refine ⟨hl,csx (fun q=>?_) (fun q=>?_)⟩
 ·have hE:atE l n t=rgV l:=by unfold atE; rw [if_pos q]
  have hZ:atZ l n t=pzR:=by unfold atZ; rw [hE,if_neg q]
  rw [hZ,hE]
  exact ⟨⟨rfl,rfl,rfl,rfl,rfl,rfl,⟨trivial,rfl⟩,trivial⟩,rfl,trivial⟩
 have h0:=Decidable.not_not.1 q
 obtain ⟨eZ,eE,_,_⟩:=fi_lst hl h0 n t
 have hP:=fiP_pd2 hl h0 n
 have pfs:=hP.fs
 refine ⟨hl,⟨0,⟨by decide,by omega⟩,by (repeat' (first | exact trivial | exact rfl | assumption | apply And.intro)),by (repeat' (first | exact trivial | exact rfl | assumption | apply And.intro)),by (repeat' (first | exact trivial | exact rfl | assumption | apply And.intro)),trivial⟩,?_⟩
 rintro x ⟨x0,x1⟩
 refine csx (fun hx=>cd1 (by omega) ?_) (fun hx=>?_)
 ·obtain ⟨fr,cl,f,a,b,c,bs,hr,hb⟩:=hP.fr x.toNat (by omega)
  have w:IntKind.i64.wrap (x+1)=x+1:=wrap_eq (by show _∧_; omega)
  have st:=la_step (t:=t) x0 hx
  have hrE:rE ((fiP l n).getD x.toNat [])=fr:=by rw [hr]; rfl
  rw [hrE] at st
  refine ⟨fr,cl,f,a,b,c,bs,by rw [hr]; rfl,csx (fun h=>?_) (fun h=>?_)⟩
  ·rw [if_pos h] at st
   have sr:laR (fiP l n) t (x+1)=pdA fr cl f a b c bs:=by unfold laR; rw [st,hr]; rfl
   exact ⟨x+1,⟨by omega,by omega⟩,by simp only [ra7]; omega,⟨rfl,rfl,rfl,by rw [st]; rfl,⟨trivial,rfl⟩,rfl,w,trivial⟩,by (repeat' (first | exact trivial | exact rfl | assumption | apply And.intro)),by rw [sr]; exact ⟨rfl,rfl,rfl,rfl,rfl,rfl,⟨trivial,rfl⟩,trivial⟩,trivial⟩
  ·rw [if_neg h] at st
   have sr:laR (fiP l n) t (x+1)=laR (fiP l n) t x:=by unfold laR; rw [st]
   exact ⟨x+1,⟨by omega,by omega⟩,by simp only [ra7]; omega,⟨rfl,rfl,rfl,by rw [st],⟨trivial,rfl⟩,rfl,w,trivial⟩,by (repeat' (first | exact trivial | exact rfl | assumption | apply And.intro)),by rw [sr]; exact ⟨rfl,rfl,rfl,rfl,rfl,rfl,⟨trivial,rfl⟩,trivial⟩,trivial⟩
 ·rw [eZ,eE]
  unfold laR
  rw [la_all hx]
  cases hq:lst (fiP l n) t with
  | none=>exact ⟨⟨rfl,rfl,rfl,rfl,rfl,rfl,⟨trivial,rfl⟩,trivial⟩,rfl,trivial⟩
  | some r=>exact ⟨⟨rfl,rfl,rfl,rfl,rfl,rfl,⟨trivial,rfl⟩,trivial⟩,rfl,trivial⟩
def ratF_S (rgV:LLR→Int) (atZ:LLR→ByteArray→Int→List AV) (atE:LLR→ByteArray→Int→Int) (fiK:LLR→ByteArray→Int) (fiN:LLR→ByteArray→ByteArray) (fiP:LLR→ByteArray→LLR) (fiB:LLR→ByteArray→Bool) (laO:LLR→Int→Int→Option (List AV)) (laR:LLR→Int→Int→List AV) (pI:Nat→List AV→Int) (pC:List AV→Bool) (pB:List AV→LLR) (pdV:Int→Int→Bool→Int→Int→Int→Int→LLR→Bool) (nmOk:ByteArray→Bool):Prop:=∀ (gl:Glob) (g:Bool) (l:List (List AV)) (n:ByteArray) (t:Int),StsP l→fnK Tryz.prog { glob:=gl,spec:=lk [(32,(rvalidF_s pdV nmOk rgV)),(23,(rfindF_s fiK fiN fiP fiB))],specH:=lk [],shape:=[34],slz:=[(34,[2])],nowf:=true,wrap:=true,nls:=[(49,6,2)] } { nt:=45,drop:=drp [(1,98304),(2,131072),(3,1572864),(4,132120576),(5,134217728),(6,268435456),(8,25769803776),(9,240518168576),(10,549755813888),(11,1099511627776),(12,2199023255552),(13,8796093022208),(14,17592186044416)] } (invs [(7,ra7 (fiP l n) t)]) 6 Tryz.f35 [.agg [.sl 3 g l],.str n,.int .i64 t] (.tup [.agg [.int .i64 (pI 0 (atZ l n t)),.bool (pC (atZ l n t)),.int .i64 (pI 2 (atZ l n t)),.int .i64 (pI 3 (atZ l n t)),.int .i64 (pI 4 (atZ l n t)),.int .i64 (pI 5 (atZ l n t)),.sl 2 false (pB (atZ l n t))],.int .i64 (atE l n t)])
theorem ratF_e (rgV:LLR→Int) (atZ:LLR→ByteArray→Int→List AV) (atE:LLR→ByteArray→Int→Int) (fiK:LLR→ByteArray→Int) (fiN:LLR→ByteArray→ByteArray) (fiP:LLR→ByteArray→LLR) (fiB:LLR→ByteArray→Bool) (laO:LLR→Int→Int→Option (List AV)) (laR:LLR→Int→Int→List AV) (pI:Nat→List AV→Int) (pC:List AV→Bool) (pB:List AV→LLR) (pdV:Int→Int→Bool→Int→Int→Int→Int→LLR→Bool) (nmOk:ByteArray→Bool):ratF_T rgV atZ atE fiK fiN fiP fiB laO laR pI pC pB pdV nmOk=ratF_S rgV atZ atE fiK fiN fiP fiB laO laR pI pC pB pdV nmOk:=by kernel_rfl
theorem ratF_v:ratF_S rgV atZ atE fiK fiN fiP fiB laO laR pI pC pB pdV nmOk:=Eq.mp (ratF_e ..) (ratF_P)
theorem ratF_ok (gl:Glob):SOK Tryz.prog gl 35 (ratF_s rgV atZ atE fiK fiN fiP fiB laO laR pI pC pB):=by
 refine ⟨fok Tryz.func35 (by kernel_rfl) (by kernel_rfl),?_⟩
 intro xs pre r h hp
 unfold ratF_s at h
 split at h
 ·simp only [Option.some.injEq,Prod.mk.injEq] at h
  obtain ⟨h1,h2⟩:=h
  subst h1 h2
  exact fnK_sound tyNil (by exact specOK rfl rfl ⟨(rvalidF_ok gl),(rfindF_ok gl),trivial⟩ trivial) (by kernel_rfl) Tryz.func35 rfl (ratF_v gl _ _ _ _ hp)
 ·cases h
structure ApOk (l rd:LLR) (k:Int) (n:ByteArray) (t f a b c:Int) (u:Unit):Prop where
 fe:apE l k n t f a b c rd=0
structure ApPl (l:LLR) (k:Int) (n:ByteArray) (t f a b c:Int) (x:Int × Int × Int × Int):Prop where
 f2:x.1=apX 2 l k n t f
 f3:x.2.1=apX 3 l k n t a
 f4:x.2.2.1=apX 4 l k n t b
 f5:x.2.2.2=apX 5 l k n t c
end Go.Proofs.YtldiagnbagpliaaGreatDoor
namespace Go.Proofs.YtldiagnbagpliaaGreatDoor
open Go
open Go.ChangeShapes Go.WideShapes
open Go.RowKit (Below)
set_option linter.unusedVariables false
set_option linter.unusedSimpArgs false
def pinAll (w:World):Pin:=fun b o=>match w.cell? ⟨b,o,none⟩ with | some v=>cond v.oneCell' (some v) none | none=>none
theorem pinAll_some {w:World} {b o:Nat} {v:Value} (h:w.cell? ⟨b,o,none⟩=some v) (k:v.oneCell'=true):pinAll w b o=some v:=by simp [pinAll,h,k]
theorem agree_all (w:World):Agree (pinAll w) w:=by
 intro b o v h
 unfold pinAll at h
 split at h
 ·next u e =>
  cases hk:u.oneCell' with
  | true=>rw [hk] at h; simp only [cond_true,Option.some.injEq] at h; subst h; exact ⟨e,hk⟩
  | false=>rw [hk] at h; cases h
 ·cases h
def tiles (P:Program):List Field→Nat→Nat→Bool
 | [],o,n=>Nat.beq o n
 | f::fs,o,n=>Nat.beq f.offset o&&tiles P fs (o+P.cellsOf f.type) n
def supp (P:Program):Nat→TypeId→Bool
 | 0,_=>false
 | n+1,t=>match P.underlying t with
  | some .bool=>true
  | some (.int _)=>true
  | some .string=>true
  | some (.slice e)=>Nat.blt 0 (P.cellsOf e)&&supp P n e
  | some (.struct fs)=>tiles P fs.toList 0 (P.cellsOf t)&&fs.toList.all fun f=>supp P n f.type
  | some (.array m e)=>Nat.beq (m*P.cellsOf e) (P.cellsOf t)&&supp P n e
  | _=>false
def ShF (P:Program) (sh:TypeId→List AV→Prop):List Field→List AV→Prop
 | [],cs=>cs=[]
 | f::fs,cs=>∃ ys zs,sh f.type ys∧ShF P sh fs zs∧cs=ys++zs
def ShE (sh:List AV→Prop):Nat→List AV→Prop
 | 0,cs=>cs=[]
 | n+1,cs=>∃ ys zs,sh ys∧ShE sh n zs∧cs=ys++zs
theorem shF_of {P:Program} {S:Pin} {sh:TypeId→List AV→Prop} {vs:List Value}:∀ (fs:List Field) (o tot:Nat),tiles P fs o tot=true→vs.length=tot →
  (∀ f ∈ fs,∃ ys,sh f.type ys∧allOne ys=true∧CVl S ys noNm ((vs.drop f.offset).take (P.cellsOf f.type)))→∃ cs,ShF P sh fs cs∧allOne cs=true∧CVl S cs noNm (vs.drop o)
 | [],o,tot,ht,hl,_=>by
  simp only [tiles] at ht
  have:=Nat.eq_of_beq_eq_true ht
  exact ⟨[],rfl,rfl,by simp only [CVl]; exact List.drop_eq_nil_of_le (by omega)⟩
 | f::fs,o,tot,ht,hl,h=>by
  simp only [tiles,Bool.and_eq_true] at ht
  obtain ⟨ho,ht⟩:=ht
  have ho:=Nat.eq_of_beq_eq_true ho
  obtain ⟨ys,h1,h2,h3⟩:=h f (List.mem_cons_self ..)
  obtain ⟨zs,k1,k2,k3⟩:=shF_of fs _ tot ht hl (fun g hg=>h g (List.mem_cons_of_mem _ hg))
  refine ⟨ys++zs,⟨ys,zs,h1,k1,rfl⟩,allOne_append h2 k2,?_⟩
  rw [ho] at h3
  have e:vs.drop o=(vs.drop o).take (P.cellsOf f.type)++vs.drop (o+P.cellsOf f.type):=by
   rw [← List.drop_drop]; exact (List.take_append_drop _ _).symm
  rw [e]
  exact CVl.append h3 k3
where allOne_append:∀ {xs ys:List AV},allOne xs=true→allOne ys=true→allOne (xs++ys)=true
 | [],ys,_,h=>h
 | x::xs,ys,h,k=>by
  simp only [allOne,Bool.and_eq_true,List.cons_append] at h ⊢
  exact ⟨h.1,allOne_append h.2 k⟩
theorem shE_of {S:Pin} {sh:List AV→Prop} {s:Nat}:∀ (n:Nat) (vs:List Value),vs.length=n*s→(∀ i,i < n→∃ ys,sh ys∧allOne ys=true∧CVl S ys noNm ((vs.drop (i*s)).take s)) →
  ∃ cs,ShE sh n cs∧allOne cs=true∧CVl S cs noNm vs
 | 0,vs,hl,_=>⟨[],rfl,rfl,by simp only [CVl]; exact List.eq_nil_of_length_eq_zero (by omega)⟩
 | n+1,vs,hl,h=>by
  obtain ⟨ys,h1,h2,h3⟩:=h 0 (by omega)
  have hl':vs.length=n*s+s:=by rw [hl,Nat.succ_mul]
  obtain ⟨zs,k1,k2,k3⟩:=shE_of n (vs.drop s) (by rw [List.length_drop,hl',Nat.add_sub_cancel]) (fun i hi=>by
   obtain ⟨q,q1,q2,q3⟩:=h (i+1) (by omega)
   refine ⟨q,q1,q2,?_⟩
   rw [List.drop_drop,show s+i*s=(i+1)*s by rw [Nat.succ_mul]; omega]
   exact q3)
  refine ⟨ys++zs,⟨ys,zs,h1,k1,rfl⟩,shF_of.allOne_append h2 k2,?_⟩
  rw [Nat.zero_mul,List.drop_zero] at h3
  have e:vs=vs.take s++vs.drop s:=(List.take_append_drop _ _).symm
  rw [e]
  exact CVl.append h3 k3
theorem list_of {α:Type} {p:Nat→α→Prop}:∀ (n:Nat),(∀ i,i < n→∃ x,p i x)→∃ xs:List α,xs.length=n∧∀ i x,xs[i]?=some x→p i x
 | 0,_=>⟨[],rfl,by simp⟩
 | n+1,h=>by
  obtain ⟨xs,h1,h2⟩:=list_of n (fun i hi=>h i (by omega))
  obtain ⟨x,hx⟩:=h n (by omega)
  refine ⟨xs++[x],by simp [h1],fun i y hy=>?_⟩
  rcases Nat.lt_or_ge i xs.length with hi | hi
  ·rw [List.getElem?_append_left hi] at hy; exact h2 i y hy
  ·rw [List.getElem?_append_right hi] at hy
   rcases Nat.eq_zero_or_pos (i - xs.length) with h0 | h0
   ·rw [h0] at hy
    simp only [List.getElem?_cons_zero,Option.some.injEq] at hy
    rw [← hy,show i=n by omega]; exact hx
   ·rw [List.getElem?_eq_none (by simp; omega)] at hy; cases hy
section
variable {H:Type} {enc:TypeId × Value→H} {P:Program} {w:World} {base:Nat} {held:Bool}
theorem rng_wf {k:IntKind} {z:Int} (h:(Lit.int k z).wf=true):rng k z:=by
 rw [rng_iff]
 simp only [Lit.wf,Bool.and_eq_true,decide_eq_true_eq] at h
 exact h
def mkA (P:Program) (t:TypeId) (cs:List AV):AV:=cond (isAg P t) (.agg cs) (match cs with | [x]=>x | _=>.dead)
theorem trodAll_stay (hl:laidOutB P=true) {w':World} (hb:Below w.heap.size w w'):∀ (ts:List TypeId) (vs:List Value) (ds:List (DataW H)) (ps:List MemPlace),(ts.all fun t=>P.readableRec t&&decide (t < P.types.size))=true →
  DataW.TrodAll enc P w 0 (fun _=>true) true ts vs ds ps→DataW.TrodAll enc P w' 0 (fun b=>decide (b < w.heap.size)) true ts vs ds ps
 | [],[],[],ps,_,h=>h
 | t::ts,v::vs,d::ds,ps,hs,h=>by
  simp only [List.all_cons,Bool.and_eq_true,decide_eq_true_eq] at hs
  obtain ⟨p,q,h1,h2,h3⟩:=h
  have hlt:∀ x ∈ p,x.block < w.heap.size:=by obtain ⟨m,hm⟩:=h1; exact DataW.trod_lt m _ _ _ hm
  exact ⟨p,q,Below.trod hl hs.1.1 hs.1.2 h1 hb hlt,trodAll_stay hl hb ts vs ds q hs.2 h2,h3⟩
 | [],v::vs,ds,ps,_,h=>by cases ds <;> simp [DataW.TrodAll] at h
 | [],[],d::ds,ps,_,h=>by simp [DataW.TrodAll] at h
 | t::ts,[],ds,ps,_,h=>by cases ds <;> simp [DataW.TrodAll] at h
 | t::ts,v::vs,[],ps,_,h=>by simp [DataW.TrodAll] at h
def suppG (P:Program):Nat→TypeId→Bool
 | 0,_=>false
 | n+1,t=>match P.underlying t with
  | some .bool=>true
  | some (.int _)=>true
  | some .string=>true
  | some (.struct fs)=>tiles P fs.toList 0 (P.cellsOf t)&&fs.toList.all fun f=>suppG P n f.type
  | some (.array m e)=>Nat.beq (m*P.cellsOf e) (P.cellsOf t)&&suppG P n e
  | _=>false
mutual
def flatD:DataW H→List AV
 | .lit (.bool b)=>[.bool b]
 | .lit (.int k z)=>[.int k z]
 | .lit (.string l)=>[.str ⟨l.toArray⟩]
 | .agg ds=>flatDs ds
 | _=>[.dead]
def flatDs:List (DataW H)→List AV
 | []=>[]
 | d::ds=>flatD d++flatDs ds
end
theorem flatF {S:Pin} {vs:List Value}:∀ (fs:List Field) (ds:List (DataW H)) (o tot:Nat),tiles P fs o tot=true→vs.length=tot→ds.length=fs.length →
  (∀ (i:Nat) (f:Field) (d:DataW H),fs[i]?=some f→ds[i]?=some d→CVl S (flatD d) noNm ((vs.drop f.offset).take (P.cellsOf f.type)))→CVl S (flatDs ds) noNm (vs.drop o)
 | [],[],o,tot,ht,hl,_,_=>by
  simp only [tiles] at ht
  have:=Nat.eq_of_beq_eq_true ht
  simp only [flatDs,CVl]; exact List.drop_eq_nil_of_le (by omega)
 | f::fs,d::ds,o,tot,ht,hl,hd,h=>by
  simp only [tiles,Bool.and_eq_true] at ht
  obtain ⟨ho,ht⟩:=ht
  have ho:=Nat.eq_of_beq_eq_true ho
  have h1:=h 0 f d rfl rfl
  have h2:=flatF fs ds _ tot ht hl (by simpa using hd) (fun i g d' hg hd'=>h (i+1) g d' (by simpa using hg) (by simpa using hd'))
  rw [ho] at h1
  have e:vs.drop o=(vs.drop o).take (P.cellsOf f.type)++vs.drop (o+P.cellsOf f.type):=by
   rw [← List.drop_drop]; exact (List.take_append_drop _ _).symm
  rw [e]
  simp only [flatDs]
  exact CVl.append h1 h2
 | [],_::_,_,_,_,_,hd,_=>by simp at hd
 | _::_,[],_,_,_,_,hd,_=>by simp at hd
theorem flatE {S:Pin} {s:Nat}:∀ (ds:List (DataW H)) (vs:List Value),vs.length=ds.length*s→(∀ (i:Nat) (d:DataW H),ds[i]?=some d→CVl S (flatD d) noNm ((vs.drop (i*s)).take s))→CVl S (flatDs ds) noNm vs
 | [],vs,hl,_=>by simp only [flatDs,CVl]; exact List.eq_nil_of_length_eq_zero (by simpa using hl)
 | d::ds,vs,hl,h=>by
  have h1:=h 0 d rfl
  have hl':vs.length=ds.length*s+s:=by rw [hl,List.length_cons,Nat.succ_mul]
  have h2:=flatE (S:=S) (s:=s) ds (vs.drop s) (by rw [List.length_drop]; omega) (fun i d' hd=>by
   have:=h (i+1) d' (by simpa using hd)
   rw [List.drop_drop,show s+i*s=(i+1)*s by rw [Nat.succ_mul]; omega]
   exact this)
  rw [Nat.zero_mul,List.drop_zero] at h1
  have e:vs=vs.take s++vs.drop s:=(List.take_append_drop _ _).symm
  rw [e]
  simp only [flatDs]
  exact CVl.append h1 h2
theorem flat_of_trod {S:Pin} {spare:Nat→Bool}:∀ (n:Nat) (t:TypeId) (fuel:Nat) (vs:List Value) (x:DataW H × List MemPlace),suppG P n t=true→DataW.trod enc P w base spare held fuel t vs=some x→CVl S (flatD x.1) noNm vs
 | 0,t,_,_,_,hs,_=>by simp [suppG] at hs
 | n+1,t,fuel,vs,x,hs,h=>by
  unfold suppG at hs
  split at hs
  ·next ht =>
   obtain ⟨b,rfl,rfl⟩:=DataW.trod_bool ht h
   exact ⟨_,_,rfl,rfl,rfl⟩
  ·next k ht =>
   obtain ⟨z,rfl,rfl,hw⟩:=DataW.trod_int ht h
   exact ⟨_,_,rfl,⟨rfl,rng_wf hw⟩,rfl⟩
  ·next ht =>
   obtain ⟨s,rfl,rfl,hw⟩:=DataW.trod_string ht h
   exact ⟨_,_,rfl,⟨by simp,by simpa using hw⟩,rfl⟩
  ·next fs ht =>
   simp only [Bool.and_eq_true,List.all_eq_true] at hs
   obtain ⟨xs,m,_,rfl,hl,hxl,hf⟩:=DataW.trod_struct ht h
   have:=flatF (S:=S) (vs:=vs) fs.toList (xs.map (·.1)) 0 _ hs.1 hl (by simpa using hxl) (fun i f d hi hd=>by
    have h1:=hf i f (by simpa using hi)
    rw [List.getElem?_map] at hd
    cases hx:xs[i]? with
    | none=>rw [hx] at hd; cases hd
    | some y =>
     rw [hx] at hd h1
     simp only [Option.map_some,Option.some.injEq] at hd
     subst hd
     exact flat_of_trod n f.type m _ _ (hs.2 f (List.mem_of_getElem? hi)) h1)
   simpa [flatD] using this
  ·next m e ht =>
   simp only [Bool.and_eq_true] at hs
   obtain ⟨xs,q,_,rfl,hl,hxl,hf⟩:=DataW.trod_array ht h
   have hsz:=Nat.eq_of_beq_eq_true hs.1
   have:=flatE (S:=S) (s:=P.cellsOf e) (xs.map (·.1)) vs (by simp only [List.length_map]; rw [hxl]; omega) (fun i d hd=>by
    rw [List.getElem?_map] at hd
    cases hx:xs[i]? with
    | none=>rw [hx] at hd; cases hd
    | some y =>
     have hi:i < m:=by have:=(List.getElem?_eq_some_iff.1 hx).1; omega
     have h1:=hf i hi
     rw [hx] at hd h1
     simp only [Option.map_some,Option.some.injEq] at hd
     subst hd
     exact flat_of_trod n e q _ _ hs.2 h1)
   simpa [flatD] using this
  ·cases hs
end
theorem intsA_of {xs:List (List AV)} (h:∀ x ∈ xs,∃ z,rng .i64 z∧x=[.int .i64 z]):IntsA xs:=fun x hx=>by
 obtain ⟨z,h1,h2⟩:=h x hx
 exact ⟨z,h2,h1⟩
theorem glob_cells {W:World} {g:Nat} {cs:Array Value} {az:List AV} (hc:∀ i,W.cell? ⟨g,i,none⟩=cs[i]?) (h:CVl (pinAll W) az noNm cs.toList) (h1:allOne az=true):CC (pinAll W) az g 0:=by
 refine CC.mk fun j x hx=>?_
 obtain ⟨u,hu,hcv⟩:=CVl.get h hx
 have h2:=hc j
 rw [show cs[j]?=some u by simpa using hu] at h2
 rw [Nat.zero_add]
 exact ⟨u,pinAll_some h2 (allOne_cv h h1 u (List.mem_of_getElem? hu)),hcv⟩
end Go.Proofs.YtldiagnbagpliaaGreatDoor
namespace Go.Proofs.YtldiagnbagpliaaGreatDoor
open Go
open Go.ChangeShapes Go.WideShapes
open Go.RowKit (Below)
set_option linter.unusedVariables false
set_option linter.unusedSimpArgs false
def okW (P:Program):Nat→TypeId→Bool
 | 0,_=>false
 | n+1,t=>match P.underlying t with
  | some (.slice e)=>Nat.blt 0 (P.bytesOf e)&&okW P n e
  | some (.struct fs)=>fs.toList.all fun f=>okW P n f.type
  | some (.array m e)=>okW P n e
  | _=>true
def ShB (P:Program):Nat→TypeId→List AV→Prop
 | 0,_,_=>False
 | n+1,t,cs=>match P.underlying t with
  | some .bool=>∃ b,cs=[.bool b]
  | some (.int k)=>∃ z,rng k z∧cs=[.int k z]
  | some .string=>∃ s:ByteArray,s.size≤140737488355328∧cs=[.str s]
  | some (.slice e)=>∃ xs:List (List AV),xs.length≤140737488355328∧(∀ x ∈ xs,ShB P n e x)∧cs=[.sl (P.cellsOf e) false xs]
  | some (.struct fs)=>ShF P (ShB P n) fs.toList cs
  | some (.array m e)=>ShE (ShB P n e) m cs
  | _=>False
theorem weightsAll_mem {H:Type} {P:Program} {e:TypeId}:∀ {ds:List (DataW H)} {d:DataW H} {k:Nat},d ∈ ds→k ∈ d.weights P e→k ∈ DataW.weightsAll P e ds
 | d0::ds,d,k,hd,hk=>by
  simp only [DataW.weightsAll,List.mem_append]
  rcases List.mem_cons.1 hd with rfl | h
  ·exact .inl hk
  ·exact .inr (weightsAll_mem h hk)
theorem wE_app {H:Type} {P:Program} {us:List TypeId} {gs:List (DataW H)} {k:Nat}:∀ {ts:List TypeId} {ds:List (DataW H)},k ∈ DataW.weightsEach P ts ds→k ∈ DataW.weightsEach P (ts++us) (ds++gs)
 | t::ts,d::ds,h=>by
  simp only [DataW.weightsEach,List.mem_append,List.cons_append] at h ⊢
  rcases h with h | h
  ·exact .inl h
  ·exact .inr (wE_app h)
 | [],_,h=>by simp [DataW.weightsEach] at h
 | _::_,[],h=>by simp [DataW.weightsEach] at h
section
variable {H:Type} {enc:TypeId × Value→H} {P:Program} {w:World} {base:Nat} {held:Bool}
theorem in_of_trodB:∀ (n:Nat) (t:TypeId) (fuel:Nat) (vs:List Value) (x:DataW H × List MemPlace),supp P n t=true→okW P n t=true→(∀ k ∈ x.1.weights P t,k≤reachBytes)→DataW.trod enc P w base (fun _=>true) held fuel t vs=some x →
  ∃ cs,ShB P n t cs∧allOne cs=true∧CVl (pinAll w) cs noNm vs
 | 0,t,_,_,_,hs,_,_,_=>by simp [supp] at hs
 | n+1,t,fuel,vs,x,hs,ho,hw0,h=>by
  unfold supp at hs
  unfold okW at ho
  unfold ShB
  split at hs
  ·next ht =>
   try rw [ht]
   obtain ⟨b,rfl,_⟩:=DataW.trod_bool ht h
   exact ⟨[.bool b],⟨b,rfl⟩,rfl,_,_,rfl,rfl,rfl⟩
  ·next k ht =>
   try rw [ht]
   obtain ⟨z,rfl,_,hw⟩:=DataW.trod_int ht h
   exact ⟨[.int k z],⟨z,rng_wf hw,rfl⟩,rfl,_,_,rfl,⟨rfl,rng_wf hw⟩,rfl⟩
  ·next ht =>
   try rw [ht]
   obtain ⟨s,rfl,hx,hw⟩:=DataW.trod_string ht h
   subst hx
   have hz:s.size≤140737488355328:=by
    have:=hw0 s.data.toList.length (by simp [DataW.weights])
    unfold reachBytes at this
    simp at this
    omega
   exact ⟨[.str s],⟨s,hz,rfl⟩,rfl,_,_,rfl,⟨rfl,hw⟩,rfl⟩
  ·next e ht =>
   try rw [ht]
   rw [ht] at ho
   simp only [Bool.and_eq_true] at hs ho
   have hb0:0 < P.bytesOf e:=by have:=ho.1; simp [Nat.blt] at this; omega
   have hs0:0 < P.cellsOf e:=by have:=hs.1; simp [Nat.blt] at this; omega
   rcases DataW.trod_slice ht h with ⟨rfl,_⟩ | ⟨a,len,cap,elems,rest,m,_,rfl,hxx,hb,hl,hc,hlen,hel,hsp,hns⟩
   ·refine ⟨[.sl (P.cellsOf e) false []],⟨[],by simp,by simp,rfl⟩,rfl,_,_,rfl,⟨none,0,rfl,by simp,by simp,(fun h=>by cases h),(fun _=>rfl),(fun a ha=>by cases ha)⟩,rfl⟩
   ·subst hxx
    have hwt:(elems.length+rest.length)*P.bytesOf e≤reachBytes:=hw0 _ (by simp [DataW.weights,ht])
    have hel2:elems.length≤140737488355328:=by
     have h1:(elems.length+rest.length)*1≤(elems.length+rest.length)*P.bytesOf e:=Nat.mul_le_mul (Nat.le_refl _) hb0
     unfold reachBytes at hwt
     omega
    have each:∀ i,i < len→∃ x,(ShB P n e x)∧∃ cs',w.cells? base (a.add (i*P.cellsOf e)) (P.cellsOf e)=some cs'∧allOne x=true∧CVl (pinAll w) x noNm cs':=by
     intro i hi
     have h1:=hel i hi
     have hx:elems[i]?=some (elems[i]'(by omega)):=List.getElem?_eq_getElem (by omega)
     rw [hx,Option.bind_eq_some_iff] at h1
     obtain ⟨cs',h2,h3⟩:=h1
     obtain ⟨y,k1,k2,k3⟩:=in_of_trodB n e m cs' _ hs.2 ho.2 (fun k hk=>hw0 k (by
      simp only [DataW.weights,ht]
      exact List.mem_cons_of_mem _ (List.mem_append_left _ (weightsAll_mem (List.mem_map_of_mem (List.getElem_mem (by omega))) hk)))) h3
     exact ⟨y,k1,cs',h2,k2,k3⟩
    obtain ⟨xs,hx1,hx2⟩:=list_of len each
    have hmem:∀ x ∈ xs,ShB P n e x:=by
     intro x hx
     obtain ⟨i,hi⟩:=List.getElem?_of_mem hx
     exact (hx2 i x hi).1
    refine ⟨[.sl (P.cellsOf e) false xs],⟨xs,by omega,hmem,rfl⟩,rfl,_,_,rfl,⟨some a,cap,by rw [hx1],by omega,hc,(fun h=>by cases h),(fun h=>by cases h),fun a' ha=>?_⟩,rfl⟩
    cases ha
    have key:∀ (j:Nat) (x:List AV),xs[j]?=some x→∃ cs':List Value,cs'.length=P.cellsOf e∧CVl (pinAll w) x noNm cs'∧allOne x=true∧∀ i,i < P.cellsOf e→w.cell? ((a.add (j*P.cellsOf e)).add i)=cs'[i]?:=by
     intro j x hj
     obtain ⟨_,cs',h2,h3,h4⟩:=hx2 j x hj
     obtain ⟨_,q1,q2⟩:=World.cells?_some h2
     exact ⟨cs',q1,h4,h3,q2⟩
    have spot:cap≠0→a.spot=none:=by
     intro h0
     have h1:∃ cs',w.cells? base (a.add (0*P.cellsOf e)) (P.cellsOf e)=some cs':=by
      rcases Nat.eq_zero_or_pos len with hl0 | hl0
      ·obtain ⟨hr,hr2⟩:=hsp rfl
       have h1:=hr2 0 (by omega)
       have hx:rest[0]?=some (rest[0]'(by omega)):=List.getElem?_eq_getElem (by omega)
       rw [hx,Option.bind_eq_some_iff] at h1
       obtain ⟨cs',h2,_⟩:=h1
       exact ⟨cs',by rw [← h2,hl0]⟩
      ·have h1:=hel 0 hl0
       have hx:elems[0]?=some (elems[0]'(by omega)):=List.getElem?_eq_getElem (by omega)
       rw [hx,Option.bind_eq_some_iff] at h1
       obtain ⟨cs',h2,_⟩:=h1
       exact ⟨cs',h2⟩
     obtain ⟨cs',h2⟩:=h1
     obtain ⟨_,q1,q2⟩:=World.cells?_some h2
     have h3:=q2 0 hs0
     rw [List.getElem?_eq_getElem (by omega)] at h3
     have h4:=World.cell?_spot h3
     simpa [Addr.add] using h4
    refine ⟨spot,CE.mk fun j x hj=>?_⟩
    obtain ⟨cs',k1,k2,k3,k4⟩:=key j x hj
    have hxl:x.length=P.cellsOf e:=by rw [← k1]; exact (CVl.len k2).symm
    refine ⟨hxl,CC.mk fun i y hy=>?_⟩
    obtain ⟨u,hu,hcv⟩:=CVl.get k2 hy
    have hi:i < P.cellsOf e:=by have:=(List.getElem?_eq_some_iff.1 hy).1; omega
    have hj':j < len:=by have:=(List.getElem?_eq_some_iff.1 hj).1; omega
    have hsp:=spot (by omega)
    obtain ⟨b,o,sp⟩:=a
    simp only at hsp
    subst hsp
    have h5:=k4 i hi
    rw [add_none,add_none,hu] at h5
    exact ⟨u,pinAll_some h5 (allOne_cv k2 k3 u (List.mem_of_getElem? hu)),hcv⟩
  ·next fs ht =>
   try rw [ht]
   rw [ht] at ho
   simp only [Bool.and_eq_true,List.all_eq_true] at hs ho
   obtain ⟨xs,m,_,hxx,hl,hxl,hf⟩:=DataW.trod_struct ht h
   obtain ⟨cs,k1,k2,k3⟩:=shF_of (S:=pinAll w) (sh:=ShB P n) (vs:=vs) fs.toList 0 _ hs.1 hl (fun f hfm=>by
    obtain ⟨i,hi⟩:=List.getElem?_of_mem hfm
    have h1:=hf i f (by simpa using hi)
    have hi':i < fs.size:=by have:=(List.getElem?_eq_some_iff.1 hi).1; simpa using this
    rw [List.getElem?_eq_getElem (by omega:i < xs.length)] at h1
    exact in_of_trodB n f.type m _ _ (hs.2 f hfm) (ho f hfm) (fun k hk=>hw0 k (by
     rw [hxx]
     simp only [DataW.weights,ht]
     exact DataW.weights_mem_each (j:=i) (t:=f.type) (d:=xs[i].1) (by rw [List.getElem?_map,hi]; rfl) (by rw [List.getElem?_map,List.getElem?_eq_getElem (by omega)]; rfl) k hk)) h1)
   exact ⟨cs,k1,k2,by simpa using k3⟩
  ·next m e ht =>
   try rw [ht]
   rw [ht] at ho
   simp only [Bool.and_eq_true] at hs ho
   obtain ⟨xs,q,_,hxx,hl,hxl,hf⟩:=DataW.trod_array ht h
   have hsz:=Nat.eq_of_beq_eq_true hs.1
   exact shE_of (S:=pinAll w) (sh:=ShB P n e) (s:=P.cellsOf e) m vs (by omega) (fun i hi=>by
    have h1:=hf i hi
    rw [List.getElem?_eq_getElem (by omega:i < xs.length)] at h1
    exact in_of_trodB n e q _ _ hs.2 ho (fun k hk=>hw0 k (by
     rw [hxx]
     simp only [DataW.weights,ht]
     exact weightsAll_mem (List.mem_map_of_mem (List.getElem_mem (by omega))) hk)) h1)
  ·cases hs
def ShAllB (P:Program):List TypeId→(List AV→Prop)→Prop
 | [],K=>K []
 | t::ts,K=>∀ cs,ShB P 50 t cs→ShAllB P ts fun xs=>K (mkA P t cs::xs)
theorem in_oneB {r:Reach} {b0 n:Nat} {t:TypeId} {v:Value} {fuel:Nat} {x:DataW H × List MemPlace} (hs:supp P n t=true) (ho:okW P n t=true) (hw0:∀ k ∈ x.1.weights P t,k≤reachBytes) (hv:Value.okWide P w r b0 t v) (h:DataW.trod enc P w base (fun _=>true) held fuel t v.cells.toList=some x) :
  ∃ cs,ShB P n t cs∧CV (pinAll w) (mkA P t cs) noNm v:=by
 obtain ⟨cs,h1,h2,h3⟩:=in_of_trodB n t fuel _ x hs ho hw0 h
 refine ⟨cs,h1,?_⟩
 have one:isAg P t=false→v.cells=#[v]→CV (pinAll w) (mkA P t cs) noNm v:=by
  intro ha hc
  rw [hc] at h3
  unfold mkA
  rw [ha]
  match cs,h3 with
  | [y],h3 =>
   simp only [CVl] at h3
   obtain ⟨u,us,e,hy,hn⟩:=h3
   simp at e
   rw [e.1]; exact hy
  | [],h3=>simp [CVl] at h3
  | _::_::_,h3 =>
   simp [CVl] at h3
   obtain ⟨u,us,⟨_,e⟩,_,u',us',e',_⟩:=h3
   rw [e] at e'; cases e'
 have agg:isAg P t=true→∀ us,v=.agg us→CV (pinAll w) (mkA P t cs) noNm v:=by
  intro ha us e
  subst e
  unfold mkA
  rw [ha]
  exact ⟨us,rfl,h3⟩
 unfold Value.okWide at hv
 cases n with
 | zero=>simp [supp] at hs
 | succ n =>
  unfold supp at hs
  split at hs
  ·next ht =>
   rw [ht] at hv
   simp only [Cell.okWide,Cell.ok,ht] at hv
   refine one (by unfold isAg; rw [ht]) ?_
   split at hv <;> first | rfl | (split at hv <;> first | rfl | cases hv) | cases hv
  ·next k ht =>
   rw [ht] at hv
   simp only [Cell.okWide,Cell.ok,ht] at hv
   refine one (by unfold isAg; rw [ht]) ?_
   split at hv <;> first | rfl | (split at hv <;> first | rfl | cases hv) | cases hv
  ·next ht =>
   rw [ht] at hv
   simp only [Cell.okWide,Cell.ok,ht] at hv
   refine one (by unfold isAg; rw [ht]) ?_
   split at hv <;> first | rfl | (split at hv <;> first | rfl | cases hv) | cases hv
  ·next e ht =>
   rw [ht] at hv
   simp only [Cell.okWide,Cell.ok,ht] at hv
   refine one (by unfold isAg; rw [ht]) ?_
   split at hv <;> first | rfl | (split at hv <;> first | rfl | cases hv) | cases hv
  ·next fs ht =>
   rw [ht] at hv
   obtain ⟨us,e,_⟩:=hv
   exact agg (by unfold isAg; rw [ht]) us e
  ·next m e ht =>
   rw [ht] at hv
   obtain ⟨us,e,_⟩:=hv
   exact agg (by unfold isAg; rw [ht]) us e
  ·cases hs
theorem in_allB {r:Reach} {b0:Nat}:∀ (ts:List TypeId) (vs:List Value) (ds:List (DataW H)) (ps:List MemPlace) (K:List AV→Prop),(ts.all fun t=>supp P 50 t&&okW P 50 t)=true→(∀ k ∈ DataW.weightsEach P ts ds,k≤reachBytes)→DataW.TrodAll enc P w base (fun _=>true) held ts vs ds ps →
  (∀ (j:Nat) t v,ts[j]?=some t→vs[j]?=some v→Value.okWide P w r b0 t v)→ShAllB P ts K→∃ xs,K xs∧CVl (pinAll w) xs noNm vs
 | [],[],[],ps,K,_,_,h,_,hK=>⟨[],hK,by simp only [CVl]⟩
 | t::ts,v::vs,d::ds,ps,K,hs,hw0,h,hv,hK=>by
  simp only [List.all_cons,Bool.and_eq_true] at hs
  obtain ⟨p,q,⟨fuel,h1⟩,h2,_⟩:=h
  obtain ⟨cs,k1,k2⟩:=in_oneB hs.1.1 hs.1.2 (fun k hk=>hw0 k (by simp only [DataW.weightsEach]; exact List.mem_append_left _ hk)) (hv 0 t v rfl rfl) h1
  obtain ⟨xs,q1,q2⟩:=in_allB ts vs ds q (fun xs=>K (mkA P t cs::xs)) hs.2 (fun k hk=>hw0 k (by simp only [DataW.weightsEach]; exact List.mem_append_right _ hk)) h2 (fun j t v ht hv'=>hv (j+1) t v (by simpa using ht) (by simpa using hv')) (hK cs k1)
  exact ⟨_,q1,by simp only [CVl]; exact ⟨v,vs,rfl,k2,q2⟩⟩
 | [],v::vs,ds,ps,K,_,_,h,_,_=>by cases ds <;> simp [DataW.TrodAll] at h
 | [],[],d::ds,ps,K,_,_,h,_,_=>by simp [DataW.TrodAll] at h
 | t::ts,[],ds,ps,K,_,_,h,_,_=>by cases ds <;> simp [DataW.TrodAll] at h
 | t::ts,v::vs,[],ps,K,_,_,h,_,_=>by simp [DataW.TrodAll] at h
theorem law_callsB {gl:Glob} {f:FuncId} {r:Reach} {b0:Nat} {ts:List TypeId} {args:Array Value} {ds:List (DataW H)} {ps:List MemPlace} (hs:(ts.all fun t=>supp P 50 t&&okW P 50 t)=true) (hw0:∀ k ∈ DataW.weightsEach P ts ds,k≤reachBytes) (hg:GOKg gl (pinAll w))
  (h:ShAllB P ts fun xs=>PureC P gl f xs (.bool true)) (hA:DataW.TrodAll enc P w base (fun _=>true) held ts args.toList ds ps)
  (hv:∀ (j:Nat) t v,ts[j]?=some t→args.toList[j]?=some v→Value.okWide P w r b0 t v) :
  Calls P f args w fun e w'=>e=.returned (.bool true)∧Below w.heap.size w w':=by
 obtain ⟨xs,h1,h2⟩:=in_allB ts _ ds ps _ hs hw0 hA hv h
 refine (h1 w (pinAll w) args hg (agree_all w) h2).mono fun e w' h=>?_
 obtain ⟨u,S',h3,h4,_,_,_,h5⟩:=h
 simp only [CV] at h5
 exact ⟨by rw [h3,h5],h4⟩
end
end Go.Proofs.YtldiagnbagpliaaGreatDoor
namespace Go.Proofs.YtldiagnbagpliaaGreatDoor
open Go
set_option linter.unusedVariables false
set_option linter.unusedSimpArgs false
structure RdA (bs:LLR):Prop where
 row:∀ i,i < bs.length→∃ e v:Int,bs.getD i []=[.int .i64 e,.int .i64 v]∧rng .i64 e∧rng .i64 v
 sm:bs.length≤140737488355328
structure PdsA (ps:LLR):Prop where
 fr:∀ i,i < ps.length→∃ (fr:Int) (cl:Bool) (f a b c:Int) (bs:LLR),ps.getD i []=pdA fr cl f a b c bs∧RdA bs
 fs:ps.length≤140737488355328
structure StsA (l:LLR):Prop where
 fr:∀ i,i < l.length→∃ (k:Int) (nm:ByteArray) (ps:LLR),l.getD i []=stA k nm ps∧nm.size≤140737488355328∧PdsA ps
 fs:l.length≤140737488355328
structure PsOk (ps:LLR) (k:Int):Prop where
 fl:ps.length≤500
 fb:∀ q:Nat,(q:Int) < k→(pB (ps.getD q [])).length≤500
structure SmaQ (l:LLR) (b:Bool):Prop where
 fb:b=true→StsP l∧l.length≤400
structure SmoI (l:LLR) (x:Int × Int):Prop where
 fi:0≤x.1∧x.1≤l.length
 fn:(l.length:Int)≤x.2∧x.2≤281474976711156
 fo:x.2 < 500→∀ j:Nat,(j:Int) < x.1→PsOk (hoP l j) (hoP l j).length
structure SmiI (l:LLR) (i:Int) (x:Int × Int):Prop where
 fi:0≤x.1∧x.1≤(hoP l i.toNat).length
 fn:(l.length:Int)≤x.2∧x.2≤281474976711156
 fr:0≤i∧i < l.length
 fo:x.2 < 500→PsOk (hoP l i.toNat) x.1∧∀ j:Nat,(j:Int) < i→PsOk (hoP l j) (hoP l j).length
def sm3o (l:LLR) (g:Bool):LInv:=⟨Int × Int,fun x=>⟨[(1,.ptr 1001 0),(3,.int .i64 x.2),(4,.int .i64 x.1)],[(1001,.cells [.sl 3 g l])]⟩,SmoI l,fun x=>(l.length - x.1).toNat,none⟩
def sm7i (l:LLR) (g:Bool) (i:Int):LInv:=⟨Int × Int,fun x=>⟨[(1,.ptr 1001 0),(3,.int .i64 x.2),(4,.int .i64 i),(5,.int .i64 x.1)],[(1001,.cells [.sl 3 g l])]⟩,SmiI l i,fun x=>((hoP l i.toNat).length - x.1).toNat,none⟩
def dsreg_s:SpQ
 | [.agg [.sl 3 g l]],[]=>some (fun K=>(StsA l)∧(∀ (b:Bool),(SmaQ l b)→K (.bool b) []))
 | _,_=>none
def dsreg_T:Prop :=
  ∀ (gl:Glob) (g:Bool) (l:List (List AV)),StsA l→(∃ x,SmoI l x∧((0:Nat)=0∧(↑l.length:Int)=x.snd∧(0:Int)=x.fst∧True)∧(((bif g then g=true else True)∧l=l)∧True)∧True)∧∀ (x:Int × Int),SmoI l x→bif decide (x.fst < (↑l.length:Int)) then bif decide (x.snd < (500:Int)) then bif decide (0≤x.fst∧x.fst < (↑l.length:Int)) then ∃ xs,List.take [AV.sl (7:Nat) false xs].length (List.drop (2:Nat)
 (l.getD x.fst.toNat []))=[AV.sl (7:Nat) false xs]∧bif decide (0≤x.fst∧x.fst < (↑l.length:Int)) then ∃ s,List.take [AV.str s].length (List.drop (1:Nat) (l.getD x.fst.toNat []))=[AV.str s]∧bif decide (rng .i64 ((↑xs.length:Int)+(↑s.size:Int))) then bif decide (rng .i64 (x.snd+((↑xs.length:Int)+(↑s.size:Int)))) then (∃ x_1,SmiI l x.fst x_1∧((0:Nat)=0∧x.snd+((↑xs.length:Int) +
 (↑s.size:Int))=x_1.snd∧x.fst=x.fst∧(0:Int)=x_1.fst∧True)∧(((bif g then g=true else True)∧l=l)∧True)∧True)∧∀ (x_1:Int × Int),SmiI l x.fst x_1→bif decide (0≤x.fst∧x.fst < (↑l.length:Int)) then ∃ xs,List.take [AV.sl (7:Nat) false xs].length (List.drop (2:Nat) (l.getD x.fst.toNat []))=[AV.sl (7:Nat) false xs]∧bif decide (x_1.fst < (↑xs.length:Int)) then bif decide (x_1.snd < (500:Int)) then
 bif decide (0≤x.fst∧x.fst < (↑l.length:Int)) then ∃ xs,List.take [AV.sl (7:Nat) false xs].length (List.drop (2:Nat) (l.getD x.fst.toNat []))=[AV.sl (7:Nat) false xs]∧bif decide (0≤x_1.fst∧x_1.fst < (↑xs.length:Int)) then ∃ xs_1,List.take [AV.sl (2:Nat) false xs_1].length (List.drop (6:Nat) (xs.getD x_1.fst.toNat []))=[AV.sl (2:Nat) false xs_1]∧bif decide (rng .i64 (x_1.snd +
 (↑xs_1.length:Int))) then bif decide (rng .i64 (x_1.fst+(1:Int))) then ∃ y,SmiI l x.fst y∧((fun i=>sm7i l g i) x.fst).m y < ((fun i=>sm7i l g i) x.fst).m x_1∧((0:Nat)=0∧x_1.snd+(↑xs_1.length:Int)=y.snd∧x.fst=x.fst∧x_1.fst+(1:Int)=y.fst∧True)∧(((bif g then g=true else True)∧l=l)∧True)∧True else False else False else False else False else bif decide (rng .i64 (x.fst+(1:Int))) then ∃
 y,SmoI l y∧((fun x=>sm3o l g) (0:Int)).m y < ((fun x=>sm3o l g) (0:Int)).m x∧((0:Nat)=0∧x_1.snd=y.snd∧x.fst+(1:Int)=y.fst∧True)∧(((bif g then g=true else True)∧l=l)∧True)∧True else False else bif decide (rng .i64 (x.fst+(1:Int))) then ∃ y,SmoI l y∧((fun x=>sm3o l g) (0:Int)).m y < ((fun x=>sm3o l g) (0:Int)).m x∧((0:Nat)=0∧x_1.snd=y.snd∧x.fst+(1:Int)=y.fst∧True)∧(((bif g then g=true
 else True)∧l=l)∧True)∧True else False else False else False else False else False else False else ∃ b,SmaQ l b∧decide (x.snd≤(400:Int))=b∧True else ∃ b,SmaQ l b∧decide (x.snd≤(400:Int))=b∧True
theorem dsreg_P:dsreg_T:=by
 unfold dsreg_T
 intro gl g l hl
 have bg:cond g (g=true) True:=by cases g <;> trivial
 have fs:=hl.fs
 have fin:∀ x:Int × Int,SmoI l x→¬ (x.1 < l.length∧x.2 < 500)→∃ b,SmaQ l b∧decide (x.2≤400)=b∧True:=by
  intro x hx hn
  refine ⟨_,⟨fun hb=>?_⟩,rfl,trivial⟩
  have hb:=of_decide_eq_true hb
  have i0:=hx.fi
  have n0:=hx.fn
  have ok:=hx.fo (by omega)
  have hi:x.1=l.length:=by omega
  refine ⟨⟨fun i h=>?_,by omega⟩,by omega⟩
  obtain ⟨k,nm,ps,hr,_,hp⟩:=hl.fr i h
  have hP:hoP l i=ps:=by unfold hoP; rw [hr]; rfl
  have o:=ok i (by omega)
  rw [hP] at o
  refine ⟨k,nm,ps,hr,⟨fun q hq=>?_,by have:=o.fl; omega⟩⟩
  obtain ⟨fr,cl,f,a,b,c,bs,hr2,hb2⟩:=hp.fr q hq
  have hl2:=o.fb q (by omega)
  rw [hr2] at hl2
  have hl2:bs.length≤500:=hl2
  exact ⟨fr,cl,f,a,b,c,bs,hr2,⟨hb2.row,by omega⟩,by omega⟩
 refine ⟨⟨(0,l.length),⟨by simp,by simp only; omega,fun _ j h=>by simp only at h; omega⟩,by (repeat' (first | exact trivial | exact rfl | assumption | apply And.intro)),by (repeat' (first | exact trivial | exact rfl | assumption | apply And.intro)),trivial⟩,?_⟩
 intro x hx
 have i0:=hx.fi
 have n0:=hx.fn
 refine csx (fun hi=>csx (fun h5=>?_) (fun h5=>fin x hx (fun z=>h5 z.2))) (fun hi=>fin x hx (fun z=>hi z.1))
 obtain ⟨k,nm,ps,hr,hnm,hp⟩:=hl.fr x.1.toNat (by omega)
 have hP:hoP l x.1.toNat=ps:=by unfold hoP; rw [hr]; rfl
 have pfs:=hp.fs
 refine cd1 (by omega) ⟨ps,by rw [hr]; rfl,cd1 (by omega) ⟨nm,by rw [hr]; rfl,cdI (by omega) (cdI (by omega) ⟨⟨(0,x.2+(ps.length+nm.size)),⟨by rw [hP]; simp,by simp only; omega,by omega,fun z=>⟨⟨by rw [hP]; simp only at z; omega,fun q h=>by simp only at h; omega⟩,hx.fo (by simp only at z; omega)⟩⟩,by (repeat' (first | exact trivial | exact rfl | assumption | apply And.intro)),by (repeat' (first | exact trivial | exact rfl | assumption | apply And.intro)),trivial⟩,?_⟩)⟩⟩
 intro y hy
 have k0:=hy.fi
 have m0:=hy.fn
 rw [hP] at k0
 have nxt:¬ (y.1 < ps.length∧y.2 < 500)→∃ z,SmoI l z∧((fun x=>sm3o l g) 0).m z < ((fun x=>sm3o l g) 0).m x∧((0:Nat)=0∧y.2=z.2∧x.1+1=z.1∧True)∧(((bif g then g=true else True)∧l=l)∧True)∧True:=by
  intro hn
  refine ⟨(x.1+1,y.2),⟨by simp only; omega,by simp only; omega,fun z j hj=>?_⟩,by simp only [sm3o]; omega,by (repeat' (first | exact trivial | exact rfl | assumption | apply And.intro)),by (repeat' (first | exact trivial | exact rfl | assumption | apply And.intro)),trivial⟩
  simp only at z hj
  obtain ⟨o1,o2⟩:=hy.fo z
  rcases Nat.lt_or_ge j x.1.toNat with w | w
  ·exact o2 j (by omega)
  ·have e:j=x.1.toNat:=by omega
   subst e
   rw [hP] at o1 ⊢
   exact ⟨o1.fl,fun q hq=>o1.fb q (by omega)⟩
 refine cd1 (by omega) ⟨ps,by rw [hr]; rfl,csx (fun hk=>csx (fun h6=>?_) (fun h6=>cdI (by omega) (nxt fun z=>h6 z.2))) (fun hk=>cdI (by omega) (nxt fun z=>hk z.1))⟩
 obtain ⟨fr,cl,f,a,b,c,bs,hr2,hb2⟩:=hp.fr y.1.toNat (by omega)
 have bfs:=hb2.sm
 refine cd1 (by omega) ⟨ps,by rw [hr]; rfl,cd1 (by omega) ⟨bs,by rw [hr2]; rfl,cdI (by omega) (cdI (by omega) ⟨(y.1+1,y.2+bs.length),⟨by rw [hP]; simp only; omega,by simp only; omega,by omega,fun z=>?_⟩,by simp only [sm7i]; rw [hP]; omega,by (repeat' (first | exact trivial | exact rfl | assumption | apply And.intro)),by (repeat' (first | exact trivial | exact rfl | assumption | apply And.intro)),trivial⟩)⟩⟩
 simp only at z
 obtain ⟨o1,o2⟩:=hy.fo (by omega)
 refine ⟨⟨o1.fl,fun q hq=>?_⟩,o2⟩
 simp only at hq
 rcases Nat.lt_or_ge q y.1.toNat with w | w
 ·exact o1.fb q (by omega)
 ·have e:q=y.1.toNat:=by omega
  subst e
  rw [hP,hr2]
  show bs.length≤500
  omega
def dsreg_S:Prop:=∀ (gl:Glob) (g:Bool) (l:List (List AV)),StsA l→fnQ Tryz.prog { glob:=gl,spec:=lk [],specH:=lk [],shape:=[26,33,43,58,62],slz:=[(26,[7]),(43,[7]),(58,[7]),(62,[2])],nowf:=true } { nt:=67,drop:=drp [(1,448),(3,130560),(4,786432),(5,137437904896),(7,562812514467840),(8,3377699720527872),(9,36888984547791732736),(10,110680464442257309696)],fr:=1000,kp:=[] } (invsN [(3,4,fun _=>sm3o l g),(7,4,fun i=>sm7i l g i)]) 6 Tryz.f7 [.agg [.sl 3 g l]] [] (fun r2 bs2=>∃ (b:Bool),(SmaQ l b)∧le r2 (.bool b)∧leBs bs2 [])
theorem dsreg_e:dsreg_T=dsreg_S:=by kernel_rfl
theorem dsreg_v:dsreg_S:=Eq.mp (dsreg_e ..) (dsreg_P)
theorem dsreg_ok (gl:Glob):QOK Tryz.prog gl 7 dsreg_s:=by
 refine ⟨fok Tryz.func7 (by kernel_rfl) (by kernel_rfl),?_⟩
 intro xs bs T h K hT
 unfold dsreg_s at h
 split at h
 ·simp only [Option.some.injEq] at h
  subst h
  obtain ⟨hp,hK⟩:=hT
  obtain ⟨r,bs2,⟨o0,hq,hl,hb⟩,hC⟩:=fnQ_sound tyNil (by exact specOK rfl rfl trivial trivial) (by kernel_rfl) Tryz.func7 (dsreg_v gl _ _ hp)
  exact ⟨_,_,hK o0 hq,hC.le hl hb⟩
 ·cases h
end Go.Proofs.YtldiagnbagpliaaGreatDoor
namespace Go.Proofs.YtldiagnbagpliaaGreatDoor
open Go
set_option linter.unusedVariables false
set_option linter.unusedSimpArgs false
structure BntQ (ys:LLA) (j:Int):Prop where
 fr:RdsP ys
 fl:ys.length≤1000
 fj:0≤j
structure BntP (ys:LLA) (c:Int):Prop where
 fr:RdsP ys
 fl:ys.length≤900
 fc:0≤c∧c≤1000
end Go.Proofs.YtldiagnbagpliaaGreatDoor
namespace Go.Proofs.YtldiagnbagpliaaGreatDoor
open Go
set_option linter.unusedVariables false
set_option linter.unusedSimpArgs false
structure AlP (n:Int) (x:Int × Int):Prop where
 flo:0≤x.1
 fhi:x.1≤n
 fj:0≤x.2
structure AlI (n x:Int):Prop where
 flo:0≤x
 fhi:x≤n
theorem regv_bno {l:LLR} (h:RegV l):BnoP l:=⟨h.fp,fun i hi=>by
 have g:=((rgV_iff.1 h.f0).2.1 _ (gD_mem hi)).g1
 have g:s1B (hoP l i)=false:=g
 unfold s1B at g
 obtain ⟨g1,g2⟩:=Bool.or_eq_false_iff.1 g
 have g1:=of_decide_eq_false g1
 have g2:=of_decide_eq_false g2
 exact ⟨fun z=>g1 (by rw [z]; rfl),by omega⟩⟩
structure RpsR (R:LLR):Prop where
 fl:R.length=4
 fr:∀ i:Nat,i < 4→∃ (k:Int) (n:ByteArray) (t f a b c:Int) (rd:LLR),R.getD i []=[.int .i64 k,.str n,.int .i64 t,.int .i64 f,.int .i64 a,.int .i64 b,.int .i64 c,.sl 2 false rd]∧RdsP rd∧rd.length≤1000
structure RgsG (G:LLR):Prop where
 fl:G.length=3
 fr:∀ i:Nat,i < 3→∃ g:LLR,G.getD i []=[.sl 3 false g]∧StsP g
end Go.Proofs.YtldiagnbagpliaaGreatDoor
namespace Go.Proofs.YtldiagnbagpliaaGreatDoor
open Go
set_option linter.unusedVariables false
set_option linter.unusedSimpArgs false
theorem rda_of {xs:List (List AV)} (hl:xs.length≤140737488355328) (h:∀ x ∈ xs,∃ ys2 zs2,(∃ z3,rng .i64 z3∧ys2=[.int .i64 z3])∧(∃ ys4 zs4,(∃ z5,rng .i64 z5∧ys4=[.int .i64 z5])∧(zs4=[])∧zs2=ys4++zs4)∧x=ys2++zs2):RdA xs:=⟨fun i hi=>by
 have:=h _ (List.getElem_mem hi)
 rw [← gD_lt hi] at this
 generalize xs.getD i []=y at this
 obtain ⟨_,_,⟨a_0,h_0,rfl⟩,⟨_,_,⟨a_1,h_1,rfl⟩,rfl,rfl⟩,rfl⟩:=this
 exact ⟨_,_,rfl,h_0,h_1⟩,hl⟩
theorem pdsa_of {xs:List (List AV)} (hl:xs.length≤140737488355328) (h:∀ x ∈ xs,∃ ys2 zs2,(∃ z3,rng .i64 z3∧ys2=[.int .i64 z3])∧(∃ ys4 zs4,(∃ b5,ys4=[.bool b5])∧(∃ ys6 zs6,(∃ ys8 zs8,(∃ z9,rng .i64 z9∧ys8=[.int .i64 z9])∧(∃ ys10 zs10,(∃ z11,rng .i64 z11∧ys10=[.int .i64 z11])∧(∃ ys12 zs12,(∃ z13,rng .i64 z13∧ys12=[.int .i64 z13])∧(∃ ys14 zs14,(∃ z15,rng .i64 z15∧ys14=[.int .i64 z15])∧(zs14=[])∧zs12=ys14++zs14)∧zs10=ys12++zs12)∧zs8=ys10++zs10)∧ys6=ys8++zs8)∧(∃ ys17 zs17,(∃ xs18:List (List AV),xs18.length≤140737488355328∧(∀ x18 ∈ xs18,∃ ys20 zs20,(∃ z21,rng .i64 z21∧ys20=[.int .i64 z21])∧(∃ ys22 zs22,(∃ z23,rng .i64 z23∧ys22=[.int .i64 z23])∧(zs22=[])∧zs20=ys22++zs22)∧x18=ys20++zs20)∧ys17=[.sl 2 false xs18])∧(zs17=[])∧zs6=ys17++zs17)∧zs4=ys6++zs6)∧zs2=ys4++zs4)∧x=ys2++zs2):PdsA xs:=⟨fun i hi=>by
 have:=h _ (List.getElem_mem hi)
 rw [← gD_lt hi] at this
 generalize xs.getD i []=y at this
 obtain ⟨_,_,⟨a_0,h_0,rfl⟩,⟨_,_,⟨a_1,rfl⟩,⟨_,_,⟨_,_,⟨a_2_0,h_2_0,rfl⟩,⟨_,_,⟨a_2_1,h_2_1,rfl⟩,⟨_,_,⟨a_2_2,h_2_2,rfl⟩,⟨_,_,⟨a_2_3,h_2_3,rfl⟩,rfl,rfl⟩,rfl⟩,rfl⟩,rfl⟩,⟨_,_,⟨a_3,h_3L,h_3,rfl⟩,rfl,rfl⟩,rfl⟩,rfl⟩,rfl⟩:=this
 exact ⟨_,_,_,_,_,_,_,rfl,rda_of h_3L h_3⟩,hl⟩
theorem stsa_of {xs:List (List AV)} (hl:xs.length≤140737488355328) (h:∀ x ∈ xs,∃ ys2 zs2,(∃ z3,rng .i64 z3∧ys2=[.int .i64 z3])∧(∃ ys4 zs4,(∃ s5:ByteArray,s5.size≤140737488355328∧ys4=[.str s5])∧(∃ ys6 zs6,(∃ xs7:List (List AV),xs7.length≤140737488355328∧(∀ x7 ∈ xs7,∃ ys9 zs9,(∃ z10,rng .i64 z10∧ys9=[.int .i64 z10])∧(∃ ys11 zs11,(∃ b12,ys11=[.bool b12])∧(∃ ys13 zs13,(∃ ys15 zs15,(∃ z16,rng .i64 z16∧ys15=[.int .i64 z16])∧(∃ ys17 zs17,(∃ z18,rng .i64 z18∧ys17=[.int .i64 z18])∧(∃ ys19 zs19,(∃ z20,rng .i64 z20∧ys19=[.int .i64 z20])∧(∃ ys21 zs21,(∃ z22,rng .i64 z22∧ys21=[.int .i64 z22])∧(zs21=[])∧zs19=ys21++zs21)∧zs17=ys19++zs19)∧zs15=ys17++zs17)∧ys13=ys15++zs15)∧(∃ ys24 zs24,(∃ xs25:List (List AV),xs25.length≤140737488355328∧(∀ x25 ∈ xs25,∃ ys27 zs27,(∃ z28,rng .i64 z28∧ys27=[.int .i64 z28])∧(∃ ys29 zs29,(∃ z30,rng .i64 z30∧ys29=[.int .i64 z30])∧(zs29=[])∧zs27=ys29++zs29)∧x25=ys27++zs27)∧ys24=[.sl 2 false xs25])∧(zs24=[])∧zs13=ys24++zs24)∧zs11=ys13++zs13)∧zs9=ys11++zs11)∧x7=ys9++zs9)∧ys6=[.sl 7 false xs7])∧(zs6=[])∧zs4=ys6++zs6)∧zs2=ys4++zs4)∧x=ys2++zs2):StsA xs:=⟨fun i hi=>by
 have:=h _ (List.getElem_mem hi)
 rw [← gD_lt hi] at this
 generalize xs.getD i []=y at this
 obtain ⟨_,_,⟨a_0,h_0,rfl⟩,⟨_,_,⟨a_1,h_1,rfl⟩,⟨_,_,⟨a_2,h_2L,h_2,rfl⟩,rfl,rfl⟩,rfl⟩,rfl⟩:=this
 exact ⟨_,_,_,rfl,h_1,pdsa_of h_2L h_2⟩,hl⟩
end Go.Proofs.YtldiagnbagpliaaGreatDoor
namespace Go.Proofs.YtldiagnbagpliaaGreatDoor
open Go
set_option linter.unusedVariables false
set_option linter.unusedSimpArgs false
def rmF (ps:LLR) (fr:Int):LLR:=ps.filter fun r=>decide (rE r≠fr)
theorem rm_step {ps:LLR} {fr i:Int} (h0:0≤i) (hi:i < ps.length):rmF (ps.take (i+1).toNat) fr=if rE (ps.getD i.toNat [])≠fr then rmF (ps.take i.toNat) fr++[ps.getD i.toNat []] else rmF (ps.take i.toNat) fr:=by
 unfold rmF
 rw [show (i+1).toNat=i.toNat+1 by omega,List.take_add_one,List.getElem?_eq_getElem (show i.toNat < ps.length by omega),gD_lt (show i.toNat < ps.length by omega),Option.toList_some,List.filter_append]
 by_cases h:rE ps[i.toNat]≠fr
 ·rw [if_pos h,List.filter_cons_of_pos (by simpa using h),List.filter_nil]
 ·rw [if_neg h,List.filter_cons_of_neg (by simpa using h),List.filter_nil,List.append_nil]
theorem rm_out {ps:LLR} (ha:AscP ps) (fr:Int):rmF ps fr=outQ (qP fr) ps:=by
 obtain ⟨p1,p2,p3⟩:=fp_parts (asc_srt ha fr)
 have f1:(ps.take (fpI (qP fr) ps)).filter (fun r=>decide (rE r≠fr))=ps.take (fpI (qP fr) ps):=fil_all fun x hx=>by
  have:=qP_lt.1 (p1 x hx); exact decide_eq_true (by omega)
 have f2:(ps.drop (fpI (qP fr) ps+cond (fpB (qP fr) ps) 1 0)).filter (fun r=>decide (rE r≠fr))=ps.drop (fpI (qP fr) ps+cond (fpB (qP fr) ps) 1 0):=fil_all fun x hx=>by
  have:=qP_gt.1 (p2 x hx); exact decide_eq_true (by omega)
 unfold rmF outQ
 cases hb:fpB (qP fr) ps with
 | false =>
  rw [hb] at f2
  conv=>lhs; rw [← List.take_append_drop (fpI (qP fr) ps) ps]
  rw [List.filter_append,f1]
  simp only [cond_false,Nat.add_zero] at f2 ⊢
  rw [f2]
 | true =>
  rw [hb] at f2
  obtain ⟨h1,h2⟩:=p3 hb
  conv=>lhs; rw [parts_eq _ _ hb h1]
  simp only [cond_true] at f2 ⊢
  rw [List.filter_append,List.filter_append,f1,f2,List.filter_cons_of_neg (by simpa using qP_z.1 h2),List.filter_nil,List.nil_append]
def rr7 (D:LLR) (fk:Int) (fn nm:ByteArray) (fr:Int) (l:LLR) (g:Bool):LInv:=⟨Int,fun i=>⟨[(1,.str nm),(2,.int .i64 fr),(3,.ptr 3 0),(6,.ptr 6 0),(9,.ptr 9 0),(11,.ptr 11 0),(31,.sl 7 false D),(32,.int .i64 D.length),(33,.int .i64 i)],[(3,.cells [.sl 3 g l]),(6,.cells [.nils]),(9,.cells [.int .i64 fk,.str fn,.sl 7 false D]),(11,.cells [.int .i64 fk,.str nm,.rw 1500 7 (rmF (D.take i.toNat) fr).length]),(1500,.row 49 7 (rmF (D.take i.toNat) fr))]⟩,CoI D,fun i=>(D.length - i).toNat,none⟩
theorem rmr_err {l:LLR} {nm:ByteArray} {fr e:Int} (h:remE l nm fr=e) (he:e≠0):(remO l nm fr=[]∧True)∧e=remE l nm fr∧True :=
 ⟨⟨if_neg (by rw [h]; exact he),trivial⟩,h.symm,trivial⟩
theorem rmr_ok {l X:LLR} {nm:ByteArray} {fr:Int} (h:remE l nm fr=0) (hx:X=remL l nm fr):((True∧X=remO l nm fr)∧True)∧0=remE l nm fr∧True :=
 ⟨⟨⟨trivial,by unfold remO; rw [if_pos h]; exact hx⟩,trivial⟩,h.symm,trivial⟩
theorem rm_fi {l:LLR} (hl:StsP l) (h0:rgV l=0) (nm:ByteArray) (fr:Int) :
  ((rmF (fiP l nm) fr).length=(fiP l nm).length→remE l nm fr=6)∧((rmF (fiP l nm) fr).length≠(fiP l nm).length→remE l nm fr=0∧wiL l (fiK l nm) nm (rmF (fiP l nm) fr)=remL l nm fr):=by
 have hn:=(rgV_iff.1 h0).2.2
 obtain ⟨f1,f2⟩:=fi_all hn nm
 have hE:remE l nm fr=(if stH l nm=false then 6 else if pdH (seD l nm) fr=false then 6 else 0):=by unfold remE; rw [if_neg (fun z=>z h0)]
 rw [hE,f1]
 by_cases hs:stH l nm=true
 ·rw [if_pos hs,if_neg (by rw [hs]; decide)]
  have ha:=se_asc hl h0 hs
  rw [rm_out ha]
  cases hb:pdH (seD l nm) fr with
  | false=>exact ⟨fun _=>rfl,fun z=>absurd (by rw [out_no hb]) z⟩
  | true =>
   have hb':fpB (qP fr) (seD l nm)=true:=hb
   have hlt:fpI (qP fr) (seD l nm) < (seD l nm).length:=((fp_parts (asc_srt ha fr)).2.2 hb').1
   have hR:remP (seD l nm) fr=outQ (qP fr) (seD l nm):=by unfold remP outQ pdN; rw [hb']; rfl
   have hlen:(outQ (qP fr) (seD l nm)).length=(seD l nm).length - 1:=by rw [← hR]; exact rem_len hlt
   refine ⟨fun z=>by omega,fun _=>⟨rfl,?_⟩⟩
   unfold remL
   rw [hR,f2 hs]
   obtain ⟨k',hr,hi⟩:=seD_at hl hs
   by_cases hz:outQ (qP fr) (seD l nm)=[]
   ·rw [hz,if_pos (by rfl),wiL_out hn]
    have:fpB (qS nm) l=true:=hs
    unfold outQ stN; rw [this]; rfl
   ·rw [if_neg (by intro z; exact hz (List.eq_nil_of_length_eq_zero (by omega))),wiL_ins hn hz,← set_ins (show fpB (qS nm) l=true from hs)]
    unfold setEl
    rw [hr]; rfl
 ·rw [if_neg hs,if_pos (by simpa using hs)]
  exact ⟨fun _=>rfl,fun z=>absurd rfl z⟩
theorem fiP_pd3 {l:LLR} (hl:StsP l) (h0:rgV l=0) (s:ByteArray):PdsP (fiP l s):=fiP_pd2 hl h0 s
def rremoveF_s (rgV:LLR→Int) (remO:LLR→ByteArray→Int→LLR) (remE:LLR→ByteArray→Int→Int) (wiL:LLR→Int→ByteArray→LLR→LLR) (fiK:LLR→ByteArray→Int) (fiN:LLR→ByteArray→ByteArray) (fiP:LLR→ByteArray→LLR) (fiB:LLR→ByteArray→Bool) (rmF:LLR→Int→LLR):Sp
 | [.agg [.sl 3 g l],.str nm,.int .i64 fr]=>some (StsP l,.tup [.agg [.sl 3 false (remO l nm fr)],.int .i64 (remE l nm fr)])
 | _=>none
def rremoveF_T (rgV:LLR→Int) (remO:LLR→ByteArray→Int→LLR) (remE:LLR→ByteArray→Int→Int) (wiL:LLR→Int→ByteArray→LLR→LLR) (fiK:LLR→ByteArray→Int) (fiN:LLR→ByteArray→ByteArray) (fiP:LLR→ByteArray→LLR) (fiB:LLR→ByteArray→Bool) (rmF':LLR→Int→LLR) (pdV:Int→Int→Bool→Int→Int→Int→Int→LLR→Bool) (nmOk:ByteArray→Bool):Prop :=
  ∀ (gl:Glob) (g:Bool) (l:List (List AV)) (fr:Int) (nm:ByteArray),StsP l→True∧True→nm.size.le (9223372036854775807:Nat)→IR9 fr→StsP l∧bif decide ¬rgV l=(0:Int) then (remO l nm fr=[]∧True)∧rgV l=remE l nm fr∧True else StsP l∧(∃ x,CoI (fiP l nm) x∧(nm=nm∧fr=fr∧(0:Nat)=0∧(0:Nat)=0∧(0:Nat)=0∧(0:Nat)=0∧(True∧fiP l nm=fiP l nm)∧(↑(List.length
 (fiP l nm)):Int)=(↑(List.length (fiP l nm)):Int)∧(0:Int)=x∧True)∧(((bif g then g=true else True)∧l=l)∧True)∧(True∧True)∧(fiK l nm=fiK l nm∧fiN l nm=fiN l nm∧(True∧fiP l nm=fiP l nm)∧True)∧(fiK l nm=fiK l nm∧nm=nm∧(0:Nat)=List.length (rmF (List.take (Int.toNat x) (fiP l nm)) fr)∧True)∧[]=rmF (List.take (Int.toNat x) (fiP l nm)) fr∧True)∧∀
 (x:Int),CoI (fiP l nm) x→bif decide (x < (↑(List.length (fiP l nm)):Int)) then bif decide (0≤x∧x < (↑(List.length (fiP l nm)):Int)) then ∃ n b n_1 n_2 n_3 n_4 xs,List.take [AV.int .i64 n,.bool b,.int .i64 n_1,.int .i64 n_2,.int .i64 n_3,.int .i64 n_4,.sl (2:Nat) false xs].length (List.getD (fiP l nm) x.toNat [])=[AV.int .i64 n,.bool b,.int .i64 n_1,.int .i64 n_2,.int .i64 n_3,.int .i64
 n_4,.sl (2:Nat) false xs]∧bif decide ¬n=fr then bif decide (List.length (rmF (List.take x.toNat (fiP l nm)) fr)=List.length (rmF (List.take x.toNat (fiP l nm)) fr)∧List.length (rmF (List.take x.toNat (fiP l nm)) fr)+[[AV.int .i64 n,.bool b,.int .i64 n_1,.int .i64 n_2,.int .i64 n_3,.int .i64 n_4,.sl (2:Nat) false
 xs]].length≤(9223372036854775807:Nat)∧(List.length (rmF (List.take x.toNat (fiP l nm)) fr)+[[AV.int .i64 n,.bool b,.int .i64 n_1,.int .i64 n_2,.int .i64 n_3,.int .i64 n_4,.sl (2:Nat) false xs]].length)*(72:Nat)≤(140737488355328:Nat)) then ∃ y,CoI (fiP l nm) y∧(rr7 (fiP l nm) (fiK l nm) (fiN l nm) nm fr l g).m y < (rr7 (fiP l nm) (fiK l nm) (fiN l nm) nm fr l g).m
 x∧(nm=nm∧fr=fr∧(0:Nat)=0∧(0:Nat)=0∧(0:Nat)=0∧(0:Nat)=0∧(True∧fiP l nm=fiP l nm)∧(↑(List.length (fiP l nm)):Int)=(↑(List.length (fiP l nm)):Int)∧IntKind.i64.wrap (x+(1:Int))=y∧True)∧(((bif g then g=true else True)∧l=l)∧True)∧(True∧True)∧(fiK l nm=fiK l nm∧fiN l nm=fiN l nm∧(True∧fiP l nm=fiP l nm)∧True)∧(fiK l nm=fiK l nm∧nm=nm∧(rmF (List.take x.toNat (fiP l nm)) fr ++
 [[AV.int .i64 n,.bool b,.int .i64 n_1,.int .i64 n_2,.int .i64 n_3,.int .i64 n_4,.sl (2:Nat) false xs]]).length=List.length (rmF (List.take (Int.toNat y) (fiP l nm)) fr)∧True)∧rmF (List.take x.toNat (fiP l nm)) fr++[[AV.int .i64 n,.bool b,.int .i64 n_1,.int .i64 n_2,.int .i64 n_3,.int .i64 n_4,.sl (2:Nat) false xs]]=rmF
 (List.take (Int.toNat y) (fiP l nm)) fr∧True else False else ∃ y,CoI (fiP l nm) y∧(rr7 (fiP l nm) (fiK l nm) (fiN l nm) nm fr l g).m y < (rr7 (fiP l nm) (fiK l nm) (fiN l nm) nm fr l g).m x∧(nm=nm∧fr=fr∧(0:Nat)=0∧(0:Nat)=0∧(0:Nat)=0∧(0:Nat)=0∧(True∧fiP l nm=fiP l nm)∧(↑(List.length (fiP l nm)):Int)=(↑(List.length (fiP l nm)):Int)∧IntKind.i64.wrap (x+(1:Int))=y∧True)∧(((bif g then g=true else
 True)∧l=l)∧True)∧(True∧True)∧(fiK l nm=fiK l nm∧fiN l nm=fiN l nm∧(True∧fiP l nm=fiP l nm)∧True)∧(fiK l nm=fiK l nm∧nm=nm∧List.length (rmF (List.take x.toNat (fiP l nm)) fr)=List.length (rmF (List.take (Int.toNat y) (fiP l nm)) fr)∧True)∧rmF (List.take x.toNat (fiP l nm)) fr=rmF (List.take
 (Int.toNat y) (fiP l nm)) fr∧True else False else bif decide ((↑(List.length (rmF (List.take x.toNat (fiP l nm)) fr)):Int)=(↑(List.length (fiP l nm)):Int)) then (remO l nm fr=[]∧True)∧(6:Int)=remE l nm fr∧True else bif decide (List.length (rmF (List.take x.toNat (fiP l nm)) fr)=List.length (rmF (List.take x.toNat (fiP l
 nm)) fr)) then StsP l∧((True∧wiL l (fiK l nm) nm (rmF (List.take x.toNat (fiP l nm)) fr)=remO l nm fr)∧True)∧(0:Int)=remE l nm fr∧True else False
theorem rremoveF_P:rremoveF_T rgV remO remE wiL fiK fiN fiP fiB rmF pdV nmOk:=by
 unfold rremoveF_T
 intro gl g l fr nm hl _ _ _
 have bg:cond g (g=true) True:=by cases g <;> trivial
 refine ⟨hl,csx (fun q=>?_) (fun q=>?_)⟩
 ·exact rmr_err (by unfold remE; rw [if_pos q]) q
 have h0:=Decidable.not_not.1 q
 have hP:=fiP_pd3 hl h0 nm
 have pfs:=hP.fs
 obtain ⟨e1,e2⟩:=rm_fi hl h0 nm fr
 refine ⟨hl,⟨0,⟨by decide,by omega⟩,by (repeat' (first | exact trivial | exact rfl | assumption | apply And.intro))⟩,?_⟩
 rintro x ⟨x0,x1⟩
 have ul:(rmF ((fiP l nm).take x.toNat) fr).length≤1000000:=Nat.le_trans (List.length_filter_le _ _) (by rw [List.length_take]; omega)
 refine csx (fun hx=>cd1 (by omega) ?_) (fun hx=>?_)
 ·obtain ⟨t,cl,f,a,b,c,bs,hr,hb⟩:=hP.fr x.toNat (by omega)
  have w:IntKind.i64.wrap (x+1)=x+1:=wrap_eq (by show _∧_; omega)
  have st:=rm_step (fr:=fr) x0 hx
  rw [hr] at st
  have st:rmF ((fiP l nm).take (x+1).toNat) fr=if t≠fr then rmF ((fiP l nm).take x.toNat) fr++[pdA t cl f a b c bs] else rmF ((fiP l nm).take x.toNat) fr:=st
  refine ⟨t,cl,f,a,b,c,bs,by rw [hr]; rfl,csx (fun z=>cd1 ⟨rfl,by rw [List.length_singleton]; omega,by rw [List.length_singleton]; omega⟩ ?_) (fun z=>?_)⟩
  ·rw [if_pos z] at st
   exact ⟨x+1,⟨by omega,by omega⟩,by simp only [rr7]; omega,by (repeat' (first | exact trivial | exact rfl | assumption | apply And.intro)),by (repeat' (first | exact trivial | exact rfl | assumption | apply And.intro)),by (repeat' (first | exact trivial | exact rfl | assumption | apply And.intro)),by (repeat' (first | exact trivial | exact rfl | assumption | apply And.intro)),⟨rfl,rfl,by rw [st]; rfl,trivial⟩,st.symm,trivial⟩
  ·rw [if_neg z] at st
   exact ⟨x+1,⟨by omega,by omega⟩,by simp only [rr7]; omega,by (repeat' (first | exact trivial | exact rfl | assumption | apply And.intro)),by (repeat' (first | exact trivial | exact rfl | assumption | apply And.intro)),by (repeat' (first | exact trivial | exact rfl | assumption | apply And.intro)),by (repeat' (first | exact trivial | exact rfl | assumption | apply And.intro)),⟨rfl,rfl,by rw [st],trivial⟩,st.symm,trivial⟩
 ·rw [List.take_of_length_le (show (fiP l nm).length≤x.toNat by omega)]
  refine csx (fun z=>rmr_err (e1 (by omega)) (by decide)) (fun z=>cd1 rfl ?_)
  obtain ⟨e3,e4⟩:=e2 (by omega)
  exact ⟨hl,rmr_ok e3 e4⟩
def rremoveF_S (rgV:LLR→Int) (remO:LLR→ByteArray→Int→LLR) (remE:LLR→ByteArray→Int→Int) (wiL:LLR→Int→ByteArray→LLR→LLR) (fiK:LLR→ByteArray→Int) (fiN:LLR→ByteArray→ByteArray) (fiP:LLR→ByteArray→LLR) (fiB:LLR→ByteArray→Bool) (rmF:LLR→Int→LLR) (pdV:Int→Int→Bool→Int→Int→Int→Int→LLR→Bool) (nmOk:ByteArray→Bool):Prop:=∀ (gl:Glob) (g:Bool) (l:List (List AV)) (fr:Int) (nm:ByteArray),StsP l→fnK Tryz.prog { glob:=gl,spec:=lk [(32,(rvalidF_s pdV nmOk rgV)),(23,(rfindF_s fiK fiN fiP fiB)),(81,(rwithF_s wiL))],specH:=lk [],shape:=[36],slz:=[(36,[2])],nowf:=true,wrap:=true } { nt:=59,drop:=drp [(1,49152),(2,65536),(3,786432),(4,66060288),(5,1006632960),(6,1073741824),(8,103079215104),(9,962072674304),(10,138538465099776),(11,140737488355328),(12,17732923532771328),(13,36028797018963968),(14,504403158265495552)],emp:=fun id=>cond (Nat.beq id 6) [(1001102,1500,49,7)] [],act:=fun id=>cond (Nat.beq id 14) [.frz 1500] [] } (invs [(7,rr7 (fiP l nm) (fiK l nm) (fiN l nm) nm fr l g)]) 6 Tryz.f36 [.agg [.sl 3 g l],.str nm,.int .i64 fr] (.tup [.agg [.sl 3 false (remO l nm fr)],.int .i64 (remE l nm fr)])
theorem rremoveF_e (rgV:LLR→Int) (remO:LLR→ByteArray→Int→LLR) (remE:LLR→ByteArray→Int→Int) (wiL:LLR→Int→ByteArray→LLR→LLR) (fiK:LLR→ByteArray→Int) (fiN:LLR→ByteArray→ByteArray) (fiP:LLR→ByteArray→LLR) (fiB:LLR→ByteArray→Bool) (rmF:LLR→Int→LLR) (pdV:Int→Int→Bool→Int→Int→Int→Int→LLR→Bool) (nmOk:ByteArray→Bool):rremoveF_T rgV remO remE wiL fiK fiN fiP fiB rmF pdV nmOk=rremoveF_S rgV remO remE wiL fiK fiN fiP fiB rmF pdV nmOk:=by kernel_rfl
theorem rremoveF_v:rremoveF_S rgV remO remE wiL fiK fiN fiP fiB rmF pdV nmOk:=Eq.mp (rremoveF_e ..) (rremoveF_P)
theorem rremoveF_ok (gl:Glob):SOK Tryz.prog gl 36 (rremoveF_s rgV remO remE wiL fiK fiN fiP fiB rmF):=by
 refine ⟨fok Tryz.func36 (by kernel_rfl) (by kernel_rfl),?_⟩
 intro xs pre r h hp
 unfold rremoveF_s at h
 split at h
 ·simp only [Option.some.injEq,Prod.mk.injEq] at h
  obtain ⟨h1,h2⟩:=h
  subst h1 h2
  exact fnK_sound tyNil (by exact specOK rfl rfl ⟨(rvalidF_ok gl),(rfindF_ok gl),(rwithF_ok gl),trivial⟩ trivial) (by kernel_rfl) Tryz.func36 rfl (rremoveF_v gl _ _ _ _ hp)
 ·cases h
end Go.Proofs.YtldiagnbagpliaaGreatDoor
namespace Go.Proofs.YtldiagnbagpliaaGreatDoor
open Go
set_option linter.unusedVariables false
set_option linter.unusedSimpArgs false
def geq4 (xs ys:LLR) (f g:Bool):LInv:=⟨Int,fun i=>⟨[(0,.sl 2 f xs),(1,.sl 2 g ys),(12,.int .i64 xs.length),(13,.int .i64 i)],[]⟩,EqI xs ys eqPr,fun i=>(xs.length - i).toNat,none⟩
def gsmRd_s (eqRd:LLR→LLR→Bool):Sp
 | [.sl 2 f xs,.sl 2 g ys]=>some (RdsP xs∧RdsP ys,.bool (eqRd xs ys))
 | _=>none
def gsmRd_T (eqRd:LLR→LLR→Bool):Prop :=
  ∀ (gl:Glob) (f g:Bool) (xs ys:List (List AV)),RdsP xs∧RdsP ys→True→True→bif decide ¬(↑xs.length:Int)=(↑ys.length:Int) then false=eqRd xs ys else (∃ x,EqI xs ys eqPr x∧(((bif f then f=true else True)∧xs=xs)∧((bif g then g=true else True)∧ys=ys)∧(↑xs.length:Int)=(↑xs.length:Int)∧(0:Int)=x∧True)∧True)∧∀ (x:Int),EqI xs ys eqPr x→bif decide (x < (↑xs.length:Int)) then bif decide (0≤x∧x <
 (↑xs.length:Int)) then ∃ n n_1,List.take [AV.int .i64 n,.int .i64 n_1].length (xs.getD x.toNat [])=[AV.int .i64 n,.int .i64 n_1]∧bif decide (0≤x∧x < (↑ys.length:Int)) then ∃ n_2 n_3,List.take [AV.int .i64 n_2,.int .i64 n_3].length (ys.getD x.toNat [])=[AV.int .i64 n_2,.int .i64 n_3]∧bif !(decide (n=n_2)&&(decide (n_1=n_3)&&true)) then false=eqRd xs ys else ∃ y,EqI xs ys eqPr y∧(geq4 xs
 ys f g).m y < (geq4 xs ys f g).m x∧(((bif f then f=true else True)∧xs=xs)∧((bif g then g=true else True)∧ys=ys)∧(↑xs.length:Int)=(↑xs.length:Int)∧IntKind.i64.wrap (x+(1:Int))=y∧True)∧True else False else False else true=eqRd xs ys
theorem gsmRd_P:gsmRd_T eqRd:=by
 unfold gsmRd_T
 intro gl f g xs ys ⟨hx,hy⟩ _ _
 have bf:cond f (f=true) True:=by cases f <;> trivial
 have bg:cond g (g=true) True:=by cases g <;> trivial
 have lx:=hx.sm
 refine csx (fun hl=>(decide_eq_false fun z=>hl (by rw [z.1])).symm) (fun hl=>?_)
 have hl:xs.length=ys.length:=by have:=Decidable.not_not.1 hl; omega
 refine ⟨⟨0,⟨by decide,by omega,hl,fun j h=>by omega⟩,by (repeat' (first | exact trivial | exact rfl | assumption | apply And.intro)),trivial⟩,?_⟩
 rintro i ⟨h0,h1,h2,hn⟩
 refine csx (fun hi=>?_) (fun hi=>(decide_eq_true ⟨hl,fun j hj=>hn j (by omega)⟩).symm)
 have w:IntKind.i64.wrap (i+1)=i+1:=wrap_eq (by show _∧_; omega)
 obtain ⟨e,v,he,_⟩:=hx.row i.toNat (by omega)
 obtain ⟨e2,v2,he2,_⟩:=hy.row i.toNat (by omega)
 have r1:rE (xs.getD i.toNat [])=e∧rV (xs.getD i.toNat [])=v:=by rw [he]; exact ⟨rfl,rfl⟩
 have r2:rE (ys.getD i.toNat [])=e2∧rV (ys.getD i.toNat [])=v2:=by rw [he2]; exact ⟨rfl,rfl⟩
 refine cd1 (by omega) ⟨e,v,by rw [he]; rfl,cd1 (by omega) ⟨e2,v2,by rw [he2]; rfl,csplit (fun z=>?_) (fun z=>?_)⟩⟩
 ·refine (decide_eq_false fun q=>?_).symm
  have:=q.2 i.toNat (by omega)
  rw [r1.1,r1.2,r2.1,r2.2] at this
  rw [decide_eq_true this.1,decide_eq_true this.2] at z
  cases z
 ·have hp:e=e2∧v=v2:=by simpa using z
  exact ⟨i+1,EqI.next ⟨h0,h1,h2,hn⟩ hi ⟨by rw [r1.1,r2.1]; exact hp.1,by rw [r1.2,r2.2]; exact hp.2⟩,by simp only [geq4]; omega,by (repeat' (first | exact trivial | exact rfl | assumption | apply And.intro)),trivial⟩
def gsmRd_S (eqRd:LLR→LLR→Bool):Prop:=∀ (gl:Glob) (f g:Bool) (xs ys:List (List AV)),RdsP xs∧RdsP ys→fnK Tryz.prog { glob:=gl,spec:=lk [],specH:=lk [],shape:=[19,23],nowf:=true,wrap:=true } { nt:=26,drop:=drp [(1,960),(3,2048),(5,32768),(6,16711680),(8,33554432)],tys:=[76] } (invs [(4,geq4 xs ys f g)]) 6 Tryz.f110 [.sl 2 f xs,.sl 2 g ys] (.bool (eqRd xs ys))
theorem gsmRd_e (eqRd:LLR→LLR→Bool):gsmRd_T eqRd=gsmRd_S eqRd:=by kernel_rfl
theorem gsmRd_v:gsmRd_S eqRd:=Eq.mp (gsmRd_e ..) (gsmRd_P)
theorem gsmRd_ok (gl:Glob):SOK Tryz.prog gl 110 (gsmRd_s eqRd):=by
 refine ⟨fok Tryz.func110 (by kernel_rfl) (by kernel_rfl),?_⟩
 intro xs pre r h hp
 unfold gsmRd_s at h
 split at h
 ·simp only [Option.some.injEq,Prod.mk.injEq] at h
  obtain ⟨h1,h2⟩:=h
  subst h1 h2
  exact fnK_sound (tyOf (by kernel_rfl)) (by exact specOK rfl rfl trivial trivial) (by kernel_rfl) Tryz.func110 rfl (gsmRd_v gl _ _ _ _ hp)
 ·cases h
def gsmP_s (eqRd:LLR→LLR→Bool) (smP:List AV→List AV→Bool) (pdA:Int→Bool→Int→Int→Int→Int→LLR→List AV):Sp
 | [.agg [.int .i64 t,.bool cl,.int .i64 f,.int .i64 a,.int .i64 b,.int .i64 c,.sl 2 g bs],.agg [.int .i64 t2,.bool cl2,.int .i64 f2,.int .i64 a2,.int .i64 b2,.int .i64 c2,.sl 2 g2 bs2]]=>some (RdsP bs∧RdsP bs2,.bool (smP (pdA t cl f a b c bs) (pdA t2 cl2 f2 a2 b2 c2 bs2)))
 | _=>none
def gsmP_T (eqRd:LLR→LLR→Bool) (smP:List AV→List AV→Bool) (pdA:Int→Bool→Int→Int→Int→Int→LLR→List AV):Prop :=
 ∀ (gl:Glob) (t:Int) (cl:Bool) (f a b c:Int) (g:Bool) (bs:List (List AV)) (t2:Int) (cl2:Bool) (f2 a2 b2 c2:Int) (g2:Bool) (bs2:List (List AV)),RdsP bs∧RdsP bs2→(IR9 t)∧True∧(IR9 f)∧(IR9 a)∧((-9223372036854775808:Int)≤b∧b
≤(9223372036854775807:Int))∧(IR9 c)∧True∧True→(IR9 t2)∧True∧(IR9 f2)∧(IR9 a2)∧(IR9 b2)∧((-9223372036854775808:Int) ≤
 c2∧c2≤(9223372036854775807:Int))∧True∧True→bif decide (t=t2) then bif decide (cl=cl2) then bif decide (f=f2)&&(decide (a=a2)&&(decide (b=b2)&&(decide (c=c2)&&true))) then (RdsP bs∧RdsP bs2)∧eqRd bs bs2=smP (pdA t cl f a b c bs) (pdA t2 cl2 f2 a2 b2 c2 bs2) else false=smP (pdA t cl f a b c bs) (pdA t2 cl2 f2 a2 b2 c2 bs2) else false=smP (pdA t cl f a b c bs) (pdA t2 cl2 f2 a2 b2 c2 bs2)
 else false=smP (pdA t cl f a b c bs) (pdA t2 cl2 f2 a2 b2 c2 bs2)
theorem gsmP_P:gsmP_T eqRd smP pdA:=by
 unfold gsmP_T
 intro gl t cl f a b c g bs t2 cl2 f2 a2 b2 c2 g2 bs2 hp _ _
 have u:smP (pdA t cl f a b c bs) (pdA t2 cl2 f2 a2 b2 c2 bs2)=(if t≠t2 then false else if cl≠cl2 then false else if ¬ (f=f2∧a=a2∧b=b2∧c=c2) then false else eqRd bs bs2):=rfl
 rw [u]
 refine csx (fun h1=>csplit (fun h2=>csplit (fun h3=>?_) (fun h3=>?_)) (fun h2=>?_)) (fun h1=>(if_pos h1).symm)
 ·refine ⟨hp,?_⟩
  rw [if_neg (by simpa using h1),if_neg (by simpa using h2),if_neg (by simpa using h3)]
 ·rw [if_neg (by simpa using h1),if_neg (by simpa using h2),if_pos (by simpa using h3)]
 ·rw [if_neg (by simpa using h1),if_pos (by simpa using h2)]
def gsmP_S (eqRd:LLR→LLR→Bool) (smP:List AV→List AV→Bool) (pdA:Int→Bool→Int→Int→Int→Int→LLR→List AV):Prop:=∀ (gl:Glob) (t:Int) (cl:Bool) (f a b c:Int) (g:Bool) (bs:List (List AV)) (t2:Int) (cl2:Bool) (f2 a2 b2 c2:Int) (g2:Bool) (bs2:List (List AV)),RdsP bs∧RdsP bs2→fnK Tryz.prog { glob:=gl,spec:=lk [(110,(gsmRd_s eqRd))],specH:=lk [],nowf:=true } { nt:=31,drop:=drp [(1,2147483616)],tys:=[26] } (fun _ _=>none) 6 Tryz.f80 [.agg [.int .i64 t,.bool cl,.int .i64 f,.int .i64 a,.int .i64 b,.int .i64 c,.sl 2 g bs],.agg [.int .i64 t2,.bool cl2,.int .i64 f2,.int .i64 a2,.int .i64 b2,.int .i64 c2,.sl 2 g2 bs2]] (.bool (smP (pdA t cl f a b c bs) (pdA t2 cl2 f2 a2 b2 c2 bs2)))
theorem gsmP_e (eqRd:LLR→LLR→Bool) (smP:List AV→List AV→Bool) (pdA:Int→Bool→Int→Int→Int→Int→LLR→List AV):gsmP_T eqRd smP pdA=gsmP_S eqRd smP pdA:=by kernel_rfl
theorem gsmP_v:gsmP_S eqRd smP pdA:=Eq.mp (gsmP_e ..) (gsmP_P)
theorem gsmP_ok (gl:Glob):SOK Tryz.prog gl 80 (gsmP_s eqRd smP pdA):=by
 refine ⟨fok Tryz.func80 (by kernel_rfl) (by kernel_rfl),?_⟩
 intro xs pre r h hp
 unfold gsmP_s at h
 split at h
 ·simp only [Option.some.injEq,Prod.mk.injEq] at h
  obtain ⟨h1,h2⟩:=h
  subst h1 h2
  exact fnK_sound (tyOf (by kernel_rfl)) (by exact specOK rfl rfl ⟨(gsmRd_ok gl),trivial⟩ trivial) (by kernel_rfl) Tryz.func80 rfl (gsmP_v gl _ _ _ _ _ _ _ _ _ _ _ _ _ _ _ _ hp)
 ·cases h
def gef4 (s:Nat) (F:Nat) (p:List AV→List AV→Bool) (xs ys:LLR) (f g:Bool):LInv:=⟨Int,fun i=>⟨[(1,.sl s g ys),(2,.fn F []),(15,.sl s f xs),(16,.int .i64 xs.length),(17,.int .i64 i)],[]⟩,EqI xs ys (fun a b=>p a b=true),fun i=>(xs.length - i).toNat,none⟩
def gsmPs_s (smPs:LLR→LLR→Bool) (smP:List AV→List AV→Bool) (pdA:Int→Bool→Int→Int→Int→Int→LLR→List AV):Sp
 | [.sl 7 f ps,.sl 7 g qs,.fn 80 []]=>some (PdsP ps∧PdsP qs,.bool (smPs ps qs))
 | _=>none
def gsmPs_T (smPs:LLR→LLR→Bool) (smP:List AV→List AV→Bool) (pdA:Int→Bool→Int→Int→Int→Int→LLR→List AV) (eqRd:LLR→LLR→Bool):Prop :=
  ∀ (gl:Glob) (f g:Bool) (ps qs:List (List AV)),PdsP ps∧PdsP qs→True→True→True→bif decide ¬(↑ps.length:Int)=(↑qs.length:Int) then false=smPs ps qs else (∃ x,EqI ps qs (fun a b=>smP a b=true) x∧(((bif g then g=true else True)∧qs=qs)∧True∧((bif f then f=true else True)∧ps=ps)∧(↑ps.length:Int)=(↑ps.length:Int)∧(0:Int)=x∧True)∧True)∧∀ (x:Int),EqI ps qs (fun a b=>smP a b=true) x→bif decide (x <
 (↑ps.length:Int)) then bif decide (0≤x∧x < (↑ps.length:Int)) then ∃ n b n_1 n_2 n_3 n_4 xs,List.take [AV.int .i64 n,.bool b,.int .i64 n_1,.int .i64 n_2,.int .i64 n_3,.int .i64 n_4,.sl (2:Nat) false xs].length (ps.getD x.toNat [])=[AV.int .i64 n,.bool b,.int .i64 n_1,.int .i64 n_2,.int .i64 n_3,.int .i64 n_4,.sl (2:Nat) false xs]∧bif decide (0≤x∧x < (↑qs.length:Int)) then ∃ n_5 b_1
 n_6 n_7 n_8 n_9 xs_1,List.take [AV.int .i64 n_5,.bool b_1,.int .i64 n_6,.int .i64 n_7,.int .i64 n_8,.int .i64 n_9,.sl (2:Nat) false xs_1].length (qs.getD x.toNat [])=[AV.int .i64 n_5,.bool b_1,.int .i64 n_6,.int .i64 n_7,.int .i64 n_8,.int .i64 n_9,.sl (2:Nat) false xs_1]∧(RdsP xs∧RdsP xs_1)∧bif !smP (pdA n b n_1 n_2 n_3 n_4 xs) (pdA n_5 b_1 n_6 n_7 n_8 n_9 xs_1) then false=smPs ps qs else ∃ y,EqI
 ps qs (fun a b=>smP a b=true) y∧(gef4 (7:Nat) (80:Nat) smP ps qs f g).m y < (gef4 (7:Nat) (80:Nat) smP ps qs f g).m x∧(((bif g then g=true else True)∧qs=qs)∧True∧((bif f then f=true else True)∧ps=ps)∧(↑ps.length:Int)=(↑ps.length:Int)∧IntKind.i64.wrap (x+(1:Int))=y∧True)∧True else False else False else true=smPs ps qs
theorem gsmPs_P:gsmPs_T smPs smP pdA eqRd:=by
 unfold gsmPs_T
 intro gl f g ps qs ⟨hx,hy⟩ _ _ _
 have bf:cond f (f=true) True:=by cases f <;> trivial
 have bg:cond g (g=true) True:=by cases g <;> trivial
 have lx:=hx.fs
 refine csx (fun hl=>(decide_eq_false fun z=>hl (by rw [z.1])).symm) (fun hl=>?_)
 have hl:ps.length=qs.length:=by have:=Decidable.not_not.1 hl; omega
 refine ⟨⟨0,⟨by decide,by omega,hl,fun j h=>by omega⟩,by (repeat' (first | exact trivial | exact rfl | assumption | apply And.intro)),trivial⟩,?_⟩
 rintro i ⟨h0,h1,h2,hn⟩
 refine csx (fun hi=>?_) (fun hi=>(decide_eq_true ⟨hl,fun j hj=>hn j (by omega)⟩).symm)
 have w:IntKind.i64.wrap (i+1)=i+1:=wrap_eq (by show _∧_; omega)
 obtain ⟨t,cl,pf,a,b,c,bs,he,hb,_⟩:=hx.fr i.toNat (by omega)
 obtain ⟨t2,cl2,pf2,a2,b2,c2,bs2,he2,hb2,_⟩:=hy.fr i.toNat (by omega)
 refine cd1 (by omega) ⟨t,cl,pf,a,b,c,bs,by rw [he]; rfl,cd1 (by omega) ⟨t2,cl2,pf2,a2,b2,c2,bs2,by rw [he2]; rfl,⟨hb,hb2⟩,csplit (fun z=>?_) (fun z=>?_)⟩⟩
 ·refine (decide_eq_false fun q=>?_).symm
  have:=q.2 i.toNat (by omega)
  rw [he,he2] at this
  rw [this] at z
  cases z
 ·have hp:smP (ps.getD i.toNat []) (qs.getD i.toNat [])=true:=by rw [he,he2]; simpa using z
  exact ⟨i+1,EqI.next ⟨h0,h1,h2,hn⟩ hi hp,by simp only [gef4]; omega,by (repeat' (first | exact trivial | exact rfl | assumption | apply And.intro)),trivial⟩
def gsmPs_S (smPs:LLR→LLR→Bool) (smP:List AV→List AV→Bool) (pdA:Int→Bool→Int→Int→Int→Int→LLR→List AV) (eqRd:LLR→LLR→Bool):Prop:=∀ (gl:Glob) (f g:Bool) (ps qs:List (List AV)),PdsP ps∧PdsP qs→fnK Tryz.prog { glob:=gl,spec:=lk [(80,(gsmP_s eqRd smP pdA))],specH:=lk [],shape:=[21,25],slz:=[(21,[2]),(25,[2])],nowf:=true,wrap:=true } { nt:=32,drop:=drp [(1,15360),(5,3670016),(6,62914560),(7,1006632960),(9,2147483648)] } (invs [(4,gef4 7 80 smP ps qs f g)]) 6 Tryz.f79 [.sl 7 f ps,.sl 7 g qs,.fn 80 []] (.bool (smPs ps qs))
theorem gsmPs_e (smPs:LLR→LLR→Bool) (smP:List AV→List AV→Bool) (pdA:Int→Bool→Int→Int→Int→Int→LLR→List AV) (eqRd:LLR→LLR→Bool):gsmPs_T smPs smP pdA eqRd=gsmPs_S smPs smP pdA eqRd:=by kernel_rfl
theorem gsmPs_v:gsmPs_S smPs smP pdA eqRd:=Eq.mp (gsmPs_e ..) (gsmPs_P)
theorem gsmPs_ok (gl:Glob):SOK Tryz.prog gl 79 (gsmPs_s smPs smP pdA):=by
 refine ⟨fok Tryz.func79 (by kernel_rfl) (by kernel_rfl),?_⟩
 intro xs pre r h hp
 unfold gsmPs_s at h
 split at h
 ·simp only [Option.some.injEq,Prod.mk.injEq] at h
  obtain ⟨h1,h2⟩:=h
  subst h1 h2
  exact fnK_sound tyNil (by exact specOK rfl rfl ⟨(gsmP_ok gl),trivial⟩ trivial) (by kernel_rfl) Tryz.func79 rfl (gsmPs_v gl _ _ _ _ hp)
 ·cases h
def gsmC_s (smPs:LLR→LLR→Bool) (smS:List AV→List AV→Bool) (stA:Int→ByteArray→LLR→List AV):Sp
 | [.agg [.int .i64 k,.str nm,.sl 7 f ps],.agg [.int .i64 k2,.str nm2,.sl 7 g qs]]=>some (PdsP ps∧PdsP qs,.bool (smS (stA k nm ps) (stA k2 nm2 qs)))
 | _=>none
def gsmC_T (smPs:LLR→LLR→Bool) (smS:List AV→List AV→Bool) (stA:Int→ByteArray→LLR→List AV) (smP:List AV→List AV→Bool) (pdA:Int→Bool→Int→Int→Int→Int→LLR→List AV):Prop :=
  ∀ (gl:Glob) (k:Int) (nm:ByteArray) (f:Bool) (ps:List (List AV)) (k2:Int) (nm2:ByteArray) (g:Bool) (qs:List (List AV)),PdsP ps∧PdsP qs→(IR9 k)∧nm.size.le (9223372036854775807:Nat)∧True∧True→(IR9 k2)∧nm2.size.le (9223372036854775807:Nat)∧True∧True→bif decide (k=k2) then bif
 decide (nm=nm2) then (PdsP ps∧PdsP qs)∧smPs ps qs=smS (stA k nm ps) (stA k2 nm2 qs) else false=smS (stA k nm ps) (stA k2 nm2 qs) else false=smS (stA k nm ps) (stA k2 nm2 qs)
theorem gsmC_P:gsmC_T smPs smS stA smP pdA:=by
 unfold gsmC_T
 intro gl k nm f ps k2 nm2 g qs hp _ _
 have u:smS (stA k nm ps) (stA k2 nm2 qs)=(if k≠k2 then false else if nm≠nm2 then false else smPs ps qs):=rfl
 rw [u]
 refine csx (fun h1=>csx (fun h2=>⟨hp,?_⟩) (fun h2=>?_)) (fun h1=>(if_pos h1).symm)
 ·rw [if_neg (by simpa using h1),if_neg (by simpa using h2)]
 ·rw [if_neg (by simpa using h1),if_pos h2]
def gsmC_S (smPs:LLR→LLR→Bool) (smS:List AV→List AV→Bool) (stA:Int→ByteArray→LLR→List AV) (smP:List AV→List AV→Bool) (pdA:Int→Bool→Int→Int→Int→Int→LLR→List AV):Prop:=∀ (gl:Glob) (k:Int) (nm:ByteArray) (f:Bool) (ps:List (List AV)) (k2:Int) (nm2:ByteArray) (g:Bool) (qs:List (List AV)),PdsP ps∧PdsP qs→fnK Tryz.prog { glob:=gl,spec:=lk [(79,(gsmPs_s smPs smP pdA))],specH:=lk [],nowf:=true } { nt:=24,drop:=drp [(1,16777184)] } (fun _ _=>none) 6 Tryz.f78 [.agg [.int .i64 k,.str nm,.sl 7 f ps],.agg [.int .i64 k2,.str nm2,.sl 7 g qs]] (.bool (smS (stA k nm ps) (stA k2 nm2 qs)))
theorem gsmC_e (smPs:LLR→LLR→Bool) (smS:List AV→List AV→Bool) (stA:Int→ByteArray→LLR→List AV) (smP:List AV→List AV→Bool) (pdA:Int→Bool→Int→Int→Int→Int→LLR→List AV):gsmC_T smPs smS stA smP pdA=gsmC_S smPs smS stA smP pdA:=by kernel_rfl
theorem gsmC_v:gsmC_S smPs smS stA smP pdA:=Eq.mp (gsmC_e ..) (gsmC_P)
theorem gsmC_ok (gl:Glob):SOK Tryz.prog gl 78 (gsmC_s smPs smS stA):=by
 refine ⟨fok Tryz.func78 (by kernel_rfl) (by kernel_rfl),?_⟩
 intro xs pre r h hp
 unfold gsmC_s at h
 split at h
 ·simp only [Option.some.injEq,Prod.mk.injEq] at h
  obtain ⟨h1,h2⟩:=h
  subst h1 h2
  exact fnK_sound tyNil (by exact specOK rfl rfl ⟨(gsmPs_ok gl),trivial⟩ trivial) (by kernel_rfl) Tryz.func78 rfl (gsmC_v gl _ _ _ _ _ _ _ _ hp)
 ·cases h
def gsmF_s (smR:LLR→LLR→Bool) (smS:List AV→List AV→Bool) (stA:Int→ByteArray→LLR→List AV):Sp
 | [.sl 3 f l,.sl 3 g q,.fn 78 []]=>some (StsP l∧StsP q,.bool (smR l q))
 | _=>none
def gsmF_T (smR:LLR→LLR→Bool) (smS:List AV→List AV→Bool) (stA:Int→ByteArray→LLR→List AV) (smPs:LLR→LLR→Bool):Prop :=
  ∀ (gl:Glob) (f g:Bool) (l q:List (List AV)),StsP l∧StsP q→True→True→True→bif decide ¬(↑l.length:Int)=(↑q.length:Int) then false=smR l q else (∃ x,EqI l q (fun a b=>smS a b=true) x∧(((bif g then g=true else True)∧q=q)∧True∧((bif f then f=true else True)∧l=l)∧(↑l.length:Int)=(↑l.length:Int)∧(0:Int)=x∧True)∧True)∧∀ (x:Int),EqI l q (fun a b=>smS a b=true) x→bif decide (x < (↑l.length:Int))
 then bif decide (0≤x∧x < (↑l.length:Int)) then ∃ n s xs,List.take [AV.int .i64 n,.str s,.sl (7:Nat) false xs].length (l.getD x.toNat [])=[AV.int .i64 n,.str s,.sl (7:Nat) false xs]∧bif decide (0≤x∧x < (↑q.length:Int)) then ∃ n_1 s_1 xs_1,List.take [AV.int .i64 n_1,.str s_1,.sl (7:Nat) false xs_1].length (q.getD x.toNat [])=[AV.int .i64 n_1,.str s_1,.sl (7:Nat) false xs_1]∧(PdsP
 xs∧PdsP xs_1)∧bif !smS (stA n s xs) (stA n_1 s_1 xs_1) then false=smR l q else ∃ y,EqI l q (fun a b=>smS a b=true) y∧(gef4 (3:Nat) (78:Nat) smS l q f g).m y < (gef4 (3:Nat) (78:Nat) smS l q f g).m x∧(((bif g then g=true else True)∧q=q)∧True∧((bif f then f=true else True)∧l=l)∧(↑l.length:Int)=(↑l.length:Int)∧IntKind.i64.wrap (x+(1:Int))=y∧True)∧True else False else False else true=smR l q
theorem gsmF_P:gsmF_T smR smS stA smPs:=by
 unfold gsmF_T
 intro gl f g l q ⟨hx,hy⟩ _ _ _
 have bf:cond f (f=true) True:=by cases f <;> trivial
 have bg:cond g (g=true) True:=by cases g <;> trivial
 have lx:=hx.fs
 refine csx (fun hl=>(decide_eq_false fun z=>hl (by rw [z.1])).symm) (fun hl=>?_)
 have hl:l.length=q.length:=by have:=Decidable.not_not.1 hl; omega
 refine ⟨⟨0,⟨by decide,by omega,hl,fun j h=>by omega⟩,by (repeat' (first | exact trivial | exact rfl | assumption | apply And.intro)),trivial⟩,?_⟩
 rintro i ⟨h0,h1,h2,hn⟩
 refine csx (fun hi=>?_) (fun hi=>(decide_eq_true ⟨hl,fun j hj=>hn j (by omega)⟩).symm)
 have w:IntKind.i64.wrap (i+1)=i+1:=wrap_eq (by show _∧_; omega)
 obtain ⟨k,nm,ps,he,hp⟩:=hx.fr i.toNat (by omega)
 obtain ⟨k2,nm2,ps2,he2,hp2⟩:=hy.fr i.toNat (by omega)
 refine cd1 (by omega) ⟨k,nm,ps,by rw [he]; rfl,cd1 (by omega) ⟨k2,nm2,ps2,by rw [he2]; rfl,⟨hp,hp2⟩,csplit (fun z=>?_) (fun z=>?_)⟩⟩
 ·refine (decide_eq_false fun q=>?_).symm
  have:=q.2 i.toNat (by omega)
  rw [he,he2] at this
  rw [this] at z
  cases z
 ·have hp:smS (l.getD i.toNat []) (q.getD i.toNat [])=true:=by rw [he,he2]; simpa using z
  exact ⟨i+1,EqI.next ⟨h0,h1,h2,hn⟩ hi hp,by simp only [gef4]; omega,by (repeat' (first | exact trivial | exact rfl | assumption | apply And.intro)),trivial⟩
def gsmF_S (smR:LLR→LLR→Bool) (smS:List AV→List AV→Bool) (stA:Int→ByteArray→LLR→List AV) (smPs:LLR→LLR→Bool):Prop:=∀ (gl:Glob) (f g:Bool) (l q:List (List AV)),StsP l∧StsP q→fnK Tryz.prog { glob:=gl,spec:=lk [(78,(gsmC_s smPs smS stA))],specH:=lk [],shape:=[21,25],slz:=[(21,[7]),(25,[7])],nowf:=true,wrap:=true } { nt:=32,drop:=drp [(1,15360),(5,3670016),(6,62914560),(7,1006632960),(9,2147483648)] } (invs [(4,gef4 3 78 smS l q f g)]) 6 Tryz.f77 [.sl 3 f l,.sl 3 g q,.fn 78 []] (.bool (smR l q))
theorem gsmF_e (smR:LLR→LLR→Bool) (smS:List AV→List AV→Bool) (stA:Int→ByteArray→LLR→List AV) (smPs:LLR→LLR→Bool):gsmF_T smR smS stA smPs=gsmF_S smR smS stA smPs:=by kernel_rfl
theorem gsmF_v:gsmF_S smR smS stA smPs:=Eq.mp (gsmF_e ..) (gsmF_P)
theorem gsmF_ok (gl:Glob):SOK Tryz.prog gl 77 (gsmF_s smR smS stA):=by
 refine ⟨fok Tryz.func77 (by kernel_rfl) (by kernel_rfl),?_⟩
 intro xs pre r h hp
 unfold gsmF_s at h
 split at h
 ·simp only [Option.some.injEq,Prod.mk.injEq] at h
  obtain ⟨h1,h2⟩:=h
  subst h1 h2
  exact fnK_sound tyNil (by exact specOK rfl rfl ⟨(gsmC_ok gl),trivial⟩ trivial) (by kernel_rfl) Tryz.func77 rfl (gsmF_v gl _ _ _ _ hp)
 ·cases h
def gSame_s (smR:LLR→LLR→Bool):Sp
 | [.agg [.sl 3 f l],.agg [.sl 3 g q]]=>some (StsP l∧StsP q,.bool (smR l q))
 | _=>none
def gSame_T (smR:LLR→LLR→Bool) (smS:List AV→List AV→Bool) (stA:Int→ByteArray→LLR→List AV):Prop :=
 ∀ (gl:Glob) (f g:Bool) (l q:List (List AV)),StsP l∧StsP q→True∧True→True∧True→(StsP l∧StsP q)∧smR l q=smR l q
theorem gSame_P:gSame_T smR smS stA:=by
 unfold gSame_T
 intro gl f g l q hp _ _
 exact ⟨hp,rfl⟩
def gSame_S (smR:LLR→LLR→Bool) (smS:List AV→List AV→Bool) (stA:Int→ByteArray→LLR→List AV):Prop:=∀ (gl:Glob) (f g:Bool) (l q:List (List AV)),StsP l∧StsP q→fnK Tryz.prog { glob:=gl,spec:=lk [(77,(gsmF_s smR smS stA))],specH:=lk [],nowf:=true } { nt:=10,drop:=drp [(1,992)] } (fun _ _=>none) 6 Tryz.f33 [.agg [.sl 3 f l],.agg [.sl 3 g q]] (.bool (smR l q))
theorem gSame_e (smR:LLR→LLR→Bool) (smS:List AV→List AV→Bool) (stA:Int→ByteArray→LLR→List AV):gSame_T smR smS stA=gSame_S smR smS stA:=by kernel_rfl
theorem gSame_v:gSame_S smR smS stA:=Eq.mp (gSame_e ..) (gSame_P)
theorem gSame_ok (gl:Glob):SOK Tryz.prog gl 33 (gSame_s smR):=by
 refine ⟨fok Tryz.func33 (by kernel_rfl) (by kernel_rfl),?_⟩
 intro xs pre r h hp
 unfold gSame_s at h
 split at h
 ·simp only [Option.some.injEq,Prod.mk.injEq] at h
  obtain ⟨h1,h2⟩:=h
  subst h1 h2
  exact fnK_sound tyNil (by exact specOK rfl rfl ⟨(gsmF_ok gl),trivial⟩ trivial) (by kernel_rfl) Tryz.func33 rfl (gSame_v gl _ _ _ _ hp)
 ·cases h
end Go.Proofs.YtldiagnbagpliaaGreatDoor
namespace Go.Proofs.YtldiagnbagpliaaGreatDoor
open Go
set_option linter.unusedVariables false
set_option linter.unusedSimpArgs false
def an7 (kd mi:Int) (nm:ByteArray) (m:Int) (xs r G:LLR) (c7:List AV):LInv:=⟨Int × Int,fun x=>⟨[(3,.int .i64 kd),(4,.int .i64 mi),(5,.str nm),(7,.ptr 7 0),(13,.ptr 62 0),(14,.int .i64 m),(15,.ptr 15 0),(73,.rw 73 1 3),(74,.int .i64 3),(75,.int .i64 x.1)],[(7,.cells c7),(15,.cells [.sl 3 false r]),(62,.cells [.sl 1 false xs,.int .i64 x.2]),(73,.row 24 1 G)]⟩,AlP 3,fun x=>(3 - x.1).toNat,none⟩
def an14 (kd mi:Int) (nm:ByteArray) (m ix j k:Int) (xs r G g Q:LLR) (c7 c19:List AV) (e:Nat):LInv:=⟨Int,fun x=>⟨[(3,.int .i64 kd),(4,.int .i64 mi),(5,.str nm),(7,.ptr 7 0),(13,.ptr 62 0),(14,.int .i64 m),(15,.ptr 15 0),(17,.ptr 17 0),(19,.ptr 19 0),(73,.rw 73 1 3),(74,.int .i64 3),(75,.int .i64 ix),(118,.rw 118 9 4),(119,.int .i64 4),(120,.int .i64 x)],[(7,.cells c7),(15,.cells [.sl 3 false r]),(17,.cells [.sl 3 false g]),(19,.cells c19),(62,.cells [.sl 1 false xs,.int .i64 j]),(73,.row 24 1 G),(118,.row e 9 Q)]⟩,AlI 4,fun x=>(4 - x).toNat,none⟩
def an22 (kd mi:Int) (nm:ByteArray) (m ix:Int) (xs r G g T:LLR) (c7:List AV):LInv:=⟨Int × Int,fun x=>⟨[(3,.int .i64 kd),(4,.int .i64 mi),(5,.str nm),(7,.ptr 7 0),(13,.ptr 62 0),(14,.int .i64 m),(15,.ptr 15 0),(17,.ptr 17 0),(73,.rw 73 1 3),(74,.int .i64 3),(75,.int .i64 ix),(163,.rw 163 1 4),(164,.int .i64 4),(165,.int .i64 x.1)],[(7,.cells c7),(15,.cells [.sl 3 false r]),(17,.cells [.sl 3 false g]),(62,.cells [.sl 1 false xs,.int .i64 x.2]),(73,.row 24 1 G),(163,.row 3 1 T)]⟩,AlP 4,fun x=>(4 - x.1).toNat,none⟩
def an25 (kd mi:Int) (nm:ByteArray) (m ix j y t:Int) (xs r G g T N:LLR) (c7:List AV):LInv:=⟨Int,fun x=>⟨[(3,.int .i64 kd),(4,.int .i64 mi),(5,.str nm),(7,.ptr 7 0),(13,.ptr 62 0),(14,.int .i64 m),(15,.ptr 15 0),(17,.ptr 17 0),(27,.int .i64 t),(73,.rw 73 1 3),(74,.int .i64 3),(75,.int .i64 ix),(163,.rw 163 1 4),(164,.int .i64 4),(165,.int .i64 y),(172,.rw 172 1 2),(173,.int .i64 2),(174,.int .i64 x)],[(7,.cells c7),(15,.cells [.sl 3 false r]),(17,.cells [.sl 3 false g]),(62,.cells [.sl 1 false xs,.int .i64 j]),(73,.row 24 1 G),(163,.row 3 1 T),(172,.row 9 1 N)]⟩,AlI 2,fun x=>(2 - x).toNat,none⟩
def an36 (kd mi:Int) (nm:ByteArray) (m ix j:Int) (xs r G g:LLR) (c7:List AV):LInv:=⟨Int,fun x=>⟨[(3,.int .i64 kd),(4,.int .i64 mi),(5,.str nm),(7,.ptr 7 0),(13,.ptr 62 0),(14,.int .i64 m),(15,.ptr 15 0),(17,.ptr 17 0),(73,.rw 73 1 3),(74,.int .i64 3),(75,.int .i64 ix),(229,.sl 3 false g),(230,.int .i64 g.length),(231,.int .i64 x)],[(7,.cells c7),(15,.cells [.sl 3 false r]),(17,.cells [.sl 3 false g]),(62,.cells [.sl 1 false xs,.int .i64 j]),(73,.row 24 1 G)]⟩,CoI g,fun x=>(g.length - x).toNat,none⟩
def an39 (kd mi:Int) (nm:ByteArray) (m ix j y:Int) (xs r G g ps:LLR) (c7:List AV) (k:Int) (n:ByteArray):LInv:=⟨Int,fun x=>⟨[(3,.int .i64 kd),(4,.int .i64 mi),(5,.str nm),(7,.ptr 7 0),(13,.ptr 62 0),(14,.int .i64 m),(15,.ptr 15 0),(17,.ptr 17 0),(39,.ptr 39 0),(73,.rw 73 1 3),(74,.int .i64 3),(75,.int .i64 ix),(229,.sl 3 false g),(230,.int .i64 g.length),(231,.int .i64 y),(236,.sl 7 false ps),(237,.int .i64 ps.length),(238,.int .i64 x)],[(7,.cells c7),(15,.cells [.sl 3 false r]),(17,.cells [.sl 3 false g]),(39,.cells [.int .i64 k,.str n,.sl 7 false ps]),(62,.cells [.sl 1 false xs,.int .i64 j]),(73,.row 24 1 G)]⟩,CoI ps,fun x=>(ps.length - x).toNat,none⟩
def anJ (id:Nat) (st:St):Option LInv:=match lk st.tmps 3,lk st.tmps 4,lk st.tmps 5,lk st.tmps 14,lk st.tmps 75,lk st.heap 62,lk st.heap 7,lk st.heap 15,lk st.heap 73 with
 | some (.int _ kd),some (.int _ mi),some (.str nm),some (.int _ m),some (.int _ ix),some (.cells [.sl _ _ xs,.int _ j]),some (.cells c7),some (.cells [.sl _ _ r]),some (.row _ _ G)=>cond (Nat.beq id 7) (some (an7 kd mi nm m xs r G c7)) (match lk st.heap 17 with
  | some (.cells [.sl _ _ g])=>cond (Nat.beq id 14) (match lk st.heap 19,lk st.heap 118 with
   | some (.cells c19),some (.row e _ Q)=>some (an14 kd mi nm m ix j 0 xs r G g Q c7 c19 e)
   | _,_=>none) (cond (Nat.beq id 22) (match lk st.heap 163 with
   | some (.row _ _ T)=>some (an22 kd mi nm m ix xs r G g T c7)
   | _=>none) (cond (Nat.beq id 25) (match lk st.heap 163,lk st.heap 172,lk st.tmps 165,lk st.tmps 27 with
   | some (.row _ _ T),some (.row _ _ N),some (.int _ y),some (.int _ t)=>some (an25 kd mi nm m ix j y t xs r G g T N c7)
   | _,_,_,_=>none) (cond (Nat.beq id 36) (some (an36 kd mi nm m ix j xs r G g c7)) (cond (Nat.beq id 39) (match lk st.heap 39,lk st.tmps 231 with
   | some (.cells [.int _ k,.str n,.sl _ _ ps]),some (.int _ y)=>some (an39 kd mi nm m ix j y xs r G g ps c7 k n)
   | _,_=>none) none))))
  | _=>none)
 | _,_,_,_,_,_,_,_,_=>none
theorem sts_setB {l bs:LLR} (hl:StsP l) (hb:RdsP bs) (hbl:bs.length≤1000) (k:Int) (nm:ByteArray) (fr:Int) (cl:Bool) (f a b c:Int):StsP (setO l k nm fr cl f a b c bs):=by
 by_cases h:setE l k nm fr cl f a b c bs=0
 ·exact (set_valid hl hb hbl h).fp
 ·unfold setO; rw [if_neg h]; exact sts_nil
theorem pds_rem {ps:LLR} (hp:PdsP ps) (fr:Int):PdsP (remP ps fr):=pds_mem (fun r hr=>mem_pds hp (by
 unfold remP at hr
 rcases List.mem_append.1 hr with h | h
 ·exact List.mem_of_mem_take h
 ·exact List.mem_of_mem_drop h)) (by unfold remP; have:=hp.fs; simp only [List.length_append,List.length_take,List.length_drop]; omega)
theorem sts_remO {l:LLR} (hl:StsP l) (nm:ByteArray) (fr:Int):StsP (remO l nm fr):=by
 unfold remO
 split
 ·unfold remL
  split
  ·exact sts_mem (fun r hr=>mem_sts hl (by
    rcases List.mem_append.1 hr with h | h
    ·exact List.mem_of_mem_take h
    ·exact List.mem_of_mem_drop h)) (by have:=hl.fs; simp only [List.length_append,List.length_take,List.length_drop]; omega)
  ·refine ⟨fun i hi=>?_,by rw [setEl_len]; exact hl.fs⟩
   rw [setEl_len] at hi
   obtain ⟨k,n,ps,hr,hp⟩:=hl.fr i hi
   rw [setEl_get]
   split
   ·rename_i z
    obtain ⟨rfl,hz⟩:=z
    have e:seD l nm=ps:=by unfold seD hoP; rw [hr]; rfl
    rw [hr,e]; exact ⟨k,n,remP ps fr,rfl,pds_rem hp fr⟩
   ·exact ⟨k,n,ps,hr,hp⟩
 ·exact sts_nil
structure QsR (Q:LLR):Prop where
 fl:Q.length=4
 fr:∀ i:Nat,i < 4→∃ (k:Int) (n:ByteArray) (fr:Int) (cl:Bool) (f a b c:Int) (bs:LLR),Q.getD i []=[.int .i64 k,.str n,.int .i64 fr,.bool cl,.int .i64 f,.int .i64 a,.int .i64 b,.int .i64 c,.sl 2 false bs]∧RdsP bs∧bs.length≤1000
structure TsR (T:LLR):Prop where
 fl:T.length=4
 fr:∀ i:Nat,i < 4→∃ n:Int,T.getD i []=[.int .i64 n]
structure NsR (N:LLR):Prop where
 fl:N.length=2
 fr:∀ i:Nat,i < 2→∃ s:ByteArray,N.getD i []=[.str s]
theorem atZ_bis {l:LLR} (hl:StsP l) (n:ByteArray) (t:Int):RdsP (pB (atZ l n t)):=by
 unfold atZ
 split
 ·exact ap_bias hl n t
 ·exact rdsP_nil
def lanswersR_s (setE:LLR→Int→ByteArray→Int→Bool→Int→Int→Int→Int→LLR→Int) (setO:LLR→Int→ByteArray→Int→Bool→Int→Int→Int→Int→LLR→LLR) (reE:LLR→Int→ByteArray→Int→Bool→Int→Int→Int→Int→LLR→Int) (reO:LLR→Int→ByteArray→Int→Bool→Int→Int→Int→Int→LLR→LLR) (remE:LLR→ByteArray→Int→Int) (remO:LLR→ByteArray→Int→LLR) (rgV:LLR→Int) (pB:List AV→LLR) (pI:Nat→List AV→Int) (pC:List AV→Bool) (atZ:LLR→ByteArray→Int→List AV) (atE:LLR→ByteArray→Int→Int) (smP:List AV→List AV→Bool) (smR:LLR→LLR→Bool) (pdA:Int→Bool→Int→Int→Int→Int→LLR→List AV):Sp
 | [.agg [.sl 3 false l0],.agg [.int .i64 fr,.bool cl,.int .i64 f,.int .i64 a,.int .i64 b,.int .i64 c,.sl 2 false bs],.sl 1 false xs,.int .i64 kd,.int .i64 mi,.str nm]=>some (StsA l0∧RdA bs∧IntsA xs,.bool true)
 | _=>none
def lanswersR_T (setE':LLR→Int→ByteArray→Int→Bool→Int→Int→Int→Int→LLR→Int) (setO':LLR→Int→ByteArray→Int→Bool→Int→Int→Int→Int→LLR→LLR) (reE:LLR→Int→ByteArray→Int→Bool→Int→Int→Int→Int→LLR→Int) (reO:LLR→Int→ByteArray→Int→Bool→Int→Int→Int→Int→LLR→LLR) (remE':LLR→ByteArray→Int→Int) (remO':LLR→ByteArray→Int→LLR) (rgV:LLR→Int) (pB:List AV→LLR) (pI:Nat→List AV→Int) (pC:List AV→Bool) (atZ:LLR→ByteArray→Int→List AV) (atE:LLR→ByteArray→Int→Int) (smP:List AV→List AV→Bool) (smR:LLR→LLR→Bool) (pdA:Int→Bool→Int→Int→Int→Int→LLR→List AV) (p1R:List AV→Bool) (p2R:List AV→Bool) (p3R:List AV→Bool) (p4R:List AV→Bool) (p5R:List AV→Bool) (pdV:Int→Int→Bool→Int→Int→Int→Int→LLR→Bool) (nmOk:ByteArray→Bool) (smPs:LLR→LLR→Bool) (wiL:LLR→Int→ByteArray→LLR→LLR) (fiK:LLR→ByteArray→Int) (fiN:LLR→ByteArray→ByteArray) (fiP:LLR→ByteArray→LLR) (fiB:LLR→ByteArray→Bool) (stN:LLR→ByteArray→Nat) (stH:LLR→ByteArray→Bool) (atR:LLR→Int→List AV) (atB:LLR→Int→Bool) (laO:LLR→Int→Int→Option (List AV)) (laR:LLR→Int→Int→List AV) (rmF:LLR→Int→LLR) (eqRd:LLR→LLR→Bool) (apE:LLR→Int→ByteArray→Int→Int→Int→Int→Int→LLR→Int) (apX:Nat→LLR→Int→ByteArray→Int→Int→Int) (apP:LLR→ByteArray→Int→List AV) (zI:Int→Int→Int) (zS:Int→LLR→LLR) (unb:LLR→LLR→LLR):Prop :=
  ∀ (l0:List (List AV)) (fr:Int) (cl:Bool) (f a b c:Int) (bs xs:List (List AV)) (kd mi:Int) (nm:ByteArray),(StsA l0∧RdA bs∧∀ (x:List AV),List.Mem x xs→∃ n,x=[AV.int .i64 n]∧rng .i64 n)→True∧True→(IR9 fr)∧True∧(IR9 f)∧((-9223372036854775808:Int)≤a∧a ≤
 (9223372036854775807:Int))∧(IR9 b)∧(IR9 c)∧True∧True→True→IR9 kd→IR9 mi→nm.size.le (9223372036854775807:Nat)→StsA l0∧∀ (b_1:Bool),SmaQ l0 b_1→bif !b_1 then True∧true=true else
 bif decide ((30:Int) < (↑bs.length:Int)) then True∧true=true else bif decide ((30:Int) < (↑nm.size:Int)) then True∧true=true else True∧SrcQ (List.take (2000:Nat) xs) (0:Int)∧∀ (m j:Int),MinQ m j→(SrcQ (List.take (2000:Nat) xs) j∧0≤m∧m≤(52595999:Int))∧∀ (l:List (List AV)) (j:Int),RegvQ l j→(SrcQ (List.take (2000:Nat) xs) j∧BnoP l)∧∀ (q:List (List AV)) (j2:Int),BntR q j2→(∃ x,AlP
 (3:Int) x∧(kd=kd∧mi=mi∧nm=nm∧(0:Nat)=0∧(0:Nat)=0∧m=m∧(0:Nat)=0∧(3:Nat)=3∧(3:Int)=3∧(0:Int)=x.fst∧True)∧(fr=fr∧cl=cl∧f=f∧a=a∧b=b∧c=c∧(True∧bs=bs)∧True)∧((True∧l=l)∧True)∧((True∧List.take (2000:Nat) xs=List.take (2000:Nat) xs)∧j2=x.snd∧True)∧[[AV.sl (3:Nat) false l0],[AV.sl (3:Nat) false l],[AV.sl (3:Nat) false q]]=[[AV.sl (3:Nat) false l0],[AV.sl (3:Nat) false l],[AV.sl (3:Nat) false q]]∧True)∧∀ (x
:Int × Int),AlP (3:Int) x→bif decide (x.fst < (3:Int)) then bif decide (0≤x.fst∧x.fst < (3:Int)) then bif decide ((3:Nat)=[[AV.sl (3:Nat) false l0],[AV.sl (3:Nat) false l],[AV.sl (3:Nat) false q]].length∧x.fst.toNat < [[AV.sl (3:Nat) false l0],[AV.sl (3:Nat) false l],[AV.sl (3:Nat) false q]].length) then ∃ xs_1,List.take [AV.sl (3:Nat) false xs_1].length (List.drop (0:Nat) ([[AV.sl (3:Nat)
 false l0],[AV.sl (3:Nat) false l],[AV.sl (3:Nat) false q]].getD x.fst.toNat []))=[AV.sl (3:Nat) false xs_1]∧StsP xs_1∧StsP xs_1∧bif decide ¬rgV xs_1=rgV xs_1 then false=true else (StsP xs_1∧StsP l)∧(StsP xs_1∧StsP l)∧bif !decide (smR xs_1 l=smR xs_1 l) then false=true else (SrcQ (List.take (2000:Nat) xs) x.snd∧(0:Int)≤(4:Int)∧(-1000000000:Int)≤(0:Int)∧(4:Int)≤(1000000000:Int))∧∀ (v
 j:Int),(0≤v∧v≤(4:Int))∧0≤j→(SrcQ (List.take (2000:Nat) xs) j∧0≤m∧m≤(52595999:Int))∧∀ (fr_1:Int) (cl_1:Bool) (f_1 a_14 b_2 c_1:Int) (bs_1:List (List AV)) (j:Int),PrvQ v fr_1 cl_1 f_1 a_14 b_2 c_1 bs_1 j→SrcQ (List.take (2000:Nat) xs) j∧∀ (s:ByteArray) (j:Int),NamQ s j→SrcQ (List.take (2000:Nat) xs) j∧∀ (s_1:ByteArray) (j:Int),NamQ s_1 j→SrcQ (List.take (2000:Nat)
 xs) j∧∀ (s_2:ByteArray) (j:Int),NamQ s_2 j→(∃ x_1,AlI (4:Int) x_1∧(kd=kd∧mi=mi∧nm=nm∧(0:Nat)=0∧(0:Nat)=0∧m=m∧(0:Nat)=0∧(0:Nat)=0∧(0:Nat)=0∧(3:Nat)=3∧(3:Int)=3∧x.fst=x.fst∧(4:Nat)=4∧(4:Int)=4∧(0:Int)=x_1∧True)∧(fr=fr∧cl=cl∧f=f∧a=a∧b=b∧c=c∧(True∧bs=bs)∧True)∧((True∧l=l)∧True)∧((True∧xs_1=xs_1)∧True)∧(fr_1=fr_1∧cl_1=cl_1∧f_1=f_1∧a_14=a_14∧b_2=b_2∧c_1=c_1∧(True∧bs_1=bs_1)∧True)∧((True∧List.take
 (2000:Nat) xs=List.take (2000:Nat) xs)∧j=j∧True)∧[[AV.sl (3:Nat) false l0],[AV.sl (3:Nat) false l],[AV.sl (3:Nat) false q]]=[[AV.sl (3:Nat) false l0],[AV.sl (3:Nat) false l],[AV.sl (3:Nat) false q]]∧[[AV.int .i64 kd,.str nm,.int .i64 fr,.bool cl,.int .i64 f,.int .i64 a,.int .i64 b,.int .i64 c,.sl (2:Nat) false bs],[AV.int .i64 v,.str s,.int .i64 fr_1,.bool cl_1,.int .i64 f_1,.int .i64 a_14,.int
 .i64 b_2,.int .i64 c_1,.sl (2:Nat) false bs_1],[AV.int .i64 v,.str s_1,.int .i64 fr,.bool cl,.int .i64 f,.int .i64 a,.int .i64 b,.int .i64 c,.sl (2:Nat) false bs],[AV.int .i64 kd,.str s_2,.int .i64 fr_1,.bool cl_1,.int .i64 f_1,.int .i64 a_14,.int .i64 b_2,.int .i64 c_1,.sl (2:Nat) false bs_1]]=[[AV.int .i64 kd,.str nm,.int .i64 fr,.bool cl,.int .i64 f,.int .i64 a,.int .i64 b,.int .i64 c,.sl
 (2:Nat) false bs],[AV.int .i64 v,.str s,.int .i64 fr_1,.bool cl_1,.int .i64 f_1,.int .i64 a_14,.int .i64 b_2,.int .i64 c_1,.sl (2:Nat) false bs_1],[AV.int .i64 v,.str s_1,.int .i64 fr,.bool cl,.int .i64 f,.int .i64 a,.int .i64 b,.int .i64 c,.sl (2:Nat) false bs],[AV.int .i64 kd,.str s_2,.int .i64 fr_1,.bool cl_1,.int .i64 f_1,.int .i64 a_14,.int .i64 b_2,.int .i64 c_1,.sl (2:Nat) false
 bs_1]]∧True)∧∀ (x_1:Int),AlI (4:Int) x_1→bif decide (x_1 < (4:Int)) then bif decide (0≤x_1∧x_1 < (4:Int)) then bif decide ((4:Nat)=[[AV.int .i64 kd,.str nm,.int .i64 fr,.bool cl,.int .i64 f,.int .i64 a,.int .i64 b,.int .i64 c,.sl (2:Nat) false bs],[AV.int .i64 v,.str s,.int .i64 fr_1,.bool cl_1,.int .i64 f_1,.int .i64 a_14,.int .i64 b_2,.int .i64 c_1,.sl (2:Nat) false bs_1],[AV.int .i64
 v,.str s_1,.int .i64 fr,.bool cl,.int .i64 f,.int .i64 a,.int .i64 b,.int .i64 c,.sl (2:Nat) false bs],[AV.int .i64 kd,.str s_2,.int .i64 fr_1,.bool cl_1,.int .i64 f_1,.int .i64 a_14,.int .i64 b_2,.int .i64 c_1,.sl (2:Nat) false bs_1]].length∧x_1.toNat < [[AV.int .i64 kd,.str nm,.int .i64 fr,.bool cl,.int .i64 f,.int .i64 a,.int .i64 b,.int .i64 c,.sl (2:Nat) false bs],[AV.int .i64 v,.str s,.int
 .i64 fr_1,.bool cl_1,.int .i64 f_1,.int .i64 a_14,.int .i64 b_2,.int .i64 c_1,.sl (2:Nat) false bs_1],[AV.int .i64 v,.str s_1,.int .i64 fr,.bool cl,.int .i64 f,.int .i64 a,.int .i64 b,.int .i64 c,.sl (2:Nat) false bs],[AV.int .i64 kd,.str s_2,.int .i64 fr_1,.bool cl_1,.int .i64 f_1,.int .i64 a_14,.int .i64 b_2,.int .i64 c_1,.sl (2:Nat) false bs_1]].length) then ∃ n s_3 n_1 b_3 n_2 n_3 n_4 n_5
 xs_2,List.take [AV.int .i64 n,.str s_3,.int .i64 n_1,.bool b_3,.int .i64 n_2,.int .i64 n_3,.int .i64 n_4,.int .i64 n_5,.sl (2:Nat) false xs_2].length (List.drop (0:Nat) ([[AV.int .i64 kd,.str nm,.int .i64 fr,.bool cl,.int .i64 f,.int .i64 a,.int .i64 b,.int .i64 c,.sl (2:Nat) false bs],[AV.int .i64 v,.str s,.int .i64 fr_1,.bool cl_1,.int .i64 f_1,.int .i64 a_14,.int .i64 b_2,.int .i64 c_1,.sl
 (2:Nat) false bs_1],[AV.int .i64 v,.str s_1,.int .i64 fr,.bool cl,.int .i64 f,.int .i64 a,.int .i64 b,.int .i64 c,.sl (2:Nat) false bs],[AV.int .i64 kd,.str s_2,.int .i64 fr_1,.bool cl_1,.int .i64 f_1,.int .i64 a_14,.int .i64 b_2,.int .i64 c_1,.sl (2:Nat) false bs_1]].getD x_1.toNat []))=[AV.int .i64 n,.str s_3,.int .i64 n_1,.bool b_3,.int .i64 n_2,.int .i64 n_3,.int .i64 n_4,.int .i64 n_5,.sl
 (2:Nat) false xs_2]∧(StsP xs_1∧RdsP xs_2∧xs_2.length≤(1000:Nat))∧(StsP xs_1∧RdsP xs_2)∧bif decide ¬setE xs_1 n s_3 n_1 b_3 n_2 n_3 n_4 n_5 xs_2=reE xs_1 n s_3 n_1 b_3 n_2 n_3 n_4 n_5 xs_2 then false=true else (StsP (setO xs_1 n s_3 n_1 b_3 n_2 n_3 n_4 n_5 xs_2)∧StsP (reO xs_1 n s_3 n_1 b_3 n_2 n_3 n_4 n_5 xs_2))∧bif !smR
 (setO xs_1 n s_3 n_1 b_3 n_2 n_3 n_4 n_5 xs_2) (reO xs_1 n s_3 n_1 b_3 n_2 n_3 n_4 n_5 xs_2) then false=true else ∃ y,AlI (4:Int) y∧((4:Int)-y).toNat < ((4:Int)-x_1).toNat∧(kd=kd∧mi=mi∧nm=nm∧(0:Nat)=0∧(0:Nat)=0∧m=m∧(0:Nat)=0∧(0:Nat)=0∧(0:Nat)=0∧(3:Nat)=3∧(3:Int)=3∧x.fst=x.fst∧(4:Nat)=4∧(4:Int)=4∧IntKind.i64.wrap (x_1 +
 (1:Int))=y∧True)∧(fr=fr∧cl=cl∧f=f∧a=a∧b=b∧c=c∧(True∧bs=bs)∧True)∧((True∧l=l)∧True)∧((True∧xs_1=xs_1)∧True)∧(fr_1=fr_1∧cl_1=cl_1∧f_1=f_1∧a_14=a_14∧b_2=b_2∧c_1=c_1∧(True∧bs_1=bs_1)∧True)∧((True∧List.take (2000:Nat) xs=List.take (2000:Nat) xs)∧j=j∧True)∧[[AV.sl (3:Nat) false l0],[AV.sl (3:Nat) false l],[AV.sl (3:Nat) false q]]=[[AV.sl (3:Nat) false l0],[AV.sl (3:Nat) false l],[AV.sl (3:Nat) false
 q]]∧[[AV.int .i64 kd,.str nm,.int .i64 fr,.bool cl,.int .i64 f,.int .i64 a,.int .i64 b,.int .i64 c,.sl (2:Nat) false bs],[AV.int .i64 v,.str s,.int .i64 fr_1,.bool cl_1,.int .i64 f_1,.int .i64 a_14,.int .i64 b_2,.int .i64 c_1,.sl (2:Nat) false bs_1],[AV.int .i64 v,.str s_1,.int .i64 fr,.bool cl,.int .i64 f,.int .i64 a,.int .i64 b,.int .i64 c,.sl (2:Nat) false bs],[AV.int .i64 kd,.str s_2,.int .i64
 fr_1,.bool cl_1,.int .i64 f_1,.int .i64 a_14,.int .i64 b_2,.int .i64 c_1,.sl (2:Nat) false bs_1]]=[[AV.int .i64 kd,.str nm,.int .i64 fr,.bool cl,.int .i64 f,.int .i64 a,.int .i64 b,.int .i64 c,.sl (2:Nat) false bs],[AV.int .i64 v,.str s,.int .i64 fr_1,.bool cl_1,.int .i64 f_1,.int .i64 a_14,.int .i64 b_2,.int .i64 c_1,.sl (2:Nat) false bs_1],[AV.int .i64 v,.str s_1,.int .i64 fr,.bool cl,.int .i64
 f,.int .i64 a,.int .i64 b,.int .i64 c,.sl (2:Nat) false bs],[AV.int .i64 kd,.str s_2,.int .i64 fr_1,.bool cl_1,.int .i64 f_1,.int .i64 a_14,.int .i64 b_2,.int .i64 c_1,.sl (2:Nat) false bs_1]]∧True else False else False else (SrcQ (List.take (2000:Nat) xs) j∧0≤m∧m≤(52595999:Int))∧∀ (m_1 j:Int),MinQ m_1 j→(∃ x_2,AlP (4:Int)
 x_2∧(kd=kd∧mi=mi∧nm=nm∧(0:Nat)=0∧(0:Nat)=0∧m=m∧(0:Nat)=0∧(0:Nat)=0∧(3:Nat)=3∧(3:Int)=3∧x.fst=x.fst∧(4:Nat)=4∧(4:Int)=4∧(0:Int)=x_2.fst∧True)∧(fr=fr∧cl=cl∧f=f∧a=a∧b=b∧c=c∧(True∧bs=bs)∧True)∧((True∧l=l)∧True)∧((True∧xs_1=xs_1)∧True)∧((True∧List.take (2000:Nat) xs=List.take (2000:Nat) xs)∧j=x_2.snd∧True)∧[[AV.sl (3:Nat) false l0],[AV.sl (3:Nat) false l],[AV.sl (3:Nat) false q]]=[[AV.sl (3:Nat) false
 l0],[AV.sl (3:Nat) false l],[AV.sl (3:Nat) false q]]∧[[AV.int .i64 mi],[AV.int .i64 m],[AV.int .i64 fr_1],[AV.int .i64 m_1]]=[[AV.int .i64 mi],[AV.int .i64 m],[AV.int .i64 fr_1],[AV.int .i64 m_1]]∧True)∧∀ (x_2:Int × Int),AlP (4:Int) x_2→bif decide (x_2.fst < (4:Int)) then bif decide (0≤x_2.fst∧x_2.fst < (4:Int)) then bif decide ((4:Nat)=[[AV.int .i64 mi],[AV.int .i64 m],[AV.int .i64
 fr_1],[AV.int .i64 m_1]].length∧x_2.fst.toNat < [[AV.int .i64 mi],[AV.int .i64 m],[AV.int .i64 fr_1],[AV.int .i64 m_1]].length) then ∃ n,List.take [AV.int .i64 n].length (List.drop (0:Nat) ([[AV.int .i64 mi],[AV.int .i64 m],[AV.int .i64 fr_1],[AV.int .i64 m_1]].getD x_2.fst.toNat []))=[AV.int .i64 n]∧SrcQ (List.take (2000:Nat) xs) x_2.snd∧∀ (s:ByteArray) (j:Int),NamQ s j→(∃ x_3,AlI (2:Int)
 x_3∧(kd=kd∧mi=mi∧nm=nm∧(0:Nat)=0∧(0:Nat)=0∧m=m∧(0:Nat)=0∧(0:Nat)=0∧n=n∧(3:Nat)=3∧(3:Int)=3∧x.fst=x.fst∧(4:Nat)=4∧(4:Int)=4∧x_2.fst=x_2.fst∧(2:Nat)=2∧(2:Int)=2∧(0:Int)=x_3∧True)∧(fr=fr∧cl=cl∧f=f∧a=a∧b=b∧c=c∧(True∧bs=bs)∧True)∧((True∧l=l)∧True)∧((True∧xs_1=xs_1)∧True)∧((True∧List.take (2000:Nat) xs=List.take (2000:Nat) xs)∧j=j∧True)∧[[AV.sl (3:Nat) false l0],[AV.sl (3:Nat) false l],[AV.sl (3:Nat)
 false q]]=[[AV.sl (3:Nat) false l0],[AV.sl (3:Nat) false l],[AV.sl (3:Nat) false q]]∧[[AV.int .i64 mi],[AV.int .i64 m],[AV.int .i64 fr_1],[AV.int .i64 m_1]]=[[AV.int .i64 mi],[AV.int .i64 m],[AV.int .i64 fr_1],[AV.int .i64 m_1]]∧[[AV.str nm],[AV.str s]]=[[AV.str nm],[AV.str s]]∧True)∧∀ (x_3:Int),AlI (2:Int) x_3→bif decide (x_3 < (2:Int)) then bif decide (0≤x_3∧x_3 < (2:Int)) then bif decide
 ((2:Nat)=[[AV.str nm],[AV.str s]].length∧x_3.toNat < [[AV.str nm],[AV.str s]].length) then ∃ s_3,List.take [AV.str s_3].length (List.drop (0:Nat) ([[AV.str nm],[AV.str s]].getD x_3.toNat []))=[AV.str s_3]∧StsP xs_1∧StsP xs_1∧StsP xs_1∧StsP xs_1∧bif decide ¬atE xs_1 s_3 n=atE xs_1 s_3 n then false=true else bif decide ¬remE xs_1 s_3 n=remE' xs_1 s_3 n then false=true else
 (RdsP (pB (atZ xs_1 s_3 n))∧RdsP (pB (atZ xs_1 s_3 n)))∧bif !smP (pdA (pI (0:Nat) (atZ xs_1 s_3 n)) (pC (atZ xs_1 s_3 n)) (pI (2:Nat) (atZ xs_1 s_3 n)) (pI (3:Nat) (atZ xs_1 s_3 n)) (pI (4:Nat) (atZ xs_1 s_3 n)) (pI (5:Nat) (atZ xs_1 s_3 n)) (pB (atZ xs_1 s_3 n))) (pdA (pI (0:Nat) (atZ xs_1 s_3 n)) (pC (atZ xs_1 s_3 n)) (pI (2:Nat) (atZ xs_1 s_3 n)) (pI (3:Nat) (atZ xs_1 s_3 n)) (pI (4:Nat) (atZ
 xs_1 s_3 n)) (pI (5:Nat) (atZ xs_1 s_3 n)) (pB (atZ xs_1 s_3 n))) then false=true else (StsP (remO xs_1 s_3 n)∧StsP (remO' xs_1 s_3 n))∧bif !smR (remO xs_1 s_3 n) (remO' xs_1 s_3 n) then false=true else ∃ y,AlI (2:Int) y∧((2:Int)-y).toNat < ((2:Int)-x_3).toNat∧(kd=kd∧mi=mi∧nm=nm∧(0:Nat)=0∧(0:Nat)=0∧m=m∧(0:Nat)=0∧(0:Nat)=0∧n=n∧(3:Nat)=3∧(3:Int)=3∧x.fst=x.fst∧(4:Nat)=4∧(4:Int)=4∧x_2.fst=x_2.fst∧(2:Nat)=2∧(2:Int)=2∧IntKind.i64.wrap (x_3 +
 (1:Int))=y∧True)∧(fr=fr∧cl=cl∧f=f∧a=a∧b=b∧c=c∧(True∧bs=bs)∧True)∧((True∧l=l)∧True)∧((True∧xs_1=xs_1)∧True)∧((True∧List.take (2000:Nat) xs=List.take (2000:Nat) xs)∧j=j∧True)∧[[AV.sl (3:Nat) false l0],[AV.sl (3:Nat) false l],[AV.sl (3:Nat) false q]]=[[AV.sl (3:Nat) false l0],[AV.sl (3:Nat) false l],[AV.sl (3:Nat) false q]]∧[[AV.int .i64 mi],[AV.int .i64 m],[AV.int .i64 fr_1],[AV.int .i64
 m_1]]=[[AV.int .i64 mi],[AV.int .i64 m],[AV.int .i64 fr_1],[AV.int .i64 m_1]]∧[[AV.str nm],[AV.str s]]=[[AV.str nm],[AV.str s]]∧True else False else False else ∃ y,AlP (4:Int) y∧((4:Int)-y.fst).toNat < ((4:Int)-x_2.fst).toNat∧(kd=kd∧mi=mi∧nm=nm∧(0:Nat)=0∧(0:Nat)=0∧m=m∧(0:Nat)=0∧(0:Nat)=0∧(3:Nat)=3∧(3:Int)=3∧x.fst=x.fst∧(4:Nat)=4∧(4:Int)=4∧IntKind.i64.wrap (x_2.fst+(1:Int))=y.fst∧True)∧(fr=fr∧cl=cl∧f=f∧a=a∧b=b∧c=c∧(True∧bs=bs)∧True)∧((True∧l=l)∧True)∧((True∧xs_1=xs_1)∧True)∧((True∧List.take (2000:Nat) xs=List.take (2000:Nat) xs)∧j=y.snd∧True)∧[[AV.sl (3:Nat) false l0],[AV.sl (3:Nat) false
 l],[AV.sl (3:Nat) false q]]=[[AV.sl (3:Nat) false l0],[AV.sl (3:Nat) false l],[AV.sl (3:Nat) false q]]∧[[AV.int .i64 mi],[AV.int .i64 m],[AV.int .i64 fr_1],[AV.int .i64 m_1]]=[[AV.int .i64 mi],[AV.int .i64 m],[AV.int .i64 fr_1],[AV.int .i64 m_1]]∧True else False else False else (∃ x_3,CoI xs_1
 x_3∧(kd=kd∧mi=mi∧nm=nm∧(0:Nat)=0∧(0:Nat)=0∧m=m∧(0:Nat)=0∧(0:Nat)=0∧(3:Nat)=3∧(3:Int)=3∧x.fst=x.fst∧(True∧xs_1=xs_1)∧(↑xs_1.length:Int)=(↑xs_1.length:Int)∧(0:Int)=x_3∧True)∧(fr=fr∧cl=cl∧f=f∧a=a∧b=b∧c=c∧(True∧bs=bs)∧True)∧((True∧l=l)∧True)∧((True∧xs_1=xs_1)∧True)∧((True∧List.take (2000:Nat) xs=List.take (2000:Nat) xs)∧x_2.snd=x_2.snd∧True)∧[[AV.sl (3:Nat) false l0],[AV.sl (3:Nat) false l],[AV.sl
 (3:Nat) false q]]=[[AV.sl (3:Nat) false l0],[AV.sl (3:Nat) false l],[AV.sl (3:Nat) false q]]∧True)∧∀ (x_3:Int),CoI xs_1 x_3→bif decide (x_3 < (↑xs_1.length:Int)) then bif decide (0≤x_3∧x_3 < (↑xs_1.length:Int)) then ∃ n s xs_2,List.take [AV.int .i64 n,.str s,.sl (7:Nat) false xs_2].length (xs_1.getD x_3.toNat [])=[AV.int .i64 n,.str s,.sl (7:Nat) false xs_2]∧(∃ x_4,CoI xs_2
 x_4∧(kd=kd∧mi=mi∧nm=nm∧(0:Nat)=0∧(0:Nat)=0∧m=m∧(0:Nat)=0∧(0:Nat)=0∧(0:Nat)=0∧(3:Nat)=3∧(3:Int)=3∧x.fst=x.fst∧(True∧xs_1=xs_1)∧(↑xs_1.length:Int)=(↑xs_1.length:Int)∧x_3=x_3∧(True∧xs_2=xs_2)∧(↑xs_2.length:Int)=(↑xs_2.length:Int)∧(0:Int)=x_4∧True)∧(fr=fr∧cl=cl∧f=f∧a=a∧b=b∧c=c∧(True∧bs=bs)∧True)∧((True∧l=l)∧True)∧((True∧xs_1=xs_1)∧True)∧(n=n∧s=s∧(True∧xs_2=xs_2)∧True)∧((True∧List.take (2000:Nat)
 xs=List.take (2000:Nat) xs)∧x_2.snd=x_2.snd∧True)∧[[AV.sl (3:Nat) false l0],[AV.sl (3:Nat) false l],[AV.sl (3:Nat) false q]]=[[AV.sl (3:Nat) false l0],[AV.sl (3:Nat) false l],[AV.sl (3:Nat) false q]]∧True)∧∀ (x_4:Int),CoI xs_2 x_4→bif decide (x_4 < (↑xs_2.length:Int)) then bif decide (0≤x_4∧x_4 < (↑xs_2.length:Int)) then ∃ n_1 b_3 n_2 n_3 n_4 n_5 xs_3,List.take [AV.int .i64 n_1,.bool
 b_3,.int .i64 n_2,.int .i64 n_3,.int .i64 n_4,.int .i64 n_5,.sl (2:Nat) false xs_3].length (xs_2.getD x_4.toNat [])=[AV.int .i64 n_1,.bool b_3,.int .i64 n_2,.int .i64 n_3,.int .i64 n_4,.int .i64 n_5,.sl (2:Nat) false xs_3]∧StsP xs_1∧StsP xs_1∧bif decide ¬remE xs_1 s n_1=remE' xs_1 s n_1 then false=true else (StsP (remO xs_1 s n_1)∧StsP (remO' xs_1 s
 n_1))∧bif !smR (remO xs_1 s n_1) (remO' xs_1 s n_1) then false=true else ∃ y,CoI xs_2 y∧(xs_2.length - y).toNat < (xs_2.length - x_4).toNat∧(kd=kd∧mi=mi∧nm=nm∧(0:Nat)=0∧(0:Nat)=0∧m=m∧(0:Nat)=0∧(0:Nat)=0∧(0:Nat)=0∧(3:Nat)=3∧(3:Int)=3∧x.fst=x.fst∧(True∧xs_1=xs_1)∧(↑xs_1.length:Int)=(↑xs_1.length:Int)∧x_3=x_3∧(True∧xs_2=xs_2)∧(↑xs_2.length:Int)=(↑xs_2.length:Int)∧IntKind.i64.wrap (x_4 +
 (1:Int))=y∧True)∧(fr=fr∧cl=cl∧f=f∧a=a∧b=b∧c=c∧(True∧bs=bs)∧True)∧((True∧l=l)∧True)∧((True∧xs_1=xs_1)∧True)∧(n=n∧s=s∧(True∧xs_2=xs_2)∧True)∧((True∧List.take (2000:Nat) xs=List.take (2000:Nat) xs)∧x_2.snd=x_2.snd∧True)∧[[AV.sl (3:Nat) false l0],[AV.sl (3:Nat) false l],[AV.sl (3:Nat) false q]]=[[AV.sl (3:Nat) false l0],[AV.sl (3:Nat) false l],[AV.sl (3:Nat) false q]]∧True else False else ∃ y,CoI xs_1
 y∧(xs_1.length - y).toNat < (xs_1.length - x_3).toNat∧(kd=kd∧mi=mi∧nm=nm∧(0:Nat)=0∧(0:Nat)=0∧m=m∧(0:Nat)=0∧(0:Nat)=0∧(3:Nat)=3∧(3:Int)=3∧x.fst=x.fst∧(True∧xs_1=xs_1)∧(↑xs_1.length:Int)=(↑xs_1.length:Int)∧IntKind.i64.wrap (x_3 +
 (1:Int))=y∧True)∧(fr=fr∧cl=cl∧f=f∧a=a∧b=b∧c=c∧(True∧bs=bs)∧True)∧((True∧l=l)∧True)∧((True∧xs_1=xs_1)∧True)∧((True∧List.take (2000:Nat) xs=List.take (2000:Nat) xs)∧x_2.snd=x_2.snd∧True)∧[[AV.sl (3:Nat) false l0],[AV.sl (3:Nat) false l],[AV.sl (3:Nat) false q]]=[[AV.sl (3:Nat) false l0],[AV.sl (3:Nat) false l],[AV.sl (3:Nat) false q]]∧True else False else ∃ y,AlP (3:Int) y∧((3:Int)-y.fst).toNat < ((3:Int)-x.fst).toNat∧(kd=kd∧mi=mi∧nm=nm∧(0:Nat)=0∧(0:Nat)=0∧m=m∧(0:Nat)=0∧(3:Nat)=3∧(3:Int)=3∧IntKind.i64.wrap (x.fst+(1:Int))=y.fst∧True)∧(fr=fr∧cl=cl∧f=f∧a=a∧b=b∧c=c∧(True∧bs=bs)∧True)∧((True∧l=l)∧True)∧((True∧List.take (2000:Nat) xs=List.take (2000:Nat) xs)∧x_2.snd=y.snd∧True)∧[[AV.sl (3:Nat) false l0],[AV.sl (3:Nat) false l],[AV.sl (3:Nat) false q]]=[[AV.sl (3:Nat)
 false l0],[AV.sl (3:Nat) false l],[AV.sl (3:Nat) false q]]∧True else False else False else True∧true=true
theorem lanswersR_P:lanswersR_T setE setO reE reO remE remO rgV pB pI pC atZ atE smP smR pdA p1R p2R p3R p4R p5R pdV nmOk smPs wiL fiK fiN fiP fiB stN stH atR atB laO laR rmF eqRd apE apX apP zI zS unb:=by
 unfold lanswersR_T
 intro l0 fr cl f a b c bs xs kd mi nm ⟨hl0,hbs,hz⟩ _ _ _ _ _ _
 have hs:SrcI (List.take 2000 xs):=SrcI.take hz
 have wr:∀ z:Int,0≤z→z≤2000000→IntKind.i64.wrap (z+1)=z+1:=fun z _ _=>wrap_eq (by show _∧_; omega)
 refine ⟨hl0,fun b1 q0=>csplit (fun _=>⟨trivial,rfl⟩) (fun hb=>csx (fun _=>⟨trivial,rfl⟩) (fun h30=>csx (fun _=>⟨trivial,rfl⟩) (fun _=>?_)))⟩
 have hb:b1=true:=by simpa using hb
 obtain ⟨S0,L0⟩:=q0.fb hb
 have hb0:RdsP bs:=⟨hbs.row,by omega⟩
 refine ⟨trivial,⟨hs,by decide⟩,fun m j q1=>⟨⟨⟨hs,q1.fj⟩,q1.fm⟩,fun l j q2=>⟨⟨⟨hs,q2.fj⟩,regv_bno q2.fr⟩,fun q j2 q5=>?_⟩⟩⟩
 have hl:=q2.fr.fp
 obtain ⟨G,eG⟩:∃ G:LLR,G=[[.sl 3 false l0],[.sl 3 false l],[.sl 3 false q]]:=⟨_,rfl⟩
 rw [← eG]
 have hG:RgsG G:=by
  subst eG
  refine ⟨rfl,fun i hi=>?_⟩
  rcases i with _ | _ | _ | i
  ·exact ⟨_,rfl,S0⟩
  ·exact ⟨_,rfl,hl⟩
  ·exact ⟨_,rfl,q5.fr⟩
  ·omega
 clear eG
 have hGl:=hG.fl
 refine ⟨⟨(0,j2),⟨by simp,by simp,q5.fj⟩,by (repeat' (first | exact trivial | exact rfl | assumption | apply And.intro))⟩,?_⟩
 rintro ⟨i,j⟩ ⟨i0,i3,j0⟩
 simp only at i0 i3 j0
 dsimp only
 have wi:=wr i i0 (by omega)
 refine csx (fun hi=>cd1 ⟨i0,hi⟩ (cd1 ⟨hGl.symm,by omega⟩ ?_)) (fun _=>⟨trivial,rfl⟩)
 obtain ⟨g,eg,hg⟩:=hG.fr i.toNat (by omega)
 have gfs:=hg.fs
 refine ⟨g,by rw [eg]; rfl,hg,hg,csx (fun z=>absurd rfl z) (fun _=>⟨⟨hg,hl⟩,⟨hg,hl⟩,csplit (fun z=>?_) (fun _=>⟨⟨⟨hs,j0⟩,by decide,by decide,by decide⟩,fun k j p1=>⟨⟨⟨hs,p1.2⟩,q1.fm⟩,fun fr1 cl1 f1 a1 b1 c1 bs1 j p2=>⟨⟨hs,p2.fj⟩,fun s1 j p3=>⟨⟨hs,p3.fj⟩,fun s2 j p4=>⟨⟨hs,p4.fj⟩,fun s3 j p5=>?_⟩⟩⟩⟩⟩)⟩)⟩
 ·simp at z
 obtain ⟨Q,eQ⟩:∃ Q:LLR,Q=[[.int .i64 kd,.str nm,.int .i64 fr,.bool cl,.int .i64 f,.int .i64 a,.int .i64 b,.int .i64 c,.sl 2 false bs],[.int .i64 k,.str s1,.int .i64 fr1,.bool cl1,.int .i64 f1,.int .i64 a1,.int .i64 b1,.int .i64 c1,.sl 2 false bs1],[.int .i64 k,.str s2,.int .i64 fr,.bool cl,.int .i64 f,.int .i64 a,.int .i64 b,.int .i64 c,.sl 2 false bs],[.int .i64 kd,.str s3,.int .i64 fr1,.bool cl1,.int .i64 f1,.int .i64 a1,.int .i64 b1,.int .i64 c1,.sl 2 false bs1]]:=⟨_,rfl⟩
 rw [← eQ]
 have hQ:QsR Q:=by
  have:=p2.fl
  subst eQ
  refine ⟨rfl,fun i hi=>?_⟩
  rcases i with _ | _ | _ | _ | i
  ·exact ⟨_,_,_,_,_,_,_,_,_,rfl,hb0,by omega⟩
  ·exact ⟨_,_,_,_,_,_,_,_,_,rfl,p2.fr,by omega⟩
  ·exact ⟨_,_,_,_,_,_,_,_,_,rfl,hb0,by omega⟩
  ·exact ⟨_,_,_,_,_,_,_,_,_,rfl,p2.fr,by omega⟩
  ·omega
 clear eQ
 have hQl:=hQ.fl
 refine ⟨⟨0,⟨by decide,by decide⟩,by (repeat' (first | exact trivial | exact rfl | assumption | apply And.intro))⟩,?_⟩
 rintro y ⟨y0,y4⟩
 have wy:=wr y y0 (by omega)
 refine csx (fun hy=>cd1 ⟨y0,hy⟩ (cd1 ⟨hQl.symm,by omega⟩ ?_)) (fun hy=>?_)
 ·obtain ⟨k',n',fr',cl',f',a',b',c',bs',er,hb',hbl'⟩:=hQ.fr y.toNat (by omega)
  obtain ⟨r1,r2⟩:=re_eq hg k' n' fr' cl' f' a' b' c' bs'
  have so:=sts_setB hg hb' hbl' k' n' fr' cl' f' a' b' c'
  refine ⟨k',n',fr',cl',f',a',b',c',bs',by rw [er]; rfl,⟨hg,hb',hbl'⟩,⟨hg,hb'⟩,csx (fun z=>absurd r1.symm z) (fun _=>⟨⟨so,by rw [r2]; exact so⟩,csplit (fun z=>?_) (fun _=>⟨y+1,⟨by omega,by omega⟩,by (try simp only [an14]); omega,by (repeat' (first | exact trivial | exact rfl | assumption | apply And.intro))⟩)⟩)⟩
  rw [r2,smR_rfl] at z; cases z
 refine ⟨⟨⟨hs,p5.fj⟩,q1.fm⟩,fun m1 j p6=>?_⟩
 obtain ⟨T,eT⟩:∃ T:LLR,T=[[.int .i64 mi],[.int .i64 m],[.int .i64 fr1],[.int .i64 m1]]:=⟨_,rfl⟩
 rw [← eT]
 have hT:TsR T:=by
  subst eT
  refine ⟨rfl,fun i hi=>?_⟩
  rcases i with _ | _ | _ | _ | i
  ·exact ⟨_,rfl⟩
  ·exact ⟨_,rfl⟩
  ·exact ⟨_,rfl⟩
  ·exact ⟨_,rfl⟩
  ·omega
 clear eT
 have hTl:=hT.fl
 refine ⟨⟨(0,j),⟨by simp,by simp,p6.fj⟩,by (repeat' (first | exact trivial | exact rfl | assumption | apply And.intro))⟩,?_⟩
 rintro ⟨u,j⟩ ⟨u0,u4,j0⟩
 simp only at u0 u4 j0
 dsimp only
 have wu:=wr u u0 (by omega)
 refine csx (fun hu=>cd1 ⟨u0,hu⟩ (cd1 ⟨hTl.symm,by omega⟩ ?_)) (fun hu=>?_)
 ·obtain ⟨t,et⟩:=hT.fr u.toNat (by omega)
  refine ⟨t,by rw [et]; rfl,⟨hs,j0⟩,fun s4 j p7=>?_⟩
  obtain ⟨N,eN⟩:∃ N:LLR,N=[[.str nm],[.str s4]]:=⟨_,rfl⟩
  rw [← eN]
  have hN:NsR N:=by
   subst eN
   refine ⟨rfl,fun i hi=>?_⟩
   rcases i with _ | _ | i
   ·exact ⟨_,rfl⟩
   ·exact ⟨_,rfl⟩
   ·omega
  clear eN
  have hNl:=hN.fl
  refine ⟨⟨0,⟨by decide,by decide⟩,by (repeat' (first | exact trivial | exact rfl | assumption | apply And.intro))⟩,?_⟩
  rintro w ⟨w0,w2⟩
  have ww:=wr w w0 (by omega)
  refine csx (fun hw=>cd1 ⟨w0,hw⟩ (cd1 ⟨hNl.symm,by omega⟩ ?_)) (fun hw=>⟨(u+1,j),⟨by simp only; omega,by simp only; omega,p7.fj⟩,by (try simp only [an22]); omega,by (repeat' (first | exact trivial | exact rfl | assumption | apply And.intro))⟩)
  obtain ⟨n',en⟩:=hN.fr w.toNat (by omega)
  have ro:=sts_remO hg n' t
  have ab:=atZ_bis hg n' t
  refine ⟨n',by rw [en]; rfl,hg,hg,hg,hg,csx (fun z=>absurd rfl z) (fun _=>csx (fun z=>absurd rfl z) (fun _=>⟨⟨ab,ab⟩,csplit (fun z=>?_) (fun _=>⟨⟨ro,ro⟩,csplit (fun z=>?_) (fun _=>⟨w+1,⟨by omega,by omega⟩,by (try simp only [an25]); omega,by (repeat' (first | exact trivial | exact rfl | assumption | apply And.intro))⟩)⟩)⟩))⟩
  ·rw [smP_rfl] at z; cases z
  ·rw [smR_rfl] at z; cases z
 refine ⟨⟨0,⟨by decide,by omega⟩,by (repeat' (first | exact trivial | exact rfl | assumption | apply And.intro))⟩,?_⟩
 rintro v ⟨v0,v1⟩
 have wv:=wr v v0 (by omega)
 refine csx (fun hv=>cd1 ⟨v0,hv⟩ ?_) (fun hv=>⟨(i+1,j),⟨by simp only; omega,by simp only; omega,j0⟩,by (try simp only [an7]); omega,by (repeat' (first | exact trivial | exact rfl | assumption | apply And.intro))⟩)
 obtain ⟨k',n',ps,er,hp⟩:=hg.fr v.toNat (by omega)
 have pfs:=hp.fs
 refine ⟨k',n',ps,by rw [er]; rfl,⟨0,⟨by decide,by omega⟩,by (repeat' (first | exact trivial | exact rfl | assumption | apply And.intro))⟩,?_⟩
 rintro z ⟨z0,z1⟩
 have wz:=wr z z0 (by omega)
 refine csx (fun hz=>cd1 ⟨z0,hz⟩ ?_) (fun hz=>⟨v+1,⟨by omega,by omega⟩,by (try simp only [an36]); omega,by (repeat' (first | exact trivial | exact rfl | assumption | apply And.intro))⟩)
 obtain ⟨fr',cl',f',a',b',c',bs',er2,_⟩:=hp.fr z.toNat (by omega)
 have ro:=sts_remO hg n' fr'
 refine ⟨fr',cl',f',a',b',c',bs',by rw [er2]; rfl,hg,hg,csx (fun z=>absurd rfl z) (fun _=>⟨⟨ro,ro⟩,csplit (fun z=>?_) (fun _=>⟨z+1,⟨by omega,by omega⟩,by (try simp only [an39]); omega,by (repeat' (first | exact trivial | exact rfl | assumption | apply And.intro))⟩)⟩)⟩
 rw [smR_rfl] at z; cases z
def lanswersR_S (setE:LLR→Int→ByteArray→Int→Bool→Int→Int→Int→Int→LLR→Int) (setO:LLR→Int→ByteArray→Int→Bool→Int→Int→Int→Int→LLR→LLR) (reE:LLR→Int→ByteArray→Int→Bool→Int→Int→Int→Int→LLR→Int) (reO:LLR→Int→ByteArray→Int→Bool→Int→Int→Int→Int→LLR→LLR) (remE:LLR→ByteArray→Int→Int) (remO:LLR→ByteArray→Int→LLR) (rgV:LLR→Int) (pB:List AV→LLR) (pI:Nat→List AV→Int) (pC:List AV→Bool) (atZ:LLR→ByteArray→Int→List AV) (atE:LLR→ByteArray→Int→Int) (smP:List AV→List AV→Bool) (smR:LLR→LLR→Bool) (pdA:Int→Bool→Int→Int→Int→Int→LLR→List AV) (p1R:List AV→Bool) (p2R:List AV→Bool) (p3R:List AV→Bool) (p4R:List AV→Bool) (p5R:List AV→Bool) (pdV:Int→Int→Bool→Int→Int→Int→Int→LLR→Bool) (nmOk:ByteArray→Bool) (smPs:LLR→LLR→Bool) (wiL:LLR→Int→ByteArray→LLR→LLR) (fiK:LLR→ByteArray→Int) (fiN:LLR→ByteArray→ByteArray) (fiP:LLR→ByteArray→LLR) (fiB:LLR→ByteArray→Bool) (stN:LLR→ByteArray→Nat) (stH:LLR→ByteArray→Bool) (atR:LLR→Int→List AV) (atB:LLR→Int→Bool) (laO:LLR→Int→Int→Option (List AV)) (laR:LLR→Int→Int→List AV) (rmF:LLR→Int→LLR) (eqRd:LLR→LLR→Bool) (apE:LLR→Int→ByteArray→Int→Int→Int→Int→Int→LLR→Int) (apX:Nat→LLR→Int→ByteArray→Int→Int→Int) (apP:LLR→ByteArray→Int→List AV) (zI:Int→Int→Int) (zS:Int→LLR→LLR) (unb:LLR→LLR→LLR):Prop:=∀ (l0:List (List AV)) (fr:Int) (cl:Bool) (f a b c:Int) (bs xs:List (List AV)) (kd mi:Int) (nm:ByteArray),StsA l0∧RdA bs∧IntsA xs→fnK Tryz.prog { glob:=glb,spec:=lk [(28,(gvalidR_s rgV p1R p2R p3R p4R p5R)),(32,(rvalidF_s pdV nmOk rgV)),(33,(gSame_s smR)),(31,(rsmS_s smR smPs)),(26,gset_s),(34,(rsetF_s pdV nmOk rgV reE reO wiL fiK fiN fiP fiB)),(19,(gAt_s rgV stN stH pI pC pB atR atB atZ atE)),(35,(ratF_s rgV atZ atE fiK fiN fiP fiB laO laR pI pC pB)),(36,(rremoveF_s rgV remO remE wiL fiK fiN fiP fiB rmF)),(27,(rsmP_s eqRd smP pdA)),(9,(lawake_s apE apX apP zI zS unb pB))],specH:=lk [(10,newsrc_s),(30,gremove_s)],specQ:=lk [(7,dsreg_s),(11,qminute_s),(12,qregistryV_s),(25,qperiodV_s),(22,qname_s),(24,qrange_s),(29,qnear_s),(15,rbent_s)],shape:=[78,123,168,177,234,241],slz:=[(78,[3]),(123,[2]),(234,[7]),(241,[2])],nowf:=true,wrap:=true } { nt:=273,drop:=drp [(1,576390383559245824),(2,1152921504606846976),(3,6917529027641081856),(4,27670116110564327424),(5,258254417031933722624),(6,9149585060559937601536),(8,453347182355485940514816),(9,4951155694231713785009143808),(11,29710560942849126597578981376),(12,594211218856982531951579627520),(13,332306365120928854111251016718483456),(15,15950735949418990474845684723364134912),(16,43534875317947564669345488838301845553152),(17,89159424651156612442819561140842179692855296),(18,22746760102501235604366432638101328736100024320),(20,45671926166590716193865151022383844364247891968),(21,11600669246314041913241748359685496468518964559872),(23,561216628735066720590214975763052679547878096502784),(24,5238021868193956058842006440455158342446862234025984),(26,287342913912354160942190067590682971928513585409425408),(27,48656733422491971252877518112022316579894967129329369088),(28,6228061878078972320368322318338856522226555792554159243264),(29,797191920394108457007145256747373634844999141446932383137792),(30,102040565810445882496914592863663825260159890105207345041637376),(31,53919790490266447013956395488465351512867727424089542863465761210368),(33,107839786668602559178668060348078522694548577690162289924414440996864),(34,215679573337205118357336120696157045389097155380324579848828881993728),(35,431359146674410236714672241392314090778194310760649159697657763987456),(37,41410478080743382724608535173662152714706653833022319330975145342795776),(38,55213970774324510299478046898216203619608871777363092441300193790394368),(40,5300541194335152988749892502228755547482451690626856874364818603877859328),(41,3611435400407017569668260091518525446351377085213765150400563075442114822144),(42,1849054925008392995670149166857485028531905067629447757005088294626362788937728),(43,472431724088250077328169618835446664041341537435813501280986942752285568930938880),(45,948568795032094272909893509191171341133987714380927500611236528192824358010355712),(46,1897137590064188545819787018382342682267975428761855001222473056385648716020711424),(47,3794275180128377091639574036764685364535950857523710002444946112771297432041422848),(48,7588550360256754183279148073529370729071901715047420004889892225542594864082845696)] } (anJ) 6 Tryz.f6 [.agg [.sl 3 false l0],.agg [.int .i64 fr,.bool cl,.int .i64 f,.int .i64 a,.int .i64 b,.int .i64 c,.sl 2 false bs],.sl 1 false xs,.int .i64 kd,.int .i64 mi,.str nm] (.bool true)
theorem lanswersR_e (setE:LLR→Int→ByteArray→Int→Bool→Int→Int→Int→Int→LLR→Int) (setO:LLR→Int→ByteArray→Int→Bool→Int→Int→Int→Int→LLR→LLR) (reE:LLR→Int→ByteArray→Int→Bool→Int→Int→Int→Int→LLR→Int) (reO:LLR→Int→ByteArray→Int→Bool→Int→Int→Int→Int→LLR→LLR) (remE:LLR→ByteArray→Int→Int) (remO:LLR→ByteArray→Int→LLR) (rgV:LLR→Int) (pB:List AV→LLR) (pI:Nat→List AV→Int) (pC:List AV→Bool) (atZ:LLR→ByteArray→Int→List AV) (atE:LLR→ByteArray→Int→Int) (smP:List AV→List AV→Bool) (smR:LLR→LLR→Bool) (pdA:Int→Bool→Int→Int→Int→Int→LLR→List AV) (p1R:List AV→Bool) (p2R:List AV→Bool) (p3R:List AV→Bool) (p4R:List AV→Bool) (p5R:List AV→Bool) (pdV:Int→Int→Bool→Int→Int→Int→Int→LLR→Bool) (nmOk:ByteArray→Bool) (smPs:LLR→LLR→Bool) (wiL:LLR→Int→ByteArray→LLR→LLR) (fiK:LLR→ByteArray→Int) (fiN:LLR→ByteArray→ByteArray) (fiP:LLR→ByteArray→LLR) (fiB:LLR→ByteArray→Bool) (stN:LLR→ByteArray→Nat) (stH:LLR→ByteArray→Bool) (atR:LLR→Int→List AV) (atB:LLR→Int→Bool) (laO:LLR→Int→Int→Option (List AV)) (laR:LLR→Int→Int→List AV) (rmF:LLR→Int→LLR) (eqRd:LLR→LLR→Bool) (apE:LLR→Int→ByteArray→Int→Int→Int→Int→Int→LLR→Int) (apX:Nat→LLR→Int→ByteArray→Int→Int→Int) (apP:LLR→ByteArray→Int→List AV) (zI:Int→Int→Int) (zS:Int→LLR→LLR) (unb:LLR→LLR→LLR):lanswersR_T setE setO reE reO remE remO rgV pB pI pC atZ atE smP smR pdA p1R p2R p3R p4R p5R pdV nmOk smPs wiL fiK fiN fiP fiB stN stH atR atB laO laR rmF eqRd apE apX apP zI zS unb=lanswersR_S setE setO reE reO remE remO rgV pB pI pC atZ atE smP smR pdA p1R p2R p3R p4R p5R pdV nmOk smPs wiL fiK fiN fiP fiB stN stH atR atB laO laR rmF eqRd apE apX apP zI zS unb:=by kernel_rfl
theorem lanswersR_v:lanswersR_S setE setO reE reO remE remO rgV pB pI pC atZ atE smP smR pdA p1R p2R p3R p4R p5R pdV nmOk smPs wiL fiK fiN fiP fiB stN stH atR atB laO laR rmF eqRd apE apX apP zI zS unb:=Eq.mp (lanswersR_e ..) (lanswersR_P)
theorem lanswersR_ok:SOK Tryz.prog glb 6 (lanswersR_s setE setO reE reO remE remO rgV pB pI pC atZ atE smP smR pdA):=by
 refine ⟨fok Tryz.func6 (by kernel_rfl) (by kernel_rfl),?_⟩
 intro xs pre r h hp
 unfold lanswersR_s at h
 split at h
 ·simp only [Option.some.injEq,Prod.mk.injEq] at h
  obtain ⟨h1,h2⟩:=h
  subst h1 h2
  exact fnK_sound tyNil (by exact specOK rfl rfl ⟨(gvalidR_ok),(rvalidF_ok glb),(gSame_ok glb),(rsmS_ok glb),(gset_ok),(rsetF_ok glb),(gAt_ok),(ratF_ok glb),(rremoveF_ok glb),(rsmP_ok glb),(lawake_ok),trivial⟩ ⟨(newsrc_ok glb),(gremove_ok),trivial⟩ (d:=qsOf rfl ⟨(dsreg_ok glb),(qminute_ok glb),(qregistryV_ok glb),(qperiodV_ok glb),(qname_ok glb),(qrange_ok glb),(qnear_ok glb),(rbent_ok glb),trivial⟩)) (by kernel_rfl) Tryz.func6 rfl (lanswersR_v  _ _ _ _ _ _ _ _ _ _ _ _ hp)
 ·cases h
end Go.Proofs.YtldiagnbagpliaaGreatDoor
