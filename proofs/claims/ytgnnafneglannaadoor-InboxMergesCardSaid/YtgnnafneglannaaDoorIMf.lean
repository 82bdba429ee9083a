import Derived.Test.YtgnnafneglannaaDoorIMe
import Derived.Shelf.RegionOpenPlain
import Derived.Lib.JoinLaws
import Derived.Lib.Overlaps
import Derived.Lib.AppendZerosOnto
import Derived.Laws.IdiomCopy
import Derived.Laws.NewBlocks
import Derived.Shelf.Spec.SlicesInsert
namespace Go.Proofs.YtgnnafneglannaaDoor
open Go
set_option linter.unusedVariables false
set_option linter.unusedSimpArgs false
theorem lex_nm0 (s t:ByteArray):lexI (nmK s.toList) (nmK t.toList)=cmpS s t:=by
  have:=lex_nm (x:=[]) (y:=[]) s.toList t.toList
  rw [List.append_nil,List.append_nil] at this
  rw [this]
  exact orI_z _
theorem less_rfl (s:ByteArray):Op.bytesLess s.toList s.toList=false:=by
  have h:cmpS s s=0:=by rw [← lex_nm0]; exact lexI_rfl _
  unfold cmpS at h
  cases e:Op.bytesLess s.toList s.toList with
  | false=>rfl
  | true=>rw [e] at h; simp at h
theorem less_eq {s t:ByteArray} (h1:Op.bytesLess s.toList t.toList=false) (h2:Op.bytesLess t.toList s.toList=false):s=t:=by
  have h:cmpS s t=0:=by unfold cmpS; rw [h1,h2]; rfl
  rw [← lex_nm0] at h
  have:=lexI_zero h
  have h3:=nmK_inj (x:=[]) (y:=[]) (s:=s.toList) (t:=t.toList) (by rw [this])
  exact str_inj h3.1
def nanS_s:Sp
  | [.str a]=>some (True,.bool false)
  | _=>none
set_option maxRecDepth 100000 in
def nanS_T:Prop :=
  ∀ (gl:Glob) (a:ByteArray),a.size.le (9223372036854775807:Nat)→(!decide (a=a))=false
set_option maxRecDepth 100000 in
theorem nanS_P:nanS_T:=by
  unfold nanS_T
  intro gl a _
  simp
def nanS_S:Prop:=∀ (gl:Glob) (a:ByteArray),fnK Tryd.prog { glob:=gl,spec:=lk [],specH:=lk [],nowf:=true } { nt:=6,drop:=drp [(1,56)] } (fun _ _=>none) 6 Tryd.f73 [.str a] (.bool false)
set_option maxRecDepth 100000 in
theorem nanS_e:nanS_T=nanS_S:=by kernel_rfl
theorem nanS_v:nanS_S:=@Eq.mp (nanS_T) (nanS_S) (nanS_e) (nanS_P)
theorem nanS_ok (gl:Glob):SOK Tryd.prog gl 73 nanS_s:=by
  refine ⟨fok Tryd.func73 (by kernel_rfl) (by kernel_rfl),?_⟩
  intro xs pre r h hp
  unfold nanS_s at h
  split at h
  · simp only [Option.some.injEq,Prod.mk.injEq] at h
    obtain ⟨h1,h2⟩:=h
    subst h1 h2
    exact fnK_sound tyNil (by exact specOK rfl rfl trivial trivial) (by kernel_rfl) Tryd.func73 rfl (nanS_v gl _)
  · cases h
def fcmpS_s (cmpS:ByteArray→ByteArray→Int):Sp
  | [.str a,.str b]=>some (True,.int .i64 (cmpS a b))
  | _=>none
set_option maxRecDepth 100000 in
def fcmpS_T (cmpS:ByteArray→ByteArray→Int):Prop :=
  ∀ (gl:Glob) (a b:ByteArray),a.size.le (9223372036854775807:Nat)→b.size.le (9223372036854775807:Nat)→True∧True∧bif Op.bytesLess a.toList b.toList then (-1:Int)=cmpS a b else bif !(Op.bytesLess a.toList b.toList||decide (a=b)) then (1:Int)=cmpS a b else (0:Int)=cmpS a b
set_option maxRecDepth 100000 in
theorem fcmpS_P:fcmpS_T cmpS:=by
  unfold fcmpS_T
  intro gl a b _ _
  refine ⟨trivial,trivial,csplit (fun h=>?_) (fun h=>csplit (fun k=>?_) (fun k=>?_))⟩
  · unfold cmpS; rw [if_pos h]
  · unfold cmpS
    rw [h]
    cases e:Op.bytesLess b.toList a.toList with
    | true=>simp
    | false=>rw [h,less_eq h e] at k; simp at k
  · unfold cmpS
    rw [h] at k ⊢
    have:a=b:=by simpa using k
    subst this
    rw [less_rfl]; simp
def fcmpS_S (cmpS:ByteArray→ByteArray→Int):Prop:=∀ (gl:Glob) (a b:ByteArray),fnK Tryd.prog { glob:=gl,spec:=lk [(73,nanS_s)],specH:=lk [],nowf:=true } { nt:=20,drop:=drp [(1,384),(2,1536),(9,49152),(11,393216)] } (fun _ _=>none) 6 Tryd.f62 [.str a,.str b] (.int .i64 (cmpS a b))
set_option maxRecDepth 100000 in
theorem fcmpS_e (cmpS:ByteArray→ByteArray→Int):fcmpS_T cmpS=fcmpS_S cmpS:=by kernel_rfl
theorem fcmpS_v:fcmpS_S cmpS:=@Eq.mp (fcmpS_T cmpS) (fcmpS_S cmpS) (fcmpS_e cmpS) (fcmpS_P)
theorem fcmpS_ok (gl:Glob):SOK Tryd.prog gl 62 (fcmpS_s cmpS):=by
  refine ⟨fok Tryd.func62 (by kernel_rfl) (by kernel_rfl),?_⟩
  intro xs pre r h hp
  unfold fcmpS_s at h
  split at h
  · simp only [Option.some.injEq,Prod.mk.injEq] at h
    obtain ⟨h1,h2⟩:=h
    subst h1 h2
    exact fnK_sound tyNil (by exact specOK rfl rfl ⟨(nanS_ok gl),trivial⟩ trivial) (by kernel_rfl) Tryd.func62 rfl (fcmpS_v gl _ _)
  · cases h
def gcc_s (cmpI:Int→Int→Int) (orL:List (List AV)→Int):Sp
  | [.agg [.int .i64 e,.int .i64 v],.agg [.int .i64 e2,.int .i64 v2]]=>some (True,.int .i64 (orI (cmpI e e2) (cmpI v v2)))
  | _=>none
set_option maxRecDepth 100000 in
def gcc_T (cmpI:Int→Int→Int) (orL:List (List AV)→Int):Prop :=
  ∀ (gl:Glob) (e v e2 v2:Int),(IR9 e)∧(IR9 v)∧True→(IR9 e2)∧(IR9 v2)∧True→True∧True∧OrI [[AV.int .i64 (cmpI e e2)],[AV.int .i64 (cmpI v v2)]] (2:Nat)∧orL [[AV.int .i64 (cmpI e
 e2)],[AV.int .i64 (cmpI v v2)]]=orI (cmpI e e2) (cmpI v v2)
set_option maxRecDepth 100000 in
theorem gcc_P:gcc_T cmpI orL:=by
  unfold gcc_T
  intro gl e v e2 v2 _ _
  refine ⟨trivial,trivial,orI_ok [cmpI e e2,cmpI v v2] (by simp),?_⟩
  simp only [orL,cellI,orI_z]
def gcc_S (cmpI:Int→Int→Int) (orL:List (List AV)→Int):Prop:=∀ (gl:Glob) (e v e2 v2:Int),fnK Tryd.prog { glob:=gl,spec:=lk [(61,(fcmpI_s cmpI))],specH:=lk [(60,(for__s orL))],nowf:=true } { nt:=17,drop:=drp [(1,131040)] } (fun _ _=>none) 6 Tryd.f86 [.agg [.int .i64 e,.int .i64 v],.agg [.int .i64 e2,.int .i64 v2]] (.int .i64 (orI (cmpI e e2) (cmpI v v2)))
set_option maxRecDepth 100000 in
theorem gcc_e (cmpI:Int→Int→Int) (orL:List (List AV)→Int):gcc_T cmpI orL=gcc_S cmpI orL:=by kernel_rfl
theorem gcc_v:gcc_S cmpI orL:=@Eq.mp (gcc_T cmpI orL) (gcc_S cmpI orL) (gcc_e cmpI orL) (gcc_P)
theorem gcc_ok (gl:Glob):SOK Tryd.prog gl 86 (gcc_s cmpI orL):=by
  refine ⟨fok Tryd.func86 (by kernel_rfl) (by kernel_rfl),?_⟩
  intro xs pre r h hp
  unfold gcc_s at h
  split at h
  · simp only [Option.some.injEq,Prod.mk.injEq] at h
    obtain ⟨h1,h2⟩:=h
    subst h1 h2
    exact fnK_sound tyNil (by exact specOK rfl rfl ⟨(fcmpI_ok gl),trivial⟩ ⟨(for__ok gl),trivial⟩) (by kernel_rfl) Tryd.func86 rfl (gcc_v gl _ _ _ _)
  · cases h
def rdC (xs ys:LLA):Int:=lexI (rdK xs) (rdK ys)
theorem rd_drop {xs:LLA} {i:Nat} {e v:Int} (h:i < xs.length) (hr:xs.getD i []=[.int .i64 e,.int .i64 v]):xs.drop i=[.int .i64 e,.int .i64 v]::xs.drop (i+1):=by
  rw [List.drop_eq_getElem_cons h,← hr,List.getD_eq_getElem?_getD,List.getElem?_eq_getElem h]; rfl
structure CmP (xs ys:LLA) (i:Int):Prop where
  flo:0≤i
  fhi:i≤xs.length
  fhj:i≤ys.length
  fe:rdC xs ys=rdC (xs.drop i.toNat) (ys.drop i.toNat)
def cmF (k:Nat) (f g:Bool) (xs ys:LLA):LInv:=⟨Int,fun i=>⟨[(0,.sl 2 f xs),(1,.sl 2 g ys),(2,.fn k []),(6,.int .i64 0),(11,.sl 2 f xs),(12,.int .i64 xs.length),(13,.int .i64 i)],[]⟩,CmP xs ys,fun i=>(xs.length - i).toNat,none⟩
def cmpF_s (rdC:LLA→LLA→Int) (cmpI:Int→Int→Int) (orL:List (List AV)→Int):Sp
  | [.sl 2 f xs,.sl 2 g ys,.fn 86 []]=>some (RdsP xs∧RdsP ys,.int .i64 (rdC xs ys))
  | _=>none
set_option maxRecDepth 100000 in
def cmpF_T (rdC:LLA→LLA→Int) (cmpI:Int→Int→Int) (orL:List (List AV)→Int):Prop :=
  ∀ (gl:Glob) (xs ys:List (List AV)) (f g:Bool),RdsP xs∧RdsP ys→True→True→True→(∃ x,CmP xs ys x∧(((bif f then f=true else True)∧xs=xs)∧((bif g then g=true else True)∧ys=ys)∧True∧(0:Int)=0∧((bif f then f=true else True)∧xs=xs)∧(↑xs.length:Int)=(↑xs.length:Int)∧(0:Int)=x∧True)∧True)∧∀ (x:Int),CmP xs ys x→bif decide (x < (↑xs.length:Int)) then bif decide (0≤x∧x < (↑xs.length:Int)) then ∃
 n n_1,List.take [AV.int .i64 n,.int .i64 n_1].length (xs.getD x.toNat [])=[AV.int .i64 n,.int .i64 n_1]∧bif decide ((↑ys.length:Int)≤x) then (1:Int)=rdC xs ys else bif decide (0≤x∧x < (↑ys.length:Int)) then ∃ n_2 n_3,List.take [AV.int .i64 n_2,.int .i64 n_3].length (ys.getD x.toNat [])=[AV.int .i64 n_2,.int .i64 n_3]∧True∧bif decide ¬orI (cmpI n n_2) (cmpI n_1 n_3)=(0:Int) then orI (cmpI
 n n_2) (cmpI n_1 n_3)=rdC xs ys else bif decide (rng .i64 (x+(1:Int))) then ∃ y,CmP xs ys y∧(cmF (86:Nat) f g xs ys).m y < (cmF (86:Nat) f g xs ys).m x∧(((bif f then f=true else True)∧xs=xs)∧((bif g then g=true else True)∧ys=ys)∧True∧(0:Int)=0∧((bif f then f=true else True)∧xs=xs)∧(↑xs.length:Int)=(↑xs.length:Int)∧x+(1:Int)=y∧True)∧True else False else False else False else bif decide
 ((↑xs.length:Int) < (↑ys.length:Int)) then (-1:Int)=rdC xs ys else (0:Int)=rdC xs ys
set_option maxRecDepth 100000 in
theorem cmpF_P:cmpF_T rdC cmpI orL:=by
  unfold cmpF_T
  intro gl xs ys f g ⟨hx,hy⟩ _ _ _
  have lx:=hx.sm
  have ly:=hy.sm
  have bf:cond f (f=true) True:=by cases f <;> trivial
  have bg:cond g (g=true) True:=by cases g <;> trivial
  refine ⟨⟨0,⟨by decide,by omega,by omega,rfl⟩,by (repeat' (first | exact trivial | exact rfl | assumption | apply And.intro))⟩,?_⟩
  rintro i ⟨i0,i1,i2,ie⟩
  refine csx (fun hi=>cd1 (by omega) ?_) (fun hi=>?_)
  · obtain ⟨e,v,hr,_,_⟩:=hx.row i.toNat (by omega)
    have dx:=rd_drop (by omega) hr
    refine ⟨e,v,by rw [hr]; rfl,csx (fun hj=>?_) (fun hj=>cd1 (by omega) ?_)⟩
    · have dy:ys.drop i.toNat=[]:=List.drop_eq_nil_of_le (by omega)
      rw [ie,dx,dy]; rfl
    · obtain ⟨e2,v2,hr2,_,_⟩:=hy.row i.toNat (by omega)
      have dy:=rd_drop (by omega) hr2
      have st:rdC xs ys=orI (cmpI e e2) (orI (cmpI v v2) (rdC (xs.drop (i.toNat+1)) (ys.drop (i.toNat+1)))):=by rw [ie,dx,dy]; rfl
      refine ⟨e2,v2,by rw [hr2]; rfl,trivial,csx (fun q=>?_) (fun q=>cdI (by omega) ⟨i+1,⟨by omega,by omega,by omega,?_⟩,by simp only [cmF]; omega,by (repeat' (first | exact trivial | exact rfl | assumption | apply And.intro))⟩)⟩
      · rw [st,← orI_assoc]
        exact (if_neg q).symm
      · rw [st,← orI_assoc,show (i+1).toNat=i.toNat+1 by omega]
        exact if_pos (Decidable.not_not.1 q)
  · have dx:xs.drop i.toNat=[]:=List.drop_eq_nil_of_le (by omega)
    refine csx (fun hl=>?_) (fun hl=>?_)
    · obtain ⟨e2,v2,hr2,_,_⟩:=hy.row i.toNat (by omega)
      rw [ie,dx,rd_drop (by omega) hr2]; rfl
    · have dy:ys.drop i.toNat=[]:=List.drop_eq_nil_of_le (by omega)
      rw [ie,dx,dy]; rfl
def cmpF_S (rdC:LLA→LLA→Int) (cmpI:Int→Int→Int) (orL:List (List AV)→Int):Prop:=∀ (gl:Glob) (xs ys:List (List AV)) (f g:Bool),RdsP xs∧RdsP ys→fnK Tryd.prog { glob:=gl,spec:=lk [(86,(gcc_s cmpI orL))],specH:=lk [],shape:=[17,25],nowf:=true } { nt:=39,drop:=drp [(3,229376),(4,1835008),(6,62914560),(7,1006632960),(8,1073741824),(9,4294967296),(10,8589934592),(11,257698037760)] } (invs [(2,cmF 86 f g xs ys)]) 6 Tryd.f85 [.sl 2 f xs,.sl 2 g ys,.fn 86 []] (.int .i64 (rdC xs ys))
set_option maxRecDepth 100000 in
theorem cmpF_e (rdC:LLA→LLA→Int) (cmpI:Int→Int→Int) (orL:List (List AV)→Int):cmpF_T rdC cmpI orL=cmpF_S rdC cmpI orL:=by kernel_rfl
theorem cmpF_v:cmpF_S rdC cmpI orL:=@Eq.mp (cmpF_T rdC cmpI orL) (cmpF_S rdC cmpI orL) (cmpF_e rdC cmpI orL) (cmpF_P)
theorem cmpF_ok (gl:Glob):SOK Tryd.prog gl 85 (cmpF_s rdC cmpI orL):=by
  refine ⟨fok Tryd.func85 (by kernel_rfl) (by kernel_rfl),?_⟩
  intro xs pre r h hp
  unfold cmpF_s at h
  split at h
  · simp only [Option.some.injEq,Prod.mk.injEq] at h
    obtain ⟨h1,h2⟩:=h
    subst h1 h2
    exact fnK_sound tyNil (by exact specOK rfl rfl ⟨(gcc_ok gl),trivial⟩ trivial) (by kernel_rfl) Tryd.func85 rfl (cmpF_v gl _ _ _ _ hp)
  · cases h
def gcmp_s (rdC:LLA→LLA→Int) (cmpI:Int→Int→Int) (orL:List (List AV)→Int) (cmpS:ByteArray→ByteArray→Int):Sp
  | [.agg [.int .i64 k,.str n,.int .i64 t,.int .i64 f,.int .i64 a,.int .i64 b,.int .i64 c,.sl 2 h rd],.agg [.int .i64 k2,.str n2,.int .i64 t2,.int .i64 f2,.int .i64 a2,.int .i64 b2,.int .i64 c2,.sl 2 h2 rd2]]=>some (RdsP rd∧RdsP rd2,.int .i64 (orI (cmpI k k2) (orI (cmpS n n2) (orI (cmpI t t2) (orI (cmpI f f2) (orI (cmpI a a2) (orI (cmpI b b2) (orI (cmpI c c2) (rdC rd rd2)))))))))
  | _=>none
set_option maxRecDepth 100000 in
def gcmp_T (rdC:LLA→LLA→Int) (cmpI:Int→Int→Int) (orL:List (List AV)→Int) (cmpS:ByteArray→ByteArray→Int):Prop :=
  ∀ (gl:Glob) (k t f a b c k2 t2 f2 a2 b2 c2:Int) (n n2:ByteArray) (rd rd2:List (List AV)) (h h2:Bool),RdsP rd∧RdsP rd2→(IR9 k)∧n.size.le (9223372036854775807:Nat)∧(IR9 t)∧(IR9 f)∧((-9223372036854775808:Int)≤a∧a ≤
 (9223372036854775807:Int))∧(IR9 b)∧(IR9 c)∧True∧True→(IR9 k2)∧n2.size.le (9223372036854775807:Nat)∧(IR9 t2)∧((-9223372036854775808:Int)≤f2∧f2 ≤
 (9223372036854775807:Int))∧(IR9 a2)∧(IR9 b2)∧(IR9 c2)∧True∧True→True∧True∧True∧True∧True∧True∧True∧(RdsP rd∧RdsP rd2)∧OrI [[AV.int .i64 (cmpI k k2)],[AV.int .i64 (cmpS n n2)],[AV.int .i64 (cmpI t t2)],[AV.int .i64 (cmpI f
 f2)],[AV.int .i64 (cmpI a a2)],[AV.int .i64 (cmpI b b2)],[AV.int .i64 (cmpI c c2)],[AV.int .i64 (rdC rd rd2)]] (8:Nat)∧orL [[AV.int .i64 (cmpI k k2)],[AV.int .i64 (cmpS n n2)],[AV.int .i64 (cmpI t t2)],[AV.int .i64 (cmpI f f2)],[AV.int .i64 (cmpI a a2)],[AV.int .i64 (cmpI b b2)],[AV.int .i64 (cmpI c c2)],[AV.int .i64 (rdC rd rd2)]]=orI (cmpI k k2) (orI (cmpS n n2) (orI (cmpI t t2) (orI (cmpI f f2)
 (orI (cmpI a a2) (orI (cmpI b b2) (orI (cmpI c c2) (rdC rd rd2)))))))
set_option maxRecDepth 100000 in
theorem gcmp_P:gcmp_T rdC cmpI orL cmpS:=by
  unfold gcmp_T
  intro gl k t f a b c k2 t2 f2 a2 b2 c2 n n2 rd rd2 h h2 hp _ _
  refine ⟨trivial,trivial,trivial,trivial,trivial,trivial,trivial,hp,orI_ok [cmpI k k2,cmpS n n2,cmpI t t2,cmpI f f2,cmpI a a2,cmpI b b2,cmpI c c2,rdC rd rd2] (by simp),?_⟩
  simp only [orL,cellI,orI_z]
def gcmp_S (rdC:LLA→LLA→Int) (cmpI:Int→Int→Int) (orL:List (List AV)→Int) (cmpS:ByteArray→ByteArray→Int):Prop:=∀ (gl:Glob) (k t f a b c k2 t2 f2 a2 b2 c2:Int) (n n2:ByteArray) (rd rd2:List (List AV)) (h h2:Bool),RdsP rd∧RdsP rd2→fnK Tryd.prog { glob:=gl,spec:=lk [(61,(fcmpI_s cmpI)),(62,(fcmpS_s cmpS)),(85,(cmpF_s rdC cmpI orL))],specH:=lk [(60,(for__s orL))],nowf:=true } { nt:=53,drop:=drp [(1,1920),(2,9007199254738944)] } (fun _ _=>none) 6 Tryd.f67 [.agg [.int .i64 k,.str n,.int .i64 t,.int .i64 f,.int .i64 a,.int .i64 b,.int .i64 c,.sl 2 h rd],.agg [.int .i64 k2,.str n2,.int .i64 t2,.int .i64 f2,.int .i64 a2,.int .i64 b2,.int .i64 c2,.sl 2 h2 rd2]] (.int .i64 (orI (cmpI k k2) (orI (cmpS n n2) (orI (cmpI t t2) (orI (cmpI f f2) (orI (cmpI a a2) (orI (cmpI b b2) (orI (cmpI c c2) (rdC rd rd2)))))))))
set_option maxRecDepth 100000 in
theorem gcmp_e (rdC:LLA→LLA→Int) (cmpI:Int→Int→Int) (orL:List (List AV)→Int) (cmpS:ByteArray→ByteArray→Int):gcmp_T rdC cmpI orL cmpS=gcmp_S rdC cmpI orL cmpS:=by kernel_rfl
theorem gcmp_v:gcmp_S rdC cmpI orL cmpS:=@Eq.mp (gcmp_T rdC cmpI orL cmpS) (gcmp_S rdC cmpI orL cmpS) (gcmp_e rdC cmpI orL cmpS) (gcmp_P)
theorem gcmp_ok (gl:Glob):SOK Tryd.prog gl 67 (gcmp_s rdC cmpI orL cmpS):=by
  refine ⟨fok Tryd.func67 (by kernel_rfl) (by kernel_rfl),?_⟩
  intro xs pre r h hp
  unfold gcmp_s at h
  split at h
  · simp only [Option.some.injEq,Prod.mk.injEq] at h
    obtain ⟨h1,h2⟩:=h
    subst h1 h2
    exact fnK_sound tyNil (by exact specOK rfl rfl ⟨(fcmpI_ok gl),(fcmpS_ok gl),(cmpF_ok gl),trivial⟩ ⟨(for__ok gl),trivial⟩) (by kernel_rfl) Tryd.func67 rfl (gcmp_v gl _ _ _ _ _ _ _ _ _ _ _ _ _ _ _ _ _ _ hp)
  · cases h
theorem orN {a b:Int} (h:¬ a=0):a=orI a b:=(if_neg h).symm
theorem orZ {a b:Int} (h:¬ ¬ a=0):orI a b=b:=if_pos (Decidable.not_not.1 h)
def rsign_s (cmpI:Int→Int→Int):Sp
  | [.int .i64 a,.int .i64 b]=>some (True,.int .i64 (cmpI a b))
  | _=>none
set_option maxRecDepth 100000 in
def rsign_T (cmpI:Int→Int→Int):Prop :=
  ∀ (gl:Glob) (a b:Int),IR9 a→IR9 b→bif decide (a < b) then (-1:Int)=cmpI a b else bif decide (b < a) then (1:Int)=cmpI a b else (0:Int)=cmpI a b
set_option maxRecDepth 100000 in
theorem rsign_P:rsign_T cmpI:=by
  unfold rsign_T
  intro gl a b _ _
  unfold cmpI
  refine csx (fun h=>?_) (fun h=>csx (fun k=>?_) (fun k=>?_))
  · rw [if_pos h]
  · rw [if_neg h,if_pos k]
  · rw [if_neg h,if_neg k]
def rsign_S (cmpI:Int→Int→Int):Prop:=∀ (gl:Glob) (a b:Int),fnK Tryd.prog { glob:=gl,spec:=lk [],specH:=lk [],nowf:=true } { nt:=13,drop:=drp [(1,448),(3,7168)] } (fun _ _=>none) 6 Tryd.f71 [.int .i64 a,.int .i64 b] (.int .i64 (cmpI a b))
set_option maxRecDepth 100000 in
theorem rsign_e (cmpI:Int→Int→Int):rsign_T cmpI=rsign_S cmpI:=by kernel_rfl
theorem rsign_v:rsign_S cmpI:=@Eq.mp (rsign_T cmpI) (rsign_S cmpI) (rsign_e cmpI) (rsign_P)
theorem rsign_ok (gl:Glob):SOK Tryd.prog gl 71 (rsign_s cmpI):=by
  refine ⟨fok Tryd.func71 (by kernel_rfl) (by kernel_rfl),?_⟩
  intro xs pre r h hp
  unfold rsign_s at h
  split at h
  · simp only [Option.some.injEq,Prod.mk.injEq] at h
    obtain ⟨h1,h2⟩:=h
    subst h1 h2
    exact fnK_sound tyNil (by exact specOK rfl rfl trivial trivial) (by kernel_rfl) Tryd.func71 rfl (rsign_v gl _ _)
  · cases h
def isign_s (cmpI:Int→Int→Int):Sp
  | [.int .i64 a,.int .i64 b]=>some (True,.int .i64 (cmpI a b))
  | _=>none
set_option maxRecDepth 100000 in
def isign_T (cmpI:Int→Int→Int):Prop :=
  ∀ (gl:Glob) (a b:Int),IR9 a→IR9 b→bif decide (a < b) then (-1:Int)=cmpI a b else bif decide (b < a) then (1:Int)=cmpI a b else (0:Int)=cmpI a b
set_option maxRecDepth 100000 in
theorem isign_P:isign_T cmpI:=by
  unfold isign_T
  intro gl a b _ _
  unfold cmpI
  refine csx (fun h=>?_) (fun h=>csx (fun k=>?_) (fun k=>?_))
  · rw [if_pos h]
  · rw [if_neg h,if_pos k]
  · rw [if_neg h,if_neg k]
def isign_S (cmpI:Int→Int→Int):Prop:=∀ (gl:Glob) (a b:Int),fnK Tryd.prog { glob:=gl,spec:=lk [],specH:=lk [],nowf:=true } { nt:=13,drop:=drp [(1,448),(3,7168)] } (fun _ _=>none) 6 Tryd.f59 [.int .i64 a,.int .i64 b] (.int .i64 (cmpI a b))
set_option maxRecDepth 100000 in
theorem isign_e (cmpI:Int→Int→Int):isign_T cmpI=isign_S cmpI:=by kernel_rfl
theorem isign_v:isign_S cmpI:=@Eq.mp (isign_T cmpI) (isign_S cmpI) (isign_e cmpI) (isign_P)
theorem isign_ok (gl:Glob):SOK Tryd.prog gl 59 (isign_s cmpI):=by
  refine ⟨fok Tryd.func59 (by kernel_rfl) (by kernel_rfl),?_⟩
  intro xs pre r h hp
  unfold isign_s at h
  split at h
  · simp only [Option.some.injEq,Prod.mk.injEq] at h
    obtain ⟨h1,h2⟩:=h
    subst h1 h2
    exact fnK_sound tyNil (by exact specOK rfl rfl trivial trivial) (by kernel_rfl) Tryd.func59 rfl (isign_v gl _ _)
  · cases h
def rcI (k t f a b c k2 t2 f2 a2 b2 c2:Int) (n n2:ByteArray) (rd rd2:LLA) (h h2:Bool):LInv:=⟨Int,fun i=>⟨[(2,.ptr 2 0),(3,.ptr 3 0),(4,.int .i64 0),(8,.int .i64 i)],[(2,.cells [.int .i64 k,.str n,.int .i64 t,.int .i64 f,.int .i64 a,.int .i64 b,.int .i64 c,.sl 2 h rd]),(3,.cells [.int .i64 k2,.str n2,.int .i64 t2,.int .i64 f2,.int .i64 a2,.int .i64 b2,.int .i64 c2,.sl 2 h2 rd2])]⟩,CmP rd rd2,fun i=>(rd.length - i).toNat,none⟩
def rcmp_s (rdC:LLA→LLA→Int) (cmpI:Int→Int→Int) (cmpS:ByteArray→ByteArray→Int):Sp
  | [.agg [.int .i64 k,.str n,.int .i64 t,.int .i64 f,.int .i64 a,.int .i64 b,.int .i64 c,.sl 2 h rd],.agg [.int .i64 k2,.str n2,.int .i64 t2,.int .i64 f2,.int .i64 a2,.int .i64 b2,.int .i64 c2,.sl 2 h2 rd2]]=>some (RdsP rd∧RdsP rd2,.int .i64 (orI (cmpI k k2) (orI (cmpS n n2) (orI (cmpI t t2) (orI (cmpI f f2) (orI (cmpI a a2) (orI (cmpI b b2) (orI (cmpI c c2) (rdC rd rd2)))))))))
  | _=>none
set_option maxRecDepth 100000 in
def rcmp_T (rdC:LLA→LLA→Int) (cmpI:Int→Int→Int) (cmpS:ByteArray→ByteArray→Int):Prop :=
  ∀ (gl:Glob) (k t f a b c k2 t2 f2 a2 b2 c2:Int) (n n2:ByteArray) (rd rd2:List (List AV)) (h h2:Bool),RdsP rd∧RdsP rd2→(IR9 k)∧n.size.le (9223372036854775807:Nat)∧(IR9 t)∧(IR9 f)∧((-9223372036854775808:Int)≤a∧a ≤
 (9223372036854775807:Int))∧(IR9 b)∧(IR9 c)∧True∧True→(IR9 k2)∧n2.size.le (9223372036854775807:Nat)∧(IR9 t2)∧((-9223372036854775808:Int)≤f2∧f2 ≤
 (9223372036854775807:Int))∧(IR9 a2)∧(IR9 b2)∧(IR9 c2)∧True∧True→bif Op.bytesLess n.toList n2.toList then True∧True∧True∧True∧True∧True∧bif decide ¬cmpI k k2=(0:Int) then cmpI k k2=orI (cmpI k k2) (orI (cmpS n n2) (orI (cmpI t t2)
 (orI (cmpI f f2) (orI (cmpI a a2) (orI (cmpI b b2) (orI (cmpI c c2) (rdC rd rd2))))))) else (-1:Int)=orI (cmpI k k2) (orI (cmpS n n2) (orI (cmpI t t2) (orI (cmpI f f2) (orI (cmpI a a2) (orI (cmpI b b2) (orI (cmpI c c2) (rdC rd rd2))))))) else bif !(Op.bytesLess n.toList n2.toList||decide (n=n2)) then True∧True∧True∧True∧True∧True∧bif decide ¬cmpI k k2=(0:Int) then cmpI k k2=orI (cmpI k k2) (orI
 (cmpS n n2) (orI (cmpI t t2) (orI (cmpI f f2) (orI (cmpI a a2) (orI (cmpI b b2) (orI (cmpI c c2) (rdC rd rd2))))))) else (1:Int)=orI (cmpI k k2) (orI (cmpS n n2) (orI (cmpI t t2) (orI (cmpI f f2) (orI (cmpI a a2) (orI (cmpI b b2) (orI (cmpI c c2) (rdC rd rd2))))))) else True∧True∧True∧True∧True∧True∧bif decide ¬cmpI k k2=(0:Int) then cmpI k k2=orI (cmpI k k2) (orI (cmpS n n2) (orI (cmpI t t2) (orI
 (cmpI f f2) (orI (cmpI a a2) (orI (cmpI b b2) (orI (cmpI c c2) (rdC rd rd2))))))) else bif decide ¬cmpI t t2=(0:Int) then cmpI t t2=orI (cmpI k k2) (orI (cmpS n n2) (orI (cmpI t t2) (orI (cmpI f f2) (orI (cmpI a a2) (orI (cmpI b b2) (orI (cmpI c c2) (rdC rd rd2))))))) else bif decide ¬cmpI f f2=(0:Int) then cmpI f f2=orI (cmpI k k2) (orI (cmpS n n2) (orI (cmpI t t2) (orI (cmpI f f2) (orI (cmpI a
 a2) (orI (cmpI b b2) (orI (cmpI c c2) (rdC rd rd2))))))) else bif decide ¬cmpI a a2=(0:Int) then cmpI a a2=orI (cmpI k k2) (orI (cmpS n n2) (orI (cmpI t t2) (orI (cmpI f f2) (orI (cmpI a a2) (orI (cmpI b b2) (orI (cmpI c c2) (rdC rd rd2))))))) else bif decide ¬cmpI b b2=(0:Int) then cmpI b b2=orI (cmpI k k2) (orI (cmpS n n2) (orI (cmpI t t2) (orI (cmpI f f2) (orI (cmpI a a2) (orI (cmpI b b2) (orI
 (cmpI c c2) (rdC rd rd2))))))) else bif decide ¬cmpI c c2=(0:Int) then cmpI c c2=orI (cmpI k k2) (orI (cmpS n n2) (orI (cmpI t t2) (orI (cmpI f f2) (orI (cmpI a a2) (orI (cmpI b b2) (orI (cmpI c c2) (rdC rd rd2))))))) else (∃ x,CmP rd rd2 x∧((0:Nat)=0∧(0:Nat)=0∧(0:Int)=0∧(0:Int)=x∧True)∧(k=k∧n=n∧t=t∧f=f∧a=a∧b=b∧c=c∧((bif h then h=true else
 True)∧rd=rd)∧True)∧(k2=k2∧n2=n2∧t2=t2∧f2=f2∧a2=a2∧b2=b2∧c2=c2∧((bif h2 then h2=true else True)∧rd2=rd2)∧True)∧True)∧∀ (x:Int),CmP rd rd2 x→bif decide (x < (↑rd.length:Int)) then bif decide (x < (↑rd2.length:Int)) then bif decide (0≤x∧x < (↑rd.length:Int)) then ∃ n_1,List.take [AV.int .i64 n_1].length (List.drop (0:Nat) (rd.getD x.toNat []))=[AV.int .i64 n_1]∧bif decide (0≤x∧x <
 (↑rd2.length:Int)) then ∃ n_2,List.take [AV.int .i64 n_2].length (List.drop (0:Nat) (rd2.getD x.toNat []))=[AV.int .i64 n_2]∧True∧bif decide ¬cmpI n_1 n_2=(0:Int) then cmpI n_1 n_2=orI (cmpI k k2) (orI (cmpS n n2) (orI (cmpI t t2) (orI (cmpI f f2) (orI (cmpI a a2) (orI (cmpI b b2) (orI (cmpI c c2) (rdC rd rd2))))))) else bif decide (0≤x∧x < (↑rd.length:Int)) then ∃ n_3,List.take [AV.int
 .i64 n_3].length (List.drop (1:Nat) (rd.getD x.toNat []))=[AV.int .i64 n_3]∧bif decide (0≤x∧x < (↑rd2.length:Int)) then ∃ n_4,List.take [AV.int .i64 n_4].length (List.drop (1:Nat) (rd2.getD x.toNat []))=[AV.int .i64 n_4]∧True∧bif decide ¬cmpI n_3 n_4=(0:Int) then cmpI n_3 n_4=orI (cmpI k k2) (orI (cmpS n n2) (orI (cmpI t t2) (orI (cmpI f f2) (orI (cmpI a a2) (orI (cmpI b b2) (orI (cmpI c
 c2) (rdC rd rd2))))))) else bif decide (rng .i64 (x+(1:Int))) then ∃ y,CmP rd rd2 y∧(rcI k t f a b c k2 t2 f2 a2 b2 c2 n n2 rd rd2 h h2).m y < (rcI k t f a b c k2 t2 f2 a2 b2 c2 n n2 rd rd2 h h2).m x∧((0:Nat)=0∧(0:Nat)=0∧(0:Int)=0∧x+(1:Int)=y∧True)∧(k=k∧n=n∧t=t∧f=f∧a=a∧b=b∧c=c∧((bif h then h=true else True)∧rd=rd)∧True)∧(k2=k2∧n2=n2∧t2=t2∧f2=f2∧a2=a2∧b2=b2∧c2=c2∧((bif h2 then h2=true else
 True)∧rd2=rd2)∧True)∧True else False else False else False else False else False else True∧cmpI (↑rd.length:Int) (↑rd2.length:Int)=orI (cmpI k k2) (orI (cmpS n n2) (orI (cmpI t t2) (orI (cmpI f f2) (orI (cmpI a a2) (orI (cmpI b b2) (orI (cmpI c c2) (rdC rd rd2))))))) else True∧cmpI (↑rd.length:Int) (↑rd2.length:Int)=orI (cmpI k k2) (orI (cmpS n n2) (orI (cmpI t t2) (orI (cmpI f f2) (orI (cmpI a a2)
 (orI (cmpI b b2) (orI (cmpI c c2) (rdC rd rd2)))))))
set_option maxRecDepth 100000 in
theorem rcmp_P:rcmp_T rdC cmpI cmpS:=by
  unfold rcmp_T
  intro gl k t f a b c k2 t2 f2 a2 b2 c2 n n2 rd rd2 h h2 ⟨hx,hy⟩ _ _
  have lx:=hx.sm
  have ly:=hy.sm
  have bf:cond h (h=true) True:=by cases h <;> trivial
  have bg:cond h2 (h2=true) True:=by cases h2 <;> trivial
  refine csplit (fun hl=>⟨trivial,trivial,trivial,trivial,trivial,trivial,csx (fun q=>orN q) (fun q=>?_)⟩) (fun hl=>csplit (fun hg=>⟨trivial,trivial,trivial,trivial,trivial,trivial,csx (fun q=>orN q) (fun q=>?_)⟩) (fun hg=>⟨trivial,trivial,trivial,trivial,trivial,trivial,csx (fun q=>orN q) (fun q1=>?_)⟩))
  · rw [orZ q,show cmpS n n2=-1 by unfold cmpS; rw [if_pos hl]]; rfl
  · rw [orZ q,show cmpS n n2=1 by
      unfold cmpS
      rw [hl]
      cases e:Op.bytesLess n2.toList n.toList with
      | true=>simp
      | false=>rw [hl,less_eq hl e] at hg; simp at hg]; rfl
  · have hn:n=n2:=by rw [hl] at hg; simpa using hg
    have hS:cmpS n n2=0:=by rw [hn]; unfold cmpS; rw [less_rfl]; simp
    rw [orZ q1,hS,orI_0]
    refine csx (fun q=>orN q) (fun q2=>?_)
    rw [orZ q2]
    refine csx (fun q=>orN q) (fun q3=>?_)
    rw [orZ q3]
    refine csx (fun q=>orN q) (fun q4=>?_)
    rw [orZ q4]
    refine csx (fun q=>orN q) (fun q5=>?_)
    rw [orZ q5]
    refine csx (fun q=>orN q) (fun q6=>?_)
    rw [orZ q6]
    refine ⟨⟨0,⟨by decide,by omega,by omega,rfl⟩,by (repeat' (first | exact trivial | exact rfl | assumption | apply And.intro))⟩,?_⟩
    rintro i ⟨i0,i1,i2,ie⟩
    have fin:¬ (i < rd.length∧i < rd2.length)→cmpI rd.length rd2.length=rdC rd rd2:=fun hn=>by
      rw [ie]
      by_cases c1:i < rd.length
      · obtain ⟨e,v,hr,_,_⟩:=hx.row i.toNat (by omega)
        have dy:rd2.drop i.toNat=[]:=List.drop_eq_nil_of_le (by omega)
        rw [rd_drop (by omega) hr,dy,cmp_gt (by omega)]; rfl
      · have dx:rd.drop i.toNat=[]:=List.drop_eq_nil_of_le (by omega)
        by_cases c2:i < rd2.length
        · obtain ⟨e,v,hr,_,_⟩:=hy.row i.toNat (by omega)
          rw [rd_drop (by omega) hr,dx,cmp_lt (by omega)]; rfl
        · have dy:rd2.drop i.toNat=[]:=List.drop_eq_nil_of_le (by omega)
          rw [dx,dy,cmp_eq (by omega)]; rfl
    refine csx (fun hi=>csx (fun hj=>cd1 (by omega) ?_) (fun hj=>⟨trivial,fin (by omega)⟩)) (fun hi=>⟨trivial,fin (by omega)⟩)
    obtain ⟨e,v,hr,_,_⟩:=hx.row i.toNat (by omega)
    obtain ⟨e2,v2,hr2,_,_⟩:=hy.row i.toNat (by omega)
    have st:rdC rd rd2=orI (cmpI e e2) (orI (cmpI v v2) (rdC (rd.drop (i.toNat+1)) (rd2.drop (i.toNat+1)))):=by rw [ie,rd_drop (by omega) hr,rd_drop (by omega) hr2]; rfl
    rw [st]
    refine ⟨e,by rw [hr]; rfl,cd1 (by omega) ⟨e2,by rw [hr2]; rfl,trivial,csx (fun q=>orN q) (fun q7=>cd1 (by omega) ⟨v,by rw [hr]; rfl,cd1 (by omega) ⟨v2,by rw [hr2]; rfl,trivial,?_⟩⟩)⟩⟩
    rw [orZ q7]
    refine csx (fun q=>orN q) (fun q8=>cdI (by omega) ⟨i+1,⟨by omega,by omega,by omega,?_⟩,by simp only [rcI]; omega,by (repeat' (first | exact trivial | exact rfl | assumption | apply And.intro))⟩)
    rw [st,orZ q7,orZ q8,show (i+1).toNat=i.toNat+1 by omega]
def rcmp_S (rdC:LLA→LLA→Int) (cmpI:Int→Int→Int) (cmpS:ByteArray→ByteArray→Int):Prop:=∀ (gl:Glob) (k t f a b c k2 t2 f2 a2 b2 c2:Int) (n n2:ByteArray) (rd rd2:List (List AV)) (h h2:Bool),RdsP rd∧RdsP rd2→fnK Tryd.prog { glob:=gl,spec:=lk [(71,(rsign_s cmpI))],specH:=lk [],shape:=[89,95,105,111],nowf:=true } { nt:=123,drop:=drp [(2,30720),(4,983040),(6,1152921504604749824),(8,55340232221128654848),(9,73786976294838206464),(10,295147905179352825856),(11,590295810358705651712),(13,2416671047608540938108928),(14,14507109835375550096474112),(15,158436982215414841120292601856),(16,158456325028528675187087900672),(17,633825300114114700748351602688),(18,10383326066469427027659495955234816),(19,10384593717069655257060992658440192),(20,41538374868278621028243970633760768),(21,10550747216542769741173968540975235072)] } (invs [(13,rcI k t f a b c k2 t2 f2 a2 b2 c2 n n2 rd rd2 h h2)]) 9 Tryd.f57 [.agg [.int .i64 k,.str n,.int .i64 t,.int .i64 f,.int .i64 a,.int .i64 b,.int .i64 c,.sl 2 h rd],.agg [.int .i64 k2,.str n2,.int .i64 t2,.int .i64 f2,.int .i64 a2,.int .i64 b2,.int .i64 c2,.sl 2 h2 rd2]] (.int .i64 (orI (cmpI k k2) (orI (cmpS n n2) (orI (cmpI t t2) (orI (cmpI f f2) (orI (cmpI a a2) (orI (cmpI b b2) (orI (cmpI c c2) (rdC rd rd2)))))))))
set_option maxRecDepth 100000 in
theorem rcmp_e (rdC:LLA→LLA→Int) (cmpI:Int→Int→Int) (cmpS:ByteArray→ByteArray→Int):rcmp_T rdC cmpI cmpS=rcmp_S rdC cmpI cmpS:=by kernel_rfl
theorem rcmp_v:rcmp_S rdC cmpI cmpS:=@Eq.mp (rcmp_T rdC cmpI cmpS) (rcmp_S rdC cmpI cmpS) (rcmp_e rdC cmpI cmpS) (rcmp_P)
theorem rcmp_ok (gl:Glob):SOK Tryd.prog gl 57 (rcmp_s rdC cmpI cmpS):=by
  refine ⟨fok Tryd.func57 (by kernel_rfl) (by kernel_rfl),?_⟩
  intro xs pre r h hp
  unfold rcmp_s at h
  split at h
  · simp only [Option.some.injEq,Prod.mk.injEq] at h
    obtain ⟨h1,h2⟩:=h
    subst h1 h2
    exact fnK_sound tyNil (by exact specOK rfl rfl ⟨(rsign_ok gl),trivial⟩ trivial) (by kernel_rfl) Tryd.func57 rfl (rcmp_v gl _ _ _ _ _ _ _ _ _ _ _ _ _ _ _ _ _ _ hp)
  · cases h
theorem or_dup (A B C D E F:Int):orI A (orI B (orI C (orI D (orI E (orI A (orI B (orI C F)))))))=orI A (orI B (orI C (orI D (orI E F)))):=by
  unfold orI
  by_cases hA:A=0 <;> by_cases hB:B=0 <;> by_cases hC:C=0 <;> simp [hA,hB,hC]
theorem it_eq (k t f a b c co ar k2 t2 f2 a2 b2 c2 co2 ar2:Int) (n n2:ByteArray) (rd rd2:LLA):itC (itA k n t f a b c rd co ar) (itA k2 n2 t2 f2 a2 b2 c2 rd2 co2 ar2) =
    orI (cmpI k k2) (orI (cmpS n n2) (orI (cmpI t t2) (orI (cmpI co co2) (orI (cmpI ar ar2) (orI (cmpI f f2) (orI (cmpI a a2) (orI (cmpI b b2) (orI (cmpI c c2) (rdC rd rd2))))))))):=by
  simp only [itC,itK,itA,lex_cons,lex_nm]
  rfl
theorem su_eq (k t k2 t2:Int) (n n2:ByteArray) (X:Int):orI (suC k n t k2 n2 t2) X=orI (cmpI k k2) (orI (cmpS n n2) (orI (cmpI t t2) X)):=by
  unfold suC; rw [orI_assoc,orI_assoc]
theorem ky_eq (k t k2 t2:Int) (n n2:ByteArray):orI (cmpI k k2) (orI (cmpS n n2) (orI (cmpI t t2) (orI (cmpI 0 0) (orI (cmpI 0 0) (orI (cmpI 0 0) (orI (cmpI 0 0) (rdC [] [])))))))=suC k n t k2 n2 t2:=by
  rw [show cmpI 0 0=0 from rfl,orI_0,orI_0,orI_0,orI_0,show rdC [] []=0 from rfl,orI_z]; rfl
def subj_s (cmpI:Int→Int→Int) (orL:List (List AV)→Int) (cmpS:ByteArray→ByteArray→Int) (suC:Int→ByteArray→Int→Int→ByteArray→Int→Int):Sp
  | [.agg [.int .i64 k,.str n,.int .i64 t,.int .i64 f,.int .i64 a,.int .i64 b,.int .i64 c,.sl 2 h rd],.agg [.int .i64 k2,.str n2,.int .i64 t2,.int .i64 f2,.int .i64 a2,.int .i64 b2,.int .i64 c2,.sl 2 h2 rd2]]=>some (True,.int .i64 (suC k n t k2 n2 t2))
  | _=>none
set_option maxRecDepth 100000 in
def subj_T (cmpI:Int→Int→Int) (orL:List (List AV)→Int) (cmpS:ByteArray→ByteArray→Int) (suC:Int→ByteArray→Int→Int→ByteArray→Int→Int):Prop :=
  ∀ (gl:Glob) (k t f a b c k2 t2 f2 a2 b2 c2:Int) (n n2:ByteArray) (rd rd2:List (List AV)) (h h2:Bool),(IR9 k)∧n.size.le (9223372036854775807:Nat)∧(IR9 t)∧(IR9 f)∧((-9223372036854775808:Int)≤a∧a ≤
 (9223372036854775807:Int))∧(IR9 b)∧(IR9 c)∧True∧True→(IR9 k2)∧n2.size.le (9223372036854775807:Nat)∧(IR9 t2)∧((-9223372036854775808:Int)≤f2∧f2 ≤
 (9223372036854775807:Int))∧(IR9 a2)∧(IR9 b2)∧(IR9 c2)∧True∧True→True∧True∧True∧OrI [[AV.int .i64 (cmpI k k2)],[AV.int .i64 (cmpS n n2)],[AV.int .i64 (cmpI t t2)]] (3:Nat)∧orL [[AV.int .i64 (cmpI k k2)],[AV.int .i64 (cmpS n
 n2)],[AV.int .i64 (cmpI t t2)]]=suC k n t k2 n2 t2
set_option maxRecDepth 100000 in
theorem subj_P:subj_T cmpI orL cmpS suC:=by
  unfold subj_T
  intro gl k t f a b c k2 t2 f2 a2 b2 c2 n n2 rd rd2 h h2 _ _
  refine ⟨trivial,trivial,trivial,orI_ok [cmpI k k2,cmpS n n2,cmpI t t2] (by simp),?_⟩
  simp only [orL,cellI,orI_z]; rfl
def subj_S (cmpI:Int→Int→Int) (orL:List (List AV)→Int) (cmpS:ByteArray→ByteArray→Int) (suC:Int→ByteArray→Int→Int→ByteArray→Int→Int):Prop:=∀ (gl:Glob) (k t f a b c k2 t2 f2 a2 b2 c2:Int) (n n2:ByteArray) (rd rd2:List (List AV)) (h h2:Bool),fnK Tryd.prog { glob:=gl,spec:=lk [(61,(fcmpI_s cmpI)),(62,(fcmpS_s cmpS))],specH:=lk [(60,(for__s orL))],nowf:=true } { nt:=22,drop:=drp [(1,4194272)] } (fun _ _=>none) 6 Tryd.f46 [.agg [.int .i64 k,.str n,.int .i64 t,.int .i64 f,.int .i64 a,.int .i64 b,.int .i64 c,.sl 2 h rd],.agg [.int .i64 k2,.str n2,.int .i64 t2,.int .i64 f2,.int .i64 a2,.int .i64 b2,.int .i64 c2,.sl 2 h2 rd2]] (.int .i64 (suC k n t k2 n2 t2))
set_option maxRecDepth 100000 in
theorem subj_e (cmpI:Int→Int→Int) (orL:List (List AV)→Int) (cmpS:ByteArray→ByteArray→Int) (suC:Int→ByteArray→Int→Int→ByteArray→Int→Int):subj_T cmpI orL cmpS suC=subj_S cmpI orL cmpS suC:=by kernel_rfl
theorem subj_v:subj_S cmpI orL cmpS suC:=@Eq.mp (subj_T cmpI orL cmpS suC) (subj_S cmpI orL cmpS suC) (subj_e cmpI orL cmpS suC) (subj_P)
theorem subj_ok (gl:Glob):SOK Tryd.prog gl 46 (subj_s cmpI orL cmpS suC):=by
  refine ⟨fok Tryd.func46 (by kernel_rfl) (by kernel_rfl),?_⟩
  intro xs pre r h hp
  unfold subj_s at h
  split at h
  · simp only [Option.some.injEq,Prod.mk.injEq] at h
    obtain ⟨h1,h2⟩:=h
    subst h1 h2
    exact fnK_sound tyNil (by exact specOK rfl rfl ⟨(fcmpI_ok gl),(fcmpS_ok gl),trivial⟩ ⟨(for__ok gl),trivial⟩) (by kernel_rfl) Tryd.func46 rfl (subj_v gl _ _ _ _ _ _ _ _ _ _ _ _ _ _ _ _ _ _)
  · cases h
def icmp_s (rdC:LLA→LLA→Int) (cmpI:Int→Int→Int) (orL:List (List AV)→Int) (cmpS:ByteArray→ByteArray→Int) (suC:Int→ByteArray→Int→Int→ByteArray→Int→Int) (itC:List AV→List AV→Int):Sp
  | [.agg [.int .i64 k,.str n,.int .i64 t,.int .i64 f,.int .i64 a,.int .i64 b,.int .i64 c,.sl 2 h rd,.int .i64 co,.int .i64 ar],.agg [.int .i64 k2,.str n2,.int .i64 t2,.int .i64 f2,.int .i64 a2,.int .i64 b2,.int .i64 c2,.sl 2 h2 rd2,.int .i64 co2,.int .i64 ar2]]=>some (RdsP rd∧RdsP rd2,.int .i64 (itC (itA k n t f a b c rd co ar) (itA k2 n2 t2 f2 a2 b2 c2 rd2 co2 ar2)))
  | _=>none
set_option maxRecDepth 100000 in
def icmp_T (rdC:LLA→LLA→Int) (cmpI:Int→Int→Int) (orL:List (List AV)→Int) (cmpS:ByteArray→ByteArray→Int) (suC:Int→ByteArray→Int→Int→ByteArray→Int→Int) (itC:List AV→List AV→Int):Prop :=
  ∀ (gl:Glob) (k t f a b c co ar k2 t2 f2 a2 b2 c2 co2 ar2:Int) (n n2:ByteArray) (rd rd2:List (List AV)) (h h2:Bool),RdsP rd∧RdsP rd2→(IR9 k)∧n.size.le (9223372036854775807:Nat)∧(IR9 t)∧(IR9 f)∧((-9223372036854775808:Int)≤a∧a ≤
 (9223372036854775807:Int))∧(IR9 b)∧(IR9 c)∧True∧(IR9 co)∧(IR9 ar)∧True→(IR9 k2)∧n2.size.le
 (9223372036854775807:Nat)∧(IR9 t2)∧(IR9 f2)∧(IR9 a2)∧(IR9 b2)∧(IR9 c2)∧True∧((-9223372036854775808:Int)≤co2∧co2 ≤
 (9223372036854775807:Int))∧(IR9 ar2)∧True→True∧True∧True∧(RdsP rd∧RdsP rd2)∧OrI [[AV.int .i64 (suC k n t k2 n2 t2)],[AV.int .i64 (cmpI co co2)],[AV.int .i64 (cmpI ar ar2)],[AV.int .i64 (orI (cmpI k k2) (orI (cmpS n n2) (orI (cmpI t t2) (orI (cmpI f f2) (orI (cmpI a a2) (orI (cmpI b b2) (orI (cmpI c c2) (rdC rd rd2))))))))]] (4:Nat)∧orL
 [[AV.int .i64 (suC k n t k2 n2 t2)],[AV.int .i64 (cmpI co co2)],[AV.int .i64 (cmpI ar ar2)],[AV.int .i64 (orI (cmpI k k2) (orI (cmpS n n2) (orI (cmpI t t2) (orI (cmpI f f2) (orI (cmpI a a2) (orI (cmpI b b2) (orI (cmpI c c2) (rdC rd rd2))))))))]]=itC (itA k n t f a b c rd co ar) (itA k2 n2 t2 f2 a2 b2 c2 rd2 co2 ar2)
set_option maxRecDepth 100000 in
theorem icmp_P:icmp_T rdC cmpI orL cmpS suC itC:=by
  unfold icmp_T
  intro gl k t f a b c co ar k2 t2 f2 a2 b2 c2 co2 ar2 n n2 rd rd2 h h2 hp _ _
  refine ⟨trivial,trivial,trivial,hp,orI_ok [suC k n t k2 n2 t2,cmpI co co2,cmpI ar ar2,_] (by simp),?_⟩
  simp only [orL,cellI,orI_z]
  rw [it_eq,su_eq,or_dup]
def icmp_S (rdC:LLA→LLA→Int) (cmpI:Int→Int→Int) (orL:List (List AV)→Int) (cmpS:ByteArray→ByteArray→Int) (suC:Int→ByteArray→Int→Int→ByteArray→Int→Int) (itC:List AV→List AV→Int):Prop:=∀ (gl:Glob) (k t f a b c co ar k2 t2 f2 a2 b2 c2 co2 ar2:Int) (n n2:ByteArray) (rd rd2:List (List AV)) (h h2:Bool),RdsP rd∧RdsP rd2→fnK Tryd.prog { glob:=gl,spec:=lk [(46,(subj_s cmpI orL cmpS suC)),(61,(fcmpI_s cmpI)),(67,(gcmp_s rdC cmpI orL cmpS))],specH:=lk [(60,(for__s orL))],nowf:=true } { nt:=27,drop:=drp [(1,134217696)] } (fun _ _=>none) 6 Tryd.f52 [.agg [.int .i64 k,.str n,.int .i64 t,.int .i64 f,.int .i64 a,.int .i64 b,.int .i64 c,.sl 2 h rd,.int .i64 co,.int .i64 ar],.agg [.int .i64 k2,.str n2,.int .i64 t2,.int .i64 f2,.int .i64 a2,.int .i64 b2,.int .i64 c2,.sl 2 h2 rd2,.int .i64 co2,.int .i64 ar2]] (.int .i64 (itC (itA k n t f a b c rd co ar) (itA k2 n2 t2 f2 a2 b2 c2 rd2 co2 ar2)))
set_option maxRecDepth 100000 in
theorem icmp_e (rdC:LLA→LLA→Int) (cmpI:Int→Int→Int) (orL:List (List AV)→Int) (cmpS:ByteArray→ByteArray→Int) (suC:Int→ByteArray→Int→Int→ByteArray→Int→Int) (itC:List AV→List AV→Int):icmp_T rdC cmpI orL cmpS suC itC=icmp_S rdC cmpI orL cmpS suC itC:=by kernel_rfl
theorem icmp_v:icmp_S rdC cmpI orL cmpS suC itC:=@Eq.mp (icmp_T rdC cmpI orL cmpS suC itC) (icmp_S rdC cmpI orL cmpS suC itC) (icmp_e rdC cmpI orL cmpS suC itC) (icmp_P)
theorem icmp_ok (gl:Glob):SOK Tryd.prog gl 52 (icmp_s rdC cmpI orL cmpS suC itC):=by
  refine ⟨fok Tryd.func52 (by kernel_rfl) (by kernel_rfl),?_⟩
  intro xs pre r h hp
  unfold icmp_s at h
  split at h
  · simp only [Option.some.injEq,Prod.mk.injEq] at h
    obtain ⟨h1,h2⟩:=h
    subst h1 h2
    exact fnK_sound tyNil (by exact specOK rfl rfl ⟨(subj_ok gl),(fcmpI_ok gl),(gcmp_ok gl),trivial⟩ ⟨(for__ok gl),trivial⟩) (by kernel_rfl) Tryd.func52 rfl (icmp_v gl _ _ _ _ _ _ _ _ _ _ _ _ _ _ _ _ _ _ _ _ _ _ hp)
  · cases h
def rkey_s:Sp
  | [.agg [.int .i64 k,.str n,.int .i64 t,.int .i64 f,.int .i64 a,.int .i64 b,.int .i64 c,.sl 2 h rd]]=>some (True,.agg [.int .i64 k,.str n,.int .i64 t,.int .i64 0,.int .i64 0,.int .i64 0,.int .i64 0,.sl 2 false []])
  | _=>none
set_option maxRecDepth 100000 in
def rkey_T:Prop :=
  ∀ (gl:Glob) (k t f a b c:Int) (n:ByteArray) (rd:List (List AV)) (h:Bool),(IR9 k)∧n.size.le (9223372036854775807:Nat)∧(IR9 t)∧(IR9 f)∧(IR9 a)∧((-9223372036854775808:Int) ≤
 b∧b≤(9223372036854775807:Int))∧(IR9 c)∧True∧True→k=k∧n=n∧t=t∧(0:Int)=0∧(0:Int)=0∧(0:Int)=0∧(0:Int)=0∧(True∧([]:List (List AV))=[])∧True
set_option maxRecDepth 100000 in
theorem rkey_P:rkey_T:=by
  unfold rkey_T
  intros
  (repeat' (first | exact trivial | exact rfl | assumption | apply And.intro))
def rkey_S:Prop:=∀ (gl:Glob) (k t f a b c:Int) (n:ByteArray) (rd:List (List AV)) (h:Bool),fnK Tryd.prog { glob:=gl,spec:=lk [],specH:=lk [],nowf:=true,nls:=[(35,7,2)] } { nt:=10,drop:=drp [(1,1016)] } (fun _ _=>none) 6 Tryd.f58 [.agg [.int .i64 k,.str n,.int .i64 t,.int .i64 f,.int .i64 a,.int .i64 b,.int .i64 c,.sl 2 h rd]] (.agg [.int .i64 k,.str n,.int .i64 t,.int .i64 0,.int .i64 0,.int .i64 0,.int .i64 0,.sl 2 false []])
set_option maxRecDepth 100000 in
theorem rkey_e:rkey_T=rkey_S:=by kernel_rfl
theorem rkey_v:rkey_S:=@Eq.mp (rkey_T) (rkey_S) (rkey_e) (rkey_P)
theorem rkey_ok (gl:Glob):SOK Tryd.prog gl 58 rkey_s:=by
  refine ⟨fok Tryd.func58 (by kernel_rfl) (by kernel_rfl),?_⟩
  intro xs pre r h hp
  unfold rkey_s at h
  split at h
  · simp only [Option.some.injEq,Prod.mk.injEq] at h
    obtain ⟨h1,h2⟩:=h
    subst h1 h2
    exact fnK_sound tyNil (by exact specOK rfl rfl trivial trivial) (by kernel_rfl) Tryd.func58 rfl (rkey_v gl _ _ _ _ _ _ _ _ _)
  · cases h
def ricmp_s (rdC:LLA→LLA→Int) (cmpI:Int→Int→Int) (cmpS:ByteArray→ByteArray→Int) (itC:List AV→List AV→Int):Sp
  | [.agg [.int .i64 k,.str n,.int .i64 t,.int .i64 f,.int .i64 a,.int .i64 b,.int .i64 c,.sl 2 h rd,.int .i64 co,.int .i64 ar],.agg [.int .i64 k2,.str n2,.int .i64 t2,.int .i64 f2,.int .i64 a2,.int .i64 b2,.int .i64 c2,.sl 2 h2 rd2,.int .i64 co2,.int .i64 ar2]]=>some (RdsP rd∧RdsP rd2,.int .i64 (itC (itA k n t f a b c rd co ar) (itA k2 n2 t2 f2 a2 b2 c2 rd2 co2 ar2)))
  | _=>none
set_option maxRecDepth 100000 in
def ricmp_T (rdC:LLA→LLA→Int) (cmpI:Int→Int→Int) (cmpS:ByteArray→ByteArray→Int) (itC:List AV→List AV→Int):Prop :=
  ∀ (gl:Glob) (k t f a b c co ar k2 t2 f2 a2 b2 c2 co2 ar2:Int) (n n2:ByteArray) (rd rd2:List (List AV)) (h h2:Bool),RdsP rd∧RdsP rd2→(IR9 k)∧n.size.le (9223372036854775807:Nat)∧(IR9 t)∧(IR9 f)∧((-9223372036854775808:Int)≤a∧a ≤
 (9223372036854775807:Int))∧(IR9 b)∧(IR9 c)∧True∧(IR9 co)∧(IR9 ar)∧True→(IR9 k2)∧n2.size.le
 (9223372036854775807:Nat)∧(IR9 t2)∧(IR9 f2)∧(IR9 a2)∧(IR9 b2)∧(IR9 c2)∧True∧((-9223372036854775808:Int)≤co2∧co2 ≤
 (9223372036854775807:Int))∧(IR9 ar2)∧True→True∧True∧(RdsP []∧RdsP [])∧True∧True∧bif decide ¬orI (cmpI k k2) (orI (cmpS n n2) (orI (cmpI t t2) (orI (cmpI (0:Int) (0:Int)) (orI (cmpI (0:Int) (0:Int)) (orI (cmpI (0:Int) (0:Int)) (orI (cmpI (0:Int) (0:Int)) (rdC [] [])))))))=(0:Int) then orI (cmpI k k2) (orI (cmpS n n2) (orI (cmpI t t2) (orI
 (cmpI (0:Int) (0:Int)) (orI (cmpI (0:Int) (0:Int)) (orI (cmpI (0:Int) (0:Int)) (orI (cmpI (0:Int) (0:Int)) (rdC [] [])))))))=itC (itA k n t f a b c rd co ar) (itA k2 n2 t2 f2 a2 b2 c2 rd2 co2 ar2) else bif decide ¬cmpI co co2=(0:Int) then cmpI co co2=itC (itA k n t f a b c rd co ar) (itA k2 n2 t2 f2 a2 b2 c2 rd2 co2 ar2) else bif decide ¬cmpI ar ar2=(0:Int) then cmpI ar ar2=itC (itA k n t f a b c
 rd co ar) (itA k2 n2 t2 f2 a2 b2 c2 rd2 co2 ar2) else (RdsP rd∧RdsP rd2)∧orI (cmpI k k2) (orI (cmpS n n2) (orI (cmpI t t2) (orI (cmpI f f2) (orI (cmpI a a2) (orI (cmpI b b2) (orI (cmpI c c2) (rdC rd rd2)))))))=itC (itA k n t f a b c rd co ar) (itA k2 n2 t2 f2 a2 b2 c2 rd2 co2 ar2)
set_option maxRecDepth 100000 in
theorem ricmp_P:ricmp_T rdC cmpI cmpS itC:=by
  unfold ricmp_T
  intro gl k t f a b c co ar k2 t2 f2 a2 b2 c2 co2 ar2 n n2 rd rd2 h h2 hp _ _
  have z:RdsP []:=⟨fun i hi=>by simp at hi,by simp⟩
  rw [ky_eq,it_eq,← su_eq]
  refine ⟨trivial,trivial,⟨z,z⟩,trivial,trivial,csx (fun q=>orN q) (fun q=>?_)⟩
  rw [orZ q]
  refine csx (fun q=>orN q) (fun q2=>?_)
  rw [orZ q2]
  refine csx (fun q=>orN q) (fun q3=>⟨hp,?_⟩)
  rw [orZ q3,← su_eq,orZ q]
def ricmp_S (rdC:LLA→LLA→Int) (cmpI:Int→Int→Int) (cmpS:ByteArray→ByteArray→Int) (itC:List AV→List AV→Int):Prop:=∀ (gl:Glob) (k t f a b c co ar k2 t2 f2 a2 b2 c2 co2 ar2:Int) (n n2:ByteArray) (rd rd2:List (List AV)) (h h2:Bool),RdsP rd∧RdsP rd2→fnK Tryd.prog { glob:=gl,spec:=lk [(58,rkey_s),(59,(isign_s cmpI)),(57,(rcmp_s rdC cmpI cmpS))],specH:=lk [],nowf:=true } { nt:=39,drop:=drp [(1,16777088),(3,805306368),(4,1073741824),(5,4294967296),(6,8589934592),(7,532575944704)] } (fun _ _=>none) 6 Tryd.f42 [.agg [.int .i64 k,.str n,.int .i64 t,.int .i64 f,.int .i64 a,.int .i64 b,.int .i64 c,.sl 2 h rd,.int .i64 co,.int .i64 ar],.agg [.int .i64 k2,.str n2,.int .i64 t2,.int .i64 f2,.int .i64 a2,.int .i64 b2,.int .i64 c2,.sl 2 h2 rd2,.int .i64 co2,.int .i64 ar2]] (.int .i64 (itC (itA k n t f a b c rd co ar) (itA k2 n2 t2 f2 a2 b2 c2 rd2 co2 ar2)))
set_option maxRecDepth 100000 in
theorem ricmp_e (rdC:LLA→LLA→Int) (cmpI:Int→Int→Int) (cmpS:ByteArray→ByteArray→Int) (itC:List AV→List AV→Int):ricmp_T rdC cmpI cmpS itC=ricmp_S rdC cmpI cmpS itC:=by kernel_rfl
theorem ricmp_v:ricmp_S rdC cmpI cmpS itC:=@Eq.mp (ricmp_T rdC cmpI cmpS itC) (ricmp_S rdC cmpI cmpS itC) (ricmp_e rdC cmpI cmpS itC) (ricmp_P)
theorem ricmp_ok (gl:Glob):SOK Tryd.prog gl 42 (ricmp_s rdC cmpI cmpS itC):=by
  refine ⟨fok Tryd.func42 (by kernel_rfl) (by kernel_rfl),?_⟩
  intro xs pre r h hp
  unfold ricmp_s at h
  split at h
  · simp only [Option.some.injEq,Prod.mk.injEq] at h
    obtain ⟨h1,h2⟩:=h
    subst h1 h2
    exact fnK_sound tyNil (by exact specOK rfl rfl ⟨(rkey_ok gl),(isign_ok gl),(rcmp_ok gl),trivial⟩ trivial) (by kernel_rfl) Tryd.func42 rfl (ricmp_v gl _ _ _ _ _ _ _ _ _ _ _ _ _ _ _ _ _ _ _ _ _ _ hp)
  · cases h
end Go.Proofs.YtgnnafneglannaaDoor
namespace Go.Proofs.YtgnnafneglannaaDoor
open Go
set_option linter.unusedVariables false
set_option linter.unusedSimpArgs false
structure ItsP (l:LLA):Prop where
  fr:∀ i,i < l.length→∃ (k:Int) (nm:ByteArray) (t f a b c:Int) (rd:LLA) (co ar:Int),l.getD i []=itA k nm t f a b c rd co ar∧RdsP rd
  fl:l.length≤9223372036854775807
def itE (k:Int) (n:ByteArray) (t f a b c:Int) (rd:LLA) (co ar:Int):Int:=if gpE k n t f a b c rd=0 then (if co < 0∨26 < co∨ar < 0∨52595999 < ar then 1 else 0) else gpE k n t f a b c rd
def ckR (r:List AV):Int:=match r with
  | [.int _ k,.str n,.int _ t,.int _ f,.int _ a,.int _ b,.int _ c,.sl _ _ rd,.int _ co,.int _ ar]=>itE k n t f a b c rd co ar
  | _=>0
def icheck_s (gpE:Int→ByteArray→Int→Int→Int→Int→Int→LLA→Int) (itE:Int→ByteArray→Int→Int→Int→Int→Int→LLA→Int→Int→Int):Sp
  | [.agg [.int .i64 k,.str n,.int .i64 t,.int .i64 f,.int .i64 a,.int .i64 b,.int .i64 c,.sl 2 h rd,.int .i64 co,.int .i64 ar]]=>some (RdsP rd,.int .i64 (itE k n t f a b c rd co ar))
  | _=>none
set_option maxRecDepth 100000 in
def icheck_T (gpE:Int→ByteArray→Int→Int→Int→Int→Int→LLA→Int) (itE:Int→ByteArray→Int→Int→Int→Int→Int→LLA→Int→Int→Int) (inB:Int→Bool) (locB:Int→Int→Int→Int→Int→Bool) (nmOk:ByteArray→Bool) (vdE:LLA→Int):Prop :=
  ∀ (k t f a b c co ar:Int) (n:ByteArray) (rd:List (List AV)) (h:Bool),RdsP rd→(IR9 k)∧n.size.le (9223372036854775807:Nat)∧(IR9 t)∧(IR9 f)∧(IR9 a)∧((-9223372036854775808:Int) ≤
 b∧b≤(9223372036854775807:Int))∧(IR9 c)∧True∧(IR9 co)∧(IR9 ar)∧True→RdsP rd∧bif decide ¬gpE k n t f a b c rd=(0:Int) then gpE k n t f a b c rd=itE k n t f a b c rd co ar else bif decide (co < (0:Int)) then (1:Int)=itE k n t f a b c
 rd co ar else bif decide (26 < co) then (1:Int)=itE k n t f a b c rd co ar else bif decide (ar < (0:Int)) then (1:Int)=itE k n t f a b c rd co ar else bif decide (52595999 < ar) then (1:Int)=itE k n t f a b c rd co ar else (0:Int)=itE k n t f a b c rd co ar
set_option maxRecDepth 100000 in
theorem icheck_P:icheck_T gpE itE inB locB nmOk vdE:=by
  unfold icheck_T
  intro k t f a b c co ar n rd h hr _
  unfold itE
  refine ⟨hr,csx (fun q=>by rw [if_neg q]) (fun q=>?_)⟩
  rw [if_pos (Decidable.not_not.1 q)]
  refine csx (fun q1=>by rw [if_pos (.inl q1)]) (fun q1=>csx (fun q2=>by rw [if_pos (.inr (.inl q2))]) (fun q2=>csx (fun q3=>by rw [if_pos (.inr (.inr (.inl q3)))]) (fun q3=>csx (fun q4=>by rw [if_pos (.inr (.inr (.inr q4)))]) (fun q4=>by rw [if_neg (by omega)]))))
def icheck_S (gpE:Int→ByteArray→Int→Int→Int→Int→Int→LLA→Int) (itE:Int→ByteArray→Int→Int→Int→Int→Int→LLA→Int→Int→Int) (inB:Int→Bool) (locB:Int→Int→Int→Int→Int→Bool) (nmOk:ByteArray→Bool) (vdE:LLA→Int):Prop:=∀ (k t f a b c co ar:Int) (n:ByteArray) (rd:List (List AV)) (h:Bool),RdsP rd→fnK Tryd.prog { glob:=glb,spec:=lk [(66,(gval_s gpE inB locB nmOk vdE))],specH:=lk [],nowf:=true } { nt:=28,drop:=drp [(1,112),(2,128),(3,512),(4,134216704)] } (fun _ _=>none) 6 Tryd.f51 [.agg [.int .i64 k,.str n,.int .i64 t,.int .i64 f,.int .i64 a,.int .i64 b,.int .i64 c,.sl 2 h rd,.int .i64 co,.int .i64 ar]] (.int .i64 (itE k n t f a b c rd co ar))
set_option maxRecDepth 100000 in
theorem icheck_e (gpE:Int→ByteArray→Int→Int→Int→Int→Int→LLA→Int) (itE:Int→ByteArray→Int→Int→Int→Int→Int→LLA→Int→Int→Int) (inB:Int→Bool) (locB:Int→Int→Int→Int→Int→Bool) (nmOk:ByteArray→Bool) (vdE:LLA→Int):icheck_T gpE itE inB locB nmOk vdE=icheck_S gpE itE inB locB nmOk vdE:=by kernel_rfl
theorem icheck_v:icheck_S gpE itE inB locB nmOk vdE:=@Eq.mp (icheck_T gpE itE inB locB nmOk vdE) (icheck_S gpE itE inB locB nmOk vdE) (icheck_e gpE itE inB locB nmOk vdE) (icheck_P)
theorem icheck_ok:SOK Tryd.prog glb 51 (icheck_s gpE itE):=by
  refine ⟨fok Tryd.func51 (by kernel_rfl) (by kernel_rfl),?_⟩
  intro xs pre r h hp
  unfold icheck_s at h
  split at h
  · simp only [Option.some.injEq,Prod.mk.injEq] at h
    obtain ⟨h1,h2⟩:=h
    subst h1 h2
    exact fnK_sound tyNil (by exact specOK rfl rfl ⟨(gval_ok),trivial⟩ trivial) (by kernel_rfl) Tryd.func51 rfl (icheck_v  _ _ _ _ _ _ _ _ _ _ _ hp)
  · cases h
def ritem_s (gpE:Int→ByteArray→Int→Int→Int→Int→Int→LLA→Int) (itE:Int→ByteArray→Int→Int→Int→Int→Int→LLA→Int→Int→Int) (inB:Int→Bool):Sp
  | [.agg [.int .i64 k,.str n,.int .i64 t,.int .i64 f,.int .i64 a,.int .i64 b,.int .i64 c,.sl 2 h rd,.int .i64 co,.int .i64 ar]]=>some (RdsP rd,.int .i64 (itE k n t f a b c rd co ar))
  | _=>none
set_option maxRecDepth 100000 in
def ritem_T (gpE:Int→ByteArray→Int→Int→Int→Int→Int→LLA→Int) (itE:Int→ByteArray→Int→Int→Int→Int→Int→LLA→Int→Int→Int) (inB:Int→Bool) (isN:Int→Int→Int→Int→Bool) (nmOk:ByteArray→Bool) (vdE:LLA→Int) (nrm:Int→Int→Int→Int→Int × Int × Int × Int) (vld:Int→Int→Int→Int→Bool):Prop :=
  ∀ (gl:Glob) (k t f a b c co ar:Int) (n:ByteArray) (rd:List (List AV)) (h:Bool),RdsP rd→(IR9 k)∧n.size.le (9223372036854775807:Nat)∧(IR9 t)∧(IR9 f)∧((-9223372036854775808:Int)≤a∧a ≤
 (9223372036854775807:Int))∧(IR9 b)∧(IR9 c)∧True∧(IR9 co)∧(IR9 ar)∧True→RdsP rd∧bif decide ¬gpE k n t f a b c rd=(0:Int) then gpE k n t f a b c rd=itE k n t f a b c rd co ar else
 bif decide (co < (0:Int)) then (1:Int)=itE k n t f a b c rd co ar else bif decide (26 < co) then (1:Int)=itE k n t f a b c rd co ar else True∧bif !inB ar then (1:Int)=itE k n t f a b c rd co ar else (0:Int)=itE k n t f a b c rd co ar
set_option maxRecDepth 100000 in
theorem ritem_P:ritem_T gpE itE inB isN nmOk vdE nrm vld:=by
  unfold ritem_T
  intro gl k t f a b c co ar n rd h hr _
  unfold itE
  refine ⟨hr,csx (fun q=>by rw [if_neg q]) (fun q=>?_)⟩
  rw [if_pos (Decidable.not_not.1 q)]
  refine csx (fun q1=>by rw [if_pos (.inl q1)]) (fun q1=>csx (fun q2=>by rw [if_pos (.inr (.inl q2))]) (fun q2=>⟨trivial,csplit (fun q3=>?_) (fun q3=>?_)⟩))
  · unfold inB at q3; rw [if_pos (by simp at q3; omega)]
  · unfold inB at q3; rw [if_neg (by simp at q3; omega)]
def ritem_S (gpE:Int→ByteArray→Int→Int→Int→Int→Int→LLA→Int) (itE:Int→ByteArray→Int→Int→Int→Int→Int→LLA→Int→Int→Int) (inB:Int→Bool) (isN:Int→Int→Int→Int→Bool) (nmOk:ByteArray→Bool) (vdE:LLA→Int) (nrm:Int→Int→Int→Int→Int × Int × Int × Int) (vld:Int→Int→Int→Int→Bool):Prop:=∀ (gl:Glob) (k t f a b c co ar:Int) (n:ByteArray) (rd:List (List AV)) (h:Bool),RdsP rd→fnK Tryd.prog { glob:=gl,spec:=lk [(63,(rval_s gpE inB isN nmOk vdE nrm vld)),(64,(rIn_s inB))],specH:=lk [],nowf:=true } { nt:=24,drop:=drp [(1,112),(2,128),(3,512),(4,8387584)] } (fun _ _=>none) 6 Tryd.f47 [.agg [.int .i64 k,.str n,.int .i64 t,.int .i64 f,.int .i64 a,.int .i64 b,.int .i64 c,.sl 2 h rd,.int .i64 co,.int .i64 ar]] (.int .i64 (itE k n t f a b c rd co ar))
set_option maxRecDepth 100000 in
theorem ritem_e (gpE:Int→ByteArray→Int→Int→Int→Int→Int→LLA→Int) (itE:Int→ByteArray→Int→Int→Int→Int→Int→LLA→Int→Int→Int) (inB:Int→Bool) (isN:Int→Int→Int→Int→Bool) (nmOk:ByteArray→Bool) (vdE:LLA→Int) (nrm:Int→Int→Int→Int→Int × Int × Int × Int) (vld:Int→Int→Int→Int→Bool):ritem_T gpE itE inB isN nmOk vdE nrm vld=ritem_S gpE itE inB isN nmOk vdE nrm vld:=by kernel_rfl
theorem ritem_v:ritem_S gpE itE inB isN nmOk vdE nrm vld:=@Eq.mp (ritem_T gpE itE inB isN nmOk vdE nrm vld) (ritem_S gpE itE inB isN nmOk vdE nrm vld) (ritem_e gpE itE inB isN nmOk vdE nrm vld) (ritem_P)
theorem ritem_ok (gl:Glob):SOK Tryd.prog gl 47 (ritem_s gpE itE inB):=by
  refine ⟨fok Tryd.func47 (by kernel_rfl) (by kernel_rfl),?_⟩
  intro xs pre r h hp
  unfold ritem_s at h
  split at h
  · simp only [Option.some.injEq,Prod.mk.injEq] at h
    obtain ⟨h1,h2⟩:=h
    subst h1 h2
    exact fnK_sound tyNil (by exact specOK rfl rfl ⟨(rval_ok gl),(rIn_ok gl),trivial⟩ trivial) (by kernel_rfl) Tryd.func47 rfl (ritem_v gl _ _ _ _ _ _ _ _ _ _ _ hp)
  · cases h
def firE:LLA→Int
  | []=>0
  | r::l=>orI (ckR r) (firE l)
theorem firE_at:∀ {l:LLA} {i:Nat},(∀ j,j < i→ckR (l.getD j [])=0)→i < l.length→¬ ckR (l.getD i [])=0→firE l=ckR (l.getD i [])
  | [],i,_,h,_=>by simp at h
  | x::l,0,_,_,hz=>if_neg hz
  | x::l,i+1,h,hi,hz=>by
    have h0:ckR x=0:=h 0 (by omega)
    simp only [firE,orI]
    rw [if_pos h0]
    exact firE_at (l:=l) (i:=i) (fun j hj=>h (j+1) (by omega)) (by simpa using hi) hz
theorem firE_zero:∀ {l:LLA},(∀ j,j < l.length→ckR (l.getD j [])=0)→firE l=0
  | [],_=>rfl
  | x::l,h=>by
    have h0:ckR x=0:=h 0 (by simp)
    simp only [firE,orI]
    rw [if_pos h0]
    exact firE_zero fun j hj=>h (j+1) (by simpa using hj)
theorem firE_all:∀ {l:LLA},firE l=0→∀ r ∈ l,ckR r=0
  | [],_,r,h=>by simp at h
  | x::l,h,r,hr=>by
    simp only [firE,orI] at h
    split at h
    · next e =>
      rcases List.mem_cons.1 hr with rfl | k
      · exact e
      · exact firE_all h r k
    · next e=>exact absurd h e
def adjB (l:LLA):Bool:=decide (∀ j,j < l.length→j=0∨itC (l.getD (j - 1) []) (l.getD j []) < 0)
def inV (l:LLA):Int:=if 150 < l.length then 2 else if firE l=0 then (if adjB l then 0 else 8) else firE l
structure Va1 (l:LLA) (i:Int):Prop where
  flo:0≤i
  fhi:i≤l.length
  fz:∀ j:Nat,(j:Int) < i→ckR (l.getD j [])=0
structure Va2 (l:LLA) (i:Int):Prop where
  flo:1≤i
  fhi:i≤l.length+1
  fs:∀ j:Nat,j < l.length→(j:Int) < i→j=0∨itC (l.getD (j - 1) []) (l.getD j []) < 0
  fe:firE l=0
def va4 (f:Bool) (l:LLA):LInv:=⟨Int,fun i=>⟨[(0,.sl 10 f l),(2,.int .i64 0),(10,.sl 10 f l),(11,.int .i64 l.length),(12,.int .i64 i)],[]⟩,Va1 l,fun i=>(l.length - i).toNat,none⟩
def va11 (s:Nat) (f:Bool) (l:LLA):LInv:=⟨Int,fun i=>⟨[(0,.sl 10 f l),(2,.int .i64 0),(s,.int .i64 i)],[]⟩,Va2 l,fun i=>(l.length+1 - i).toNat,none⟩
def ivalid_s (inV:LLA→Int) (itC:List AV→List AV→Int) (itE:Int→ByteArray→Int→Int→Int→Int→Int→LLA→Int→Int→Int):Sp
  | [.sl 10 f l]=>some (ItsP l,.int .i64 (inV l))
  | _=>none
set_option maxRecDepth 100000 in
def ivalid_T (inV:LLA→Int) (itC:List AV→List AV→Int) (itE:Int→ByteArray→Int→Int→Int→Int→Int→LLA→Int→Int→Int) (gpE:Int→ByteArray→Int→Int→Int→Int→Int→LLA→Int) (rdC:LLA→LLA→Int) (cmpI:Int→Int→Int) (orL:List (List AV)→Int) (cmpS:ByteArray→ByteArray→Int) (suC:Int→ByteArray→Int→Int→ByteArray→Int→Int):Prop :=
  ∀ (l:List (List AV)) (f:Bool),ItsP l→True→bif decide ((150:Int) < (↑l.length:Int)) then (2:Int)=inV l else (∃ x,Va1 l x∧(((bif f then f=true else True)∧l=l)∧(0:Int)=0∧((bif f then f=true else True)∧l=l)∧(↑l.length:Int)=(↑l.length:Int)∧(0:Int)=x∧True)∧True)∧∀ (x:Int),Va1 l x→bif decide (x < (↑l.length:Int)) then bif decide (0≤x∧x < (↑l.length:Int)) then ∃ n s n_1 n_2 n_3 n_4 n_5 xs n_6
 n_7,List.take [AV.int .i64 n,.str s,.int .i64 n_1,.int .i64 n_2,.int .i64 n_3,.int .i64 n_4,.int .i64 n_5,.sl (2:Nat) false xs,.int .i64 n_6,.int .i64 n_7].length (l.getD x.toNat [])=[AV.int .i64 n,.str s,.int .i64 n_1,.int .i64 n_2,.int .i64 n_3,.int .i64 n_4,.int .i64 n_5,.sl (2:Nat) false xs,.int .i64 n_6,.int .i64 n_7]∧RdsP xs∧bif decide ¬itE n s n_1 n_2 n_3 n_4 n_5 xs n_6 n_7=(0:Int) then itE
 n s n_1 n_2 n_3 n_4 n_5 xs n_6 n_7=inV l else bif decide (rng .i64 (x+(1:Int))) then ∃ y,Va1 l y∧(va4 f l).m y < (va4 f l).m x∧(((bif f then f=true else True)∧l=l)∧(0:Int)=0∧((bif f then f=true else True)∧l=l)∧(↑l.length:Int)=(↑l.length:Int)∧x+(1:Int)=y∧True)∧True else False else False else (∃ x,Va2 l x∧(((bif f then f=true else True)∧l=l)∧(0:Int)=0∧(1:Int)=x∧True)∧True)∧∀ (x:Int),Va2 l x→bif
 decide (x < (↑l.length:Int)) then bif decide (rng .i64 (x - (1:Int))) then bif decide (0≤x - (1:Int)∧x - (1:Int) < (↑l.length:Int)) then ∃ n s n_1 n_2 n_3 n_4 n_5 xs n_6 n_7,List.take [AV.int .i64 n,.str s,.int .i64 n_1,.int .i64 n_2,.int .i64 n_3,.int .i64 n_4,.int .i64 n_5,.sl (2:Nat) false xs,.int .i64 n_6,.int .i64 n_7].length (l.getD (x - (1:Int)).toNat [])=[AV.int .i64 n,.str s,.int
 .i64 n_1,.int .i64 n_2,.int .i64 n_3,.int .i64 n_4,.int .i64 n_5,.sl (2:Nat) false xs,.int .i64 n_6,.int .i64 n_7]∧bif decide (0≤x∧x < (↑l.length:Int)) then ∃ n_8 s_1 n_9 n_10 n_11 n_12 n_13 xs_1 n_14 n_15,List.take [AV.int .i64 n_8,.str s_1,.int .i64 n_9,.int .i64 n_10,.int .i64 n_11,.int .i64 n_12,.int .i64 n_13,.sl (2:Nat) false xs_1,.int .i64 n_14,.int .i64 n_15].length (l.getD x.toNat
 [])=[AV.int .i64 n_8,.str s_1,.int .i64 n_9,.int .i64 n_10,.int .i64 n_11,.int .i64 n_12,.int .i64 n_13,.sl (2:Nat) false xs_1,.int .i64 n_14,.int .i64 n_15]∧(RdsP xs∧RdsP xs_1)∧bif decide (0≤itC (itA n s n_1 n_2 n_3 n_4 n_5 xs n_6 n_7) (itA n_8 s_1 n_9 n_10 n_11 n_12 n_13 xs_1 n_14 n_15)) then (8:Int)=inV l else bif decide (rng .i64 (x+(1:Int))) then ∃ y,Va2 l y∧(va11 (6:Nat) f l).m y <
 (va11 (6:Nat) f l).m x∧(((bif f then f=true else True)∧l=l)∧(0:Int)=0∧x+(1:Int)=y∧True)∧True else False else False else False else False else (0:Int)=inV l
set_option maxRecDepth 100000 in
theorem ivalid_P:ivalid_T inV itC itE gpE rdC cmpI orL cmpS suC:=by
  unfold ivalid_T
  intro l f hl _
  have ln:=hl.fl
  have bf:cond f (f=true) True:=by cases f <;> trivial
  refine csx (fun hb=>by unfold inV; rw [if_pos (by omega)]) (fun hb=>⟨⟨0,⟨by decide,by omega,fun j hj=>by omega⟩,by (repeat' (first | exact trivial | exact rfl | assumption | apply And.intro))⟩,?_⟩)
  have hv:inV l=if firE l=0 then (if adjB l then 0 else 8) else firE l:=by unfold inV; rw [if_neg (by omega)]
  rintro i ⟨i0,i1,iz⟩
  refine csx (fun hi=>cd1 (by omega) ?_) (fun hi=>⟨⟨1,⟨by decide,by omega,fun j _ hj=>.inl (by omega),firE_zero fun j hj=>iz j (by omega)⟩,by (repeat' (first | exact trivial | exact rfl | assumption | apply And.intro))⟩,?_⟩)
  · obtain ⟨k,nm,t,a1,a,b,c,rd,co,ar,hr,hrd⟩:=hl.fr i.toNat (by omega)
    have hc:ckR (l.getD i.toNat [])=itE k nm t a1 a b c rd co ar:=by rw [hr]; rfl
    refine ⟨k,nm,t,a1,a,b,c,rd,co,ar,by rw [hr]; rfl,hrd,csx (fun q=>?_) (fun q=>cdI (by omega) ⟨i+1,⟨by omega,by omega,fun j hj=>?_⟩,by simp only [va4]; omega,by (repeat' (first | exact trivial | exact rfl | assumption | apply And.intro))⟩)⟩
    · have e:=firE_at (l:=l) (i:=i.toNat) (fun j hj=>iz j (by omega)) (by omega) (by rw [hc]; exact q)
      rw [hv,e,hc,if_neg q]
    · rcases Int.lt_or_le (j:Int) i with w | w
      · exact iz j w
      · rw [show j=i.toNat by omega,hc]; exact Decidable.not_not.1 q
  · rintro i ⟨i0,i1,is,ie⟩
    refine csx (fun hi=>cdI (by omega) (cd1 (by omega) ?_)) (fun hi=>?_)
    · obtain ⟨k,nm,t,a1,a,b,c,rd,co,ar,hr,hrd⟩:=hl.fr (i - 1).toNat (by omega)
      obtain ⟨k2,nm2,t2,a12,a2,b2,c2,rd2,co2,ar2,hr2,hrd2⟩:=hl.fr i.toNat (by omega)
      refine ⟨k,nm,t,a1,a,b,c,rd,co,ar,by rw [hr]; rfl,cd1 (by omega) ⟨k2,nm2,t2,a12,a2,b2,c2,rd2,co2,ar2,by rw [hr2]; rfl,⟨hrd,hrd2⟩,?_⟩⟩
      rw [← hr,← hr2,show (i - 1).toNat=i.toNat - 1 by omega]
      refine csx (fun q=>?_) (fun q=>cdI (by omega) ⟨i+1,⟨by omega,by omega,fun j hj hji=>?_,ie⟩,by simp only [va11]; omega,by (repeat' (first | exact trivial | exact rfl | assumption | apply And.intro))⟩)
      · rw [hv,if_pos ie,if_neg]
        unfold adjB
        rw [decide_eq_true_iff]
        intro w
        rcases w i.toNat (by omega) with z | z <;> omega
      · rcases Int.lt_or_le (j:Int) i with w | w
        · exact is j hj w
        · rw [show j=i.toNat by omega]; exact .inr (by omega)
    · rw [hv,if_pos ie,if_pos]
      unfold adjB
      exact decide_eq_true fun j hj=>is j hj (by omega)
def ivalid_S (inV:LLA→Int) (itC:List AV→List AV→Int) (itE:Int→ByteArray→Int→Int→Int→Int→Int→LLA→Int→Int→Int) (gpE:Int→ByteArray→Int→Int→Int→Int→Int→LLA→Int) (rdC:LLA→LLA→Int) (cmpI:Int→Int→Int) (orL:List (List AV)→Int) (cmpS:ByteArray→ByteArray→Int) (suC:Int→ByteArray→Int→Int→ByteArray→Int→Int):Prop:=∀ (l:List (List AV)) (f:Bool),ItsP l→fnK Tryd.prog { glob:=glb,spec:=lk [(51,(icheck_s gpE itE)),(52,(icmp_s rdC cmpI orL cmpS suC itC))],specH:=lk [],shape:=[15,32,36],slz:=[(15,[2]),(32,[2]),(36,[2])],nowf:=true } { nt:=39,drop:=drp [(1,384),(5,49152),(6,196608),(7,262144),(8,1048576),(9,2097152),(11,29360128),(12,201326592),(13,274609471488)] } (invs [(4,va4 f l),(11,va11 6 f l)]) 6 Tryd.f39 [.sl 10 f l] (.int .i64 (inV l))
set_option maxRecDepth 100000 in
theorem ivalid_e (inV:LLA→Int) (itC:List AV→List AV→Int) (itE:Int→ByteArray→Int→Int→Int→Int→Int→LLA→Int→Int→Int) (gpE:Int→ByteArray→Int→Int→Int→Int→Int→LLA→Int) (rdC:LLA→LLA→Int) (cmpI:Int→Int→Int) (orL:List (List AV)→Int) (cmpS:ByteArray→ByteArray→Int) (suC:Int→ByteArray→Int→Int→ByteArray→Int→Int):ivalid_T inV itC itE gpE rdC cmpI orL cmpS suC=ivalid_S inV itC itE gpE rdC cmpI orL cmpS suC:=by kernel_rfl
theorem ivalid_v:ivalid_S inV itC itE gpE rdC cmpI orL cmpS suC:=@Eq.mp (ivalid_T inV itC itE gpE rdC cmpI orL cmpS suC) (ivalid_S inV itC itE gpE rdC cmpI orL cmpS suC) (ivalid_e inV itC itE gpE rdC cmpI orL cmpS suC) (ivalid_P)
theorem ivalid_ok:SOK Tryd.prog glb 39 (ivalid_s inV itC itE):=by
  refine ⟨fok Tryd.func39 (by kernel_rfl) (by kernel_rfl),?_⟩
  intro xs pre r h hp
  unfold ivalid_s at h
  split at h
  · simp only [Option.some.injEq,Prod.mk.injEq] at h
    obtain ⟨h1,h2⟩:=h
    subst h1 h2
    exact fnK_sound tyNil (by exact specOK rfl rfl ⟨(icheck_ok),(icmp_ok glb),trivial⟩ trivial) (by kernel_rfl) Tryd.func39 rfl (ivalid_v  _ _ hp)
  · cases h
def ra4 (f:Bool) (l:LLA):LInv:=⟨Int,fun i=>⟨[(0,.sl 10 f l),(2,.int .i64 0),(3,.int .i64 i)],[]⟩,Va1 l,fun i=>(l.length - i).toNat,none⟩
def ivalidR_s (inV:LLA→Int) (itC:List AV→List AV→Int) (itE:Int→ByteArray→Int→Int→Int→Int→Int→LLA→Int→Int→Int):Sp
  | [.sl 10 f l]=>some (ItsP l,.int .i64 (inV l))
  | _=>none
set_option maxRecDepth 100000 in
def ivalidR_T (inV:LLA→Int) (itC:List AV→List AV→Int) (itE:Int→ByteArray→Int→Int→Int→Int→Int→LLA→Int→Int→Int) (gpE:Int→ByteArray→Int→Int→Int→Int→Int→LLA→Int) (inB:Int→Bool) (rdC:LLA→LLA→Int) (cmpI:Int→Int→Int) (cmpS:ByteArray→ByteArray→Int):Prop :=
  ∀ (gl:Glob) (l:List (List AV)) (f:Bool),ItsP l→True→bif decide ((150:Int) < (↑l.length:Int)) then (2:Int)=inV l else (∃ x,Va1 l x∧(((bif f then f=true else True)∧l=l)∧(0:Int)=0∧(0:Int)=x∧True)∧True)∧∀ (x:Int),Va1 l x→bif decide (x < (↑l.length:Int)) then bif decide (0≤x∧x < (↑l.length:Int)) then ∃ n s n_1 n_2 n_3 n_4 n_5 xs n_6 n_7,List.take [AV.int .i64 n,.str s,.int .i64 n_1,.int
 .i64 n_2,.int .i64 n_3,.int .i64 n_4,.int .i64 n_5,.sl (2:Nat) false xs,.int .i64 n_6,.int .i64 n_7].length (l.getD x.toNat [])=[AV.int .i64 n,.str s,.int .i64 n_1,.int .i64 n_2,.int .i64 n_3,.int .i64 n_4,.int .i64 n_5,.sl (2:Nat) false xs,.int .i64 n_6,.int .i64 n_7]∧RdsP xs∧bif decide ¬itE n s n_1 n_2 n_3 n_4 n_5 xs n_6 n_7=(0:Int) then itE n s n_1 n_2 n_3 n_4 n_5 xs n_6 n_7=inV l else bif
 decide (rng .i64 (x+(1:Int))) then ∃ y,Va1 l y∧(ra4 f l).m y < (ra4 f l).m x∧(((bif f then f=true else True)∧l=l)∧(0:Int)=0∧x+(1:Int)=y∧True)∧True else False else False else (∃ x,Va2 l x∧(((bif f then f=true else True)∧l=l)∧(0:Int)=0∧(1:Int)=x∧True)∧True)∧∀ (x:Int),Va2 l x→bif decide (x < (↑l.length:Int)) then bif decide (rng .i64 (x - (1:Int))) then bif decide (0≤x - (1:Int)∧x -
 (1:Int) < (↑l.length:Int)) then ∃ n s n_1 n_2 n_3 n_4 n_5 xs n_6 n_7,List.take [AV.int .i64 n,.str s,.int .i64 n_1,.int .i64 n_2,.int .i64 n_3,.int .i64 n_4,.int .i64 n_5,.sl (2:Nat) false xs,.int .i64 n_6,.int .i64 n_7].length (l.getD (x - (1:Int)).toNat [])=[AV.int .i64 n,.str s,.int .i64 n_1,.int .i64 n_2,.int .i64 n_3,.int .i64 n_4,.int .i64 n_5,.sl (2:Nat) false xs,.int .i64 n_6,.int .i64
 n_7]∧bif decide (0≤x∧x < (↑l.length:Int)) then ∃ n_8 s_1 n_9 n_10 n_11 n_12 n_13 xs_1 n_14 n_15,List.take [AV.int .i64 n_8,.str s_1,.int .i64 n_9,.int .i64 n_10,.int .i64 n_11,.int .i64 n_12,.int .i64 n_13,.sl (2:Nat) false xs_1,.int .i64 n_14,.int .i64 n_15].length (l.getD x.toNat [])=[AV.int .i64 n_8,.str s_1,.int .i64 n_9,.int .i64 n_10,.int .i64 n_11,.int .i64 n_12,.int .i64 n_13,.sl
 (2:Nat) false xs_1,.int .i64 n_14,.int .i64 n_15]∧(RdsP xs∧RdsP xs_1)∧bif decide (0≤itC (itA n s n_1 n_2 n_3 n_4 n_5 xs n_6 n_7) (itA n_8 s_1 n_9 n_10 n_11 n_12 n_13 xs_1 n_14 n_15)) then (8:Int)=inV l else bif decide (rng .i64 (x+(1:Int))) then ∃ y,Va2 l y∧(va11 (5:Nat) f l).m y < (va11 (5:Nat) f l).m x∧(((bif f then f=true else True)∧l=l)∧(0:Int)=0∧x+(1:Int)=y∧True)∧True else False
 else False else False else False else (0:Int)=inV l
set_option maxRecDepth 100000 in
theorem ivalidR_P:ivalidR_T inV itC itE gpE inB rdC cmpI cmpS:=by
  unfold ivalidR_T
  intro gl l f hl _
  have ln:=hl.fl
  have bf:cond f (f=true) True:=by cases f <;> trivial
  refine csx (fun hb=>by unfold inV; rw [if_pos (by omega)]) (fun hb=>⟨⟨0,⟨by decide,by omega,fun j hj=>by omega⟩,by (repeat' (first | exact trivial | exact rfl | assumption | apply And.intro))⟩,?_⟩)
  have hv:inV l=if firE l=0 then (if adjB l then 0 else 8) else firE l:=by unfold inV; rw [if_neg (by omega)]
  rintro i ⟨i0,i1,iz⟩
  refine csx (fun hi=>cd1 (by omega) ?_) (fun hi=>⟨⟨1,⟨by decide,by omega,fun j _ hj=>.inl (by omega),firE_zero fun j hj=>iz j (by omega)⟩,by (repeat' (first | exact trivial | exact rfl | assumption | apply And.intro))⟩,?_⟩)
  · obtain ⟨k,nm,t,a1,a,b,c,rd,co,ar,hr,hrd⟩:=hl.fr i.toNat (by omega)
    have hc:ckR (l.getD i.toNat [])=itE k nm t a1 a b c rd co ar:=by rw [hr]; rfl
    refine ⟨k,nm,t,a1,a,b,c,rd,co,ar,by rw [hr]; rfl,hrd,csx (fun q=>?_) (fun q=>cdI (by omega) ⟨i+1,⟨by omega,by omega,fun j hj=>?_⟩,by simp only [ra4]; omega,by (repeat' (first | exact trivial | exact rfl | assumption | apply And.intro))⟩)⟩
    · have e:=firE_at (l:=l) (i:=i.toNat) (fun j hj=>iz j (by omega)) (by omega) (by rw [hc]; exact q)
      rw [hv,e,hc,if_neg q]
    · rcases Int.lt_or_le (j:Int) i with w | w
      · exact iz j w
      · rw [show j=i.toNat by omega,hc]; exact Decidable.not_not.1 q
  · rintro i ⟨i0,i1,is,ie⟩
    refine csx (fun hi=>cdI (by omega) (cd1 (by omega) ?_)) (fun hi=>?_)
    · obtain ⟨k,nm,t,a1,a,b,c,rd,co,ar,hr,hrd⟩:=hl.fr (i - 1).toNat (by omega)
      obtain ⟨k2,nm2,t2,a12,a2,b2,c2,rd2,co2,ar2,hr2,hrd2⟩:=hl.fr i.toNat (by omega)
      refine ⟨k,nm,t,a1,a,b,c,rd,co,ar,by rw [hr]; rfl,cd1 (by omega) ⟨k2,nm2,t2,a12,a2,b2,c2,rd2,co2,ar2,by rw [hr2]; rfl,⟨hrd,hrd2⟩,?_⟩⟩
      rw [← hr,← hr2,show (i - 1).toNat=i.toNat - 1 by omega]
      refine csx (fun q=>?_) (fun q=>cdI (by omega) ⟨i+1,⟨by omega,by omega,fun j hj hji=>?_,ie⟩,by simp only [va11]; omega,by (repeat' (first | exact trivial | exact rfl | assumption | apply And.intro))⟩)
      · rw [hv,if_pos ie,if_neg]
        unfold adjB
        rw [decide_eq_true_iff]
        intro w
        rcases w i.toNat (by omega) with z | z <;> omega
      · rcases Int.lt_or_le (j:Int) i with w | w
        · exact is j hj w
        · rw [show j=i.toNat by omega]; exact .inr (by omega)
    · rw [hv,if_pos ie,if_pos]
      unfold adjB
      exact decide_eq_true fun j hj=>is j hj (by omega)
def ivalidR_S (inV:LLA→Int) (itC:List AV→List AV→Int) (itE:Int→ByteArray→Int→Int→Int→Int→Int→LLA→Int→Int→Int) (gpE:Int→ByteArray→Int→Int→Int→Int→Int→LLA→Int) (inB:Int→Bool) (rdC:LLA→LLA→Int) (cmpI:Int→Int→Int) (cmpS:ByteArray→ByteArray→Int):Prop:=∀ (gl:Glob) (l:List (List AV)) (f:Bool),ItsP l→fnK Tryd.prog { glob:=gl,spec:=lk [(47,(ritem_s gpE itE inB)),(42,(ricmp_s rdC cmpI cmpS itC))],specH:=lk [],shape:=[18,33,37],slz:=[(18,[2]),(33,[2]),(37,[2])],nowf:=true } { nt:=40,drop:=drp [(1,192),(4,3584),(5,24576),(6,1015808),(7,1048576),(8,4194304),(10,58720256),(11,402653184),(12,549218942976)] } (invs [(4,ra4 f l),(10,va11 5 f l)]) 6 Tryd.f26 [.sl 10 f l] (.int .i64 (inV l))
set_option maxRecDepth 100000 in
theorem ivalidR_e (inV:LLA→Int) (itC:List AV→List AV→Int) (itE:Int→ByteArray→Int→Int→Int→Int→Int→LLA→Int→Int→Int) (gpE:Int→ByteArray→Int→Int→Int→Int→Int→LLA→Int) (inB:Int→Bool) (rdC:LLA→LLA→Int) (cmpI:Int→Int→Int) (cmpS:ByteArray→ByteArray→Int):ivalidR_T inV itC itE gpE inB rdC cmpI cmpS=ivalidR_S inV itC itE gpE inB rdC cmpI cmpS:=by kernel_rfl
theorem ivalidR_v:ivalidR_S inV itC itE gpE inB rdC cmpI cmpS:=@Eq.mp (ivalidR_T inV itC itE gpE inB rdC cmpI cmpS) (ivalidR_S inV itC itE gpE inB rdC cmpI cmpS) (ivalidR_e inV itC itE gpE inB rdC cmpI cmpS) (ivalidR_P)
theorem ivalidR_ok (gl:Glob):SOK Tryd.prog gl 26 (ivalidR_s inV itC itE):=by
  refine ⟨fok Tryd.func26 (by kernel_rfl) (by kernel_rfl),?_⟩
  intro xs pre r h hp
  unfold ivalidR_s at h
  split at h
  · simp only [Option.some.injEq,Prod.mk.injEq] at h
    obtain ⟨h1,h2⟩:=h
    subst h1 h2
    exact fnK_sound tyNil (by exact specOK rfl rfl ⟨(ritem_ok gl),(ricmp_ok gl),trivial⟩ trivial) (by kernel_rfl) Tryd.func26 rfl (ivalidR_v gl _ _ hp)
  · cases h
end Go.Proofs.YtgnnafneglannaaDoor
namespace Go.Proofs.YtgnnafneglannaaDoor
open Go Go.Lib Go.RowKit
set_option linter.unusedVariables false
set_option linter.unusedSimpArgs false
theorem zero_size (zc:Array Value) (k:Nat):(Builtin.zeroCells zc k).size=k*zc.size:=by
  simp [Builtin.zeroCells]
theorem run_copyN {P:Program} (w:World) (dT sT ty elem s:Nat) (b o dLen dCap:Nat) (a:Addr) (sLen sCap:Nat) (cs:List Value)
    (hu:P.underlying dT=some (.slice elem)) (hs:(P.info? elem).map (·.size)=some s) (hn:cs.length=Nat.min sLen dLen*s)
    (hsrc:∀ j v,cs[j]?=some v→w.cell? (a.add j)=some v) (hc:∀ j,j < cs.length→(w.cell? ⟨b,o+j,none⟩).isSome=true) (hf:∀ j,j < cs.length→w.frozen? ⟨b,o+j,none⟩=false) (h1:∀ v ∈ cs,v.oneCell'=true) :
    (Builtin.copy_ #[dT,sT] ty #[.slice (some ⟨b,o,none⟩) dLen dCap,.slice (some a) sLen sCap]).run P w=.ok (goInt (Nat.min sLen dLen)) (w.setCells b o cs):=by
  have hl:=run_loadCells_list (P:=P) w a cs hsrc
  have hst:=run_storeCells_cells (P:=P) b o cs 0 w (by simpa using hc) (by simpa using hf) h1
  cases hq:P.info? elem with
  | none=>simp [hq] at hs
  | some i =>
    have hi:i.size=s:=by simpa [hq] using hs
    simp [Builtin.copy_,run_underlying hu,Builtin.lenOf,Builtin.firstCells,sizeOf,typeInfo,hq,hi,← hn,hl,hst]
theorem t_it:Tryd.prog.underlying 26=some (.slice 50):=by kernel_rfl
theorem i_it:∃ i z,Tryd.prog.info? 50=some i∧i.zero=some z∧i.size=10∧z.cells.size=10∧i.bytes=104:=by
  have h:(Tryd.prog.info? 50).map (fun i=>(i.zero.map (·.cells.size),i.size,i.bytes))=some (some 10,10,104):=by kernel_rfl
  cases e:Tryd.prog.info? 50 with
  | none=>rw [e] at h; cases h
  | some i =>
    rw [e] at h
    simp only [Option.map_some,Option.some.injEq,Prod.mk.injEq] at h
    obtain ⟨h1,h2,h3⟩:=h
    cases hz:i.zero with
    | none=>rw [hz] at h1; cases h1
    | some z =>
      rw [hz] at h1
      exact ⟨i,z,rfl,hz,h2,by simpa using h1,h3⟩
set_option maxHeartbeats 4000000 in
set_option maxRecDepth 100000 in
theorem ins_end_room (b off n c vb voff m vc:Nat) (vs:List Value) (w:World) (hm:0 < m) (hroom:n+m≤c) (hc63:c≤9223372036854775807)
    (hvl:vs.length=m*10) (hsp:∀ j,j < m*10→(w.cell? ⟨b,off+n*10+j,none⟩).isSome=true) (hfz:∀ j,j < m*10→w.frozen? ⟨b,off+n*10+j,none⟩=false)
    (hvs:∀ j v,vs[j]?=some v→w.cell? ⟨vb,voff+j,none⟩=some v) (h1v:∀ v ∈ vs,v.oneCell'=true) :
    Calls Tryd.prog 56 #[.slice (some ⟨b,off,none⟩) n c,.int .i64 n,.slice (some ⟨vb,voff,none⟩) m vc] w fun e w' =>
      e=.returned (.slice (some ⟨b,off,none⟩) (n+m) c)∧w'=w.setCells b (off+n*10) vs:=by
  obtain ⟨i0,z0,hi0,hz0,hzs,hzc,hzb⟩:=i_it
  have hz1:¬ ((m:Int)=0):=by omega
  have hsrc:_root_.Go.Src Tryd.prog i0.size 26 (.slice (some ⟨vb,voff,none⟩) m vc) m vs w:=by
    rw [hzs]
    exact _root_.Go.Src.ofSlice w t_it ⟨vb,voff,none⟩ m vc vs (by omega) (fun j u hj=>by rw [Addr.add_lit]; exact hvs j u hj) h1v
  have hrun:∀ ty,(Builtin.append_ #[26,26] ty #[.slice (some ⟨b,off,none⟩) n c,.slice (some ⟨vb,voff,none⟩) m vc]).run Tryd.prog w=.ok (.slice (some ⟨b,off,none⟩) (n+m) c) (w.setCells b (off+n*10) vs):=fun ty=>by
    have:=run_append_room_src (w:=w) 26 26 ty 50 i0 t_it hi0 b off n c (.slice (some ⟨vb,voff,none⟩) m vc) m vs hsrc hroom (by rw [hzs,hvl]; exact hsp) (by rw [hzs,hvl]; exact hfz)
    rw [hzs] at this
    exact this
  go_enter Tryd.func56,Tryd.ntmps56
  go_wp2_with (at_builtin; refine Lib.wpList_append_run _ rfl _ _ _ _ rfl _ _ rfl rfl _ _ (hrun _) ?_)
  go_ret
  exact ⟨rfl,rfl⟩
set_option maxHeartbeats 4000000 in
set_option maxRecDepth 100000 in
theorem ins_end_grow (base:Option Addr) (n c vb voff m vc:Nat) (cs vs:List Value) (w:World) (hm:0 < m) (hnc:n≤c) (hroom:c < n+m) (hbig:n+m≤1000)
    (hcl:cs.length=n*10) (hvl:vs.length=m*10) (hnil:base=none→n=0)
    (hcs:∀ a,base=some a→∀ j v,cs[j]?=some v→w.cell? (a.add j)=some v)
    (hvs:∀ j v,vs[j]?=some v→w.cell? ⟨vb,voff+j,none⟩=some v) (h1v:∀ v ∈ vs,v.oneCell'=true) (zc:Array Value) (hzc:∀ i z,Tryd.prog.info? 50=some i→i.zero=some z→z.cells=zc) :
    Calls Tryd.prog 56 #[.slice base n c,.int .i64 n,.slice (some ⟨vb,voff,none⟩) m vc] w fun e w' =>
      e=.returned (.slice (some ⟨w.heap.size,0,none⟩) (n+m) (grownCap w (n+m) c 50)) ∧
      w'=w.drew.alloc (.cells ((cs++vs).toArray++Builtin.zeroCells zc (grownCap w (n+m) c 50 - (n+m))) 50):=by
  obtain ⟨i0,z0,hi0,hz0,hzs,hzc1,hzb⟩:=i_it
  have hzc2:=hzc i0 z0 hi0 hz0
  have hz1:¬ ((m:Int)=0):=by omega
  have hsrc:_root_.Go.Src Tryd.prog i0.size 26 (.slice (some ⟨vb,voff,none⟩) m vc) m vs w:=by
    rw [hzs]
    exact _root_.Go.Src.ofSlice w t_it ⟨vb,voff,none⟩ m vc vs (by omega) (fun j u hj=>by rw [Addr.add_lit]; exact hvs j u hj) h1v
  have hold:(Builtin.firstCells i0.size n (.slice base n c)).run Tryd.prog w.drew=.ok cs.toArray w.drew:=by
    rw [hzs]
    cases base with
    | none =>
      have h0:=hnil rfl
      subst h0
      have hcs0:cs=[]:=List.length_eq_zero_iff.1 (by simpa using hcl)
      rw [hcs0]
      exact run_firstCells_none w.drew 10 0 0 c
    | some a=>exact run_firstCells_some w.drew 10 n a n c cs (by omega) (fun j v hj=>hcs a rfl j v hj)
  have hrun:∀ ty,(Builtin.append_ #[26,26] ty #[.slice base n c,.slice (some ⟨vb,voff,none⟩) m vc]).run Tryd.prog w=.ok (.slice (some ⟨w.heap.size,0,none⟩) (n+m) (grownCap w (n+m) c 50)) (w.drew.alloc (.cells ((cs++vs).toArray++Builtin.zeroCells zc (grownCap w (n+m) c 50 - (n+m))) 50)):=fun ty=>by
    have:=run_append_grow_src w 26 26 ty 50 i0 z0 t_it hi0 hz0 base n c cs hold (.slice (some ⟨vb,voff,none⟩) m vc) m vs hsrc hroom (by omega) (by rw [hzb]; exact growslice_fits hroom (by omega))
    rw [hzc2] at this
    exact this
  go_enter Tryd.func56,Tryd.ntmps56
  cases base with
  | none =>
    have h0:=hnil rfl
    subst h0
    go_wp2_with (at_builtin; refine Lib.wpList_append_run _ rfl _ _ _ _ rfl _ _ rfl rfl _ _ (hrun _) ?_)
    go_ret
    exact ⟨rfl,rfl⟩
  | some a =>
    obtain ⟨ab,ao,asp⟩:=a
    go_wp2_with (at_builtin; refine Lib.wpList_append_run _ rfl _ _ _ _ rfl _ _ rfl rfl _ _ (hrun _) ?_)
    all_goals (go_ret; exact ⟨rfl,rfl⟩)
set_option maxHeartbeats 4000000 in
set_option maxRecDepth 100000 in
theorem ins_shift (b off n c i vb voff m vc:Nat) (cs vs:List Value) (w:World) (hi:i < n) (hm:0 < m) (hroom:n+m≤c) (hc63:c≤9223372036854775807) (hvb:vb≠b)
    (hcl:cs.length=n*10) (hvl:vs.length=m*10)
    (hcs:∀ j v,cs[j]?=some v→w.cell? ⟨b,off+j,none⟩=some v) (hsp:∀ j,j < (n+m)*10→(w.cell? ⟨b,off+j,none⟩).isSome=true) (hfz:∀ j,j < (n+m)*10→w.frozen? ⟨b,off+j,none⟩=false)
    (hvs:∀ j v,vs[j]?=some v→w.cell? ⟨vb,voff+j,none⟩=some v) (h1c:∀ v ∈ cs,v.oneCell'=true) (h1v:∀ v ∈ vs,v.oneCell'=true)
    (tA tB:TypeId) (kA kB:Nat) (hsa:w.shape? vb=some (tA,kA)) (hsb:w.shape? b=some (tB,kB)) (hkB:kB≠0) (hfa:w.frozen? ⟨vb,voff,none⟩=false) (hfe:w.frozen? ⟨vb,kA,none⟩=false) :
    Calls Tryd.prog 56 #[.slice (some ⟨b,off,none⟩) n c,.int .i64 i,.slice (some ⟨vb,voff,none⟩) m vc] w fun e w' =>
      e=.returned (.slice (some ⟨b,off,none⟩) (n+m) c)∧w'=(w.drew.setCells b (off+(i+m)*10) (cs.drop (i*10))).setCells b (off+i*10) vs:=by
  obtain ⟨i0,z0,hi0,hz0,hzs,hzc1,hzb⟩:=i_it
  have hz1:¬ ((m:Int)=0):=by omega
  have hz2:¬ ((i:Int)=(n:Int)):=by omega
  have hsz:(Tryd.prog.info? 50).map (·.size)=some 10:=by rw [hi0]; simp [hzs]
  have hso:∀ w,(Go.sizeOf 50).run Tryd.prog w=.ok 10 w:=fun w=>by simp [sizeOf,typeInfo,hi0,hzs]
  have hov:∀ lb cb,(callFunc 69 #[.slice (some ⟨vb,voff,none⟩) m vc,.slice (some ⟨b,off+(i+m)*10,none⟩) lb cb]).run Tryd.prog w=.ok (.value (.bool false)) w:=fun lb cb=>by
    rw [run_callFunc_extern Tryd.func69 (by kernel_rfl) (by kernel_rfl) (by kernel_rfl) (e:=Extern.SlicesOverlaps.overlaps #[26,26] #[4]) (by kernel_rfl),
      Lib.run_overlaps_apart w 26 4 50 t_it 10 hso ⟨vb,voff,none⟩ ⟨b,off+(i+m)*10,none⟩ m vc lb cb hvb tA tB kA kB hsa hsb hkB hfa hfe]
    rfl
  have mixed:Tryd.prog.follows Departure.mixedOrders=true:=by kernel_rfl
  have hdl:(cs.drop (i*10)).length=(n - i)*10:=by rw [List.length_drop,hcl]; omega
  have hw1:IntKind.i64.wrap ((i:Int)+(m:Int))=(i:Int)+(m:Int):=by rw [IntKind.wrap_i64]; omega
  have hb1:(0:Int)≤(i:Int)+(m:Int):=by omega
  have hin:i≤n:=by omega
  have htn:((i:Int)+(m:Int)).toNat=i+m:=by omega
  have hb2:¬ (c=i+m):=by omega
  have hb3:(i:Int)≤(n:Int)+(m:Int):=by omega
  have hb4:¬ (c=i):=by omega
  have hmn1:Nat.min (n+m - i) (n+m - (i+m))=n - i:=by simp only [Nat.min_def]; split <;> omega
  have hmn2:Nat.min m (n+m - i)=m:=by simp only [Nat.min_def]; split <;> omega
  have hcp1:∀ ty dc sc,(Builtin.copy_ #[26,26] ty #[.slice (some ⟨b,off+(i+m)*10,none⟩) (n+m - (i+m)) dc,.slice (some ⟨b,off+i*10,none⟩) (n+m - i) sc]).run Tryd.prog w.drew=.ok (goInt ((n - i:Nat):Int)) (w.drew.setCells b (off+(i+m)*10) (cs.drop (i*10))):=fun ty dc sc=>by
    have:=run_copyN w.drew 26 26 ty 50 10 b (off+(i+m)*10) (n+m - (i+m)) dc ⟨b,off+i*10,none⟩ (n+m - i) sc (cs.drop (i*10)) t_it hsz (by rw [hdl,hmn1])
      (fun j v hj=>by rw [Addr.add_lit,Nat.add_assoc]; exact hcs (i*10+j) v (by rwa [List.getElem?_drop] at hj))
      (fun j hj=>by rw [Nat.add_assoc]; exact hsp _ (by omega)) (fun j hj=>by rw [Nat.add_assoc]; exact hfz _ (by omega)) (fun v hv=>h1c v (List.mem_of_mem_drop hv))
    rw [hmn1] at this
    exact this
  obtain ⟨W1,hW1⟩:∃ W1,W1=w.drew.setCells b (off+(i+m)*10) (cs.drop (i*10)):=⟨_,rfl⟩
  have hsp1:∀ k,k < (n+m)*10→(W1.cell? ⟨b,off+k,none⟩).isSome=true:=fun k hk=>by
    rw [hW1]
    exact isSome_setCells b _ _ _ (fun j hj=>by rw [Nat.add_assoc]; exact hsp _ (by omega)) _ (hsp k hk)
  have hcp2:∀ (W:World),(∀ x,W.cell? x=W1.cell? x)→(∀ x,W.frozen? x=W1.frozen? x)→∀ ty dc,(Builtin.copy_ #[26,26] ty #[.slice (some ⟨b,off+i*10,none⟩) (n+m - i) dc,.slice (some ⟨vb,voff,none⟩) m vc]).run Tryd.prog W=.ok (goInt (m:Int)) (W.setCells b (off+i*10) vs):=fun W hWc hWf ty dc=>by
    have:=run_copyN W 26 26 ty 50 10 b (off+i*10) (n+m - i) dc ⟨vb,voff,none⟩ m vc vs t_it hsz (by rw [hvl,hmn2])
      (fun j v hj=>by
        rw [Addr.add_lit,hWc,hW1,World.cell?_setCells_out b _ _ _ _ (fun h _=>absurd h hvb)]
        exact hvs j v hj)
      (fun j hj=>by rw [hWc,Nat.add_assoc]; exact hsp1 _ (by omega)) (fun j hj=>by rw [hWf,hW1,World.frozen?_setCells,Nat.add_assoc]; exact hfz _ (by omega)) h1v
    rw [hmn2] at this
    exact this
  rw [← hW1] at hcp1
  go_enter Tryd.func56,Tryd.ntmps56
  go_wp2_with (simp only [hov])
  go_region_law_o (refine step_copy_runI rfl _ _ 26 26 rfl _ _ (by simp [Act.eval,Act.put]) (by simp [Act.eval,Act.put]) (hcp1 _ _ _) ?_)
  go_wp2_with (at_builtin; refine wpList_copy_runI _ rfl _ _ 26 26 rfl _ _ rfl rfl (hcp2 _ (fun _=>rfl) (fun _=>rfl) _ _) ?_)
  go_ret
  first | exact ⟨rfl,rfl⟩ | exact ⟨rfl,by rw [hW1]⟩
set_option maxHeartbeats 4000000 in
set_option maxRecDepth 100000 in
theorem ins_grow (b off n c i vb voff m vc:Nat) (cs vs:List Value) (w:World) (hi:i < n) (hm:0 < m) (hnc:n≤c) (hroom:c < n+m) (hbig:n+m≤1000)
    (hcl:cs.length=n*10) (hvl:vs.length=m*10)
    (hcs:∀ j v,cs[j]?=some v→w.cell? ⟨b,off+j,none⟩=some v)
    (hvs:∀ j v,vs[j]?=some v→w.cell? ⟨vb,voff+j,none⟩=some v) (h1c:∀ v ∈ cs,v.oneCell'=true) (h1v:∀ v ∈ vs,v.oneCell'=true) (zc:Array Value) (hzcc:∀ i z,Tryd.prog.info? 50=some i→i.zero=some z→z.cells=zc) :
    Calls Tryd.prog 56 #[.slice (some ⟨b,off,none⟩) n c,.int .i64 i,.slice (some ⟨vb,voff,none⟩) m vc] w fun e w' =>
      e=.returned (.slice (some ⟨w.heap.size,0,none⟩) (n+m) (grownCap w (n+m) c 50)) ∧
      w'=(((w.alloc (.cells ((cs.take (i*10)).toArray++Builtin.zeroCells zc (n+m - i)++Builtin.zeroCells zc (grownCap w (n+m) c 50 - (n+m))) 50)).drew.setCells w.heap.size (i*10) vs).drew).setCells w.heap.size ((i+m)*10) (cs.drop (i*10)):=by
  obtain ⟨i0,z0,hi0,hz0,hzs,hzc1,hzb⟩:=i_it
  have hzc2:=hzcc i0 z0 hi0 hz0
  have hzl:zc.size=10:=by rw [← hzc2]; exact hzc1
  have mixed:Tryd.prog.follows Departure.mixedOrders=true:=by kernel_rfl
  have hz1:¬ ((m:Int)=0):=by omega
  have hz2:¬ ((i:Int)=(n:Int)):=by omega
  have hz3:(c:Int) < (n:Int)+(m:Int):=by omega
  have hsz:(Tryd.prog.info? 50).map (·.size)=some 10:=by rw [hi0]; simp [hzs]
  have hbw:b < w.heap.size:=World.block_lt_of_cell? w _ (hcs 0 _ (List.getElem?_eq_getElem (by omega)))
  have hvw:vb < w.heap.size:=World.block_lt_of_cell? w _ (hvs 0 _ (List.getElem?_eq_getElem (by omega)))
  have hkk:(n:Int)+(m:Int) - (i:Int)=((n+m - i:Nat):Int):=by omega
  have hik:i+(n+m - i)=n+m:=by omega
  have hold:(Builtin.firstCells i0.size i (.slice (some ⟨b,off,none⟩) i c)).run Tryd.prog w.drew=.ok (cs.take (i*10)).toArray w.drew:=by
    rw [hzs]
    exact run_firstCells_some w.drew 10 i ⟨b,off,none⟩ i c (cs.take (i*10)) (by rw [List.length_take,hcl]; omega) (fun j v hj=>by
      rw [Addr.add_lit]
      rw [List.getElem?_take] at hj
      split at hj
      · exact hcs j v hj
      · cases hj)
  have hrz:∀ ty,(Builtin.append_ #[26,3] ty #[.slice (some ⟨b,off,none⟩) i c,.int .i64 ((n:Int)+(m:Int) - (i:Int))]).run Tryd.prog w =
      .ok (.slice (some ⟨w.heap.size,0,none⟩) (n+m) (grownCap w (n+m) c 50)) (w.drew.alloc (.cells ((cs.take (i*10)).toArray++Builtin.zeroCells zc (n+m - i)++Builtin.zeroCells zc (grownCap w (n+m) c 50 - (n+m))) 50)):=fun ty=>by
    have h:=Lib.run_append_grow_zeros w 26 3 ty 50 i0 z0 .i64 .i64 t_it (by kernel_rfl) hi0 hz0 (some ⟨b,off,none⟩) i c (cs.take (i*10)) hold (n+m - i) (by omega) (by omega) (by omega) (by omega) (by rw [hzb]; omega) (by rw [hzb,hik]; exact growslice_fits hroom (by omega))
    rw [hik,hzc2] at h
    rw [hkk]
    exact h
  obtain ⟨G,hG⟩:∃ G,G=grownCap w (n+m) c 50:=⟨_,rfl⟩
  obtain ⟨ROW,hROW⟩:∃ ROW:Array Value,ROW=(cs.take (i*10)).toArray++Builtin.zeroCells zc (n+m - i)++Builtin.zeroCells zc (G - (n+m)):=⟨_,rfl⟩
  rw [← hG] at hrz ⊢
  rw [← hROW] at hrz ⊢
  have hRl:(n+m)*10≤ROW.size:=by
    rw [hROW,Array.size_append,Array.size_append,zero_size,zero_size,hzl]
    simp only [List.size_toArray,List.length_take,hcl]
    omega
  obtain ⟨W1,hW1⟩:∃ W1,W1=w.drew.alloc (.cells ROW 50):=⟨_,rfl⟩
  rw [← hW1] at hrz
  have hN:∀ j,j < (n+m)*10→(W1.cell? ⟨w.heap.size,j,none⟩).isSome=true:=fun j hj=>by
    rw [hW1,World.cell?_alloc_at (w:=w.drew) ROW _ w.heap.size j rfl,Array.getElem?_eq_getElem (by omega)]; rfl
  have hNf:∀ j,W1.frozen? ⟨w.heap.size,j,none⟩=false:=fun j=>by rw [hW1]; exact World.frozen?_alloc_at (w:=w.drew) ROW _ w.heap.size j rfl
  have hOb:∀ j v,w.cell? ⟨b,j,none⟩=some v→W1.cell? ⟨b,j,none⟩=some v:=fun j v h=>by rw [hW1,World.cell?_alloc_past (w:=w.drew) _ b j hbw]; exact h
  have hOv:∀ j v,w.cell? ⟨vb,j,none⟩=some v→W1.cell? ⟨vb,j,none⟩=some v:=fun j v h=>by rw [hW1,World.cell?_alloc_past (w:=w.drew) _ vb j hvw]; exact h
  have hmnA:Nat.min m (n+m - i)=m:=by simp only [Nat.min_def]; split <;> omega
  have hmnB:Nat.min (n - i) (n+m - (i+m))=n - i:=by simp only [Nat.min_def]; split <;> omega
  have hcpA:∀ (W:World),(∀ x,W.cell? x=W1.cell? x)→(∀ x,W.frozen? x=W1.frozen? x)→∀ ty dc,(Builtin.copy_ #[26,26] ty #[.slice (some ⟨w.heap.size,i*10,none⟩) (n+m - i) dc,.slice (some ⟨vb,voff,none⟩) m vc]).run Tryd.prog W=.ok (goInt (m:Int)) (W.setCells w.heap.size (i*10) vs):=fun W hWc hWf ty dc=>by
    have:=run_copyN W 26 26 ty 50 10 w.heap.size (i*10) (n+m - i) dc ⟨vb,voff,none⟩ m vc vs t_it hsz (by rw [hvl,hmnA])
      (fun j v hj=>by rw [Addr.add_lit,hWc]; exact hOv _ v (hvs j v hj))
      (fun j hj=>by rw [hWc]; exact hN _ (by omega)) (fun j hj=>by rw [hWf]; exact hNf _) h1v
    rw [hmnA] at this
    exact this
  have hGn:n+m≤G:=by rw [hG]; exact grownCap_ge w _ _ _
  have hG63:G≤9223372036854775807:=by
    have:=grownCap_le_maxLen w (n+m) c 50 (by unfold maxLen; omega)
    rw [← hG] at this
    unfold maxLen at this
    omega
  have hGi:¬ (G=i):=by omega
  have hGim:¬ (G=i+m):=by omega
  have hci:¬ (c=i):=by omega
  have hbN:b≠w.heap.size:=by omega
  have hdl:(cs.drop (i*10)).length=(n - i)*10:=by rw [List.length_drop,hcl]; omega
  have hcpB:∀ (W:World),(∀ x,W.cell? x=(W1.setCells w.heap.size (i*10) vs).cell? x)→(∀ x,W.frozen? x=(W1.setCells w.heap.size (i*10) vs).frozen? x)→∀ ty dc sc,(Builtin.copy_ #[26,26] ty #[.slice (some ⟨w.heap.size,(i+m)*10,none⟩) (n+m - (i+m)) dc,.slice (some ⟨b,off+i*10,none⟩) (n - i) sc]).run Tryd.prog W=.ok (goInt ((n - i:Nat):Int)) (W.setCells w.heap.size ((i+m)*10) (cs.drop (i*10))):=fun W hWc hWf ty dc sc=>by
    have:=run_copyN W 26 26 ty 50 10 w.heap.size ((i+m)*10) (n+m - (i+m)) dc ⟨b,off+i*10,none⟩ (n - i) sc (cs.drop (i*10)) t_it hsz (by rw [hdl,hmnB])
      (fun j v hj=>by
        rw [Addr.add_lit,hWc,World.cell?_setCells_out _ _ _ _ _ (fun h _=>absurd h hbN),Nat.add_assoc]
        exact hOb _ v (hcs (i*10+j) v (by rwa [List.getElem?_drop] at hj)))
      (fun j hj=>by rw [hWc]; exact isSome_setCells _ _ _ _ (fun t ht=>hN _ (by omega)) _ (hN _ (by omega)))
      (fun j hj=>by rw [hWf,World.frozen?_setCells]; exact hNf _) (fun v hv=>h1c v (List.mem_of_mem_drop hv))
    rw [hmnB] at this
    exact this
  subst hW1
  have hE1:∀ x,((w.alloc (.cells ROW 50)).drew).cell? x=(w.drew.alloc (.cells ROW 50)).cell? x:=fun x=>rfl
  have hE2:∀ x,((w.alloc (.cells ROW 50)).drew).frozen? x=(w.drew.alloc (.cells ROW 50)).frozen? x:=fun x=>rfl
  have hF1:∀ x,(((w.alloc (.cells ROW 50)).drew.setCells w.heap.size (i*10) vs).drew).cell? x=((w.drew.alloc (.cells ROW 50)).setCells w.heap.size (i*10) vs).cell? x:=fun x=>rfl
  have hF2:∀ x,(((w.alloc (.cells ROW 50)).drew.setCells w.heap.size (i*10) vs).drew).frozen? x=((w.drew.alloc (.cells ROW 50)).setCells w.heap.size (i*10) vs).frozen? x:=fun x=>rfl
  have hw1:IntKind.i64.wrap ((i:Int)+(m:Int))=(i:Int)+(m:Int):=by rw [IntKind.wrap_i64]; omega
  have hb1:(0:Int)≤(i:Int)+(m:Int):=by omega
  have hin:i≤n:=by omega
  have htn:((i:Int)+(m:Int)).toNat=i+m:=by omega
  have hb3:(i:Int)≤(n:Int):=by omega
  clear hkk hik hold hROW hG hRl
  go_enter Tryd.func56,Tryd.ntmps56
  go_wp2_with (first
    | (at_builtin; refine Lib.wpList_append_run _ rfl _ _ _ _ rfl _ _ rfl rfl _ _ (hrz _) ?_)
    | (at_builtin; refine wpList_copy_runI _ rfl _ _ 26 26 rfl _ _ rfl rfl (hcpA _ hE1 hE2 _ _) ?_)
    | (at_builtin; refine wpList_copy_runI _ rfl _ _ 26 26 rfl _ _ rfl rfl (hcpB _ (fun _=>rfl) (fun _=>rfl) _ _ _) ?_))
  go_region_law_o (refine step_copy_runI rfl _ _ 26 26 rfl (.slice (some ⟨w.heap.size,(i+m)*10,none⟩) (n+m - (i+m)) (G - (i+m))) (.slice (some ⟨b,off+i*10,none⟩) (n - i) (c - i)) (by simp [Act.eval,Act.put]) (by simp [Act.eval,Act.put]) (hcpB _ hF1 hF2 3 (G - (i+m)) (c - i)) ?_)
  go_wp2
  go_ret
  exact ⟨rfl,rfl⟩
end Go.Proofs.YtgnnafneglannaaDoor
namespace Go.Proofs.YtgnnafneglannaaDoor
open Go Go.Lib Go.RowKit
set_option linter.unusedVariables false
set_option linter.unusedSimpArgs false
theorem setCells_other (b:Nat):∀ (vs:List Value) (o:Nat) (w:World) (g:Nat),g≠b→(w.setCells b o vs).heap[g]?=w.heap[g]?
  | [],_,_,_,_=>rfl
  | v::r,o,w,g,h=>by
    rw [World.setCells,setCells_other b r (o+1) _ g h]
    simp [World.setCell,Array.getElem?_modify,Ne.symm h]
theorem setCells_rest (b:Nat):∀ (vs:List Value) (o:Nat) (w:World),(w.setCells b o vs).os=w.os∧(w.setCells b o vs).tape=w.tape∧(w.setCells b o vs).output=w.output∧(w.setCells b o vs).heap.size=w.heap.size
  | [],_,_=>⟨rfl,rfl,rfl,rfl⟩
  | v::r,o,w=>by
    obtain ⟨h1,h2,h3,h4⟩:=setCells_rest b r (o+1) (w.setCell ⟨b,o,none⟩ v)
    rw [World.setCells]
    exact ⟨h1,h2,h3,by rw [h4]; simp [World.setCell]⟩
def putL (o:Nat) (vs l:List Value):List Value:=l.take o++vs++l.drop (o+vs.length)
theorem putL_cons {o:Nat} {v:Value} {r l:List Value} (h:o < l.length):putL (o+1) r (l.set o v)=putL o (v::r) l:=by
  unfold putL
  rw [List.drop_set_of_lt (by omega)]
  rw [List.take_add_one,List.take_set_of_le (Nat.le_refl _)]
  simp only [List.getElem?_set_self h,Option.toList_some,List.append_assoc,List.singleton_append,List.length_cons]
  rw [show o+1+r.length=o+(r.length+1) by omega]
theorem setCells_heap (b t:Nat) (fr:Nat × Nat):∀ (vs:List Value) (o:Nat) (w:World) (l:List Value),w.heap[b]?=some (.cells l.toArray t fr)→o+vs.length≤l.length→(w.setCells b o vs).heap[b]?=some (.cells (putL o vs l).toArray t fr)
  | [],o,w,l,h,_=>by
    rw [World.setCells,h]
    unfold putL; simp
  | v::r,o,w,l,h,hl=>by
    rw [List.length_cons] at hl
    have h1:(w.setCell ⟨b,o,none⟩ v).heap[b]?=some (.cells (l.set o v).toArray t fr):=by
      simp [World.setCell,Array.getElem?_modify,h]
    rw [World.setCells,setCells_heap b t fr r (o+1) _ (l.set o v) h1 (by rw [List.length_set]; omega),putL_cons (by omega)]
theorem putL_len {o:Nat} {vs l:List Value} (h:o+vs.length≤l.length):(putL o vs l).length=l.length:=by
  unfold putL
  simp only [List.length_append,List.length_take,List.length_drop]
  omega
theorem putL_take {o k:Nat} {vs l:List Value} (h:o+vs.length≤l.length) (hk:o+vs.length=k):(putL o vs l).take k=l.take o++vs:=by
  unfold putL
  rw [List.take_append_of_le_length (by simp only [List.length_append,List.length_take]; omega),List.take_of_length_le (by simp only [List.length_append,List.length_take]; omega)]
theorem flat_take10:∀ {zs:List (List AV)} (n:Nat),(∀ z ∈ zs,z.length=10)→(zs.take n).flatten=zs.flatten.take (n*10)∧(zs.drop n).flatten=zs.flatten.drop (n*10)
  | _,0,_=>by simp
  | [],n+1,_=>by simp
  | z::zs,n+1,h=>by
    have hz:=h z List.mem_cons_self
    obtain ⟨h1,h2⟩:=flat_take10 (zs:=zs) n (fun y hy=>h y (List.mem_cons_of_mem _ hy))
    have e:(n+1)*10=z.length+n*10:=by omega
    constructor
    · rw [List.take_succ_cons,List.flatten_cons,List.flatten_cons,e,List.take_append,h1,List.take_of_length_le (l:=z) (by omega),show z.length+n*10 - z.length=n*10 by omega]
    · rw [List.drop_succ_cons,List.flatten_cons,e,List.drop_append,h2,List.drop_of_length_le (l:=z) (by omega),show z.length+n*10 - z.length=n*10 by omega,List.nil_append]
def insP (n q:Nat) (i:Int) (xs ys:LLA):Prop:=n=xs.length∧q=1∧ys.length=1∧0≤i∧i≤n∧n≤900
def sins_s:SpH
  | [.rw 0 10 n,.int .i64 i,.rw 1 10 q],[.row 50 10 xs,.row 50 10 ys]=>some (insP n q i xs ys,.rw 0 10 (n+1),[.row 50 10 (xs.take i.toNat++ys++xs.drop i.toNat),.row 50 10 ys])
  | _,_=>none
theorem ins_done {S:Pin} {m:Nm} {w w':World} {xs ys zs:LLA} {A:Option Addr} {c g1 c1:Nat} {g' c':Nat} {l:List Value} {vals:List Value}
    (hA:Agree S w) (hm0:m 0=some (.iface 0 (.slice A xs.length c))) (hm1:m 1=some (.iface 0 (.slice (some ⟨g1,0,none⟩) 1 c1)))
    (H1:Held S m w 1 (.row 50 10 ys)) (hnm:∀ k u,m k=some u→k < 2) (hg1:g1 < w.heap.size) (hne:g1≠g')
    (hg:(A=some ⟨g',0,none⟩∧g' < w.heap.size)∨g'=w.heap.size) (hS:∀ o,S g' o=none)
    (r1:w'.os=w.os) (r2:w'.tape=w.tape) (r3:w'.output=w.output) (r4:w.heap.size≤w'.heap.size) (r5:∀ b,b < w.heap.size→b≠g'→w'.heap[b]?=w.heap[b]?)
    (r6:w'.heap[g']?=some (.cells l.toArray 50 (0,0))) (r7:l.length=c'*10) (r8:l.take (zs.length*10)=vals) (hc:zs.length≤c') (hcm:c'≤maxLen)
    (hz:∀ z ∈ zs,z.length=10) (hv:CVl S zs.flatten noNm vals) (h1:∀ v ∈ vals,v.oneCell'=true) (hl:zs.length=xs.length+1) :
    ∃ u S' m',(Ending.returned (.slice (some ⟨g',0,none⟩) (xs.length+1) c'):Ending)=.returned u∧w'.os=w.os∧w'.tape=w.tape∧w'.output=w.output∧w.heap.size≤w'.heap.size∧Ext S S' ∧
      (∀ b,b < w.heap.size→¬ Mof 2 m b→w'.heap[b]?=w.heap[b]?∧∀ o,S' b o=S b o)∧Agree S' w' ∧
      (∀ (q:Nat) (b:Blk),([.row 50 10 zs,.row 50 10 ys]:List Blk)[q]?=some b→Held S' m' w' q b)∧InjB 2 m'∧(∀ q u g,q < 2→m' q=some u→bk u=some g→w.heap.size≤g∨Mof 2 m g)∧MLe m m'∧CV S' (.rw 0 10 (xs.length+1)) m' u:=by
  have hlt:50 < 1000000:=by decide
  have n0:(m.set 0 (.iface 0 (.slice (some ⟨g',0,none⟩) zs.length c'))) 0=some (.iface 0 (.slice (some ⟨g',0,none⟩) zs.length c')):=Nm.set_same _ _ _
  have n1:(m.set 0 (.iface 0 (.slice (some ⟨g',0,none⟩) zs.length c'))) 1=m 1:=Nm.set_ne _ _ (by decide)
  refine ⟨_,S,m.set 0 (.iface 0 (.slice (some ⟨g',0,none⟩) zs.length c')),rfl,r1,r2,r3,r4,.refl _,fun b hb hM=>⟨r5 b hb fun e=>hM ?_,fun _=>rfl⟩,fun b o v h=>?_,fun q b hq=>?_,?_,?_,?_,?_⟩
  · subst e
    rcases hg with ⟨h,_⟩ | h
    · exact ⟨0,_,by decide,hm0,by rw [h]; rfl⟩
    · omega
  · obtain ⟨k1,k2⟩:=hA b o v h
    have hb:b≠g':=fun e=>by rw [e,hS o] at h; cases h
    exact ⟨by rw [World.cell?_of_block (w:=w) (r5 b (hA.lt h) hb)]; exact k1,k2⟩
  · match q,hq with
    | 0,hq =>
      simp only [List.getElem?_cons_zero,Option.some.injEq] at hq
      subst hq
      refine ⟨some ⟨g',0,none⟩,c',n0,hc,hcm,.inr ⟨g',l.toArray,(0,0),rfl,by rw [rowTy_lt hlt]; exact r6,.none,by simpa using r7,hS,?_⟩⟩
      rw [rowNm_lo (Nat.lt_trans hlt (by decide))]
      exact row_of_flat hz hv h1 (by simpa using r8)
    | 1,hq =>
      simp only [List.getElem?_cons_succ,List.getElem?_cons_zero,Option.some.injEq] at hq
      subst hq
      refine H1.keep (.refl _) (fun cs vs hi _=>?_) n1 fun u g hu hgu=>?_
      · obtain ⟨hh,_⟩:=hi
        omega
      · rw [hm1] at hu
        injection hu with hu
        subst hu
        simp only [bk,Option.some.injEq] at hgu
        subst hgu
        exact ⟨r5 _ hg1 hne,fun _=>rfl⟩
    | q+2,hq=>simp at hq
  · intro q q' u u' g hq hq' hqq hu hu' hgu
    have key:∀ (q:Nat) (u:Value) (g:Nat),q < 2→(m.set 0 (.iface 0 (.slice (some ⟨g',0,none⟩) zs.length c'))) q=some u→bk u=some g→(q=0∧g=g')∨(q=1∧g=g1):=by
      intro q u g hq hu hgu
      match q,hq with
      | 0,_ =>
        rw [n0] at hu; injection hu with hu; subst hu
        simp only [bk,Option.some.injEq] at hgu
        exact .inl ⟨rfl,hgu.symm⟩
      | 1,_ =>
        rw [n1,hm1] at hu; injection hu with hu; subst hu
        simp only [bk,Option.some.injEq] at hgu
        exact .inr ⟨rfl,hgu.symm⟩
    intro hgu'
    rcases key q u g hq hu hgu with ⟨a1,a2⟩ | ⟨a1,a2⟩ <;> rcases key q' u' g hq' hu' hgu' with ⟨b1,b2⟩ | ⟨b1,b2⟩
    · omega
    · exact hne (by rw [← b2,a2])
    · exact hne (by rw [← a2,b2])
    · omega
  · intro q u g hq hu hgu
    match q,hq with
    | 0,_ =>
      rw [n0] at hu; injection hu with hu; subst hu
      simp only [bk,Option.some.injEq] at hgu
      subst hgu
      rcases hg with ⟨h,_⟩ | h
      · exact .inr ⟨0,_,by decide,hm0,by rw [h]; rfl⟩
      · exact .inl (by omega)
    | 1,_=>exact .inr ⟨1,u,by decide,by rw [← n1]; exact hu,hgu⟩
  · exact grow_le hm0 (by omega)
  · rw [← hl]
    exact CV.rw_mk n0 hc hcm (.inr ⟨g',rfl⟩)
theorem cv_row {S:Pin} {m:Nm} {k s n:Nat} {v:Value} {A:Option Addr} {c:Nat} (h:CV S (.rw k s n) m v) (hm:m k=some (.iface 0 (.slice A n c))):v=.slice A n c:=by
  simp only [CV] at h
  obtain ⟨_,A1,q,c1,p1,p2,p3⟩:=h
  rw [hm] at p1
  injection p1 with p1
  injection p1 with _ p1
  injection p1 with e1 e2 e3
  subst e1 e3
  rw [e2]
  exact p3 (by omega)
set_option maxHeartbeats 1000000 in
theorem sins_ok (gl:Glob):HOK Tryd.prog gl 56 sins_s:=by
  refine ⟨fok Tryd.func56 (by kernel_rfl) (by kernel_rfl),?_⟩
  intro xs0 bs pre r bs2 h hp
  unfold sins_s at h
  split at h
  rotate_left
  · cases h
  rename_i n i q xs ys
  simp only [Option.some.injEq,Prod.mk.injEq] at h
  obtain ⟨h1,h2,h3⟩:=h
  subst h1 h2 h3
  obtain ⟨hn,hq,hy,i0,i1,hbg⟩:=hp
  subst hn hq
  intro w S m vs hG hA hnm hheld hinj hv
  have H0:=hheld 0 _ rfl
  have H1:=hheld 1 _ rfl
  have hlt:50 < 1000000:=by decide
  obtain ⟨A,c,a1,a2,a3,a4,a5,V,b1,b2,b3,b4,b5⟩:=H0.vals
  obtain ⟨A1,c1,d1,d2,d3,d4,d5,Y,e1,e2,e3,e4,e5⟩:=H1.vals
  rw [rowNm_lo (Nat.lt_trans hlt (by decide))] at b2 e2
  rw [hy] at d1 d2 e1
  obtain ⟨g1,cur1,fr1,rfl,f1,f2,f3,f4⟩:=d5.resolve_left (fun h=>by omega)
  have hfr1:=f2.lt hlt
  subst hfr1
  rw [rowTy_lt hlt] at f1
  have hg1:g1 < w.heap.size:=(Array.getElem?_eq_some_iff.1 f1).1
  simp only [CVl] at hv
  obtain ⟨u1,us1,v1,hv1,u2,us2,v2,hv2,u3,us3,v3,hv3,v4⟩:=hv
  subst v4 v3 v2
  have hv1:=cv_row hv1 a1
  have hv3:=cv_row hv3 d1
  simp only [CV] at hv2
  obtain ⟨hv2,_⟩:=hv2
  subst hv1 hv2 hv3
  obtain ⟨k,rfl⟩:∃ k:Nat,i=k:=⟨i.toNat,by omega⟩
  have hvs:vs=#[.slice A xs.length c,.int .i64 k,.slice (some ⟨g1,0,none⟩) 1 c1]:=by apply Array.ext'; simpa using v1
  subst hvs
  have hk:k≤xs.length:=by omega
  have hs1:∀ j v,Y[j]?=some v→w.cell? ⟨g1,0+j,none⟩=some v:=fun j v h=>by rw [Nat.zero_add]; exact e5 g1 rfl j v h
  have hYl:Y.length=1*10:=by rw [e1]
  have hz:∀ z ∈ xs.take k++ys++xs.drop k,z.length=10:=fun z hz=>by
    rcases List.mem_append.1 hz with hz | hz
    · rcases List.mem_append.1 hz with hz | hz
      · exact a4 z (List.mem_of_mem_take hz)
      · exact d4 z hz
    · exact a4 z (List.mem_of_mem_drop hz)
  have hzl:(xs.take k++ys++xs.drop k).length=xs.length+1:=by
    simp only [List.length_append,List.length_take,List.length_drop,hy]; omega
  obtain ⟨t1,t2⟩:=flat_take10 (zs:=xs) k a4
  have hct:CVl S (xs.take k++ys++xs.drop k).flatten noNm (V.take (k*10)++Y++V.drop (k*10)):=by
    rw [List.flatten_append,List.flatten_append,t1,t2]
    exact ((b2.take _).append e2).append (b2.drop _)
  have hon:∀ v ∈ V.take (k*10)++Y++V.drop (k*10),v.oneCell'=true:=fun v hv=>by
    rcases List.mem_append.1 hv with hv | hv
    · rcases List.mem_append.1 hv with hv | hv
      · exact b3 v (List.mem_of_mem_take hv)
      · exact e3 v hv
    · exact b3 v (List.mem_of_mem_drop hv)
  have hnm2:∀ k u,m k=some u→k < 2:=hnm
  have a3':c≤9223372036854775807:=by unfold maxLen at a3; omega
  have hdet:(Int.toNat (k:Int))=k:=by omega
  rw [hdet]
  rcases Nat.lt_or_ge c (xs.length+1) with hroom | hroom
  ·
    have hgn:g1≠w.heap.size:=by omega
    obtain ⟨zc,hzc⟩:∃ zc:Array Value,∀ i z,Tryd.prog.info? 50=some i→i.zero=some z→z.cells=zc:=by
      obtain ⟨i0,z0,hi0,hz0,_⟩:=i_it
      refine ⟨z0.cells,fun i z h1 h2=>?_⟩
      have q1:i=i0:=Option.some.inj (h1.symm.trans hi0)
      rw [q1] at h2
      rw [Option.some.inj (h2.symm.trans hz0)]
    have hzcs:zc.size=10:=by
      obtain ⟨i0,z0,hi0,hz0,_,h,_⟩:=i_it
      rw [← hzc i0 z0 hi0 hz0]; exact h
    have hG1:xs.length+1≤grownCap w (xs.length+1) c 50:=grownCap_ge w _ _ _
    have hG2:grownCap w (xs.length+1) c 50≤maxLen:=grownCap_le_maxLen w (xs.length+1) c 50 (by unfold maxLen; omega)
    have hSn:∀ o,S w.heap.size o=none:=fun o=>by
      cases e:S w.heap.size o with
      | none=>rfl
      | some v=>have:=hA.lt e; omega
    rcases Nat.lt_or_ge k xs.length with hk2 | hk2
    · obtain ⟨g,cur,fr,rfl,q1,q2,q3,q4⟩:=a5.resolve_left (fun h=>by omega)
      refine (ins_grow g 0 xs.length c k g1 0 1 c1 V Y w hk2 (by decide) a2 hroom (by omega) b1 hYl (fun j v h=>by rw [Nat.zero_add]; exact b5 g rfl j v h) hs1 b3 e3 zc hzc).mono ?_
      rintro e w' ⟨rfl,rfl⟩
      generalize hGc:grownCap w (xs.length+1) c 50=G at *
      obtain ⟨L0,hL0⟩:∃ L0:List Value,L0=V.take (k*10)++(Builtin.zeroCells zc (xs.length+1 - k)).toList++(Builtin.zeroCells zc (G - (xs.length+1))).toList:=⟨_,rfl⟩
      have hrow:(V.take (k*10)).toArray++Builtin.zeroCells zc (xs.length+1 - k)++Builtin.zeroCells zc (G - (xs.length+1))=L0.toArray:=by
        rw [hL0]; apply Array.ext'; simp
      have hL0l:L0.length=G*10:=by
        rw [hL0]
        simp only [List.length_append,List.length_take,Array.length_toList,zero_size,hzcs,b1]
        omega
      rw [hrow]
      have w1:(w.alloc (.cells L0.toArray 50)).drew.heap[w.heap.size]?=some (.cells L0.toArray 50 (0,0)):=heap_alloc_new w _
      have w2:=setCells_heap w.heap.size 50 (0,0) Y (k*10) _ L0 w1 (by omega)
      have w3:=setCells_heap w.heap.size 50 (0,0) (V.drop (k*10)) ((k+1)*10) (((w.alloc (.cells L0.toArray 50)).drew.setCells w.heap.size (k*10) Y).drew) (putL (k*10) Y L0) w2 (by rw [putL_len (by omega),List.length_drop,b1]; omega)
      obtain ⟨s1,s2,s3,s4⟩:=setCells_rest w.heap.size (V.drop (k*10)) ((k+1)*10) (((w.alloc (.cells L0.toArray 50)).drew.setCells w.heap.size (k*10) Y).drew)
      obtain ⟨s5,s6,s7,s8⟩:=setCells_rest w.heap.size Y (k*10) (w.alloc (.cells L0.toArray 50)).drew
      have s9:(w.alloc (.cells L0.toArray 50)).drew.heap.size=w.heap.size+1:=by
        show (w.alloc (.cells L0.toArray 50)).heap.size=_
        rw [World.size_alloc]
      exact ins_done hA a1 d1 H1 hnm2 hg1 hgn (.inr rfl) hSn (s1.trans s5) (s2.trans s6) (s3.trans s7) (by rw [s4]; show w.heap.size≤((w.alloc (.cells L0.toArray 50)).drew.setCells w.heap.size (k*10) Y).heap.size; rw [s8,s9]; omega)
        (fun b hb hne=>by
          rw [setCells_other _ _ _ _ b hne]
          show ((w.alloc (.cells L0.toArray 50)).drew.setCells w.heap.size (k*10) Y).heap[b]?=_
          rw [setCells_other _ _ _ _ b hne]
          exact heap_alloc_old w _ hb)
        w3 (by rw [putL_len (by rw [putL_len (by omega),List.length_drop,b1]; omega),putL_len (by omega)]; exact hL0l)
        (by
          rw [hzl,putL_take (by rw [putL_len (by omega),List.length_drop,b1]; omega) (by rw [List.length_drop,b1]; omega)]
          rw [show ((k+1)*10)=k*10+Y.length by omega,putL_take (by omega) rfl]
          have x:L0.take (k*10)=V.take (k*10):=by
            rw [hL0,List.append_assoc,List.take_append_of_le_length (l₁:=V.take (k*10)) (by rw [List.length_take,b1]; omega),List.take_of_length_le (l:=V.take (k*10)) (by rw [List.length_take]; omega)]
          rw [x])
        (by rw [hzl]; exact hG1) hG2 hz hct hon hzl
    · have hkn:k=xs.length:=by omega
      subst hkn
      have hnl:A=none→xs.length=0:=fun hn=>by
        rcases a5 with ⟨_,h⟩ | ⟨g,cur,fr,h,_⟩
        · omega
        · rw [hn] at h; cases h
      refine (ins_end_grow A xs.length c g1 0 1 c1 V Y w (by decide) a2 hroom (by omega) b1 hYl hnl (fun a ha j v h=>?_) hs1 e3 zc hzc).mono ?_
      · rcases a5 with ⟨h0,_⟩ | ⟨g,cur,fr,h0,_⟩
        · rw [h0] at ha; cases ha
        · rw [h0] at ha; injection ha with ha; subst ha
          rw [Addr.add_lit,Nat.zero_add]; exact b5 g h0 j v h
      · rintro e w' ⟨rfl,rfl⟩
        generalize hGc:grownCap w (xs.length+1) c 50=G at *
        obtain ⟨L0,hL0⟩:∃ L0:List Value,L0=V++Y++(Builtin.zeroCells zc (G - (xs.length+1))).toList:=⟨_,rfl⟩
        have hrow:(V++Y).toArray++Builtin.zeroCells zc (G - (xs.length+1))=L0.toArray:=by
          rw [hL0]; apply Array.ext'; simp
        have hL0l:L0.length=G*10:=by
          rw [hL0]
          simp only [List.length_append,Array.length_toList,zero_size,hzcs,b1,hYl]
          omega
        rw [hrow]
        have w1:(w.drew.alloc (.cells L0.toArray 50)).heap[w.heap.size]?=some (.cells L0.toArray 50 (0,0)):=heap_alloc_new w.drew _
        exact ins_done hA a1 d1 H1 hnm2 hg1 hgn (.inr rfl) hSn rfl rfl rfl (by show w.heap.size≤(w.drew.alloc (.cells L0.toArray 50)).heap.size; rw [World.size_alloc]; exact Nat.le_succ _) (fun b hb hne=>heap_alloc_old w.drew _ hb) w1 hL0l
          (by
            rw [hzl,hL0,List.take_append_of_le_length (by rw [List.length_append,b1,hYl]; omega),List.take_of_length_le (by rw [List.length_append,b1,hYl]; omega)]
            have x1:V.take (xs.length*10)=V:=List.take_of_length_le (by omega)
            have x2:V.drop (xs.length*10)=[]:=List.drop_eq_nil_of_le (by omega)
            rw [x1,x2,List.append_nil])
          (by rw [hzl]; exact hG1) hG2 hz hct hon hzl
  ·
    obtain ⟨g,cur,fr,rfl,q1,q2,q3,q4⟩:=a5.resolve_left (fun h=>by omega)
    have hfr:=q2.lt hlt
    subst hfr
    rw [rowTy_lt hlt] at q1
    have hgw:g < w.heap.size:=(Array.getElem?_eq_some_iff.1 q1).1
    have hgn:g1≠g:=fun h=>hinj 1 0 _ _ g1 (by simp) (by simp) (by decide) d1 a1 rfl (by rw [h]; rfl)
    obtain ⟨_,_,_,hAe,p1,_,p3,p4⟩:=b4.resolve_left (fun h=>by omega)
    injection hAe with hAe
    injection hAe with hAe
    subst hAe
    rw [rowTy_lt hlt,q1] at p1
    injection p1 with p1
    injection p1 with p1
    subst p1
    obtain ⟨L,hL⟩:∃ L,L=cur.toList:=⟨_,rfl⟩
    have hcur:cur=L.toArray:=by rw [hL]
    rw [hcur] at q1
    rw [← hL] at p4
    have hLl:L.length=c*10:=by rw [hL,Array.length_toList]; exact q3
    have hcell:∀ j,j < (xs.length+1)*10→(w.cell? ⟨g,0+j,none⟩).isSome=true:=fun j hj=>by
      simp only [World.cell?,q1,Nat.zero_add]
      have:j < L.length:=by rw [hLl]; have:=Nat.mul_le_mul_right 10 hroom; omega
      simp [List.getElem?_eq_getElem this]
    have hfz:∀ j,w.frozen? ⟨g,j,none⟩=false:=fun j=>by simp [World.frozen?,q1]
    have hLn:(xs.length+1)*10≤L.length:=by rw [hLl]; exact Nat.mul_le_mul_right 10 hroom
    rcases Nat.lt_or_ge k xs.length with hk2 | hk2
    · refine (ins_shift g 0 xs.length c k g1 0 1 c1 V Y w hk2 (by decide) hroom (by omega) hgn b1 hYl (fun j v h=>by rw [Nat.zero_add]; exact b5 g rfl j v h) hcell (fun j _=>hfz _) hs1 b3 e3 50 50 cur1.size L.length (by simp [World.shape?,f1]) (by simp [World.shape?,q1]) (by omega) (by simp [World.frozen?,f1]) (by simp [World.frozen?,f1])).mono ?_
      rintro e w' ⟨rfl,rfl⟩
      rw [Nat.zero_add,Nat.zero_add]
      have w2:=setCells_heap g 50 (0,0) (V.drop (k*10)) ((k+1)*10) w.drew L q1 (by rw [List.length_drop,b1]; omega)
      have w3:=setCells_heap g 50 (0,0) Y (k*10) _ _ w2 (by rw [putL_len (by rw [List.length_drop,b1]; omega)]; omega)
      obtain ⟨s1,s2,s3,s4⟩:=setCells_rest g Y (k*10) (w.drew.setCells g ((k+1)*10) (V.drop (k*10)))
      obtain ⟨s5,s6,s7,s8⟩:=setCells_rest g (V.drop (k*10)) ((k+1)*10) w.drew
      exact ins_done hA a1 d1 H1 hnm2 hg1 hgn (.inl ⟨rfl,hgw⟩) q4 (s1.trans s5) (s2.trans s6) (s3.trans s7) (by rw [s4,s8]; exact Nat.le_refl _)
        (fun b hb hne=>by rw [setCells_other _ _ _ _ b hne,setCells_other _ _ _ _ b hne]; rfl)
        w3 (by rw [putL_len (by rw [putL_len (by rw [List.length_drop,b1]; omega)]; omega),putL_len (by rw [List.length_drop,b1]; omega)]; exact hLl)
        (by
          rw [hzl]
          unfold putL
          have x1:(L.take ((k+1)*10)).length=(k+1)*10:=by rw [List.length_take]; omega
          have x3:V.take (k*10)=L.take (k*10):=by rw [← p4,List.take_take,Nat.min_eq_left (by omega)]
          have y1:(L.take ((k+1)*10)++V.drop (k*10)++L.drop ((k+1)*10+(V.drop (k*10)).length)).take (k*10)=V.take (k*10):=by
            rw [List.append_assoc,List.take_append_of_le_length (by omega),List.take_take,Nat.min_eq_left (by omega),x3]
          have y2:(L.take ((k+1)*10)++V.drop (k*10)++L.drop ((k+1)*10+(V.drop (k*10)).length)).drop (k*10+Y.length)=V.drop (k*10)++L.drop ((k+1)*10+(V.drop (k*10)).length):=by
            rw [List.append_assoc,List.drop_append,List.drop_of_length_le (by omega),x1,show k*10+Y.length - (k+1)*10=0 by omega]
            rfl
          rw [y1,y2,← List.append_assoc,List.take_append_of_le_length (by simp only [List.length_append,List.length_take,List.length_drop,b1,hYl]; omega),List.take_of_length_le (by simp only [List.length_append,List.length_take,List.length_drop,b1,hYl]; omega)])
        (by rw [hzl]; exact hroom) a3 hz hct hon hzl
    · have hkn:k=xs.length:=by omega
      subst hkn
      refine (ins_end_room g 0 xs.length c g1 0 1 c1 Y w (by decide) hroom (by omega) hYl (fun j hj=>by rw [Nat.add_assoc]; exact hcell _ (by omega)) (fun j _=>hfz _) hs1 e3).mono ?_
      rintro e w' ⟨rfl,rfl⟩
      rw [Nat.zero_add]
      have w2:=setCells_heap g 50 (0,0) Y (xs.length*10) w L q1 (by omega)
      obtain ⟨s1,s2,s3,s4⟩:=setCells_rest g Y (xs.length*10) w
      exact ins_done hA a1 d1 H1 hnm2 hg1 hgn (.inl ⟨rfl,hgw⟩) q4 s1 s2 s3 (by rw [s4]; exact Nat.le_refl _)
        (fun b hb hne=>setCells_other _ _ _ _ b hne)
        w2 (by rw [putL_len (by omega)]; exact hLl)
        (by
          rw [hzl,putL_take (by omega) (by omega),p4]
          have x1:V.take (xs.length*10)=V:=List.take_of_length_le (by omega)
          have x2:V.drop (xs.length*10)=[]:=List.drop_eq_nil_of_le (by omega)
          rw [x1,x2,List.append_nil])
        (by rw [hzl]; exact hroom) a3 hz hct hon hzl
end Go.Proofs.YtgnnafneglannaaDoor
namespace Go.Proofs.YtgnnafneglannaaDoor
open Go
set_option linter.unusedVariables false
set_option linter.unusedSimpArgs false
def cloRd_s:Sp
  | [.sl 2 f xs]=>some (xs.length≤1000,.sl 2 false xs)
  | _=>none
set_option maxRecDepth 100000 in
def cloRd_T:Prop :=
  ∀ (gl:Glob) (f:Bool) (xs:List (List AV)),xs.length≤(1000:Nat)→True→(xs=[]→xs=[])∧bif decide ((0:Nat)=0∧(0:Nat)+xs.length≤(9223372036854775807:Nat)∧((0:Nat)+xs.length)*(16:Nat)≤(140737488355328:Nat)) then bif decide (([]++xs).length=([]++xs).length) then True∧[]++xs=xs else False else False
set_option maxRecDepth 100000 in
theorem cloRd_P:cloRd_T:=by
  unfold cloRd_T
  intro gl f xs hl _
  exact ⟨id,cd1 ⟨rfl,by omega,by omega⟩ (cd1 rfl ⟨trivial,rfl⟩)⟩
def cloRd_S:Prop:=∀ (gl:Glob) (f:Bool) (xs:List (List AV)),xs.length≤1000→fnK Tryd.prog { glob:=gl,spec:=lk [],specH:=lk [],nowf:=true,nq:=true } { nt:=8,drop:=drp [(1,8),(3,224)] } (fun _ _=>none) 6 Tryd.f68 [.sl 2 f xs] (.sl 2 false xs)
set_option maxRecDepth 100000 in
theorem cloRd_e:cloRd_T=cloRd_S:=by kernel_rfl
theorem cloRd_v:cloRd_S:=@Eq.mp (cloRd_T) (cloRd_S) (cloRd_e) (cloRd_P)
theorem cloRd_ok (gl:Glob):SOK Tryd.prog gl 68 cloRd_s:=by
  refine ⟨fok Tryd.func68 (by kernel_rfl) (by kernel_rfl),?_⟩
  intro xs pre r h hp
  unfold cloRd_s at h
  split at h
  · simp only [Option.some.injEq,Prod.mk.injEq] at h
    obtain ⟨h1,h2⟩:=h
    subst h1 h2
    exact fnK_sound tyNil (by exact specOK rfl rfl trivial trivial) (by kernel_rfl) Tryd.func68 rfl (cloRd_v gl _ _ hp)
  · cases h
def icop_s:Sp
  | [.agg [.int .i64 k,.str n,.int .i64 t,.int .i64 f,.int .i64 a,.int .i64 b,.int .i64 c,.sl 2 h rd,.int .i64 co,.int .i64 ar]]=>some (rd.length≤1000,.agg [.int .i64 k,.str n,.int .i64 t,.int .i64 f,.int .i64 a,.int .i64 b,.int .i64 c,.sl 2 false rd,.int .i64 co,.int .i64 ar])
  | _=>none
set_option maxRecDepth 100000 in
def icop_T:Prop :=
  ∀ (gl:Glob) (k t f a b c co ar:Int) (n:ByteArray) (rd:List (List AV)) (h:Bool),rd.length≤(1000:Nat)→(IR9 k)∧n.size.le (9223372036854775807:Nat)∧(IR9 t)∧(IR9 f)∧((-9223372036854775808:Int)≤a∧a ≤
 (9223372036854775807:Int))∧(IR9 b)∧(IR9 c)∧True∧(IR9 co)∧(IR9 ar)∧True→rd.length≤(1000:Nat)∧k=k∧n=n∧t=t∧f=f∧a=a∧b=b∧c=c∧(True∧rd=rd)∧co=co∧ar=ar∧True
set_option maxRecDepth 100000 in
theorem icop_P:icop_T:=by
  unfold icop_T
  intro gl k t f a b c co ar n rd h hl _
  refine ⟨hl,?_⟩
  (repeat' (first | exact trivial | exact rfl | assumption | apply And.intro))
def icop_S:Prop:=∀ (gl:Glob) (k t f a b c co ar:Int) (n:ByteArray) (rd:List (List AV)) (h:Bool),rd.length≤1000→fnK Tryd.prog { glob:=gl,spec:=lk [(68,cloRd_s)],specH:=lk [],nowf:=true } { nt:=10,drop:=drp [(1,504),(2,512)] } (fun _ _=>none) 6 Tryd.f54 [.agg [.int .i64 k,.str n,.int .i64 t,.int .i64 f,.int .i64 a,.int .i64 b,.int .i64 c,.sl 2 h rd,.int .i64 co,.int .i64 ar]] (.agg [.int .i64 k,.str n,.int .i64 t,.int .i64 f,.int .i64 a,.int .i64 b,.int .i64 c,.sl 2 false rd,.int .i64 co,.int .i64 ar])
set_option maxRecDepth 100000 in
theorem icop_e:icop_T=icop_S:=by kernel_rfl
theorem icop_v:icop_S:=@Eq.mp (icop_T) (icop_S) (icop_e) (icop_P)
theorem icop_ok (gl:Glob):SOK Tryd.prog gl 54 icop_s:=by
  refine ⟨fok Tryd.func54 (by kernel_rfl) (by kernel_rfl),?_⟩
  intro xs pre r h hp
  unfold icop_s at h
  split at h
  · simp only [Option.some.injEq,Prod.mk.injEq] at h
    obtain ⟨h1,h2⟩:=h
    subst h1 h2
    exact fnK_sound tyNil (by exact specOK rfl rfl ⟨(cloRd_ok gl),trivial⟩ trivial) (by kernel_rfl) Tryd.func54 rfl (icop_v gl _ _ _ _ _ _ _ _ _ _ _ hp)
  · cases h
def cloIt_s:SpH
  | [.sl 10 f xs],[]=>some (xs.length≤1000,.rw 0 10 xs.length,[.row 50 10 xs])
  | _,_=>none
set_option maxRecDepth 100000 in
def cloIt_T:Prop :=
  ∀ (gl:Glob) (f:Bool) (xs:List (List AV)),xs.length≤(1000:Nat)→True→(xs=[]→(0:Nat)=xs.length∧[]=xs∧True)∧bif decide ((0:Nat)=0∧(0:Nat)+xs.length≤(9223372036854775807:Nat)∧((0:Nat)+xs.length)*(104:Nat)≤(140737488355328:Nat)) then ([]++xs).length=xs.length∧[]++xs=xs∧True else False
set_option maxRecDepth 100000 in
theorem cloIt_P:cloIt_T:=by
  unfold cloIt_T
  intro gl f xs hl
  intros
  exact ⟨fun e=>by subst e; exact ⟨rfl,rfl,trivial⟩,cd1 ⟨rfl,by omega,by omega⟩ ⟨rfl,rfl,trivial⟩⟩
def cloIt_S:Prop:=∀ (gl:Glob) (f:Bool) (xs:List (List AV)),xs.length≤1000→fnH Tryd.prog { glob:=gl,spec:=lk [],specH:=lk [],nowf:=true,nq:=true } { nt:=8,drop:=drp [(1,8),(3,224)],fr:=1000,kp:=[],emp:=fun id=>cond (Nat.beq id 900001) [(2,1500,50,10)] [],own:=true } (fun _ _=>none) 6 Tryd.f53 [.sl 10 f xs] [] (.rw 0 10 xs.length) [.row 50 10 xs]
set_option maxRecDepth 100000 in
theorem cloIt_e:cloIt_T=cloIt_S:=by kernel_rfl
theorem cloIt_v:cloIt_S:=@Eq.mp (cloIt_T) (cloIt_S) (cloIt_e) (cloIt_P)
theorem cloIt_ok (gl:Glob):HOK Tryd.prog gl 53 cloIt_s:=by
  refine ⟨fok Tryd.func53 (by kernel_rfl) (by kernel_rfl),?_⟩
  intro xs bs pre r bs2 h hp
  unfold cloIt_s at h
  split at h
  · simp only [Option.some.injEq,Prod.mk.injEq] at h
    obtain ⟨h1,h2,h3⟩:=h
    subst h1 h2 h3
    exact fnH_sound tyNil (by exact specOK rfl rfl trivial trivial) (by kernel_rfl) Tryd.func53 (cloIt_v gl _ _ hp)
  · cases h
structure ItsL (l:LLA):Prop where
  fr:∀ i,i < l.length→(itRd (l.getD i [])).length≤1000
  fl:l.length≤900
theorem set_self {l:LLA} {i:Nat} {r:List AV} (h:i < l.length) (hr:l.getD i []=r):l.set i r=l:=by
  have:l[i]=r:=by rw [← hr,List.getD_eq_getElem?_getD,List.getElem?_eq_getElem h]; rfl
  rw [← this]; exact List.set_getElem_self h
structure AlI (l:LLA) (i:Int):Prop where
  flo:0≤i
  fhi:i≤l.length
def al3 (k:Nat) (l:LLA):LInv:=⟨Int,fun i=>⟨[(3,.rw k 10 l.length),(8,.int .i64 l.length),(9,.int .i64 i)],[(k,.row 50 10 l)]⟩,AlI l,fun i=>(l.length - i).toNat,none⟩
def iall_s:SpH
  | [.sl 10 f l],[]=>some (ItsP l∧ItsL l,.rw 0 10 l.length,[.row 50 10 l])
  | _,_=>none
set_option maxRecDepth 100000 in
def iall_T:Prop :=
  ∀ (gl:Glob) (f:Bool) (l:List (List AV)),ItsP l∧ItsL l→True→l.length≤(1000:Nat)∧(∃ x,AlI l x∧(l.length=l.length∧(↑l.length:Int)=(↑l.length:Int)∧(0:Int)=x∧True)∧l=l∧True)∧∀ (x:Int),AlI l x→bif decide (x < (↑l.length:Int)) then bif decide (0≤x∧x < (↑l.length:Int)) then bif decide (l.length=l.length∧x.toNat < l.length) then ∃ n s n_1 n_2 n_3 n_4 n_5 xs n_6 n_7,List.take [AV.int .i64
 n,.str s,.int .i64 n_1,.int .i64 n_2,.int .i64 n_3,.int .i64 n_4,.int .i64 n_5,.sl (2:Nat) false xs,.int .i64 n_6,.int .i64 n_7].length (List.drop (0:Nat) (l.getD x.toNat []))=[AV.int .i64 n,.str s,.int .i64 n_1,.int .i64 n_2,.int .i64 n_3,.int .i64 n_4,.int .i64 n_5,.sl (2:Nat) false xs,.int .i64 n_6,.int .i64 n_7]∧xs.length≤(1000:Nat)∧bif decide (0≤x∧x < (↑l.length:Int)) then bif decide
 (l.length=l.length∧x.toNat < l.length) then bif decide (rng .i64 (x+(1:Int))) then ∃ y,AlI l y∧(al3 (1006:Nat) l).m y < (al3 (1006:Nat) l).m x∧(l.length=l.length∧(↑l.length:Int)=(↑l.length:Int)∧x+(1:Int)=y∧True)∧setEl l x.toNat (0:Nat) [AV.int .i64 n,.str s,.int .i64 n_1,.int .i64 n_2,.int .i64 n_3,.int .i64 n_4,.int .i64 n_5,.sl (2:Nat) false xs,.int .i64 n_6,.int .i64 n_7]=l∧True else False
 else False else False else False else False else l.length=l.length∧l=l∧True
set_option maxRecDepth 100000 in
theorem iall_P:iall_T:=by
  unfold iall_T
  intro gl f l ⟨hp,hl⟩ _
  have ln:=hl.fl
  refine ⟨by omega,⟨0,⟨by decide,by omega⟩,by (repeat' (first | exact trivial | exact rfl | assumption | apply And.intro))⟩,?_⟩
  rintro i ⟨i0,i1⟩
  refine csx (fun hi=>cd1 (by omega) (cd1 ⟨rfl,by omega⟩ ?_)) (fun _=>by (repeat' (first | exact trivial | exact rfl | assumption | apply And.intro)))
  obtain ⟨k,nm,t,a1,a,b,c,rd,co,ar,hr,hrd⟩:=hp.fr i.toNat (by omega)
  have hc:=hl.fr i.toNat (by omega)
  rw [hr] at hc
  have e:setEl l i.toNat 0 (itA k nm t a1 a b c rd co ar)=l:=by
    unfold setEl
    rw [hr]
    exact set_self (by omega) hr
  refine ⟨k,nm,t,a1,a,b,c,rd,co,ar,by rw [hr]; rfl,hc,cd1 (by omega) (cd1 ⟨rfl,by omega⟩ (cdI (by omega) ⟨i+1,⟨by omega,by omega⟩,by simp only [al3]; omega,by (repeat' (first | exact trivial | exact rfl | assumption | apply And.intro)),e,trivial⟩))⟩
def iall_S:Prop:=∀ (gl:Glob) (f:Bool) (l:List (List AV)),ItsP l∧ItsL l→fnH Tryd.prog { glob:=gl,spec:=lk [(54,icop_s)],specH:=lk [(53,cloIt_s)],shape:=[17],slz:=[(17,[2])],nowf:=true } { nt:=22,drop:=drp [(1,96),(2,128),(4,2048),(5,1044480),(6,1048576),(7,2097152)],fr:=1000,kp:=[],own:=true } (invs [(3,al3 1006 l)]) 6 Tryd.f40 [.sl 10 f l] [] (.rw 0 10 l.length) [.row 50 10 l]
set_option maxRecDepth 100000 in
theorem iall_e:iall_T=iall_S:=by kernel_rfl
theorem iall_v:iall_S:=@Eq.mp (iall_T) (iall_S) (iall_e) (iall_P)
theorem iall_ok (gl:Glob):HOK Tryd.prog gl 40 iall_s:=by
  refine ⟨fok Tryd.func40 (by kernel_rfl) (by kernel_rfl),?_⟩
  intro xs bs pre r bs2 h hp
  unfold iall_s at h
  split at h
  · simp only [Option.some.injEq,Prod.mk.injEq] at h
    obtain ⟨h1,h2,h3⟩:=h
    subst h1 h2 h3
    exact fnH_sound tyNil (by exact specOK rfl rfl ⟨(icop_ok gl),trivial⟩ ⟨(cloIt_ok gl),trivial⟩) (by kernel_rfl) Tryd.func40 (iall_v gl _ _ hp)
  · cases h
structure BsI (l:LLA) (x:List AV) (p:Int × Int):Prop where
  flo:0≤p.1
  fij:p.1≤p.2
  fhi:p.2≤l.length
  fl:∀ k:Nat,(k:Int) < p.1→itC (l.getD k []) x < 0
  fr:∀ k:Nat,p.2≤k→k < l.length→0≤itC (l.getD k []) x
structure BsP (l:LLA) (n:Nat) (rd:LLA):Prop where
  fp:ItsP l
  fs:Srt l
  fl:l.length≤900
  fn:n=l.length
  fr:RdsP rd
def bs3 (l:LLA) (cf:Nat) (k t f a b c co ar:Int) (n:ByteArray) (rd:LLA) (h:Bool):LInv:=⟨Int × Int,fun p=>⟨[(0,.rw 0 10 l.length),(2,.fn cf []),(4,.ptr 1004 0),(6,.int .i64 0),(7,.bool false),(8,.int .i64 l.length),(9,.int .i64 p.1),(10,.int .i64 p.2)],[(0,.row 50 10 l),(1004,.cells [.int .i64 k,.str n,.int .i64 t,.int .i64 f,.int .i64 a,.int .i64 b,.int .i64 c,.sl 2 h rd,.int .i64 co,.int .i64 ar])]⟩,BsI l (itA k n t f a b c rd co ar),fun p=>(p.2 - p.1).toNat,none⟩
def bsf_s (posI:LLA→List AV→Nat) (hasI:LLA→List AV→Bool) (itC:List AV→List AV→Int):SpH
  | [.rw 0 10 m,.agg [.int .i64 k,.str n,.int .i64 t,.int .i64 f,.int .i64 a,.int .i64 b,.int .i64 c,.sl 2 h rd,.int .i64 co,.int .i64 ar],.fn 52 []],[.row 50 10 l]=>some (BsP l m rd,.tup [.int .i64 (posI l (itA k n t f a b c rd co ar):Nat),.bool (hasI l (itA k n t f a b c rd co ar))],[.row 50 10 l])
  | _,_=>none
set_option maxRecDepth 100000 in
def bsf_T (posI:LLA→List AV→Nat) (hasI:LLA→List AV→Bool) (itC:List AV→List AV→Int) (rdC:LLA→LLA→Int) (cmpI:Int→Int→Int) (orL:List (List AV)→Int) (cmpS:ByteArray→ByteArray→Int) (suC:Int→ByteArray→Int→Int→ByteArray→Int→Int):Prop :=
  ∀ (gl:Glob) (l:List (List AV)) (m:Nat) (k t f a b c co ar:Int) (n:ByteArray) (rd:List (List AV)) (h:Bool),BsP l m rd→True→(IR9 k)∧n.size.le (9223372036854775807:Nat)∧(IR9 t)∧(IR9 f)∧((-9223372036854775808:Int)≤a∧a ≤
 (9223372036854775807:Int))∧(IR9 b)∧(IR9 c)∧True∧(IR9 co)∧(IR9 ar)∧True→True→(∃ x,BsI l (itA k n t f a b c rd co ar)
 x∧(m=l.length∧True∧(0:Nat)=0∧(0:Int)=0∧false=false∧(↑m:Int)=(↑l.length:Int)∧(0:Int)=x.fst∧(↑m:Int)=x.snd∧True)∧l=l∧(k=k∧n=n∧t=t∧f=f∧a=a∧b=b∧c=c∧((bif h then h=true else True)∧rd=rd)∧co=co∧ar=ar∧True)∧True)∧∀ (x:Int × Int),BsI l (itA k n t f a b c rd co ar) x→bif decide (x.fst < x.snd) then bif decide (rng .i64 (x.fst+x.snd)) then bif decide (0≤IntKind.i64.wrap (IntKind.u64.wrap (x.fst +
 x.snd) / (2:Int))∧IntKind.i64.wrap (IntKind.u64.wrap (x.fst+x.snd) / (2:Int)) < (↑l.length:Int)) then bif decide (l.length=l.length∧(IntKind.i64.wrap (IntKind.u64.wrap (x.fst+x.snd) / (2:Int))).toNat < l.length) then ∃ n_1 s n_2 n_3 n_4 n_5 n_6 xs n_7 n_8,List.take [AV.int .i64 n_1,.str s,.int .i64 n_2,.int .i64 n_3,.int .i64 n_4,.int .i64 n_5,.int .i64 n_6,.sl (2:Nat) false xs,.int .i64
 n_7,.int .i64 n_8].length (List.drop (0:Nat) (l.getD (IntKind.i64.wrap (IntKind.u64.wrap (x.fst+x.snd) / (2:Int))).toNat []))=[AV.int .i64 n_1,.str s,.int .i64 n_2,.int .i64 n_3,.int .i64 n_4,.int .i64 n_5,.int .i64 n_6,.sl (2:Nat) false xs,.int .i64 n_7,.int .i64 n_8]∧(RdsP xs∧RdsP rd)∧bif decide (itC (itA n_1 s n_2 n_3 n_4 n_5 n_6 xs n_7 n_8) (itA k n t f a b c rd co ar) < (0:Int)) then bif
 decide (rng .i64 (IntKind.i64.wrap (IntKind.u64.wrap (x.fst+x.snd) / (2:Int))+(1:Int))) then ∃ y,BsI l (itA k n t f a b c rd co ar) y∧(bs3 l (52:Nat) k t f a b c co ar n rd h).m y < (bs3 l (52:Nat) k t f a b c co ar n rd h).m x∧(l.length=l.length∧True∧(0:Nat)=0∧(0:Int)=0∧false=false∧(↑l.length:Int)=(↑l.length:Int)∧IntKind.i64.wrap (IntKind.u64.wrap (x.fst+x.snd) / (2:Int)) +
 (1:Int)=y.fst∧x.snd=y.snd∧True)∧l=l∧(k=k∧n=n∧t=t∧f=f∧a=a∧b=b∧c=c∧((bif h then h=true else True)∧rd=rd)∧co=co∧ar=ar∧True)∧True else False else ∃ y,BsI l (itA k n t f a b c rd co ar) y∧(bs3 l (52:Nat) k t f a b c co ar n rd h).m y < (bs3 l (52:Nat) k t f a b c co ar n rd h).m x∧(l.length=l.length∧True∧(0:Nat)=0∧(0:Int)=0∧false=false∧(↑l.length:Int)=(↑l.length:Int)∧x.fst=y.fst∧IntKind.i64.wrap
 (IntKind.u64.wrap (x.fst+x.snd) / (2:Int))=y.snd∧True)∧l=l∧(k=k∧n=n∧t=t∧f=f∧a=a∧b=b∧c=c∧((bif h then h=true else True)∧rd=rd)∧co=co∧ar=ar∧True)∧True else False else False else False else bif decide (x.fst < (↑l.length:Int)) then bif decide (0≤x.fst∧x.fst < (↑l.length:Int)) then bif decide (l.length=l.length∧x.fst.toNat < l.length) then ∃ n_1 s n_2 n_3 n_4 n_5 n_6 xs n_7 n_8,List.take
 [AV.int .i64 n_1,.str s,.int .i64 n_2,.int .i64 n_3,.int .i64 n_4,.int .i64 n_5,.int .i64 n_6,.sl (2:Nat) false xs,.int .i64 n_7,.int .i64 n_8].length (List.drop (0:Nat) (l.getD x.fst.toNat []))=[AV.int .i64 n_1,.str s,.int .i64 n_2,.int .i64 n_3,.int .i64 n_4,.int .i64 n_5,.int .i64 n_6,.sl (2:Nat) false xs,.int .i64 n_7,.int .i64 n_8]∧(RdsP xs∧RdsP rd)∧(x.fst=(↑(posI l (itA k n t f a b c rd co
 ar)):Int)∧decide (itC (itA n_1 s n_2 n_3 n_4 n_5 n_6 xs n_7 n_8) (itA k n t f a b c rd co ar)=(0:Int))=hasI l (itA k n t f a b c rd co ar)∧True)∧l=l∧True else False else False else (x.fst=(↑(posI l (itA k n t f a b c rd co ar)):Int)∧false=hasI l (itA k n t f a b c rd co ar)∧True)∧l=l∧True
set_option maxRecDepth 100000 in
theorem bsf_P:bsf_T posI hasI itC rdC cmpI orL cmpS suC:=by
  unfold bsf_T
  intro gl l m k t f a b c co ar n rd h hp _ _ _
  have hm:=hp.fn
  subst hm
  have hs:=hp.fs
  have hl:=hp.fl
  have hrd:=hp.fr
  have bf:cond h (h=true) True:=by cases h <;> trivial
  generalize hx:itA k n t f a b c rd co ar=x
  refine ⟨⟨(0,(l.length:Int)),⟨by simp,by simp,by simp,fun j hj=>by simp only at hj; omega,fun j hj hj2=>by simp only at hj; omega⟩,by (repeat' (first | exact trivial | exact rfl | assumption | apply And.intro))⟩,?_⟩
  rintro ⟨i,j⟩ ⟨i0,ij,j1,hlo,hhi⟩
  simp only at i0 ij j1 hlo hhi
  dsimp only
  refine csx (fun hij=>cdI (by omega) ?_) (fun hij=>?_)
  · have e1:IntKind.u64.wrap (i+j)=i+j:=wrap_eq (by show _∧_; omega)
    have e2:IntKind.i64.wrap ((i+j) / 2)=(i+j) / 2:=wrap_eq (by show _∧_; omega)
    rw [e1,e2]
    obtain ⟨M,hM⟩:∃ M,M=(i+j) / 2:=⟨_,rfl⟩
    rw [← hM]
    have m1:i≤M∧M < j:=by omega
    refine cd1 (by omega) (cd1 ⟨rfl,by omega⟩ ?_)
    obtain ⟨k2,nm2,t2,a12,a2,b2,c2,rd2,co2,ar2,hr,hrd2⟩:=hp.fp.fr M.toNat (by omega)
    refine ⟨k2,nm2,t2,a12,a2,b2,c2,rd2,co2,ar2,by rw [hr]; rfl,⟨hrd2,hrd⟩,?_⟩
    rw [← hr]
    refine csx (fun q=>cdI (by omega) ⟨(M+1,j),⟨by simp only; omega,by simp only; omega,j1,fun w hw=>?_,hhi⟩,by simp only [bs3]; omega,by (repeat' (first | exact trivial | exact rfl | assumption | apply And.intro))⟩) (fun q=>⟨(i,M),⟨i0,by simp only; omega,by simp only; omega,hlo,fun w hw hw2=>?_⟩,by simp only [bs3]; omega,by (repeat' (first | exact trivial | exact rfl | assumption | apply And.intro))⟩)
    · simp only at hw
      rcases Nat.lt_or_ge w M.toNat with z | z
      · exact itC_tr (srt_get hs z (by omega)) q
      · rw [show w=M.toNat by omega]; exact q
    · simp only at hw
      rcases Nat.eq_or_lt_of_le (show M.toNat≤w by omega) with z | z
      · rw [← z]; omega
      · apply Int.not_lt.1
        intro z2
        exact q (itC_tr (srt_get hs z hw2) z2)
  · have e:i=j:=by omega
    subst e
    have hpos:posI l x=i.toNat:=pos_uniq (by omega) (fun w hw=>hlo w (by omega)) (fun hw=>hhi _ (by omega) hw)
    have hpi:i=((posI l x:Nat):Int):=by omega
    refine csx (fun hi=>cd1 (by omega) (cd1 ⟨rfl,by omega⟩ ?_)) (fun hi=>⟨⟨hpi,?_,trivial⟩,by (repeat' (first | exact trivial | exact rfl | assumption | apply And.intro))⟩)
    · obtain ⟨k2,nm2,t2,a12,a2,b2,c2,rd2,co2,ar2,hr,hrd2⟩:=hp.fp.fr i.toNat (by omega)
      refine ⟨k2,nm2,t2,a12,a2,b2,c2,rd2,co2,ar2,by rw [hr]; rfl,⟨hrd2,hrd⟩,⟨hpi,?_,trivial⟩,by (repeat' (first | exact trivial | exact rfl | assumption | apply And.intro))⟩
      rw [← hr,Bool.eq_iff_iff,decide_eq_true_iff,has_iff hs,hpos]
      exact ⟨fun z=>⟨by omega,z⟩,fun z=>z.2⟩
    · cases hh:hasI l x with
      | false=>rfl
      | true =>
        have:=((has_iff hs).1 hh).1
        omega
def bsf_S (posI:LLA→List AV→Nat) (hasI:LLA→List AV→Bool) (itC:List AV→List AV→Int) (rdC:LLA→LLA→Int) (cmpI:Int→Int→Int) (orL:List (List AV)→Int) (cmpS:ByteArray→ByteArray→Int) (suC:Int→ByteArray→Int→Int→ByteArray→Int→Int):Prop:=∀ (gl:Glob) (l:List (List AV)) (m:Nat) (k t f a b c co ar:Int) (n:ByteArray) (rd:List (List AV)) (h:Bool),BsP l m rd→fnH Tryd.prog { glob:=gl,spec:=lk [(52,(icmp_s rdC cmpI orL cmpS suC itC))],specH:=lk [],shape:=[28,44],slz:=[(28,[2]),(44,[2])],nowf:=true } { nt:=49,drop:=drp [(1,12288),(2,16384),(3,98304),(4,16515072),(5,2130706432),(6,12884901888),(7,17179869184),(8,562915593682944)],fr:=1000,kp:=[0] } (invs [(3,bs3 l 52 k t f a b c co ar n rd h)]) 6 Tryd.f55 [.rw 0 10 m,.agg [.int .i64 k,.str n,.int .i64 t,.int .i64 f,.int .i64 a,.int .i64 b,.int .i64 c,.sl 2 h rd,.int .i64 co,.int .i64 ar],.fn 52 []] [.row 50 10 l] (.tup [.int .i64 (posI l (itA k n t f a b c rd co ar):Nat),.bool (hasI l (itA k n t f a b c rd co ar))]) [.row 50 10 l]
set_option maxRecDepth 100000 in
theorem bsf_e (posI:LLA→List AV→Nat) (hasI:LLA→List AV→Bool) (itC:List AV→List AV→Int) (rdC:LLA→LLA→Int) (cmpI:Int→Int→Int) (orL:List (List AV)→Int) (cmpS:ByteArray→ByteArray→Int) (suC:Int→ByteArray→Int→Int→ByteArray→Int→Int):bsf_T posI hasI itC rdC cmpI orL cmpS suC=bsf_S posI hasI itC rdC cmpI orL cmpS suC:=by kernel_rfl
theorem bsf_v:bsf_S posI hasI itC rdC cmpI orL cmpS suC:=@Eq.mp (bsf_T posI hasI itC rdC cmpI orL cmpS suC) (bsf_S posI hasI itC rdC cmpI orL cmpS suC) (bsf_e posI hasI itC rdC cmpI orL cmpS suC) (bsf_P)
theorem bsf_ok (gl:Glob):HOK Tryd.prog gl 55 (bsf_s posI hasI itC):=by
  refine ⟨fok Tryd.func55 (by kernel_rfl) (by kernel_rfl),?_⟩
  intro xs bs pre r bs2 h hp
  unfold bsf_s at h
  split at h
  · simp only [Option.some.injEq,Prod.mk.injEq] at h
    obtain ⟨h1,h2,h3⟩:=h
    subst h1 h2 h3
    exact fnH_sound tyNil (by exact specOK rfl rfl ⟨(icmp_ok gl),trivial⟩ trivial) (by kernel_rfl) Tryd.func55 (bsf_v gl _ _ _ _ _ _ _ _ _ _ _ _ _ hp)
  · cases h
end Go.Proofs.YtgnnafneglannaaDoor
namespace Go.Proofs.YtgnnafneglannaaDoor
open Go
set_option linter.unusedVariables false
set_option linter.unusedSimpArgs false
theorem alt_K {b:Bool} {P1 P2 K1 K2 G:Prop} (h1:P1→K1→G) (h2:P2→K2→G) (hc:cond b P1 P2) (hk:cond b K1 K2):G:=by
  cases b
  · exact h2 hc hk
  · exact h1 hc hk
structure ItG (r:List AV):Prop where
  fr:∃ (k:Int) (nm:ByteArray) (t f a b c:Int) (rd:LLA) (co ar:Int),r=itA k nm t f a b c rd co ar∧RdsP rd∧rd.length≤1000
structure GdL (l:LLA):Prop where
  fg:∀ r ∈ l,ItG r
  fl:l.length≤900
theorem GdL.p {l:LLA} (h:GdL l):ItsP l:=⟨fun i hi=>by
  have:=(h.fg _ (List.getElem_mem hi)).fr
  rw [← getD_lt hi] at this
  obtain ⟨k,nm,t,f,a,b,c,rd,co,ar,h1,h2,_⟩:=this
  exact ⟨k,nm,t,f,a,b,c,rd,co,ar,h1,h2⟩,by have:=h.fl; omega⟩
theorem GdL.l {l:LLA} (h:GdL l):ItsL l:=⟨fun i hi=>by
  have:=(h.fg _ (List.getElem_mem hi)).fr
  rw [← getD_lt hi] at this
  obtain ⟨k,nm,t,f,a,b,c,rd,co,ar,h1,_,h3⟩:=this
  rw [h1]; exact h3,h.fl⟩
theorem adj_srt {l:LLA} (h:adjB l=true):Srt l:=by
  unfold adjB at h
  have h:=of_decide_eq_true h
  have key:∀ (d i:Nat),i+d+1 < l.length→itC (l.getD i []) (l.getD (i+d+1) []) < 0:=by
    intro d
    induction d with
    | zero =>
      intro i hi
      rcases h (i+0+1) (by omega) with z | z
      · omega
      · exact z
    | succ d ih =>
      intro i hi
      rcases h (i+(d+1)+1) hi with z | z
      · omega
      · exact itC_tr (ih i (by omega)) z
  refine List.pairwise_iff_getElem.2 fun i j hi hj hij=>?_
  have:=key (j - i - 1) i (by omega)
  rw [show i+(j - i - 1)+1=j by omega,getD_lt hi,getD_lt hj] at this
  exact this
theorem inV_ok {l:LLA} (h:inV l=0):l.length≤150∧firE l=0∧Srt l:=by
  unfold inV at h
  split at h
  · cases h
  · split at h
    · next e =>
      split at h
      · next e2=>exact ⟨by omega,e,adj_srt e2⟩
      · cases h
    · next e=>exact absurd h e
def puE (l:LLA) (x:List AV):Int:=if ckR x=0 then (if hasI l x then 0 else if 150≤l.length then 2 else 0) else ckR x
def puN (l:LLA) (x:List AV):Int:=if hasI l x then 0 else 1
structure PuP (l:LLA) (n:Nat) (rd:LLA):Prop where
  fg:GdL l
  fs:Srt l
  fn:n=l.length
  fr:RdsP rd
  fq:rd.length≤1000
def iput_s (posI:LLA→List AV→Nat) (hasI:LLA→List AV→Bool) (itE:Int→ByteArray→Int→Int→Int→Int→Int→LLA→Int→Int→Int) (puE:LLA→List AV→Int) (puN:LLA→List AV→Int) (addI:LLA→List AV→LLA):SpQ
  | [.rw 0 10 m,.agg [.int .i64 k,.str n,.int .i64 t,.int .i64 f,.int .i64 a,.int .i64 b,.int .i64 c,.sl 2 h rd,.int .i64 co,.int .i64 ar]],[.row 50 10 l]=>some (fun K=>(PuP l m rd)∧(cond (decide (puE l (itA k n t f a b c rd co ar)=0)) (K (.tup [.rw 0 10 (addI l (itA k n t f a b c rd co ar)).length,.int .i64 (puN l (itA k n t f a b c rd co ar)),.int .i64 0]) [.row 50 10 (addI l (itA k n t f a b c rd co ar))]) (K (.tup [.nils,.int .i64 0,.int .i64 (puE l (itA k n t f a b c rd co ar))]) [.row 50 10 l])))
  | _,_=>none
set_option maxRecDepth 100000 in
def iput_T (posI:LLA→List AV→Nat) (hasI:LLA→List AV→Bool) (itE:Int→ByteArray→Int→Int→Int→Int→Int→LLA→Int→Int→Int) (puE:LLA→List AV→Int) (puN:LLA→List AV→Int) (addI:LLA→List AV→LLA) (gpE:Int→ByteArray→Int→Int→Int→Int→Int→LLA→Int) (itC:List AV→List AV→Int):Prop :=
  ∀ (l:List (List AV)) (m:Nat) (k t f a b c co ar:Int) (n:ByteArray) (rd:List (List AV)) (h:Bool),PuP l m rd→RdsP rd∧bif decide ¬itE k n t f a b c rd co ar=(0:Int) then bif decide (puE l (itA k n t f a b c rd co ar)=(0:Int)) then (False∧(0:Int)=puN l (itA k n t f a b c rd co ar)∧itE k n t f a b c rd co ar=(0:Int)∧True)∧l=addI l (itA k n t f a b c rd co ar)∧True else (True∧(0:Int)=0∧itE k n t
 f a b c rd co ar=puE l (itA k n t f a b c rd co ar)∧True)∧l=l∧True else BsP l m rd∧bif hasI l (itA k n t f a b c rd co ar) then bif decide (puE l (itA k n t f a b c rd co ar)=(0:Int)) then (m=List.length (addI l (itA k n t f a b c rd co ar))∧(0:Int)=puN l (itA k n t f a b c rd co ar)∧(0:Int)=0∧True)∧l=addI l (itA k n t f a b c rd co ar)∧True else (False∧(0:Int)=0∧(0:Int)=puE l (itA k n t f a b c rd
 co ar)∧True)∧l=l∧True else bif decide ((150:Int)≤(↑m:Int)) then bif decide (puE l (itA k n t f a b c rd co ar)=(0:Int)) then (False∧(0:Int)=puN l (itA k n t f a b c rd co ar)∧(2:Int)=0∧True)∧l=addI l (itA k n t f a b c rd co ar)∧True else (True∧(0:Int)=0∧(2:Int)=puE l (itA k n t f a b c rd co ar)∧True)∧l=l∧True else rd.length≤(1000:Nat)∧(m=l.length∧(1:Nat)=1∧[[AV.int .i64 k,.str n,.int .i64
 t,.int .i64 f,.int .i64 a,.int .i64 b,.int .i64 c,.sl (2:Nat) false rd,.int .i64 co,.int .i64 ar]].length=(1:Nat)∧(0:Int)≤(↑(posI l (itA k n t f a b c rd co ar)):Int)∧(↑(posI l (itA k n t f a b c rd co ar)):Int)≤(↑m:Int)∧m≤(900:Nat))∧bif decide (puE l (itA k n t f a b c rd co ar)=(0:Int)) then (m+(1:Nat)=List.length (addI l (itA k n t f a b c rd co ar))∧(1:Int)=puN l (itA k n t f a b c rd
 co ar)∧(0:Int)=0∧True)∧List.take (↑(posI l (itA k n t f a b c rd co ar)):Int).toNat l++[[AV.int .i64 k,.str n,.int .i64 t,.int .i64 f,.int .i64 a,.int .i64 b,.int .i64 c,.sl (2:Nat) false rd,.int .i64 co,.int .i64 ar]]++List.drop (↑(posI l (itA k n t f a b c rd co ar)):Int).toNat l=addI l (itA k n t f a b c rd co ar)∧True else (False∧(1:Int)=0∧(0:Int)=puE l (itA k n t f a b c rd co
 ar)∧True)∧List.take (↑(posI l (itA k n t f a b c rd co ar)):Int).toNat l++[[AV.int .i64 k,.str n,.int .i64 t,.int .i64 f,.int .i64 a,.int .i64 b,.int .i64 c,.sl (2:Nat) false rd,.int .i64 co,.int .i64 ar]]++List.drop (↑(posI l (itA k n t f a b c rd co ar)):Int).toNat l=l∧True
set_option maxRecDepth 100000 in
theorem iput_P:iput_T posI hasI itE puE puN addI gpE itC:=by
  unfold iput_T
  intro l m k t f a b c co ar n rd h hp
  have hm:=hp.fn
  subst hm
  have hg:=hp.fg
  have hl:=hg.fl
  have hc:ckR (itA k n t f a b c rd co ar)=itE k n t f a b c rd co ar:=rfl
  have hxr:[[.int .i64 k,.str n,.int .i64 t,.int .i64 f,.int .i64 a,.int .i64 b,.int .i64 c,.sl 2 false rd,.int .i64 co,.int .i64 ar]]=[itA k n t f a b c rd co ar]:=rfl
  rw [hxr]
  unfold puE
  rw [hc]
  generalize itA k n t f a b c rd co ar=x
  refine ⟨hp.fr,csx (fun q=>?_) (fun q=>⟨⟨hg.p,hp.fs,hl,rfl,hp.fr⟩,csplit (fun hh=>?_) (fun hh=>csx (fun q2=>?_) (fun q2=>?_))⟩)⟩
  · rw [if_neg q]
    exact cd0 q ⟨⟨trivial,rfl,rfl,trivial⟩,rfl,trivial⟩
  · rw [if_pos (Decidable.not_not.1 q),if_pos hh]
    refine cd1 rfl ⟨⟨?_,?_,rfl,trivial⟩,?_,trivial⟩
    · unfold addI; rw [if_pos hh]
    · unfold puN; rw [if_pos hh]
    · unfold addI; rw [if_pos hh]
  · have hh2:¬ hasI l x=true:=by rw [hh]; simp
    rw [if_pos (Decidable.not_not.1 q),if_neg hh2,if_pos (by omega)]
    exact cd0 (by decide) ⟨⟨trivial,rfl,rfl,trivial⟩,rfl,trivial⟩
  · have hh2:¬ hasI l x=true:=by rw [hh]; simp
    have hpl:=pos_le l x
    rw [if_pos (Decidable.not_not.1 q),if_neg hh2,if_neg (by omega)]
    refine ⟨hp.fq,⟨rfl,rfl,rfl,by omega,by omega,by omega⟩,cd1 rfl ⟨⟨?_,?_,rfl,trivial⟩,?_,trivial⟩⟩
    · unfold addI; rw [if_neg hh2,ins_len]
    · unfold puN; rw [if_neg hh2]
    · unfold addI insI; rw [if_neg hh2,Int.toNat_natCast,List.append_assoc]; rfl
def iput_S (posI:LLA→List AV→Nat) (hasI:LLA→List AV→Bool) (itE:Int→ByteArray→Int→Int→Int→Int→Int→LLA→Int→Int→Int) (puE:LLA→List AV→Int) (puN:LLA→List AV→Int) (addI:LLA→List AV→LLA) (gpE:Int→ByteArray→Int→Int→Int→Int→Int→LLA→Int) (itC:List AV→List AV→Int):Prop:=∀ (l:List (List AV)) (m:Nat) (k t f a b c co ar:Int) (n:ByteArray) (rd:List (List AV)) (h:Bool),PuP l m rd→fnQ Tryd.prog { glob:=glb,spec:=lk [(51,(icheck_s gpE itE)),(54,icop_s)],specH:=lk [(55,(bsf_s posI hasI itC)),(56,sins_s)],nowf:=true } { nt:=34,drop:=drp [(1,3072),(2,4096),(3,16384),(4,2064384),(5,4194304),(6,8388608),(7,234881024),(9,16911433728)],fr:=1000,kp:=[0],own:=true } (fun _ _=>none) 6 Tryd.f41 [.rw 0 10 m,.agg [.int .i64 k,.str n,.int .i64 t,.int .i64 f,.int .i64 a,.int .i64 b,.int .i64 c,.sl 2 h rd,.int .i64 co,.int .i64 ar]] [.row 50 10 l] (fun r2 bs2=>cond (decide (puE l (itA k n t f a b c rd co ar)=0)) (le r2 (.tup [.rw 0 10 (addI l (itA k n t f a b c rd co ar)).length,.int .i64 (puN l (itA k n t f a b c rd co ar)),.int .i64 0])∧leBs bs2 [.row 50 10 (addI l (itA k n t f a b c rd co ar))]) (le r2 (.tup [.nils,.int .i64 0,.int .i64 (puE l (itA k n t f a b c rd co ar))])∧leBs bs2 [.row 50 10 l]))
set_option maxRecDepth 100000 in
theorem iput_e (posI:LLA→List AV→Nat) (hasI:LLA→List AV→Bool) (itE:Int→ByteArray→Int→Int→Int→Int→Int→LLA→Int→Int→Int) (puE:LLA→List AV→Int) (puN:LLA→List AV→Int) (addI:LLA→List AV→LLA) (gpE:Int→ByteArray→Int→Int→Int→Int→Int→LLA→Int) (itC:List AV→List AV→Int):iput_T posI hasI itE puE puN addI gpE itC=iput_S posI hasI itE puE puN addI gpE itC:=by kernel_rfl
theorem iput_v:iput_S posI hasI itE puE puN addI gpE itC:=@Eq.mp (iput_T posI hasI itE puE puN addI gpE itC) (iput_S posI hasI itE puE puN addI gpE itC) (iput_e posI hasI itE puE puN addI gpE itC) (iput_P)
theorem iput_ok:QOK Tryd.prog glb 41 (iput_s posI hasI itE puE puN addI):=by
  refine ⟨fok Tryd.func41 (by kernel_rfl) (by kernel_rfl),?_⟩
  intro xs bs T h K hT
  unfold iput_s at h
  split at h
  · simp only [Option.some.injEq] at h
    subst h
    obtain ⟨hp,hK⟩:=hT
    obtain ⟨r,bs2,hF,hC⟩:=fnQ_sound tyNil (by exact specOK rfl rfl ⟨(icheck_ok),(icop_ok glb),trivial⟩ ⟨(bsf_ok glb),(sins_ok glb),trivial⟩) (by kernel_rfl) Tryd.func41 (iput_v  _ _ _ _ _ _ _ _ _ _ _ _ _ hp)
    exact alt_K (fun hF hK=>by
      obtain ⟨hl,hb⟩:=hF
      exact ⟨_,_,hK,hC.le hl hb⟩) (fun hF hK=>by
      obtain ⟨hl,hb⟩:=hF
      exact ⟨_,_,hK,hC.le hl hb⟩) hF hK
  · cases h
theorem ckR_it {k:Int} {nm:ByteArray} {t f a b c:Int} {rd:LLA} {co ar:Int}:ckR (itA k nm t f a b c rd co ar)=itE k nm t f a b c rd co ar:=rfl
def adE (l:LLA) (x:List AV):Int:=if inV l=0 then puE l x else inV l
def adO (l:LLA) (x:List AV):LLA:=if adE l x=0 then addI l x else []
structure AdP (l:LLA) (rd:LLA):Prop where
  fp:ItsP l
  fq:inV l=0→GdL l
  fr:RdsP rd
  fl:rd.length≤1000
def iadd_s (inV:LLA→Int) (puE:LLA→List AV→Int) (puN:LLA→List AV→Int) (addI:LLA→List AV→LLA) (adE:LLA→List AV→Int) (adO:LLA→List AV→LLA):Sp
  | [.sl 10 g l,.agg [.int .i64 k,.str n,.int .i64 t,.int .i64 f,.int .i64 a,.int .i64 b,.int .i64 c,.sl 2 h rd,.int .i64 co,.int .i64 ar]]=>some (AdP l rd,.tup [.sl 10 false (adO l (itA k n t f a b c rd co ar)),.int .i64 (adE l (itA k n t f a b c rd co ar))])
  | _=>none
set_option maxRecDepth 100000 in
def iadd_T (inV:LLA→Int) (puE:LLA→List AV→Int) (puN:LLA→List AV→Int) (addI:LLA→List AV→LLA) (adE:LLA→List AV→Int) (adO:LLA→List AV→LLA) (itC:List AV→List AV→Int) (itE:Int→ByteArray→Int→Int→Int→Int→Int→LLA→Int→Int→Int) (posI:LLA→List AV→Nat) (hasI:LLA→List AV→Bool):Prop :=
  ∀ (l:List (List AV)) (g:Bool) (k t f a b c co ar:Int) (n:ByteArray) (rd:List (List AV)) (h:Bool),AdP l rd→True→(IR9 k)∧n.size.le (9223372036854775807:Nat)∧(IR9 t)∧(IR9 f)∧((-9223372036854775808:Int)≤a∧a ≤
 (9223372036854775807:Int))∧(IR9 b)∧(IR9 c)∧True∧(IR9 co)∧(IR9 ar)∧True→ItsP l∧bif decide ¬inV l=(0:Int) then adO l (itA k n t f a b c rd co ar)=[]∧inV l=adE l (itA k n t f a b c
 rd co ar)∧True else (ItsP l∧ItsL l)∧PuP l l.length rd∧bif decide (puE l (itA k n t f a b c rd co ar)=(0:Int)) then bif decide (List.length (addI l (itA k n t f a b c rd co ar))=List.length (addI l (itA k n t f a b c rd co ar))) then (True∧addI l (itA k n t f a b c rd co ar)=adO l (itA k n t f a b c rd co ar))∧(0:Int)=adE l (itA k n t f a b c rd co ar)∧True else False else adO l (itA k n t f a b c
 rd co ar)=[]∧puE l (itA k n t f a b c rd co ar)=adE l (itA k n t f a b c rd co ar)∧True
set_option maxRecDepth 100000 in
theorem iadd_P:iadd_T inV puE puN addI adE adO itC itE posI hasI:=by
  unfold iadd_T
  intro l g k t f a b c co ar n rd h hp _ _
  generalize itA k n t f a b c rd co ar=x
  unfold adO adE
  refine ⟨hp.fp,csx (fun q=>?_) (fun q=>?_)⟩
  · rw [if_neg q,if_neg q]; exact ⟨rfl,rfl,trivial⟩
  · have q:=Decidable.not_not.1 q
    obtain ⟨_,_,hs⟩:=inV_ok q
    have hg:=hp.fq q
    rw [if_pos q]
    refine ⟨⟨hg.p,hg.l⟩,⟨hg,hs,rfl,hp.fr,hp.fl⟩,csx (fun q2=>cd1 rfl ?_) (fun q2=>?_)⟩
    · rw [if_pos q2]; exact ⟨⟨trivial,rfl⟩,q2.symm,trivial⟩
    · rw [if_neg q2]; exact ⟨rfl,rfl,trivial⟩
def iadd_S (inV:LLA→Int) (puE:LLA→List AV→Int) (puN:LLA→List AV→Int) (addI:LLA→List AV→LLA) (adE:LLA→List AV→Int) (adO:LLA→List AV→LLA) (itC:List AV→List AV→Int) (itE:Int→ByteArray→Int→Int→Int→Int→Int→LLA→Int→Int→Int) (posI:LLA→List AV→Nat) (hasI:LLA→List AV→Bool):Prop:=∀ (l:List (List AV)) (g:Bool) (k t f a b c co ar:Int) (n:ByteArray) (rd:List (List AV)) (h:Bool),AdP l rd→fnK Tryd.prog { glob:=glb,spec:=lk [(39,(ivalid_s inV itC itE))],specH:=lk [(40,iall_s)],specQ:=lk [(41,(iput_s posI hasI itE puE puN addI))],nowf:=true } { nt:=25,drop:=drp [(1,3072),(2,4096),(3,16384),(4,8355840),(5,25165824)] } (fun _ _=>none) 6 Tryd.f22 [.sl 10 g l,.agg [.int .i64 k,.str n,.int .i64 t,.int .i64 f,.int .i64 a,.int .i64 b,.int .i64 c,.sl 2 h rd,.int .i64 co,.int .i64 ar]] (.tup [.sl 10 false (adO l (itA k n t f a b c rd co ar)),.int .i64 (adE l (itA k n t f a b c rd co ar))])
set_option maxRecDepth 100000 in
theorem iadd_e (inV:LLA→Int) (puE:LLA→List AV→Int) (puN:LLA→List AV→Int) (addI:LLA→List AV→LLA) (adE:LLA→List AV→Int) (adO:LLA→List AV→LLA) (itC:List AV→List AV→Int) (itE:Int→ByteArray→Int→Int→Int→Int→Int→LLA→Int→Int→Int) (posI:LLA→List AV→Nat) (hasI:LLA→List AV→Bool):iadd_T inV puE puN addI adE adO itC itE posI hasI=iadd_S inV puE puN addI adE adO itC itE posI hasI:=by kernel_rfl
theorem iadd_v:iadd_S inV puE puN addI adE adO itC itE posI hasI:=@Eq.mp (iadd_T inV puE puN addI adE adO itC itE posI hasI) (iadd_S inV puE puN addI adE adO itC itE posI hasI) (iadd_e inV puE puN addI adE adO itC itE posI hasI) (iadd_P)
theorem iadd_ok:SOK Tryd.prog glb 22 (iadd_s inV puE puN addI adE adO):=by
  refine ⟨fok Tryd.func22 (by kernel_rfl) (by kernel_rfl),?_⟩
  intro xs pre r h hp
  unfold iadd_s at h
  split at h
  · simp only [Option.some.injEq,Prod.mk.injEq] at h
    obtain ⟨h1,h2⟩:=h
    subst h1 h2
    exact fnK_sound tyNil (by exact specOK rfl rfl ⟨(ivalid_ok),trivial⟩ ⟨(iall_ok glb),trivial⟩ (d:=qsOf rfl ⟨(iput_ok),trivial⟩)) (by kernel_rfl) Tryd.func22 rfl (iadd_v  _ _ _ _ _ _ _ _ _ _ _ _ _ hp)
  · cases h
def rpR (k:Int) (nm:ByteArray) (t f a b c:Int) (rd:LLA):List AV:=[.int .i64 k,.str nm,.int .i64 t,.int .i64 f,.int .i64 a,.int .i64 b,.int .i64 c,.sl 2 false rd]
structure RpG (r:List AV):Prop where
  fr:∃ (k:Int) (nm:ByteArray) (t f a b c:Int) (rd:LLA),r=rpR k nm t f a b c rd∧RdsP rd∧rd.length≤1000
structure RpL (rs:LLA):Prop where
  fg:∀ i,i < rs.length→RpG (rs.getD i [])
  fl:rs.length≤1000
def mkI (r:List AV) (co ar:Int):List AV:=r++[.int .i64 co,.int .i64 ar]
def tkL (co ar:Int):LLA→LLA→LLA × Int
  | l,[]=>(l,0)
  | l,r::rs=>if puE l (mkI r co ar)=0 then tkL co ar (addI l (mkI r co ar)) rs else ([],puE l (mkI r co ar))
def tkE (l rs:LLA) (co ar:Int):Int:=if inV l=0 then (tkL co ar l rs).2 else inV l
def tkO (l rs:LLA) (co ar:Int):LLA:=if inV l=0 then (tkL co ar l rs).1 else []
def tkN (l rs:LLA) (co ar:Int):Int:=if tkE l rs co ar=0 then ((tkO l rs co ar).length:Int) - l.length else 0
theorem ItG.of {r:List AV} (h:RpG r) (co ar:Int):ItG (mkI r co ar):=by
  obtain ⟨k,nm,t,f,a,b,c,rd,rfl,h2,h3⟩:=h.fr
  exact ⟨k,nm,t,f,a,b,c,rd,co,ar,rfl,h2,h3⟩
theorem addI_gd {l:LLA} {x:List AV} (hl:GdL l) (hx:ItG x) (hp:puE l x=0) (h:l.length≤150):GdL (addI l x)∧(addI l x).length≤150:=by
  have hlen:(addI l x).length≤150:=by
    unfold addI
    unfold puE at hp
    by_cases hh:hasI l x=true
    · rw [if_pos hh]; exact h
    · rw [if_neg hh,ins_len]
      by_cases hc:ckR x=0
      · rw [if_pos hc,if_neg hh] at hp
        split at hp
        · cases hp
        · omega
      · rw [if_neg hc] at hp; exact absurd hp hc
  refine ⟨⟨fun r hr=>?_,by omega⟩,hlen⟩
  unfold addI at hr
  split at hr
  · exact hl.fg r hr
  · rcases ins_mem.1 hr with rfl | h
    · exact hx
    · exact hl.fg r h
theorem addI_n (l:LLA) (x:List AV):((addI l x).length:Int)=l.length+puN l x:=by
  unfold addI puN
  split
  · omega
  · rw [ins_len]; omega
structure TkI (l rs:LLA) (co ar:Int) (x:Int × LLA):Prop where
  flo:0≤x.1
  fhi:x.1≤rs.length
  fg:GdL x.2
  fs:Srt x.2
  fl:x.2.length≤150
  fe:tkL co ar l rs=tkL co ar x.2 (rs.drop x.1.toNat)
def tk6 (l rs:LLA) (e:Bool) (co ar:Int):LInv:=⟨Int × LLA,fun x=>⟨[(2,.int .i64 co),(3,.int .i64 ar),(8,.nils),(9,.int .i64 0),(10,.int .i64 0),(12,.rw 25 10 x.2.length),(13,.int .i64 (x.2.length - l.length)),(26,.sl 8 e rs),(27,.int .i64 rs.length),(28,.int .i64 x.1)],[(25,.row 50 10 x.2)]⟩,TkI l rs co ar,fun x=>(rs.length - x.1).toNat,none⟩
structure TkP (l rs:LLA):Prop where
  fp:ItsP l
  fq:inV l=0→GdL l
  fr:RpL rs
def itake_s (inV:LLA→Int) (puE:LLA→List AV→Int) (puN:LLA→List AV→Int) (addI:LLA→List AV→LLA) (tkE:LLA→LLA→Int→Int→Int) (tkN:LLA→LLA→Int→Int→Int) (tkO:LLA→LLA→Int→Int→LLA):Sp
  | [.sl 10 g l,.sl 8 e rs,.int .i64 co,.int .i64 ar]=>some (TkP l rs,.tup [.sl 10 false (tkO l rs co ar),.int .i64 (tkN l rs co ar),.int .i64 (tkE l rs co ar)])
  | _=>none
set_option maxRecDepth 100000 in
def itake_T (inV:LLA→Int) (puE:LLA→List AV→Int) (puN:LLA→List AV→Int) (addI:LLA→List AV→LLA) (tkE:LLA→LLA→Int→Int→Int) (tkN:LLA→LLA→Int→Int→Int) (tkO:LLA→LLA→Int→Int→LLA) (itC:List AV→List AV→Int) (itE:Int→ByteArray→Int→Int→Int→Int→Int→LLA→Int→Int→Int) (posI:LLA→List AV→Nat) (hasI:LLA→List AV→Bool):Prop :=
  ∀ (l rs:List (List AV)) (g e:Bool) (co ar:Int),TkP l rs→True→True→IR9 co→IR9 ar→ItsP l∧bif decide ¬inV l=(0:Int) then tkO l rs co ar=[]∧(0:Int)=tkN l rs co ar∧inV l=tkE l rs co ar∧True else (ItsP l∧ItsL l)∧(∃ x,TkI l rs co ar
 x∧(co=co∧ar=ar∧True∧(0:Int)=0∧(0:Int)=0∧l.length=List.length x.snd∧(0:Int)=(↑(List.length x.snd):Int) - (↑l.length:Int)∧((bif e then e=true else True)∧rs=rs)∧(↑rs.length:Int)=(↑rs.length:Int)∧(0:Int)=x.fst∧True)∧l=x.snd∧True)∧∀ (x:Int × LLA),TkI l rs co ar x→bif decide (x.fst < (↑rs.length:Int)) then bif decide (0≤x.fst∧x.fst < (↑rs.length:Int)) then ∃ n s n_1 n_2 n_3 n_4 n_5 xs,List.take
 [AV.int .i64 n,.str s,.int .i64 n_1,.int .i64 n_2,.int .i64 n_3,.int .i64 n_4,.int .i64 n_5,.sl (2:Nat) false xs].length (rs.getD x.fst.toNat [])=[AV.int .i64 n,.str s,.int .i64 n_1,.int .i64 n_2,.int .i64 n_3,.int .i64 n_4,.int .i64 n_5,.sl (2:Nat) false xs]∧PuP x.snd (List.length x.snd) xs∧bif decide (puE x.snd (itA n s n_1 n_2 n_3 n_4 n_5 xs co ar)=(0:Int)) then bif decide (rng .i64
 ((↑(List.length x.snd):Int) - (↑l.length:Int)+puN x.snd (itA n s n_1 n_2 n_3 n_4 n_5 xs co ar))) then bif decide (rng .i64 (x.fst+(1:Int))) then ∃ y,TkI l rs co ar y∧(tk6 l rs e co ar).m y < (tk6 l rs e co ar).m x∧(co=co∧ar=ar∧True∧(0:Int)=0∧(0:Int)=0∧List.length (addI x.snd (itA n s n_1 n_2 n_3 n_4 n_5 xs co ar))=List.length y.snd∧(↑(List.length x.snd):Int) - (↑l.length:Int)+puN x.snd (itA n
 s n_1 n_2 n_3 n_4 n_5 xs co ar)=(↑(List.length y.snd):Int) - (↑l.length:Int)∧((bif e then e=true else True)∧rs=rs)∧(↑rs.length:Int)=(↑rs.length:Int)∧x.fst+(1:Int)=y.fst∧True)∧addI x.snd (itA n s n_1 n_2 n_3 n_4 n_5 xs co ar)=y.snd∧True else False else False else bif decide ¬puE x.snd (itA n s n_1 n_2 n_3 n_4 n_5 xs co ar)=(0:Int) then tkO l rs co ar=[]∧(0:Int)=tkN l rs co ar∧puE x.snd (itA n s
 n_1 n_2 n_3 n_4 n_5 xs co ar)=tkE l rs co ar∧True else bif decide (rng .i64 ((↑(List.length x.snd):Int) - (↑l.length:Int)+(0:Int))) then bif decide (rng .i64 (x.fst+(1:Int))) then ∃ y,TkI l rs co ar y∧(tk6 l rs e co ar).m y < (tk6 l rs e co ar).m x∧(co=co∧ar=ar∧True∧(0:Int)=0∧(0:Int)=0∧False∧(↑(List.length x.snd):Int) - (↑l.length:Int)+(0:Int)=(↑(List.length y.snd):Int) -
 (↑l.length:Int)∧((bif e then e=true else True)∧rs=rs)∧(↑rs.length:Int)=(↑rs.length:Int)∧x.fst+(1:Int)=y.fst∧True)∧x.snd=y.snd∧True else False else False else False else bif decide (List.length x.snd=List.length x.snd) then (True∧x.snd=tkO l rs co ar)∧(↑(List.length x.snd):Int) - (↑l.length:Int)=tkN l rs co ar∧(0:Int)=tkE l rs co ar∧True else False
set_option maxRecDepth 100000 in
theorem itake_P:itake_T inV puE puN addI tkE tkN tkO itC itE posI hasI:=by
  unfold itake_T
  intro l rs g e co ar hp _ _ _ _
  have be:cond e (e=true) True:=by cases e <;> trivial
  have hr:=hp.fr
  have hrl:=hr.fl
  refine ⟨hp.fp,csx (fun q=>?_) (fun q=>?_)⟩
  · unfold tkN tkE tkO
    rw [if_neg q,if_neg q,if_neg q]; exact ⟨rfl,rfl,rfl,trivial⟩
  have q:=Decidable.not_not.1 q
  obtain ⟨hl,_,hs⟩:=inV_ok q
  have hg:=hp.fq q
  have hE:tkE l rs co ar=(tkL co ar l rs).2:=by unfold tkE; rw [if_pos q]
  have hO:tkO l rs co ar=(tkL co ar l rs).1:=by unfold tkO; rw [if_pos q]
  refine ⟨⟨hg.p,hg.l⟩,⟨(0,l),⟨by simp,by simp,hg,hs,hl,rfl⟩,⟨rfl,rfl,trivial,rfl,rfl,rfl,by simp only; omega,⟨be,rfl⟩,rfl,rfl,trivial⟩,rfl,trivial⟩,?_⟩
  rintro ⟨i,out⟩ ⟨i0,i1,og,os,ol,oe⟩
  simp only at i0 i1 og os ol oe
  dsimp only
  refine csx (fun hi=>cd1 (by omega) ?_) (fun hi=>cd1 rfl ?_)
  · obtain ⟨k,nm,t,f,a,b,c,rd,hrr,hrd,hrq⟩:=(hr.fg i.toNat (by omega)).fr
    have hd:rs.drop i.toNat=rs.getD i.toNat []::rs.drop (i.toNat+1):=by
      rw [List.drop_eq_getElem_cons (show i.toNat < rs.length by omega),getD_lt (by omega)]
    have hx:mkI (rs.getD i.toNat []) co ar=itA k nm t f a b c rd co ar:=by rw [hrr]; rfl
    have gx:ItG (itA k nm t f a b c rd co ar):=by rw [← hx]; exact ItG.of (hr.fg i.toNat (by omega)) co ar
    refine ⟨k,nm,t,f,a,b,c,rd,by rw [hrr]; rfl,⟨og,os,rfl,hrd,hrq⟩,?_⟩
    have hstep:tkL co ar l rs=if puE out (itA k nm t f a b c rd co ar)=0 then tkL co ar (addI out (itA k nm t f a b c rd co ar)) (rs.drop (i.toNat+1)) else ([],puE out (itA k nm t f a b c rd co ar)):=by
      rw [oe,hd,← hx]; rfl
    generalize itA k nm t f a b c rd co ar=x at *
    have hn:=addI_n out x
    have hpn:0≤puN out x∧puN out x≤1:=by unfold puN; split <;> omega
    refine csx (fun q2=>?_) (fun q2=>csx (fun _=>?_) (fun z=>absurd z (fun z=>z q2)))
    · obtain ⟨g1,g2⟩:=addI_gd og gx q2 ol
      refine cdI (by omega) (cdI (by omega) ⟨(i+1,addI out x),⟨by simp only; omega,by simp only; omega,g1,addI_srt os,g2,?_⟩,by simp only [tk6]; omega,⟨rfl,rfl,trivial,rfl,rfl,rfl,by simp only; omega,⟨be,rfl⟩,rfl,rfl,trivial⟩,rfl,trivial⟩)
      rw [hstep,if_pos q2]
      simp only
      rw [show (i+1).toNat=i.toNat+1 by omega]
    · have e1:tkE l rs co ar=puE out x:=by rw [hE,hstep,if_neg q2]
      refine ⟨by rw [hO,hstep,if_neg q2],?_,e1.symm,trivial⟩
      unfold tkN; rw [e1,if_neg q2]
  · have hd:rs.drop i.toNat=[]:=List.drop_eq_nil_of_le (by omega)
    rw [hd] at oe
    have e1:tkE l rs co ar=0:=by rw [hE,oe]; rfl
    have e2:tkO l rs co ar=out:=by rw [hO,oe]; rfl
    refine ⟨⟨trivial,e2.symm⟩,?_,e1.symm,trivial⟩
    unfold tkN; rw [e1,e2,if_pos rfl]
def itake_S (inV:LLA→Int) (puE:LLA→List AV→Int) (puN:LLA→List AV→Int) (addI:LLA→List AV→LLA) (tkE:LLA→LLA→Int→Int→Int) (tkN:LLA→LLA→Int→Int→Int) (tkO:LLA→LLA→Int→Int→LLA) (itC:List AV→List AV→Int) (itE:Int→ByteArray→Int→Int→Int→Int→Int→LLA→Int→Int→Int) (posI:LLA→List AV→Nat) (hasI:LLA→List AV→Bool):Prop:=∀ (l rs:List (List AV)) (g e:Bool) (co ar:Int),TkP l rs→fnK Tryd.prog { glob:=glb,spec:=lk [(39,(ivalid_s inV itC itE))],specH:=lk [(40,iall_s)],specQ:=lk [(41,(iput_s posI hasI itE puE puN addI))],shape:=[31],slz:=[(31,[2])],nowf:=true } { nt:=52,drop:=drp [(1,1572864),(2,2097152),(3,8388608),(4,50331648),(7,3221225472),(8,4393751543808),(9,4398046511104),(10,17592186044416),(11,527765581332480),(12,562949953421312),(13,3377699720527872)] } (invs [(6,tk6 l rs e co ar)]) 6 Tryd.f18 [.sl 10 g l,.sl 8 e rs,.int .i64 co,.int .i64 ar] (.tup [.sl 10 false (tkO l rs co ar),.int .i64 (tkN l rs co ar),.int .i64 (tkE l rs co ar)])
set_option maxRecDepth 100000 in
theorem itake_e (inV:LLA→Int) (puE:LLA→List AV→Int) (puN:LLA→List AV→Int) (addI:LLA→List AV→LLA) (tkE:LLA→LLA→Int→Int→Int) (tkN:LLA→LLA→Int→Int→Int) (tkO:LLA→LLA→Int→Int→LLA) (itC:List AV→List AV→Int) (itE:Int→ByteArray→Int→Int→Int→Int→Int→LLA→Int→Int→Int) (posI:LLA→List AV→Nat) (hasI:LLA→List AV→Bool):itake_T inV puE puN addI tkE tkN tkO itC itE posI hasI=itake_S inV puE puN addI tkE tkN tkO itC itE posI hasI:=by kernel_rfl
theorem itake_v:itake_S inV puE puN addI tkE tkN tkO itC itE posI hasI:=@Eq.mp (itake_T inV puE puN addI tkE tkN tkO itC itE posI hasI) (itake_S inV puE puN addI tkE tkN tkO itC itE posI hasI) (itake_e inV puE puN addI tkE tkN tkO itC itE posI hasI) (itake_P)
theorem itake_ok:SOK Tryd.prog glb 18 (itake_s inV puE puN addI tkE tkN tkO):=by
  refine ⟨fok Tryd.func18 (by kernel_rfl) (by kernel_rfl),?_⟩
  intro xs pre r h hp
  unfold itake_s at h
  split at h
  · simp only [Option.some.injEq,Prod.mk.injEq] at h
    obtain ⟨h1,h2⟩:=h
    subst h1 h2
    exact fnK_sound tyNil (by exact specOK rfl rfl ⟨(ivalid_ok),trivial⟩ ⟨(iall_ok glb),trivial⟩ (d:=qsOf rfl ⟨(iput_ok),trivial⟩)) (by kernel_rfl) Tryd.func18 rfl (itake_v  _ _ _ _ _ _ hp)
  · cases h
end Go.Proofs.YtgnnafneglannaaDoor
namespace Go.Proofs.YtgnnafneglannaaDoor
open Go
set_option linter.unusedVariables false
set_option linter.unusedSimpArgs false
structure RaI (l:LLA) (x:List AV) (i:Int):Prop where
  flo:0≤i
  fhi:i≤l.length
  fl:∀ k:Nat,(k:Int) < i→itC (l.getD k []) x < 0
def raS (l:LLA) (k t f a b c co ar:Int) (n:ByteArray) (rd:LLA) (g:Bool) (i:Int):St:=⟨[(0,.sl 10 g l),(3,.ptr 3 0),(4,.nils),(5,.int .i64 0),(8,.int .i64 i)],[(3,.cells [.int .i64 k,.str n,.int .i64 t,.int .i64 f,.int .i64 a,.int .i64 b,.int .i64 c,.sl 2 false rd,.int .i64 co,.int .i64 ar])]⟩
def ra8 (l:LLA) (k t f a b c co ar:Int) (n:ByteArray) (rd:LLA) (g:Bool):LInv:=⟨Int,raS l k t f a b c co ar n rd g,RaI l (itA k n t f a b c rd co ar),fun i=>(l.length - i).toNat,none⟩
structure RaE (l:LLA) (x:List AV) (i:Int):Prop where
  fe:i=(posI l x:Nat)
def raC (l:LLA) (k t f a b c co ar:Int) (n:ByteArray) (rd:LLA) (g:Bool):LInv:=⟨Int,raS l k t f a b c co ar n rd g,RaE l (itA k n t f a b c rd co ar),fun i=>0,none⟩
theorem radd_fin {l L:LLA} (hL:L=l) {x:List AV} (hl:l.length≤150) (hpl:posI l x≤l.length) (hO:adE l x=0→adO l x=addI l x) (hO2:¬ adE l x=0→adO l x=[]) (hh:¬ hasI l x=true) (hE:adE l x=if 150≤l.length then 2 else 0):cond (decide (150≤(l.length:Int))) (adO l x=[]∧2=adE l x∧True) (cond (decide (0≤((posI l x:Nat):Int)∧((posI l x:Nat):Int)≤l.length)) (cond (decide ((0:Int)≤0∧0≤((posI l x:Nat):Int))) (cond (decide (0=0∧0+(l.take (posI l x)).length≤9223372036854775807∧(0+(l.take (posI l x)).length)*104≤140737488355328)) (cond (decide ((l.take (posI l x)).length=(l.take (posI l x)).length∧(l.take (posI l x)).length+[x].length≤9223372036854775807∧((l.take (posI l x)).length+[x].length)*104≤140737488355328)) (cond (decide (0≤(l.length:Int)∧(l.length:Int)≤l.length)) (cond (decide (0≤((posI l x:Nat):Int)∧((posI l x:Nat):Int)≤l.length)) (cond (decide ((l.take (posI l x)++[x]).length=(l.take (posI l x)++[x]).length∧(l.take (posI l x)++[x]).length+(L.drop (posI l x)).length≤9223372036854775807∧((l.take (posI l x)++[x]).length+(L.drop (posI l x)).length)*104≤140737488355328)) (cond (decide ((l.take (posI l x)++[x]++L.drop (posI l x)).length=(l.take (posI l x)++[x]++L.drop (posI l x)).length)) ((True∧l.take (posI l x)++[x]++L.drop (posI l x)=adO l x)∧0=adE l x∧True) False) False) False) False) False) False) False) False):=by
  subst hL
  refine csx (fun w=>?_) (fun w=>?_)
  · rw [if_pos (by omega)] at hE
    exact ⟨hO2 (by rw [hE]; decide),hE.symm,trivial⟩
  · rw [if_neg (by omega)] at hE
    have h1:(L.take (posI L x)).length=posI L x:=by rw [List.length_take]; omega
    have h2:(L.drop (posI L x)).length=L.length - posI L x:=List.length_drop
    refine cd1 (by omega) (cd1 (by omega) (cd1 ⟨rfl,by omega,by omega⟩ (cd1 ⟨rfl,by rw [h1]; simp; omega,by rw [h1]; simp; omega⟩ (cd1 (by omega) (cd1 (by omega) (cd1 ⟨rfl,by rw [List.length_append,h1,h2]; simp; omega,by rw [List.length_append,h1,h2]; simp; omega⟩ (cd1 rfl ⟨⟨trivial,?_⟩,hE.symm,trivial⟩)))))))
    rw [hO hE]
    unfold addI insI
    rw [if_neg hh,List.append_assoc]; rfl
def radd_s (posI:LLA→List AV→Nat) (inV:LLA→Int) (itC:List AV→List AV→Int) (itE:Int→ByteArray→Int→Int→Int→Int→Int→LLA→Int→Int→Int) (adE:LLA→List AV→Int) (adO:LLA→List AV→LLA):Sp
  | [.sl 10 g l,.agg [.int .i64 k,.str n,.int .i64 t,.int .i64 f,.int .i64 a,.int .i64 b,.int .i64 c,.sl 2 false rd,.int .i64 co,.int .i64 ar]]=>some (AdP l rd,.tup [.sl 10 false (adO l (itA k n t f a b c rd co ar)),.int .i64 (adE l (itA k n t f a b c rd co ar))])
  | _=>none
set_option maxRecDepth 100000 in
def radd_T (posI:LLA→List AV→Nat) (inV:LLA→Int) (itC:List AV→List AV→Int) (itE:Int→ByteArray→Int→Int→Int→Int→Int→LLA→Int→Int→Int) (adE:LLA→List AV→Int) (adO:LLA→List AV→LLA) (gpE:Int→ByteArray→Int→Int→Int→Int→Int→LLA→Int) (inB:Int→Bool) (rdC:LLA→LLA→Int) (cmpI:Int→Int→Int) (cmpS:ByteArray→ByteArray→Int):Prop :=
  ∀ (gl:Glob) (l:List (List AV)) (g:Bool) (k t f a b c co ar:Int) (n:ByteArray) (rd:List (List AV)),AdP l rd→True→(IR9 k)∧n.size.le (9223372036854775807:Nat)∧(IR9 t)∧(IR9 f)∧((-9223372036854775808:Int)≤a∧a ≤
 (9223372036854775807:Int))∧(IR9 b)∧(IR9 c)∧True∧(IR9 co)∧(IR9 ar)∧True→ItsP l∧bif decide ¬inV l=(0:Int) then adO l (itA k n t f a b c rd co ar)=[]∧inV l=adE l (itA k n t f a b c
 rd co ar)∧True else RdsP rd∧bif decide ¬itE k n t f a b c rd co ar=(0:Int) then adO l (itA k n t f a b c rd co ar)=[]∧itE k n t f a b c rd co ar=adE l (itA k n t f a b c rd co ar)∧True else ((∃ x,RaI l (itA k n t f a b c rd co ar) x∧(((bif g then g=true else True)∧l=l)∧(0:Nat)=0∧True∧(0:Int)=0∧(0:Int)=x∧True)∧(k=k∧n=n∧t=t∧f=f∧a=a∧b=b∧c=c∧(True∧rd=rd)∧co=co∧ar=ar∧True)∧True)∧∀ (x:Int),RaI l (itA k n
 t f a b c rd co ar) x→bif decide (x < (↑l.length:Int)) then bif decide (0≤x∧x < (↑l.length:Int)) then ∃ n_1 s n_2 n_3 n_4 n_5 n_6 xs n_7 n_8,List.take [AV.int .i64 n_1,.str s,.int .i64 n_2,.int .i64 n_3,.int .i64 n_4,.int .i64 n_5,.int .i64 n_6,.sl (2:Nat) false xs,.int .i64 n_7,.int .i64 n_8].length (l.getD x.toNat [])=[AV.int .i64 n_1,.str s,.int .i64 n_2,.int .i64 n_3,.int .i64 n_4,.int
 .i64 n_5,.int .i64 n_6,.sl (2:Nat) false xs,.int .i64 n_7,.int .i64 n_8]∧(RdsP xs∧RdsP rd)∧bif decide (itC (itA n_1 s n_2 n_3 n_4 n_5 n_6 xs n_7 n_8) (itA k n t f a b c rd co ar) < (0:Int)) then bif decide (rng .i64 (x+(1:Int))) then ∃ y,RaI l (itA k n t f a b c rd co ar) y∧(ra8 l k t f a b c co ar n rd g).m y < (ra8 l k t f a b c co ar n rd g).m x∧(((bif g then g=true else
 True)∧l=l)∧(0:Nat)=0∧True∧(0:Int)=0∧x+(1:Int)=y∧True)∧(k=k∧n=n∧t=t∧f=f∧a=a∧b=b∧c=c∧(True∧rd=rd)∧co=co∧ar=ar∧True)∧True else False else ∃ x_1,RaE l (itA k n t f a b c rd co ar) x_1∧(((bif g then g=true else True)∧l=l)∧(0:Nat)=0∧True∧(0:Int)=0∧x=x_1∧True)∧(k=k∧n=n∧t=t∧f=f∧a=a∧b=b∧c=c∧(True∧rd=rd)∧co=co∧ar=ar∧True)∧True else False else ∃ x_1,RaE l (itA k n t f a b c rd co ar) x_1∧(((bif g then
 g=true else True)∧l=l)∧(0:Nat)=0∧True∧(0:Int)=0∧x=x_1∧True)∧(k=k∧n=n∧t=t∧f=f∧a=a∧b=b∧c=c∧(True∧rd=rd)∧co=co∧ar=ar∧True)∧True)∧∀ (x:Int),RaE l (itA k n t f a b c rd co ar) x→bif decide (x < (↑l.length:Int)) then bif decide (0≤x∧x < (↑l.length:Int)) then ∃ n_1 s n_2 n_3 n_4 n_5 n_6 xs n_7 n_8,List.take [AV.int .i64 n_1,.str s,.int .i64 n_2,.int .i64 n_3,.int .i64 n_4,.int .i64 n_5,.int .i64
 n_6,.sl (2:Nat) false xs,.int .i64 n_7,.int .i64 n_8].length (l.getD x.toNat [])=[AV.int .i64 n_1,.str s,.int .i64 n_2,.int .i64 n_3,.int .i64 n_4,.int .i64 n_5,.int .i64 n_6,.sl (2:Nat) false xs,.int .i64 n_7,.int .i64 n_8]∧(RdsP xs∧RdsP rd)∧bif decide (itC (itA n_1 s n_2 n_3 n_4 n_5 n_6 xs n_7 n_8) (itA k n t f a b c rd co ar)=(0:Int)) then bif decide ((0:Nat)=0∧(0:Nat)+l.length ≤
 (9223372036854775807:Nat)∧((0:Nat)+l.length)*(104:Nat)≤(140737488355328:Nat)) then bif decide (([]++l).length=([]++l).length) then (True∧[]++l=adO l (itA k n t f a b c rd co ar))∧(0:Int)=adE l (itA k n t f a b c rd co ar)∧True else False else False else bif decide ((150:Int)≤(↑l.length:Int)) then adO l (itA k n t f a b c rd co ar)=[]∧(2:Int)=adE l (itA k n t f a b c rd co ar)∧True
 else bif decide (0≤x∧x≤(↑l.length:Int)) then bif decide ((0:Int)≤(0:Int)∧0≤x) then bif decide ((0:Nat)=0∧(0:Nat)+(List.drop (0:Nat) (List.take x.toNat l)).length≤(9223372036854775807:Nat)∧((0:Nat)+(List.drop (0:Nat) (List.take x.toNat l)).length)*(104:Nat)≤(140737488355328:Nat)) then bif decide (([]++List.drop (0:Nat) (List.take x.toNat l)).length=([]++List.drop
 (0:Nat) (List.take x.toNat l)).length∧([]++List.drop (0:Nat) (List.take x.toNat l)).length+[[AV.int .i64 k,.str n,.int .i64 t,.int .i64 f,.int .i64 a,.int .i64 b,.int .i64 c,.sl (2:Nat) false rd,.int .i64 co,.int .i64 ar]].length≤(9223372036854775807:Nat)∧(([]++List.drop (0:Nat) (List.take x.toNat l)).length+[[AV.int .i64 k,.str n,.int .i64 t,.int .i64 f,.int .i64 a,.int .i64 b,.int .i64
 c,.sl (2:Nat) false rd,.int .i64 co,.int .i64 ar]].length)*(104:Nat)≤(140737488355328:Nat)) then bif decide ((0:Int)≤(↑l.length:Int)∧(↑l.length:Int)≤(↑l.length:Int)) then bif decide (0≤x∧x≤(↑l.length:Int)) then bif decide (([]++List.drop (0:Nat) (List.take x.toNat l)++[[AV.int .i64 k,.str n,.int .i64 t,.int .i64 f,.int .i64 a,.int .i64 b,.int .i64 c,.sl (2:Nat) false rd,.int
 .i64 co,.int .i64 ar]]).length=([]++List.drop (0:Nat) (List.take x.toNat l)++[[AV.int .i64 k,.str n,.int .i64 t,.int .i64 f,.int .i64 a,.int .i64 b,.int .i64 c,.sl (2:Nat) false rd,.int .i64 co,.int .i64 ar]]).length∧([]++List.drop (0:Nat) (List.take x.toNat l)++[[AV.int .i64 k,.str n,.int .i64 t,.int .i64 f,.int .i64 a,.int .i64 b,.int .i64 c,.sl (2:Nat) false rd,.int .i64 co,.int .i64
 ar]]).length+(List.drop x.toNat (List.take (↑l.length:Int).toNat l)).length≤(9223372036854775807:Nat)∧(([]++List.drop (0:Nat) (List.take x.toNat l)++[[AV.int .i64 k,.str n,.int .i64 t,.int .i64 f,.int .i64 a,.int .i64 b,.int .i64 c,.sl (2:Nat) false rd,.int .i64 co,.int .i64 ar]]).length+(List.drop x.toNat (List.take (↑l.length:Int).toNat l)).length)*(104:Nat)≤(140737488355328:Nat))
 then bif decide (([]++List.drop (0:Nat) (List.take x.toNat l)++[[AV.int .i64 k,.str n,.int .i64 t,.int .i64 f,.int .i64 a,.int .i64 b,.int .i64 c,.sl (2:Nat) false rd,.int .i64 co,.int .i64 ar]]++List.drop x.toNat (List.take (↑l.length:Int).toNat l)).length=([]++List.drop (0:Nat) (List.take x.toNat l)++[[AV.int .i64 k,.str n,.int .i64 t,.int .i64 f,.int .i64 a,.int .i64 b,.int .i64 c,.sl
 (2:Nat) false rd,.int .i64 co,.int .i64 ar]]++List.drop x.toNat (List.take (↑l.length:Int).toNat l)).length) then (True∧[]++List.drop (0:Nat) (List.take x.toNat l)++[[AV.int .i64 k,.str n,.int .i64 t,.int .i64 f,.int .i64 a,.int .i64 b,.int .i64 c,.sl (2:Nat) false rd,.int .i64 co,.int .i64 ar]]++List.drop x.toNat (List.take (↑l.length:Int).toNat l)=adO l (itA k n t f a b c rd co
 ar))∧(0:Int)=adE l (itA k n t f a b c rd co ar)∧True else False else False else False else False else False else False else False else False else False else bif decide ((150:Int)≤(↑l.length:Int)) then adO l (itA k n t f a b c rd co ar)=[]∧(2:Int)=adE l (itA k n t f a b c rd co ar)∧True else bif decide (0≤x∧x≤(↑l.length:Int)) then bif decide ((0:Int)≤(0:Int)∧0≤x) then bif
 decide ((0:Nat)=0∧(0:Nat)+(List.drop (0:Nat) (List.take x.toNat l)).length≤(9223372036854775807:Nat)∧((0:Nat)+(List.drop (0:Nat) (List.take x.toNat l)).length)*(104:Nat)≤(140737488355328:Nat)) then bif decide (([]++List.drop (0:Nat) (List.take x.toNat l)).length=([]++List.drop (0:Nat) (List.take x.toNat l)).length∧([]++List.drop (0:Nat) (List.take x.toNat l)).length+[[AV.int .i64
 k,.str n,.int .i64 t,.int .i64 f,.int .i64 a,.int .i64 b,.int .i64 c,.sl (2:Nat) false rd,.int .i64 co,.int .i64 ar]].length≤(9223372036854775807:Nat)∧(([]++List.drop (0:Nat) (List.take x.toNat l)).length+[[AV.int .i64 k,.str n,.int .i64 t,.int .i64 f,.int .i64 a,.int .i64 b,.int .i64 c,.sl (2:Nat) false rd,.int .i64 co,.int .i64 ar]].length)*(104:Nat)≤(140737488355328:Nat)) then bif
 decide ((0:Int)≤(↑l.length:Int)∧(↑l.length:Int)≤(↑l.length:Int)) then bif decide (0≤x∧x≤(↑l.length:Int)) then bif decide (([]++List.drop (0:Nat) (List.take x.toNat l)++[[AV.int .i64 k,.str n,.int .i64 t,.int .i64 f,.int .i64 a,.int .i64 b,.int .i64 c,.sl (2:Nat) false rd,.int .i64 co,.int .i64 ar]]).length=([]++List.drop (0:Nat) (List.take x.toNat l)++[[AV.int .i64 k,.str
 n,.int .i64 t,.int .i64 f,.int .i64 a,.int .i64 b,.int .i64 c,.sl (2:Nat) false rd,.int .i64 co,.int .i64 ar]]).length∧([]++List.drop (0:Nat) (List.take x.toNat l)++[[AV.int .i64 k,.str n,.int .i64 t,.int .i64 f,.int .i64 a,.int .i64 b,.int .i64 c,.sl (2:Nat) false rd,.int .i64 co,.int .i64 ar]]).length+(List.drop x.toNat (List.take (↑l.length:Int).toNat l)).length ≤
 (9223372036854775807:Nat)∧(([]++List.drop (0:Nat) (List.take x.toNat l)++[[AV.int .i64 k,.str n,.int .i64 t,.int .i64 f,.int .i64 a,.int .i64 b,.int .i64 c,.sl (2:Nat) false rd,.int .i64 co,.int .i64 ar]]).length+(List.drop x.toNat (List.take (↑l.length:Int).toNat l)).length)*(104:Nat)≤(140737488355328:Nat)) then bif decide (([]++List.drop (0:Nat) (List.take x.toNat l)++[[AV.int .i64
 k,.str n,.int .i64 t,.int .i64 f,.int .i64 a,.int .i64 b,.int .i64 c,.sl (2:Nat) false rd,.int .i64 co,.int .i64 ar]]++List.drop x.toNat (List.take (↑l.length:Int).toNat l)).length=([]++List.drop (0:Nat) (List.take x.toNat l)++[[AV.int .i64 k,.str n,.int .i64 t,.int .i64 f,.int .i64 a,.int .i64 b,.int .i64 c,.sl (2:Nat) false rd,.int .i64 co,.int .i64 ar]]++List.drop x.toNat (List.take
 (↑l.length:Int).toNat l)).length) then (True∧[]++List.drop (0:Nat) (List.take x.toNat l)++[[AV.int .i64 k,.str n,.int .i64 t,.int .i64 f,.int .i64 a,.int .i64 b,.int .i64 c,.sl (2:Nat) false rd,.int .i64 co,.int .i64 ar]]++List.drop x.toNat (List.take (↑l.length:Int).toNat l)=adO l (itA k n t f a b c rd co ar))∧(0:Int)=adE l (itA k n t f a b c rd co ar)∧True else False else False else False
 else False else False else False else False else False
set_option maxRecDepth 100000 in
theorem radd_P:radd_T posI inV itC itE adE adO gpE inB rdC cmpI cmpS:=by
  unfold radd_T
  intro gl l g k t f a b c co ar n rd hp _ _
  have ln:=hp.fp.fl
  have bg:cond g (g=true) True:=by cases g <;> trivial
  have hc:ckR (itA k n t f a b c rd co ar)=itE k n t f a b c rd co ar:=rfl
  have hxr:[[.int .i64 k,.str n,.int .i64 t,.int .i64 f,.int .i64 a,.int .i64 b,.int .i64 c,.sl 2 false rd,.int .i64 co,.int .i64 ar]]=[itA k n t f a b c rd co ar]:=rfl
  rw [hxr,← hc]
  generalize itA k n t f a b c rd co ar=x
  refine ⟨hp.fp,csx (fun q=>?_) (fun q=>⟨hp.fr,csx (fun q2=>?_) (fun q2=>?_)⟩)⟩
  · unfold adO adE; rw [if_neg q,if_neg q]; exact ⟨rfl,rfl,trivial⟩
  · have q:=Decidable.not_not.1 q
    unfold adO adE puE; rw [if_pos q,if_neg q2,if_neg q2]; exact ⟨rfl,rfl,trivial⟩
  have q:=Decidable.not_not.1 q
  have q2:=Decidable.not_not.1 q2
  obtain ⟨hl,_,hs⟩:=inV_ok q
  have hE:adE l x=if hasI l x then 0 else if 150≤l.length then 2 else 0:=by unfold adE puE; rw [if_pos q,if_pos q2]
  have hO:adE l x=0→adO l x=addI l x:=fun e=>by unfold adO; rw [if_pos e]
  have hO2:¬ adE l x=0→adO l x=[]:=fun e=>by unfold adO; rw [if_neg e]
  refine ⟨⟨⟨0,⟨by decide,by omega,fun j hj=>by omega⟩,by (repeat' (first | exact trivial | exact rfl | assumption | apply And.intro))⟩,?_⟩,?_⟩
  · rintro i ⟨i0,i1,il⟩
    have cut:¬ (i < l.length∧itC (l.getD i.toNat []) x < 0)→RaE l x i:=fun hn=>⟨by
      have:=pos_uniq (l:=l) (x:=x) (i:=i.toNat) (by omega) (fun j hj=>il j (by omega)) (fun hi=>by
        apply Int.not_lt.1
        intro z
        exact hn ⟨by omega,z⟩)
      omega⟩
    have cutT:¬ (i < l.length∧itC (l.getD i.toNat []) x < 0)→∃ y,RaE l x y∧((cond g (g=true) True∧l=l)∧(0:Nat)=0∧True∧(0:Int)=0∧i=y∧True)∧(k=k∧n=n∧t=t∧f=f∧a=a∧b=b∧c=c∧(True∧rd=rd)∧co=co∧ar=ar∧True)∧True:=fun hn=>⟨i,cut hn,by (repeat' (first | exact trivial | exact rfl | assumption | apply And.intro))⟩
    refine csx (fun hi=>cd1 (by omega) ?_) (fun hi=>cutT (by omega))
    · obtain ⟨k2,nm2,t2,a12,a2,b2,c2,rd2,co2,ar2,hr,hrd2⟩:=hp.fp.fr i.toNat (by omega)
      refine ⟨k2,nm2,t2,a12,a2,b2,c2,rd2,co2,ar2,by rw [hr]; rfl,⟨hrd2,hp.fr⟩,?_⟩
      rw [← hr]
      refine csx (fun z=>cdI (by omega) ⟨i+1,⟨by omega,by omega,fun j hj=>?_⟩,by simp only [ra8]; omega,by (repeat' (first | exact trivial | exact rfl | assumption | apply And.intro))⟩) (fun z=>cutT (fun w=>z w.2))
      rcases Int.lt_or_le (j:Int) i with w | w
      · exact il j w
      · rw [show j=i.toNat by omega]; exact z
  rintro i ⟨hi⟩
  subst hi
  have hpl:=pos_le l x
  have hL:List.take ((l.length:Int)).toNat l=l:=by rw [Int.toNat_natCast,List.take_length]
  refine csx (fun hi=>cd1 (by omega) ?_) (fun hi=>?_)
  · obtain ⟨k2,nm2,t2,a12,a2,b2,c2,rd2,co2,ar2,hr,hrd2⟩:=hp.fp.fr (posI l x) (by omega)
    refine ⟨k2,nm2,t2,a12,a2,b2,c2,rd2,co2,ar2,by rw [Int.toNat_natCast,hr]; rfl,⟨hrd2,hp.fr⟩,?_⟩
    rw [← hr,Int.toNat_natCast]
    refine csx (fun z=>?_) (fun z=>?_)
    · have hh:hasI l x=true:=(has_iff hs).2 ⟨by omega,z⟩
      rw [if_pos hh] at hE
      refine cd1 ⟨rfl,by omega,by omega⟩ (cd1 rfl ⟨⟨trivial,?_⟩,hE.symm,trivial⟩)
      rw [hO hE]; unfold addI; rw [if_pos hh]; rfl
    · have hh:¬ hasI l x=true:=fun w=>z ((has_iff hs).1 w).2
      rw [if_neg hh] at hE
      exact radd_fin hL hl hpl hO hO2 hh hE
  · have hh:¬ hasI l x=true:=fun w=>by have:=((has_iff hs).1 w).1; omega
    rw [if_neg hh] at hE
    exact radd_fin hL hl hpl hO hO2 hh hE
def radd_S (posI:LLA→List AV→Nat) (inV:LLA→Int) (itC:List AV→List AV→Int) (itE:Int→ByteArray→Int→Int→Int→Int→Int→LLA→Int→Int→Int) (adE:LLA→List AV→Int) (adO:LLA→List AV→LLA) (gpE:Int→ByteArray→Int→Int→Int→Int→Int→LLA→Int) (inB:Int→Bool) (rdC:LLA→LLA→Int) (cmpI:Int→Int→Int) (cmpS:ByteArray→ByteArray→Int):Prop:=∀ (gl:Glob) (l:List (List AV)) (g:Bool) (k t f a b c co ar:Int) (n:ByteArray) (rd:List (List AV)),AdP l rd→fnK Tryd.prog { glob:=gl,spec:=lk [(26,(ivalidR_s inV itC itE)),(47,(ritem_s gpE itE inB)),(42,(ricmp_s rdC cmpI cmpS itC))],specH:=lk [],shape:=[28,43],slz:=[(28,[2]),(43,[2])],nowf:=true } { nt:=67,drop:=drp [(1,3072),(2,4096),(3,16384),(4,98304),(5,131072),(6,524288),(8,4293918720),(9,25769803776),(10,140703128616960),(11,1970324836974592),(12,6755399441055744),(14,4593671619917905920),(15,142962266571249025024)] } (invs [(8,ra8 l k t f a b c co ar n rd g),(100010,raC l k t f a b c co ar n rd g)]) 6 Tryd.f33 [.sl 10 g l,.agg [.int .i64 k,.str n,.int .i64 t,.int .i64 f,.int .i64 a,.int .i64 b,.int .i64 c,.sl 2 false rd,.int .i64 co,.int .i64 ar]] (.tup [.sl 10 false (adO l (itA k n t f a b c rd co ar)),.int .i64 (adE l (itA k n t f a b c rd co ar))])
set_option maxRecDepth 100000 in
theorem radd_e (posI:LLA→List AV→Nat) (inV:LLA→Int) (itC:List AV→List AV→Int) (itE:Int→ByteArray→Int→Int→Int→Int→Int→LLA→Int→Int→Int) (adE:LLA→List AV→Int) (adO:LLA→List AV→LLA) (gpE:Int→ByteArray→Int→Int→Int→Int→Int→LLA→Int) (inB:Int→Bool) (rdC:LLA→LLA→Int) (cmpI:Int→Int→Int) (cmpS:ByteArray→ByteArray→Int):radd_T posI inV itC itE adE adO gpE inB rdC cmpI cmpS=radd_S posI inV itC itE adE adO gpE inB rdC cmpI cmpS:=by kernel_rfl
theorem radd_v:radd_S posI inV itC itE adE adO gpE inB rdC cmpI cmpS:=@Eq.mp (radd_T posI inV itC itE adE adO gpE inB rdC cmpI cmpS) (radd_S posI inV itC itE adE adO gpE inB rdC cmpI cmpS) (radd_e posI inV itC itE adE adO gpE inB rdC cmpI cmpS) (radd_P)
theorem radd_ok (gl:Glob):SOK Tryd.prog gl 33 (radd_s posI inV itC itE adE adO):=by
  refine ⟨fok Tryd.func33 (by kernel_rfl) (by kernel_rfl),?_⟩
  intro xs pre r h hp
  unfold radd_s at h
  split at h
  · simp only [Option.some.injEq,Prod.mk.injEq] at h
    obtain ⟨h1,h2⟩:=h
    subst h1 h2
    exact fnK_sound tyNil (by exact specOK rfl rfl ⟨(ivalidR_ok gl),(ritem_ok gl),(ricmp_ok gl),trivial⟩ trivial) (by kernel_rfl) Tryd.func33 rfl (radd_v gl _ _ _ _ _ _ _ _ _ _ _ _ hp)
  · cases h
theorem inV_of {l:LLA} (h1:l.length≤150) (h2:∀ r ∈ l,ckR r=0) (h3:Srt l):inV l=0:=by
  have e1:firE l=0:=firE_zero fun j hj=>by rw [getD_lt hj]; exact h2 _ (List.getElem_mem hj)
  have e2:adjB l=true:=by
    unfold adjB
    refine decide_eq_true fun j hj=>?_
    by_cases hz:j=0
    · exact .inl hz
    · exact .inr (srt_get h3 (by omega) hj)
  unfold inV
  rw [if_neg (by omega),if_pos e1,if_pos e2]
theorem puE_ok {l:LLA} {x:List AV} (h:puE l x=0):ckR x=0:=by
  unfold puE at h
  split at h
  · assumption
  · next e=>exact absurd h e
theorem inV_add {l:LLA} {x:List AV} (h:inV l=0) (hl:GdL l) (hx:ItG x) (hp:puE l x=0):inV (addI l x)=0:=by
  obtain ⟨h1,h2,h3⟩:=inV_ok h
  refine inV_of (addI_gd hl hx hp h1).2 (fun r hr=>?_) (addI_srt h3)
  unfold addI at hr
  split at hr
  · exact firE_all h2 r hr
  · rcases ins_mem.1 hr with rfl | hr
    · exact puE_ok hp
    · exact firE_all h2 r hr
structure TrI (l rs:LLA) (co ar:Int) (x:Int × LLA):Prop where
  flo:0≤x.1
  fhi:x.1≤rs.length
  fp:ItsP x.2
  fq:inV x.2=0→GdL x.2
  fz:(x.1=0∧x.2=l)∨inV x.2=0
  fe:tkE l rs co ar=tkE x.2 (rs.drop x.1.toNat) co ar
  fo:tkO l rs co ar=tkO x.2 (rs.drop x.1.toNat) co ar
structure TrP (l rs:LLA):Prop where
  fp:ItsP l
  fl:l.length≤900
  fq:inV l=0→GdL l
  fr:RpL rs
structure SmP (a b:LLA) (i:Int):Prop where
  flo:0≤i
  fhi:i≤a.length
  fz:∀ k:Nat,(k:Int) < i→itC (a.getD k []) (b.getD k [])=0
end Go.Proofs.YtgnnafneglannaaDoor
namespace Go.Proofs.YtgnnafneglannaaDoor
open Go
set_option linter.unusedVariables false
set_option linter.unusedSimpArgs false
def ibS (out:LLA) (x:List AV):LLA:=if adE out x=0 then adO out x else out
def ibO (l:LLA):LLA:=l.foldl ibS []
theorem ibO_snoc (l:LLA) (x:List AV):ibO (l++[x])=ibS (ibO l) x:=by unfold ibO; rw [List.foldl_append]; rfl
structure IbR (l:LLA):Prop where
  fv:inV l=0
  fg:GdL l
theorem ibO_ok:∀ l:LLA,(∀ r ∈ l,ItG r)→IbR (ibO l) :=
  snoc_ind (fun _=>⟨inV_of (by decide) (by simp [ibO]) (by simp [ibO,Srt]),⟨by simp [ibO],by decide⟩⟩) fun l x ih h=>by
    have i1:=ih fun r hr=>h r (by simp [hr])
    have hx:=h x (by simp)
    rw [ibO_snoc]
    unfold ibS
    split
    · next e =>
      have hpu:puE (ibO l) x=0:=by unfold adE at e; rw [if_pos i1.fv] at e; exact e
      have hadO:adO (ibO l) x=addI (ibO l) x:=by unfold adO; rw [if_pos e]
      rw [hadO]
      exact ⟨inV_add i1.fv i1.fg hx hpu,(addI_gd i1.fg hx hpu (inV_ok i1.fv).1).1⟩
    · exact i1
structure QiI (l:LLA) (x:Int × LLA):Prop where
  flo:0≤x.1
  fhi:x.1≤l.length
  fe:x.2=ibO (l.take x.1.toNat)
def qi3 (l:LLA) (g:Bool):LInv:=⟨Int × LLA,fun x=>⟨[(0,.sl 10 g l),(3,.sl 10 false x.2),(4,.int .i64 x.1)],[]⟩,QiI l,fun x=>(l.length - x.1).toNat,none⟩
def qinbox_s (ibO:LLA→LLA) (adE:LLA→List AV→Int) (adO:LLA→List AV→LLA):Sp
  | [.sl 10 g l]=>some (GdL l,.sl 10 false (ibO l))
  | _=>none
set_option maxRecDepth 100000 in
def qinbox_T (ibO:LLA→LLA) (adE:LLA→List AV→Int) (adO:LLA→List AV→LLA) (posI:LLA→List AV→Nat) (inV:LLA→Int) (itC:List AV→List AV→Int) (itE:Int→ByteArray→Int→Int→Int→Int→Int→LLA→Int→Int→Int):Prop :=
  ∀ (gl:Glob) (l:List (List AV)) (g:Bool),GdL l→True→(∃ x,QiI l x∧(((bif g then g=true else True)∧l=l)∧x.snd=[]∧(0:Int)=x.fst∧True)∧True)∧∀ (x:Int × LLA),QiI l x→bif decide (x.fst < (↑l.length:Int)) then bif decide (0≤x.fst∧x.fst < (↑l.length:Int)) then ∃ n s n_1 n_2 n_3 n_4 n_5 xs n_6 n_7,List.take [AV.int .i64 n,.str s,.int .i64 n_1,.int .i64 n_2,.int .i64 n_3,.int .i64 n_4,.int
 .i64 n_5,.sl (2:Nat) false xs,.int .i64 n_6,.int .i64 n_7].length (l.getD x.fst.toNat [])=[AV.int .i64 n,.str s,.int .i64 n_1,.int .i64 n_2,.int .i64 n_3,.int .i64 n_4,.int .i64 n_5,.sl (2:Nat) false xs,.int .i64 n_6,.int .i64 n_7]∧AdP x.snd xs∧bif decide (adE x.snd (itA n s n_1 n_2 n_3 n_4 n_5 xs n_6 n_7)=(0:Int)) then bif decide (rng .i64 (x.fst+(1:Int))) then ∃ y,QiI l y∧(qi3 l g).m y < (qi3 l
 g).m x∧(((bif g then g=true else True)∧l=l)∧(True∧adO x.snd (itA n s n_1 n_2 n_3 n_4 n_5 xs n_6 n_7)=y.snd)∧x.fst+(1:Int)=y.fst∧True)∧True else False else bif decide (rng .i64 (x.fst+(1:Int))) then ∃ y,QiI l y∧(qi3 l g).m y < (qi3 l g).m x∧(((bif g then g=true else True)∧l=l)∧(True∧x.snd=y.snd)∧x.fst+(1:Int)=y.fst∧True)∧True else False else False else True∧x.snd=ibO l
set_option maxRecDepth 100000 in
theorem qinbox_P:qinbox_T ibO adE adO posI inV itC itE:=by
  unfold qinbox_T
  intro gl l g hg _
  have bg:cond g (g=true) True:=by cases g <;> trivial
  have hl:=hg.fl
  refine ⟨⟨(0,[]),⟨by simp,by simp,by simp [ibO]⟩,by (repeat' (first | exact trivial | exact rfl | assumption | apply And.intro))⟩,?_⟩
  rintro ⟨i,out⟩ ⟨i0,i1,e⟩
  simp only at i0 i1 e
  dsimp only
  refine csx (fun hi=>cd1 (by omega) ?_) (fun hi=>?_)
  · have hm:l.getD i.toNat [] ∈ l:=by rw [getD_lt (by omega)]; exact List.getElem_mem _
    obtain ⟨k,nm,t,f,a,b,c,rd,co,ar,h1,h2,h3⟩:=(hg.fg _ hm).fr
    have hb:=ibO_ok (l.take i.toNat) (fun r hr=>hg.fg r (List.mem_of_mem_take hr))
    rw [← e] at hb
    have hs:ibO (l.take (i.toNat+1))=ibS out (itA k nm t f a b c rd co ar):=by
      rw [List.take_add_one,List.getElem?_eq_getElem (show i.toNat < l.length by omega),← getD_lt (by omega),h1,Option.toList_some,ibO_snoc,← e]
    refine ⟨k,nm,t,f,a,b,c,rd,co,ar,by rw [h1]; rfl,⟨hb.fg.p,fun _=>hb.fg,h2,h3⟩,?_⟩
    generalize itA k nm t f a b c rd co ar=x at *
    refine csx (fun q=>?_) (fun q=>?_)
    · exact cdI (by omega) ⟨(i+1,adO out x),⟨by simp only; omega,by simp only; omega,by simp only; rw [show (i+1).toNat=i.toNat+1 by omega,hs]; unfold ibS; rw [if_pos q]⟩,by simp only [qi3]; omega,⟨⟨bg,rfl⟩,⟨trivial,rfl⟩,rfl,trivial⟩,trivial⟩
    · exact cdI (by omega) ⟨(i+1,out),⟨by simp only; omega,by simp only; omega,by simp only; rw [show (i+1).toNat=i.toNat+1 by omega,hs]; unfold ibS; rw [if_neg q]⟩,by simp only [qi3]; omega,⟨⟨bg,rfl⟩,⟨trivial,rfl⟩,rfl,trivial⟩,trivial⟩
  · refine ⟨trivial,?_⟩
    rw [e,List.take_of_length_le (by omega)]
def qinbox_S (ibO:LLA→LLA) (adE:LLA→List AV→Int) (adO:LLA→List AV→LLA) (posI:LLA→List AV→Nat) (inV:LLA→Int) (itC:List AV→List AV→Int) (itE:Int→ByteArray→Int→Int→Int→Int→Int→LLA→Int→Int→Int):Prop:=∀ (gl:Glob) (l:List (List AV)) (g:Bool),GdL l→fnK Tryd.prog { glob:=gl,spec:=lk [(33,(radd_s posI inV itC itE adE adO))],specH:=lk [],shape:=[18],slz:=[(18,[2])],nowf:=true } { nt:=26,drop:=drp [(3,896),(4,6144),(5,4186112),(6,4194304),(7,16777216),(8,33554432)] } (invs [(3,qi3 l g)]) 6 Tryd.f10 [.sl 10 g l] (.sl 10 false (ibO l))
set_option maxRecDepth 100000 in
theorem qinbox_e (ibO:LLA→LLA) (adE:LLA→List AV→Int) (adO:LLA→List AV→LLA) (posI:LLA→List AV→Nat) (inV:LLA→Int) (itC:List AV→List AV→Int) (itE:Int→ByteArray→Int→Int→Int→Int→Int→LLA→Int→Int→Int):qinbox_T ibO adE adO posI inV itC itE=qinbox_S ibO adE adO posI inV itC itE:=by kernel_rfl
theorem qinbox_v:qinbox_S ibO adE adO posI inV itC itE:=@Eq.mp (qinbox_T ibO adE adO posI inV itC itE) (qinbox_S ibO adE adO posI inV itC itE) (qinbox_e ibO adE adO posI inV itC itE) (qinbox_P)
theorem qinbox_ok (gl:Glob):SOK Tryd.prog gl 10 (qinbox_s ibO adE adO):=by
  refine ⟨fok Tryd.func10 (by kernel_rfl) (by kernel_rfl),?_⟩
  intro xs pre r h hp
  unfold qinbox_s at h
  split at h
  · simp only [Option.some.injEq,Prod.mk.injEq] at h
    obtain ⟨h1,h2⟩:=h
    subst h1 h2
    exact fnK_sound tyNil (by exact specOK rfl rfl ⟨(radd_ok gl),trivial⟩ trivial) (by kernel_rfl) Tryd.func10 rfl (qinbox_v gl _ _ hp)
  · cases h
end Go.Proofs.YtgnnafneglannaaDoor
namespace Go.Proofs.YtgnnafneglannaaDoor
open Go
set_option linter.unusedVariables false
set_option linter.unusedSimpArgs false
structure ItV (r:List AV):Prop where
  fr:∃ (k:Int) (nm:ByteArray) (t f a b c:Int) (ys:LLA) (co ar:Int),r=itA k nm t f a b c ys co ar∧RepQ k nm t f a b c ys 0∧(0≤co∧co≤2)∧0≤ar∧ar≤52595999
structure ItmQ (n:Int) (os:LLA) (j:Int):Prop where
  fr:∀ r ∈ os,ItV r
  fl:os.length≤n
  fj:0≤j
structure ItmP (n:Int) (x:Int × Int × LLA):Prop where
  fi:x.1+x.2.2.length≤n
  fj:0≤x.2.1
  fr:∀ r ∈ x.2.2,ItV r
  fn:x.2.2.length≤n
theorem rdV_set {ys:LLA} (h:RdV 12 ys) {i:Nat} {e v w:Int} (hi:i < ys.length) (he:ys.getD i []=[.int .i64 e,.int .i64 v]) (hw:inLo e≤w∧w≤inHi e):RdV 12 (setEl ys i 0 [.int .i64 e,.int .i64 w]):=by
  have e1:setEl ys i 0 [.int .i64 e,.int .i64 w]=ys.set i [.int .i64 e,.int .i64 w]:=by
    unfold setEl spl; rw [he]; rfl
  have e2:∀ j,j < ys.length→(ys.set i [.int .i64 e,.int .i64 w]).getD j []=if i=j then [.int .i64 e,.int .i64 w] else ys.getD j []:=fun j hj=>by
    rw [List.getD_eq_getElem?_getD,List.getD_eq_getElem?_getD,List.getElem?_set]
    split
    · rfl
    · rfl
  have e3:∀ j,j < ys.length→rE ((ys.set i [.int .i64 e,.int .i64 w]).getD j [])=rE (ys.getD j []):=fun j hj=>by
    rw [e2 j hj]
    split
    · next q=>rw [← q,he]; rfl
    · rfl
  rw [e1]
  refine ⟨fun j hj=>?_,fun j k hjk hk=>?_,by rw [List.length_set]; exact h.flen⟩
  · rw [List.length_set] at hj
    rw [e2 j hj]
    split
    · next q =>
      obtain ⟨e',v',h1,h2,h3⟩:=h.frow i hi
      rw [he] at h1
      simp only [List.cons.injEq,AV.int.injEq,and_true,true_and] at h1
      rw [h1.1] at hw ⊢
      exact ⟨_,_,rfl,h2,hw⟩
    · exact h.frow j hj
  · rw [List.length_set] at hk
    rw [e3 j (by omega),e3 k hk]
    exact h.fasc j k hjk hk
end Go.Proofs.YtgnnafneglannaaDoor
namespace Go.Proofs.YtgnnafneglannaaDoor
open Go
set_option linter.unusedVariables false
set_option linter.unusedSimpArgs false
structure RpsQ (n:Int) (os:LLA) (j:Int):Prop where
  fr:∀ r ∈ os,RpG r
  fl:os.length≤n
  fj:0≤j
structure RpsP (n:Int) (x:Int × Int × LLA):Prop where
  fi:x.1+x.2.2.length≤n
  fj:0≤x.2.1
  fr:∀ r ∈ x.2.2,RpG r
  fn:x.2.2.length≤n
theorem rdv_rds {ys:LLA} (h:RdV 12 ys):RdsP ys:=⟨fun i hi=>by
  obtain ⟨e,v,h1,h2,h3⟩:=h.frow i hi
  have:=in_bd (c:=e) (by omega)
  exact ⟨e,v,h1,by show _∧_; omega,by show _∧_; omega⟩,by have:=h.flen; omega⟩
structure BntQ (ys:LLA) (j:Int):Prop where
  fr:RdsP ys
  fl:ys.length≤1000
  fj:0≤j
structure BntP (ys:LLA) (c:Int):Prop where
  fr:RdsP ys
  fl:ys.length≤900
  fc:0≤c∧c≤1000
end Go.Proofs.YtgnnafneglannaaDoor
namespace Go.Proofs.YtgnnafneglannaaDoor
open Go
set_option linter.unusedVariables false
set_option linter.unusedSimpArgs false
def cvs (P:LLA) (c:Int):List Int:=(P.filter fun r=>decide (rE r=c)).map rV
def alq:List Int→Bool
  | []=>true
  | v::l=>l.all fun u=>decide (u=v)
theorem alq_last:∀ {l:List Int} {v:Int},alq (v::l)=true→(v::l).getLast?=some v
  | [],v,_=>rfl
  | a::l,v,h=>by
    simp only [alq,List.all_cons,Bool.and_eq_true,decide_eq_true_eq] at h
    obtain ⟨rfl,h⟩:=h
    rw [List.getLast?_cons_cons]
    exact alq_last (l:=l) (v:=a) h
theorem alq_snoc (l:List Int) (v:Int):alq (l++[v])=(alq l&&(match l.getLast? with | none=>true | some u=>decide (u=v))):=by
  cases l with
  | nil=>rfl
  | cons a l =>
    cases h:alq (a::l) with
    | true =>
      rw [alq_last h]
      simp only [alq] at h
      simp only [List.cons_append,alq,List.all_append,h,List.all_cons,List.all_nil,Bool.and_true,Bool.true_and]
      exact decide_eq_decide.2 eq_comm
    | false =>
      simp only [alq] at h
      simp only [List.cons_append,alq,List.all_append,h,Bool.false_and]
def bdP (P:LLA) (c:Int):Bool:=!(alq (cvs P c))
theorem cvs_snoc (P:LLA) (r:List AV) (c:Int):cvs (P++[r]) c=cvs P c++(if rE r=c then [rV r] else []):=by
  unfold cvs
  rw [List.filter_append,List.map_append]
  by_cases h:rE r=c
  · simp [h]
  · simp [h]
def vmP (P:LLA):List (Int × AV):=P.foldl (fun m r=>mPut m (rE r) (.int .i64 (rV r))) []
theorem vmP_snoc (P:LLA) (r:List AV):vmP (P++[r])=mPut (vmP P) (rE r) (.int .i64 (rV r)):=by
  unfold vmP; rw [List.foldl_append]; rfl
theorem vm_get (c:Int):∀ P:LLA,mGet (vmP P) c=((cvs P c).getLast?).map (AV.int .i64) :=
  snoc_ind (by simp [vmP,mGet,cvs]) fun P r ih=>by
    rw [vmP_snoc,cvs_snoc,mGet_put]
    by_cases h:rE r=c
    · rw [if_pos h,if_pos h]; simp
    · rw [if_neg h,if_neg h,List.append_nil]; exact ih
theorem vm_has (P:LLA) (c:Int):mHas (vmP P) c=decide (cvs P c≠[]):=by
  unfold mHas
  rw [vm_get]
  cases h:cvs P c with
  | nil=>simp
  | cons a l=>simp
def lasI (l:List Int):Int:=l.getLast?.getD 0
theorem vm_int (P:LLA) (c:Int):mInt (vmP P) c=lasI (cvs P c):=by
  unfold mInt lasI
  rw [vm_get]
  cases h:(cvs P c).getLast? with
  | none=>rfl
  | some v=>rfl
theorem bdP_same (P:LLA) (e v:Int):bdP (P++[[.int .i64 e,.int .i64 v]]) e=(bdP P e||(mHas (vmP P) e&&decide (¬ mInt (vmP P) e=v))):=by
  unfold bdP
  rw [cvs_snoc,if_pos (show rE [.int .i64 e,.int .i64 v]=e from rfl),vm_has,vm_int]
  have:rV [.int .i64 e,.int .i64 v]=v:=rfl
  rw [this,alq_snoc]
  unfold lasI
  cases h:cvs P e with
  | nil=>simp
  | cons a l =>
    have hl:(a::l).getLast?=some ((a::l).getLast (by simp)):=List.getLast?_eq_some_getLast (by simp)
    rw [hl]
    cases alq (a::l) <;> simp
theorem bdP_ne (P:LLA) (e v c:Int) (h:¬ e=c):bdP (P++[[.int .i64 e,.int .i64 v]]) c=bdP P c:=by
  unfold bdP
  rw [cvs_snoc,if_neg (show ¬ rE [.int .i64 e,.int .i64 v]=c from h),List.append_nil]
def rdsF (G:LLA):LLA:=(G.map itRd).flatten
def plF (G:LLA) (p:List Int):Bool:=G.any fun x=>decide (¬ itPl x=p)
theorem plF_snoc (G:LLA) (x:List AV) (p:List Int):plF (G++[x]) p=(plF G p||decide (¬ itPl x=p)):=by
  unfold plF; rw [List.any_append]; simp
theorem rdsF_snoc (G:LLA) (x:List AV):rdsF (G++[x])=rdsF G++itRd x:=by
  unfold rdsF; rw [List.map_append,List.flatten_append]; simp
theorem take_snoc {G:LLA} {i:Nat} (h:i < G.length):G.take (i+1)=G.take i++[G.getD i []]:=by
  rw [getD_lt h]; exact (List.take_append_getElem h).symm
def badC (G:LLA) (c:Nat):Bool:=if c=0 then plF G (itPl (G.headD [])) else bdP (rdsF G) c
def ctN (G:LLA):Nat→LLA
  | 0=>[]
  | n+1=>ctN G n++(if badC G n then [[.int .i64 (n:Int)]] else [])
def rdN (G:LLA):Nat→LLA
  | 0=>[]
  | n+1=>rdN G n++(if badC G n then [] else if cvs (rdsF G) n=[] then [] else [[.int .i64 (n:Int),.int .i64 (lasI (cvs (rdsF G) n))]])
theorem ctN_len (G:LLA):∀ n,(ctN G n).length≤n
  | 0=>by simp [ctN]
  | n+1=>by
    have:=ctN_len G n
    simp only [ctN]
    split <;> simp <;> omega
theorem rdN_len (G:LLA):∀ n,(rdN G n).length≤n
  | 0=>by simp [rdN]
  | n+1=>by
    have:=rdN_len G n
    simp only [rdN]
    split
    · simp; omega
    · split <;> simp <;> omega
structure RdE (rd:LLA):Prop where
  fr:∀ i,i < rd.length→∃ e v:Int,rd.getD i []=[.int .i64 e,.int .i64 v]∧(1≤e∧e≤11)∧rng .i64 v
  fl:rd.length≤1000
structure MgP (G:LLA):Prop where
  fr:∀ i,i < G.length→∃ (k:Int) (nm:ByteArray) (t f a b c:Int) (rd:LLA) (co ar:Int),G.getD i []=itA k nm t f a b c rd co ar∧RdE rd
  fl:G.length≤900
  f0:0 < G.length
end Go.Proofs.YtgnnafneglannaaDoor
