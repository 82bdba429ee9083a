import Derived.Test.YtgbbmadjdaphnaaGreatDoorTTe
import Derived.Lib.Mul64
import Derived.Laws.Bits64b
set_option maxRecDepth 100000
set_option linter.defProp false
set_option linter.unusedVariables false
set_option linter.unusedSimpArgs false
namespace Go.Proofs.YtgbbmadjdaphnaaGreatDoor
open Go
def icln_s:Sp
 | [.sl 1 g ys]=>some (ys.length≤1000000,.sl 1 false ys)
 | _=>none
def icln_T:Prop :=
 ∀ (gl:Glob) (g:Bool) (ys:LL),ys.length≤(1000000:Nat)->True->(ys=[]->ys=[])∧bif decide ((0:Nat)=(0:Nat)∧(0:Nat)+ys.length≤(9223372036854775807:Nat)∧((0:Nat)+ys.length)*(8:Nat)≤(140737488355328:Nat)) then bif decide (([]++ys).length=([]++ys).length) then True∧[]++ys=ys else False else False
theorem icln_P:icln_T:=by
 unfold icln_T
 intro gl g ys hl
 intros
 exact ⟨λ e=>e,cd1 ⟨rfl,by omega,by omega⟩ (cd1 (by rfl) ⟨trivial,by rfl⟩)⟩
theorem icln_e:icln_T=(∀ (gl:Glob) (g:Bool) (ys:LL),ys.length≤1000000->fnK Tryz.prog { glob:=gl,spec:=lk [],specH:=lk [],nowf:=true,nq:=true } { nt:=8,drop:=drp [(1,8),(3,224)] } (λ _ _=>none) 6 Tryz.f60 [.sl 1 g ys] (.sl 1 false ys)):=by kernel_rfl
def icln_v:=Eq.mp (icln_e ..) (icln_P)
theorem icln_ok (gl:Glob):SOK Tryz.prog gl 60 icln_s:=by
 refine ⟨fok Tryz.func60 (by kernel_rfl) (by kernel_rfl),?_⟩
 intro xs pre r h hp
 unfold icln_s at h
 split at h
 ·cases h
  exact fnK_sound tyNil (by exact specOK rfl rfl trivial trivial) (by kernel_rfl) Tryz.func60 rfl (icln_v gl _ _ hp)
 ·cases h
structure EqlP (xs ys:List Int) (i:Int):Prop where
 lo:0≤i
 hi:i≤xs.length
 le:xs.length=ys.length
 eq:xs.take i.toNat=ys.take i.toNat
def eqI (f g:Bool) (xs ys:List Int):LInv:=⟨Int,λ i=>⟨[(0,.sl 1 f (intsL xs)),(1,.sl 1 g (intsL ys)),(12,.int .i64 xs.length),(13,.int .i64 i)],[]⟩,EqlP xs ys,λ i=>(xs.length - i).toNat,none⟩
structure TwoI (xs ys:LL):Prop where
 xe:xs=intsL (ungI xs)
 ye:ys=intsL (ungI ys)
 xl:xs.length≤1000000
 yl:ys.length≤1000000
def ieql_s:Sp
 | [.sl 1 f xs,.sl 1 g ys]=>some (TwoI xs ys,.bool (decide (ungI xs=ungI ys)))
 | _=>none
def ieql_T:Prop :=
 ∀ (gl:Glob) (f g:Bool) (xs ys:LL),TwoI xs ys->True->True->bif decide ¬(↑xs.length:Int)=(↑ys.length:Int) then false=decide (ungI xs=ungI ys) else (∃ x,EqlP (ungI xs) (ungI ys) x∧(((bif f then f=true else True)∧xs=intsL (ungI xs))∧((bif g then g=true else True)∧ys=intsL (ungI ys))∧(↑xs.length:Int)=(↑(ungI xs).length:Int)∧(0:Int)=x∧True)∧True)∧∀ (x1:Int),EqlP (ungI xs) (ungI ys) x1->bif decide (x1 < (↑(ungI xs).length:Int)) then bif decide (0≤x1∧x1 < (↑(intsL (ungI xs)).length:Int)) then ∃ n,List.take [I6 n].length ((intsL (ungI xs)).getD x1.toNat [])=[I6 n]∧bif decide (0≤x1∧x1 < (↑(intsL (ungI ys)).length:Int)) then ∃ n_1,List.take [I6 n_1].length ((intsL (ungI ys)).getD x1.toNat [])=[I6 n_1]∧bif decide ¬n=n_1 then false=decide (ungI xs=ungI ys) else bif decide (rng IntKind.i64 (x1+(1:Int))) then ∃ y,EqlP (ungI xs) (ungI ys) y∧(eqI f g (ungI xs) (ungI ys)).m y < (eqI f g (ungI xs) (ungI ys)).m x1∧(((bif f then f=true else True)∧intsL (ungI xs)=intsL (ungI xs))∧((bif g then g=true else True)∧intsL (ungI ys)=intsL (ungI ys))∧(↑(ungI xs).length:Int)=(↑(ungI xs).length:Int)∧x1+(1:Int)=y∧True)∧True else False else False else False else true=decide (ungI xs=ungI ys)
theorem ieql_P:ieql_T:=by
 unfold ieql_T
 delta I6
 intro gl f g xs ys hP
 intros
 have xe:=hP.xe
 have ye:=hP.ye
 have xl:=hP.xl
 clear hP
 obtain ⟨zx,hzx⟩:∃ z,z=ungI xs:=⟨_,rfl⟩
 obtain ⟨zy,hzy⟩:∃ z,z=ungI ys:=⟨_,rfl⟩
 rw [← hzx] at xe ⊢
 rw [← hzy] at ye ⊢
 clear hzx hzy
 subst xe ye
 rw [intsL_len] at xl ⊢
 rw [intsL_len]
 have gf:cond f (f=true) True:=gg f
 have gg':cond g (g=true) True:=gg g
 refine csp (λ h=>(decide_eq_false (λ e=>h (by rw [e]))).symm) (λ h=>⟨⟨0,⟨Int.le_refl 0,by omega,by have:=Decidable.not_not.1 h; omega,by simp⟩,by repeat' first|exact trivial|exact rfl|assumption|apply And.intro⟩,?_⟩)
 clear h
 intro i ⟨i0,il,hle,ie⟩
 refine csp (λ h=>?_) (λ h=>?_)
 ·have ex:=at_getD (l:=zx) (i:=i.toNat) (by omega)
  have ey:=at_getD (l:=zy) (i:=i.toNat) (by omega)
  refine cd1 ⟨i0,h⟩ ⟨zx.getD i.toNat 0,by rw [intsL_at ex]; rfl,cd1 ⟨i0,by omega⟩ ⟨zy.getD i.toNat 0,by rw [intsL_at ey]; rfl,csp (λ q=>?_) (λ q=>?_)⟩⟩
  ·exact (decide_eq_false (λ e=>q (by rw [e]))).symm
  ·refine cdI (by omega) ⟨i+1,⟨by omega,by omega,hle,?_⟩,by simp only [eqI]; omega,by repeat' first|exact trivial|exact rfl|assumption|apply And.intro⟩
   rw [show (i+1).toNat=i.toNat+1 by omega,List.take_add_one,List.take_add_one,ex,ey,ie,Decidable.not_not.1 q]
 ·rw [List.take_of_length_le (by omega),List.take_of_length_le (by omega)] at ie
  exact (decide_eq_true ie).symm
theorem ieql_e:ieql_T=(∀ (gl:Glob) (f g:Bool) (xs ys:LL),TwoI xs ys->fnK Tryz.prog { glob:=gl,spec:=lk [],specH:=lk [],shape:=[19,23],nowf:=true } { nt:=26,drop:=drp [(1,960),(3,2048),(5,32768),(6,16711680),(8,33554432)] } (invs [(4,eqI f g (ungI xs) (ungI ys))]) 6 Tryz.f109 [.sl 1 f xs,.sl 1 g ys] (.bool (decide (ungI xs=ungI ys)))):=by kernel_rfl
def ieql_v:=Eq.mp (ieql_e ..) (ieql_P)
theorem ieql_ok (gl:Glob):SOK Tryz.prog gl 109 ieql_s:=by
 refine ⟨fok Tryz.func109 (by kernel_rfl) (by kernel_rfl),?_⟩
 intro xs pre r h hp
 unfold ieql_s at h
 split at h
 ·cases h
  exact fnK_sound tyNil (by exact specOK rfl rfl trivial trivial) (by kernel_rfl) Tryz.func109 rfl (ieql_v gl _ _ _ _ hp)
 ·cases h
def sumI (l:List Int):Int:=l.foldl (·+·) 0
structure MasP (ds:List Int) (x:Int × Int):Prop where
 lo:0≤x.1
 hi:x.1≤ds.length
 eq:x.2=sumI (ds.take x.1.toNat)
def maI (g h:Bool) (n:Int) (ds fs:List Int):LInv:=⟨Int × Int,λ x=>⟨[(3,.int .i64 x.2),(7,.sl 1 g (intsL ds)),(8,.int .i64 ds.length),(9,.int .i64 x.1)],[]⟩,MasP ds,λ x=>(ds.length - x.1).toNat,none⟩
theorem sum_app (l:List Int) (z:Int):sumI (l++[z])=sumI l+z:=by simp [sumI]
theorem sum_bd {ds:List Int} (h:∀ z ∈ ds,0≤z∧z≤16777216):∀ k:Nat,0≤sumI (ds.take k)∧sumI (ds.take k)≤k*16777216
 | 0=>by simp [sumI]
 | k+1=>by
  have ih:=sum_bd h k
  rw [List.take_add_one]
  cases e:ds[k]? with
  | none=>simp only [Option.toList_none,List.append_nil]; omega
  | some z =>
   have:=h z (List.mem_of_getElem? e)
   rw [Option.toList_some,sum_app]; omega
structure MssP (ds:LL):Prop where
 de:ds=intsL (ungI ds)
 dl:ds.length≤1000
 db:∀ z ∈ ungI ds,0≤z∧z≤16777216
def fmass_s:Sp
 | [.agg [.int .i64 n,.sl 1 g ds,.sl 1 h fs]]=>some (MssP ds,.int .i64 (sumI (ungI ds)))
 | _=>none
def fmass_T:Prop :=
 ∀ (gl:Glob) (n:Int) (g h:Bool) (ds fs:LL),MssP ds->(IR9 n)∧True∧True∧True->(∃ x,MasP (ungI ds) x∧((0:Int)=x.2∧((bif g then g=true else True)∧ds=intsL (ungI ds))∧(↑ds.length:Int)=(↑(ungI ds).length:Int)∧(0:Int)=x.1∧True)∧True)∧∀ (x1:Int × Int),MasP (ungI ds) x1->bif decide (x1.1 < (↑(ungI ds).length:Int)) then bif decide (0≤x1.1∧x1.1 < (↑(intsL (ungI ds)).length:Int)) then ∃ n_1,List.take [I6 n_1].length ((intsL (ungI ds)).getD x1.1.toNat [])=[I6 n_1]∧bif decide (rng IntKind.i64 (x1.2+n_1)) then bif decide (rng IntKind.i64 (x1.1+(1:Int))) then ∃ y,MasP (ungI ds) y∧(maI g h n (ungI ds) (ungI fs)).m y < (maI g h n (ungI ds) (ungI fs)).m x1∧(x1.2+n_1=y.2∧((bif g then g=true else True)∧intsL (ungI ds)=intsL (ungI ds))∧(↑(ungI ds).length:Int)=(↑(ungI ds).length:Int)∧x1.1+(1:Int)=y.1∧True)∧True else False else False else False else x1.2=sumI (ungI ds)
theorem fmass_P:fmass_T:=by
 unfold fmass_T
 delta I6
 intro gl n g h ds fs hP
 intros
 have de:=hP.de
 have dl:=hP.dl
 have db:=hP.db
 clear hP
 obtain ⟨zs,hzs⟩:∃ z,z=ungI ds:=⟨_,rfl⟩
 rw [← hzs] at de db ⊢
 clear hzs
 subst de
 rw [intsL_len] at dl ⊢
 have gg':cond g (g=true) True:=gg g
 refine ⟨⟨(0,0),⟨Int.le_refl 0,by simp only; omega,by simp [sumI]⟩,by repeat' first|exact trivial|exact rfl|assumption|apply And.intro⟩,?_⟩
 rintro ⟨i,s⟩ ⟨i0,il,is⟩
 simp only at i0 il is
 have hb:=sum_bd db i.toNat
 rw [← is] at hb
 refine csp (λ q=>?_) (λ q=>?_)
 ·simp only at q
  have ex:=at_getD (l:=zs) (i:=i.toNat) (by omega)
  have hz:=db _ (List.mem_of_getElem? ex)
  refine cd1 ⟨i0,q⟩ ⟨zs.getD i.toNat 0,by rw [intsL_at ex]; rfl,cdI (by simp only; omega) (cdI (by simp only; omega) ⟨(i+1,s+zs.getD i.toNat 0),⟨by simp only; omega,by simp only; omega,?_⟩,by simp only [maI]; omega,by repeat' first|exact trivial|exact rfl|assumption|apply And.intro⟩)⟩
  simp only
  rw [show (i+1).toNat=i.toNat+1 by omega,List.take_add_one,ex,is]
  simp [sumI]
 ·simp only at q
  rw [List.take_of_length_le (by omega)] at is
  exact is
theorem fmass_e:fmass_T=(∀ (gl:Glob) (n:Int) (g h:Bool) (ds fs:LL),MssP ds->fnK Tryz.prog { glob:=gl,spec:=lk [],specH:=lk [],shape:=[12],nowf:=true } { nt:=18,drop:=drp [(2,64),(4,6144),(5,57344),(6,65536),(7,131072)] } (invs [(3,maI g h n (ungI ds) (ungI fs))]) 6 Tryz.f57 [.agg [.int .i64 n,.sl 1 g ds,.sl 1 h fs]] (.int .i64 (sumI (ungI ds)))):=by kernel_rfl
def fmass_v:=Eq.mp (fmass_e ..) (fmass_P)
theorem fmass_ok (gl:Glob):SOK Tryz.prog gl 57 fmass_s:=by
 refine ⟨fok Tryz.func57 (by kernel_rfl) (by kernel_rfl),?_⟩
 intro xs pre r h hp
 unfold fmass_s at h
 split at h
 ·cases h
  exact fnK_sound tyNil (by exact specOK rfl rfl trivial trivial) (by kernel_rfl) Tryz.func57 rfl (fmass_v gl _ _ _ _ _ hp)
 ·cases h
def staS (n n':Int) (ds fs ds' fs':List Int):Bool:=decide (n=n')&&(decide (ds=ds')&&decide (fs=fs'))
def fsame_s:Sp
 | [.agg [.int .i64 n,.sl 1 g ds,.sl 1 h fs],.agg [.int .i64 n',.sl 1 g' ds',.sl 1 h' fs']]=>some (TwoI ds ds'∧TwoI fs fs',.bool (staS n n' (ungI ds) (ungI fs) (ungI ds') (ungI fs')))
 | _=>none
def fsame_T:Prop :=
 ∀ (gl:Glob) (n n':Int) (g h g' h':Bool) (ds fs ds' fs':LL),TwoI ds ds'∧TwoI fs fs'->(IR9 n)∧True∧True∧True->(IR9 n')∧True∧True∧True->bif decide (n=n') then TwoI ds ds'∧bif decide (ungI ds=ungI ds') then TwoI fs fs'∧decide (ungI fs=ungI fs')=staS n n' (ungI ds) (ungI fs) (ungI ds') (ungI fs') else false=staS n n' (ungI ds) (ungI fs) (ungI ds') (ungI fs') else false=staS n n' (ungI ds) (ungI fs) (ungI ds') (ungI fs')
theorem fsame_P:fsame_T:=by
 unfold fsame_T
 intro gl n n' g h g' h' ds fs ds' fs' ⟨h1,h2⟩
 intros
 unfold staS
 refine csp (λ q=>⟨h1,csp (λ q2=>⟨h2,?_⟩) (λ q2=>?_)⟩) (λ q=>?_)
 ·rw [decide_eq_true q,decide_eq_true q2]; rfl
 ·rw [decide_eq_false q2]; simp
 ·rw [decide_eq_false q]; rfl
theorem fsame_e:fsame_T=(∀ (gl:Glob) (n n':Int) (g h g' h':Bool) (ds fs ds' fs':LL),TwoI ds ds'∧TwoI fs fs'->fnK Tryz.prog { glob:=gl,spec:=lk [(109,ieql_s)],specH:=lk [],nowf:=true } { nt:=24,drop:=drp [(1,16777184)] } (λ _ _=>none) 6 Tryz.f56 [.agg [.int .i64 n,.sl 1 g ds,.sl 1 h fs],.agg [.int .i64 n',.sl 1 g' ds',.sl 1 h' fs']] (.bool (staS n n' (ungI ds) (ungI fs) (ungI ds') (ungI fs')))):=by kernel_rfl
def fsame_v:=Eq.mp (fsame_e ..) (fsame_P)
theorem fsame_ok (gl:Glob):SOK Tryz.prog gl 56 fsame_s:=by
 refine ⟨fok Tryz.func56 (by kernel_rfl) (by kernel_rfl),?_⟩
 intro xs pre r h hp
 unfold fsame_s at h
 split at h
 ·cases h
  exact fnK_sound tyNil (by exact specOK rfl rfl ⟨(ieql_ok gl),trivial⟩ trivial) (by kernel_rfl) Tryz.func56 rfl (fsame_v gl _ _ _ _ _ _ _ _ _ _ hp)
 ·cases h
def sloI (es:LL) (ds:List Int):Nat->List Int
 | 0=>[]
 | k+1=>sloI es ds k++[ds.getD (nI (es.getD k []) 0).toNat 0 - ds.getD (nI (es.getD k []) 1).toNat 0]
def sloZ (n:Int) (ds:List Int):List Int:=sloI (edgG nrm n) ds (edgG nrm n).length
structure SloP (n:Int) (ds:List Int) (x:Int × List Int):Prop where
 lo:0≤x.1
 hi:x.1≤(edgG nrm n).length
 eq:x.2=sloI (edgG nrm n) ds x.1.toNat
def slI (n:Int) (g h:Bool) (ds fs:List Int):LInv:=⟨Int × List Int,λ x=>⟨[(1,.ptr 1 0),(7,.rw 700 1 x.2.length),(24,.sl 2 false (edgG nrm n)),(25,.int .i64 (edgG nrm n).length),(26,.int .i64 x.1)],[(1,.cells [.int .i64 n,.sl 1 g (intsL ds),.sl 1 h (intsL fs)]),(700,.row 3 1 (intsL x.2))]⟩,SloP n ds,λ x=>((edgG nrm n).length - x.1).toNat,none⟩
structure VStP (n:Int) (ds fs:LL):Prop where
 gp:GrdP nrm n
 de:ds=intsL (ungI ds)
 fe:fs=intsL (ungI fs)
 ok:staB n (ungI ds) (ungI fs)=true
theorem outB_in {lo hi:Int} {l:List Int} (h:outB lo hi l=false):∀ z ∈ l,lo≤z∧z≤hi:=λ z hz=>by
 unfold outB at h
 rw [List.any_eq_false] at h
 have:=h z hz
 unfold inB at this
 simpa using this
theorem inB_out {lo hi:Int} {l:List Int} (h:∀ z ∈ l,lo≤z∧z≤hi):outB lo hi l=false:=by
 unfold outB
 rw [List.any_eq_false]
 intro z hz
 have:=h z hz
 unfold inB
 simpa using this
theorem VStP.facts {n:Int} {ds fs:LL} (h:VStP n ds fs):(ungI ds).length=ndN n∧(ungI fs).length=(edgG nrm n).length∧(∀ z ∈ ungI ds,0≤z∧z≤16777216)∧∀ z ∈ ungI fs,-16777216≤z∧z≤16777216:=by
 have hk:=h.ok
 unfold staB at hk
 simp only [Bool.and_eq_true,decide_eq_true_eq,Bool.not_eq_true'] at hk
 obtain ⟨⟨⟨h1,h2⟩,h3⟩,h4⟩:=hk
 have:=(ndN_eq h.gp).1
 exact ⟨by omega,h2,outB_in h3,outB_in h4⟩
theorem ungI_len (ys:LL):(ungI ys).length=ys.length:=by simp [ungI]
theorem VStP.sp {n:Int} {ds fs:LL} (h:VStP n ds fs):StaP n ds fs:=by
 obtain ⟨ld,lf,_,_⟩:=h.facts
 rw [ungI_len] at ld lf
 have h2:=ndN_eq h.gp
 have hE:=(edgG_in h.gp.bq).2
 exact ⟨h.gp.bq,h.de,by omega,h.fe,by omega⟩
theorem sloI_len (es:LL) (ds:List Int):∀ k,(sloI es ds k).length=k
 | 0=>rfl
 | k+1=>by rw [sloI,List.length_append,sloI_len es ds k]; rfl
theorem edg_row {n:Int} (h:GrdP nrm n) {k:Nat} (hk:k < (edgG nrm n).length):(edgG nrm n).getD k []=[.int .i64 (nI ((edgG nrm n).getD k []) 0),.int .i64 (nI ((edgG nrm n).getD k []) 1)]:=by
 have er:(edgG nrm n)[k]?=some ((edgG nrm n).getD k []):=by rw [List.getD_eq_getElem?_getD,List.getElem?_eq_getElem hk]; rfl
 exact (ok2 ((edgG_in h.bq).1 _ (List.mem_of_getElem? er)).ok).1
def mslo_s:Sp
 | [.agg [.int .i64 n,.sl 1 g ds,.sl 1 h fs]]=>some (VStP n ds fs,.tup [.sl 1 false (intsL (sloZ n (ungI ds))),.int .i64 0])
 | _=>none
abbrev mslo_1 (n:Int):=(↑(edgG YtgbbmadjdaphnaaGreatDoor.nrm n).length:Int)
def mslo_T (nrm:NrT) (staE:Int->List Int->List Int->Int):Prop :=
 ∀ (n:Int) (g h:Bool) (ds fs:LL),VStP n ds fs->(IR9 n)∧True∧True∧True->StaP n ds fs∧bif decide ¬staE n (ungI ds) (ungI fs)=(0:Int) then intsL (sloZ n (ungI ds))=[]∧staE n (ungI ds) (ungI fs)=(0:Int)∧True else BldQ nrm n∧(∃ x,SloP n (ungI ds) x∧((0:Nat)=(0:Nat)∧(0:Nat)=x.2.length∧(True∧edgG nrm n=edgG YtgbbmadjdaphnaaGreatDoor.nrm n)∧(↑(edgG nrm n).length:Int)=(mslo_1 n)∧(0:Int)=x.1∧True)∧(n=n∧((bif g then g=true else True)∧ds=intsL (ungI ds))∧((bif h then h=true else True)∧fs=intsL (ungI fs))∧True)∧[]=intsL x.2∧True)∧∀ (x1:Int × List Int),SloP n (ungI ds) x1->bif decide (x1.1 < (mslo_1 n)) then bif decide (0≤x1.1∧x1.1 < (mslo_1 n)) then ∃ n_1 n_2,List.take [I6 n_1,I6 n_2].length ((edgG YtgbbmadjdaphnaaGreatDoor.nrm n).getD x1.1.toNat [])=[I6 n_1,I6 n_2]∧bif decide (0≤n_1∧n_1 < (↑(intsL (ungI ds)).length:Int)) then ∃ n_3,List.take [I6 n_3].length ((intsL (ungI ds)).getD n_1.toNat [])=[I6 n_3]∧bif decide (0≤n_2∧n_2 < (↑(intsL (ungI ds)).length:Int)) then ∃ n_4,List.take [I6 n_4].length ((intsL (ungI ds)).getD n_2.toNat [])=[I6 n_4]∧bif decide (rng IntKind.i64 (n_3 - n_4)) then bif decide (x1.2.length=(intsL x1.2).length∧(intsL x1.2).length+[[I6 (n_3 - n_4)]].length≤(9223372036854775807:Nat)∧((intsL x1.2).length+[[I6 (n_3 - n_4)]].length)*(8:Nat)≤(140737488355328:Nat)) then bif decide (rng IntKind.i64 (x1.1+(1:Int))) then ∃ y,SloP n (ungI ds) y∧(slI n g h (ungI ds) (ungI fs)).m y < (slI n g h (ungI ds) (ungI fs)).m x1∧((0:Nat)=(0:Nat)∧(intsL x1.2++[[I6 (n_3 - n_4)]]).length=y.2.length∧(True∧edgG YtgbbmadjdaphnaaGreatDoor.nrm n=edgG YtgbbmadjdaphnaaGreatDoor.nrm n)∧(mslo_1 n)=(mslo_1 n)∧x1.1+(1:Int)=y.1∧True)∧(n=n∧((bif g then g=true else True)∧intsL (ungI ds)=intsL (ungI ds))∧((bif h then h=true else True)∧intsL (ungI fs)=intsL (ungI fs))∧True)∧intsL x1.2++[[I6 (n_3 - n_4)]]=intsL y.2∧True else False else False else False else False else False else False else bif decide (x1.2.length=(intsL x1.2).length) then (True∧intsL x1.2=intsL (sloZ n (ungI ds)))∧(0:Int)=(0:Int)∧True else False
theorem mslo_P:mslo_T nrm staE:=by
 unfold mslo_T
 delta mslo_1 I6
 intro n g h ds fs hP
 intros
 obtain ⟨ld,lf,bd,bf⟩:=hP.facts
 have hg:=hP.gp
 have hs:staE n (ungI ds) (ungI fs)=0:=by unfold staE; rw [hP.ok]; rfl
 have hsp:=hP.sp
 have de:=hP.de
 have fe:=hP.fe
 have hE:=(edgG_in hg.bq).2
 have g1:cond g (g=true) True:=gg g
 have g2:cond h (h=true) True:=gg h
 refine ⟨hsp,cd0 (λ q=>q hs) ⟨hg.bq,⟨(0,[]),⟨Int.le_refl 0,by simp only; omega,rfl⟩,by repeat' first|exact trivial|exact rfl|assumption|apply And.intro⟩,?_⟩⟩
 clear hsp hs
 obtain ⟨zs,hzs⟩:∃ z,z=ungI ds:=⟨_,rfl⟩
 rw [← hzs] at de ld bd ⊢
 clear hzs
 rintro ⟨i,os⟩ ⟨i0,il,ie⟩
 simp only at i0 il ie
 have hol:os.length=i.toNat:=by rw [ie,sloI_len]
 rw [intsL_len]
 refine csp (λ q=>?_) (λ q=>?_)
 ·simp only at q
  obtain ⟨a,b⟩:=edg_at hg (k:=i.toNat) (by omega)
  have er:=edg_row hg (k:=i.toNat) (by omega)
  have ea:zs[(nI ((edgG nrm n).getD i.toNat []) 0).toNat]?=some (zs.getD (nI ((edgG nrm n).getD i.toNat []) 0).toNat 0):=at_getD (by omega)
  have eb:zs[(nI ((edgG nrm n).getD i.toNat []) 1).toNat]?=some (zs.getD (nI ((edgG nrm n).getD i.toNat []) 1).toNat 0):=at_getD (by omega)
  have ba:=bd _ (List.mem_of_getElem? ea)
  have bb:=bd _ (List.mem_of_getElem? eb)
  have es:sloI (edgG nrm n) zs (i+1).toNat=os++[zs.getD (nI ((edgG nrm n).getD i.toNat []) 0).toNat 0 - zs.getD (nI ((edgG nrm n).getD i.toNat []) 1).toNat 0]:=by
   rw [show (i+1).toNat=i.toNat+1 by omega,sloI,ie]
  generalize (edgG nrm n).getD i.toNat []=r at a b er ea eb ba bb es ⊢
  have e3:=intsL_app os (zs.getD (nI r 0).toNat 0 - zs.getD (nI r 1).toNat 0)
  refine cd1 ⟨i0,q⟩ ⟨nI r 0,nI r 1,(congrArg (List.take 2) er).trans rfl,cd1 ⟨a.1,by omega⟩ ⟨zs.getD (nI r 0).toNat 0,by rw [intsL_at ea]; rfl,cd1 ⟨b.1,by omega⟩ ⟨zs.getD (nI r 1).toNat 0,by rw [intsL_at eb]; rfl,cdI (by omega) (cd1 ⟨by rw [intsL_len],by rw [intsL_len,List.length_singleton]; simp only; omega,by rw [intsL_len,List.length_singleton]; simp only; omega⟩ (cdI (by simp only; omega) ⟨(i+1,os++[zs.getD (nI r 0).toNat 0 - zs.getD (nI r 1).toNat 0]),⟨by simp only; omega,by simp only; omega,es.symm⟩,by simp only [slI]; omega,?_⟩))⟩⟩⟩
  rw [e3,intsL_len]
  (repeat' (first | exact trivial | exact rfl | assumption | apply And.intro))
 ·simp only at q
  have e:os=sloZ n zs:=by rw [ie,show i.toNat=(edgG nrm n).length by omega]; rfl
  subst e
  exact cd1 (by rw [intsL_len]) (by repeat' first|exact trivial|exact rfl|assumption|apply And.intro)
theorem mslo_e (nrm:NrT) (staE:Int->List Int->List Int->Int):mslo_T nrm staE=(∀ (n:Int) (g h:Bool) (ds fs:LL),VStP n ds fs->fnK Tryz.prog { glob:=glb,spec:=lk [(70,(fchk_s nrm staE)),(58,(gedges_s nrm))],specH:=lk [],shape:=[29,36,42],nowf:=true } { nt:=48,drop:=drp [(1,3072),(2,4096),(3,16384),(4,2064384),(5,2097152),(6,8388608),(10,805306368),(11,70367670435840),(12,70368744177664),(13,140737488355328)],emp:=λ id=>cond (Nat.beq id 8) [(7,700,3,1)] [] } (invs [(9,slI n g h (ungI ds) (ungI fs))]) 6 Tryz.f145 [.agg [.int .i64 n,.sl 1 g ds,.sl 1 h fs]] (.tup [.sl 1 false (intsL (sloZ n (ungI ds))),.int .i64 0])):=by kernel_rfl
def mslo_v:=Eq.mp (mslo_e ..) (mslo_P)
theorem mslo_ok:SOK Tryz.prog glb 145 mslo_s:=by
 refine ⟨fok Tryz.func145 (by kernel_rfl) (by kernel_rfl),?_⟩
 intro xs pre r h hp
 unfold mslo_s at h
 split at h
 ·cases h
  exact fnK_sound tyNil (by exact specOK rfl rfl ⟨(fchk_ok),(gedges_ok),trivial⟩ trivial) (by kernel_rfl) Tryz.func145 rfl (mslo_v  _ _ _ _ _ hp)
 ·cases h
def mlH (x y:Int):Int:=x*y / 18446744073709551616
def mlL (x y:Int):Int:=x*y % 18446744073709551616
theorem and32 {n:Int} (h:0≤n∧n≤18446744073709551615):bits .and .u64 n 4294967295=n % 4294967296:=by
 obtain ⟨m,rfl⟩:=Int.eq_ofNat_of_zero_le h.1
 have e:=bits_and_u64_nat m 4294967295 (by omega) (by decide)
 have e2:m &&& 4294967295=m % 4294967296:=Nat.and_two_pow_sub_one_eq_mod m 32
 rw [e2] at e
 exact e.trans (by omega)
theorem mul_u64 {x y:Int} (hx:0≤x∧x≤18446744073709551615) (hy:0≤y∧y≤18446744073709551615) :
  (((x / 4294967296*(y / 4294967296)) % 18446744073709551616+((x / 4294967296*(y % 4294967296)) % 18446744073709551616+(x % 4294967296*(y % 4294967296)) % 18446744073709551616 / 4294967296) % 18446744073709551616 / 4294967296) % 18446744073709551616 +
   (((x / 4294967296*(y % 4294967296)) % 18446744073709551616+(x % 4294967296*(y % 4294967296)) % 18446744073709551616 / 4294967296) % 18446744073709551616 % 4294967296+(x % 4294967296*(y / 4294967296)) % 18446744073709551616) % 18446744073709551616 / 4294967296) % 18446744073709551616=mlH x y:=by
 obtain ⟨X,rfl⟩:=Int.eq_ofNat_of_zero_le hx.1
 obtain ⟨Y,rfl⟩:=Int.eq_ofNat_of_zero_le hy.1
 have e1:(X:Int) / 4294967296=((X / 4294967296:Nat):Int):=by omega
 have e2:(X:Int) % 4294967296=((X % 4294967296:Nat):Int):=by omega
 have e3:(Y:Int) / 4294967296=((Y / 4294967296:Nat):Int):=by omega
 have e4:(Y:Int) % 4294967296=((Y % 4294967296:Nat):Int):=by omega
 unfold mlH
 rw [e1,e2,e3,e4,← Int.natCast_mul,← Int.natCast_mul,← Int.natCast_mul,← Int.natCast_mul,← Int.natCast_mul]
 obtain ⟨h1,h2,h3,h4⟩:=Lib.mul64_hi X Y (by omega) (by omega)
 have ha:=Lib.half_mul_le (a:=X / 4294967296) (b:=Y / 4294967296) (by omega) (by omega)
 have hb:=Lib.half_mul_le (a:=X / 4294967296) (b:=Y % 4294967296) (by omega) (by omega)
 have hc:=Lib.half_mul_le (a:=X % 4294967296) (b:=Y / 4294967296) (by omega) (by omega)
 have hd:=Lib.half_mul_le (a:=X % 4294967296) (b:=Y % 4294967296) (by omega) (by omega)
 generalize (X / 4294967296)*(Y / 4294967296)=A at *
 generalize (X / 4294967296)*(Y % 4294967296)=B at *
 generalize (X % 4294967296)*(Y / 4294967296)=C at *
 generalize (X % 4294967296)*(Y % 4294967296)=D at *
 generalize X*Y=P at *
 omega
theorem mul_bd63 {a b:Int} (ha:-9223372036854775808≤a∧a≤9223372036854775807) (hb:-9223372036854775808≤b∧b≤9223372036854775807):(a*b).natAbs≤85070591730234615865843651857942052864:=by
 rw [Int.natAbs_mul]
 exact Nat.mul_le_mul (show a.natAbs≤9223372036854775808 by omega) (show b.natAbs≤9223372036854775808 by omega)
theorem u64_neg {a:Int} (h:-9223372036854775808≤a) (k:a < 0):IntKind.u64.wrap a=a+18446744073709551616:=by rw [IntKind.wrap_u64]; omega
theorem u64_pos {a:Int} (h:0≤a) (k:a≤18446744073709551615):IntKind.u64.wrap a=a:=wrap_eq (k:=.u64) ⟨h,k⟩
theorem i64_u64 {n:Int} (h:-9223372036854775808≤n∧n≤9223372036854775807) {m:Int} (e:∃ k:Int,m=n+k*18446744073709551616):IntKind.i64.wrap (IntKind.u64.wrap m)=n:=by
 obtain ⟨k,rfl⟩:=e
 rw [IntKind.wrap_u64]
 have:IntKind.i64.wrap ((n+k*18446744073709551616) % 18446744073709551616)=n:=by
  rw [IntKind.wrap_i64]
  omega
 exact this
def fmul64_s (mlH:Int->Int->Int) (mlL:Int->Int->Int):Sp
 | [.int .u64 x,.int .u64 y]=>some (True,.tup [.int .u64 (mlH x y),.int .u64 (mlL x y)])
 | _=>none
abbrev fmul64_1 (x:Int) (y:Int):=(IntKind.u64.wrap (x / (4294967296:Int)*bits BinOp.and IntKind.u64 y 4294967295)+IntKind.u64.wrap (bits BinOp.and IntKind.u64 x 4294967295*bits BinOp.and IntKind.u64 y 4294967295) / (4294967296:Int))
def fmul64_T (mlH:Int->Int->Int) (mlL:Int->Int->Int):Prop :=
 ∀ (gl:Glob) (x y:Int),0≤x∧x≤(18446744073709551615:Int)->0≤y∧y≤(18446744073709551615:Int)->IntKind.u64.wrap (IntKind.u64.wrap (IntKind.u64.wrap (x / (4294967296:Int)*(y / (4294967296:Int)))+IntKind.u64.wrap (fmul64_1 x y) / (4294967296:Int))+IntKind.u64.wrap (bits BinOp.and IntKind.u64 (IntKind.u64.wrap (fmul64_1 x y)) 4294967295+IntKind.u64.wrap (bits BinOp.and IntKind.u64 x 4294967295*(y / (4294967296:Int)))) / (4294967296:Int))=mlH x y∧IntKind.u64.wrap (x*y)=mlL x y∧True
theorem fmul64_P:fmul64_T mlH mlL:=by
 unfold fmul64_T
 delta fmul64_1
 intro gl x y hx hy
 rw [and32 hx,and32 hy,and32 (wrap_rng .u64 _)]
 simp only [IntKind.wrap_u64]
 exact ⟨mul_u64 hx hy,rfl,trivial⟩
theorem fmul64_e (mlH:Int->Int->Int) (mlL:Int->Int->Int):fmul64_T mlH mlL=(∀ (gl:Glob) (x y:Int),fnK Tryz.prog { glob:=gl,spec:=lk [],specH:=lk [],nowf:=true } { nt:=51,drop:=drp [(1,49152),(2,196608),(3,786432),(4,3145728),(5,29360128),(6,2113929216),(7,6442450944),(8,25769803776),(9,1065151889408),(10,280375465082880),(11,1970324836974592)] } (λ _ _=>none) 6 Tryz.f185 [.int .u64 x,.int .u64 y] (.tup [.int .u64 (mlH x y),.int .u64 (mlL x y)])):=by kernel_rfl
def fmul64_v:=Eq.mp (fmul64_e ..) (fmul64_P)
theorem fmul64_ok (gl:Glob):SOK Tryz.prog gl 185 (fmul64_s mlH mlL):=by
 refine ⟨fok Tryz.func185 (by kernel_rfl) (by kernel_rfl),?_⟩
 intro xs pre r h hp
 unfold fmul64_s at h
 split at h
 ·cases h
  exact fnK_sound tyNil (by exact specOK rfl rfl trivial trivial) (by kernel_rfl) Tryz.func185 rfl (fmul64_v gl _ _)
 ·cases h
def pprod_s:Sp
 | [.int .i64 a,.int .i64 b]=>some (True,.agg [.int .i64 (mlH a b),.int .u64 (mlL a b)])
 | _=>none
def pprod_T:Prop :=
 ∀ (gl:Glob) (a b:Int),IR9 a->IR9 b->True∧bif decide (a < (0:Int)) then bif decide (b < (0:Int)) then IntKind.i64.wrap (IntKind.u64.wrap (IntKind.u64.wrap (mlH (IntKind.u64.wrap a) (IntKind.u64.wrap b) - IntKind.u64.wrap b) - IntKind.u64.wrap a))=mlH a b∧mlL (IntKind.u64.wrap a) (IntKind.u64.wrap b)=mlL a b∧True else IntKind.i64.wrap (IntKind.u64.wrap (mlH (IntKind.u64.wrap a) (IntKind.u64.wrap b) - IntKind.u64.wrap b))=mlH a b∧mlL (IntKind.u64.wrap a) (IntKind.u64.wrap b)=mlL a b∧True else bif decide (b < (0:Int)) then IntKind.i64.wrap (IntKind.u64.wrap (mlH (IntKind.u64.wrap a) (IntKind.u64.wrap b) - IntKind.u64.wrap a))=mlH a b∧mlL (IntKind.u64.wrap a) (IntKind.u64.wrap b)=mlL a b∧True else IntKind.i64.wrap (mlH (IntKind.u64.wrap a) (IntKind.u64.wrap b))=mlH a b∧mlL (IntKind.u64.wrap a) (IntKind.u64.wrap b)=mlL a b∧True
theorem pprod_P:pprod_T:=by
 unfold pprod_T
 intro gl a b ha hb
 have hP:=mul_bd63 ha hb
 have hR:-9223372036854775808≤mlH a b∧mlH a b≤9223372036854775807:=by unfold mlH; omega
 refine ⟨trivial,cs (λ h1=>cs (λ h2=>?_) (λ h2=>?_)) (λ h1=>cs (λ h2=>?_) (λ h2=>?_))⟩
 ·rw [u64_neg ha.1 h1,u64_neg hb.1 h2]
  have e:(a+18446744073709551616)*(b+18446744073709551616)=a*b+(a+b+18446744073709551616)*18446744073709551616:=by rw [Int.add_mul,Int.mul_add,Int.mul_add]; omega
  have e1:mlH (a+18446744073709551616) (b+18446744073709551616)=mlH a b+(a+b+18446744073709551616):=by unfold mlH; rw [e]; omega
  have e2:mlL (a+18446744073709551616) (b+18446744073709551616)=mlL a b:=by unfold mlL; rw [e]; omega
  rw [e1,e2]
  refine ⟨i64_u64 hR ?_,rfl,trivial⟩
  rw [IntKind.wrap_u64]
  generalize mlH a b=m at *
  exact ⟨((m+(a+b+18446744073709551616) - (b+18446744073709551616)) % 18446744073709551616 - (a+18446744073709551616) - m) / 18446744073709551616,by omega⟩
 ·rw [u64_neg ha.1 h1,u64_pos (a:=b) (by omega) (by omega)]
  have e:(a+18446744073709551616)*b=a*b+b*18446744073709551616:=by rw [Int.add_mul]; omega
  have e1:mlH (a+18446744073709551616) b=mlH a b+b:=by unfold mlH; rw [e]; omega
  have e2:mlL (a+18446744073709551616) b=mlL a b:=by unfold mlL; rw [e]; omega
  rw [e1,e2]
  exact ⟨i64_u64 hR ⟨0,by omega⟩,rfl,trivial⟩
 ·rw [u64_neg hb.1 h2,u64_pos (a:=a) (by omega) (by omega)]
  have e:a*(b+18446744073709551616)=a*b+a*18446744073709551616:=by rw [Int.mul_add]
  have e1:mlH a (b+18446744073709551616)=mlH a b+a:=by unfold mlH; rw [e]; omega
  have e2:mlL a (b+18446744073709551616)=mlL a b:=by unfold mlL; rw [e]; omega
  rw [e1,e2]
  exact ⟨i64_u64 hR ⟨0,by omega⟩,rfl,trivial⟩
 ·rw [u64_pos (a:=b) (by omega) (by omega),u64_pos (a:=a) (by omega) (by omega)]
  exact ⟨wrap_eq (k:=.i64) hR,rfl,trivial⟩
theorem pprod_e:pprod_T=(∀ (gl:Glob) (a b:Int),fnK Tryz.prog { glob:=gl,spec:=lk [(185,(fmul64_s Go.Proofs.YtgbbmadjdaphnaaGreatDoor.mlH Go.Proofs.YtgbbmadjdaphnaaGreatDoor.mlL))],specH:=lk [],nowf:=true } { nt:=31,drop:=drp [(1,32640),(2,32768),(3,1966080),(4,2097152),(5,125829120),(6,2013265920)] } (λ _ _=>none) 6 Tryz.f149 [.int .i64 a,.int .i64 b] (.agg [.int .i64 (mlH a b),.int .u64 (mlL a b)])):=by kernel_rfl
def pprod_v:=Eq.mp (pprod_e ..) (pprod_P)
theorem pprod_ok (gl:Glob):SOK Tryz.prog gl 149 pprod_s:=by
 refine ⟨fok Tryz.func149 (by kernel_rfl) (by kernel_rfl),?_⟩
 intro xs pre r h hp
 unfold pprod_s at h
 split at h
 ·cases h
  exact fnK_sound tyNil (by exact specOK rfl rfl ⟨(fmul64_ok gl),trivial⟩ trivial) (by kernel_rfl) Tryz.func149 rfl (pprod_v gl _ _)
 ·cases h
def wH (z:Int):Int:=z / 18446744073709551616
def wL (z:Int):Int:=z % 18446744073709551616
theorem w_eq (z:Int):wH z*18446744073709551616+wL z=z:=by unfold wH wL; omega
def adZ (a b c d:Int):Int:=(a+c)*18446744073709551616+(b+d)
structure AdP (a c:Int):Prop where
 a1:-4611686018427387900≤a
 a2:a≤4611686018427387900
 c1:-4611686018427387900≤c
 c2:c≤4611686018427387900
def padd_s (wH:Int->Int) (wL:Int->Int) (adZ:Int->Int->Int->Int->Int):Sp
 | [.agg [.int .i64 a,.int .u64 b],.agg [.int .i64 c,.int .u64 d]]=>some (AdP a c,.agg [.int .i64 (wH (adZ a b c d)),.int .u64 (wL (adZ a b c d))])
 | _=>none
def padd_T (wH:Int->Int) (wL:Int->Int) (adZ:Int->Int->Int->Int->Int):Prop :=
 ∀ (gl:Glob) (a b c d:Int),AdP a c->(IR9 a)∧(0≤b∧b≤(18446744073709551615:Int))∧True->(IR9 c)∧(0≤d∧d≤(18446744073709551615:Int))∧True->bif decide (rng IntKind.i64 (a+c)) then bif decide (rng IntKind.i64 (a+c+IntKind.i64.wrap ((b+d+(0:Int)) / (18446744073709551616:Int)))) then a+c+IntKind.i64.wrap ((b+d+(0:Int)) / (18446744073709551616:Int))=wH (adZ a b c d)∧(b+d+(0:Int)) % (18446744073709551616:Int)=wL (adZ a b c d)∧True else False else False
theorem padd_P:padd_T wH wL adZ:=by
 unfold padd_T
 intro gl a b c d hP h1 h2
 have:=hP.a1
 have:=hP.a2
 have:=hP.c1
 have:=hP.c2
 have e:IntKind.i64.wrap ((b+d+0) / 18446744073709551616)=(b+d+0) / 18446744073709551616:=wrap_eq (k:=.i64) ⟨by omega,by omega⟩
 rw [e]
 exact cdI (by omega) (cdI (by omega) ⟨by unfold wH adZ; omega,by unfold wL adZ; omega,trivial⟩)
theorem padd_e (wH:Int->Int) (wL:Int->Int) (adZ:Int->Int->Int->Int->Int):padd_T wH wL adZ=(∀ (gl:Glob) (a b c d:Int),AdP a c->fnK Tryz.prog { glob:=gl,spec:=lk [],specH:=lk [],nowf:=true,add64:=some 111 } { nt:=25,drop:=drp [(1,32640),(2,33521664)] } (λ _ _=>none) 6 Tryz.f64 [.agg [.int .i64 a,.int .u64 b],.agg [.int .i64 c,.int .u64 d]] (.agg [.int .i64 (wH (adZ a b c d)),.int .u64 (wL (adZ a b c d))])):=by kernel_rfl
def padd_v:=Eq.mp (padd_e ..) (padd_P)
theorem padd_ok (gl:Glob):SOK Tryz.prog gl 64 (padd_s wH wL adZ):=by
 refine ⟨fok Tryz.func64 (by kernel_rfl) (by kernel_rfl),?_⟩
 intro xs pre r h hp
 unfold padd_s at h
 split at h
 ·cases h
  exact fnK_sound tyNil (by exact specOK rfl rfl trivial trivial (xokOf Tryz.func111 (by kernel_rfl) (by kernel_rfl) (by kernel_rfl) (by kernel_rfl))) (by kernel_rfl) Tryz.func64 rfl (padd_v gl _ _ _ _ hp)
 ·cases h
def ptot1_s (wH:Int->Int) (wL:Int->Int) (adZ:Int->Int->Int->Int->Int) (mlH:Int->Int->Int) (mlL:Int->Int->Int):SpH
 | [.int .i64 a,.int .i64 b,.ptr 0 0],[.cells [.int .i64 h,.int .u64 l]]=>some (AdP h (wH (a*b)),.agg [.int .i64 (wH (h*18446744073709551616+l+a*b)),.int .u64 (wL (h*18446744073709551616+l+a*b))],[.cells [.int .i64 (wH (h*18446744073709551616+l+a*b)),.int .u64 (wL (h*18446744073709551616+l+a*b))]])
 | _,_=>none
abbrev ptot1_1 (wH:Int->Int) (adZ:Int->Int->Int->Int->Int) (h:Int) (l:Int) (a:Int) (b:Int) (wL:Int->Int):=(wH (adZ h l (YtgbbmadjdaphnaaGreatDoor.mlH a b) (YtgbbmadjdaphnaaGreatDoor.mlL a b))=wH (h*(18446744073709551616:Int)+l+a*b)∧wL (adZ h l (YtgbbmadjdaphnaaGreatDoor.mlH a b) (YtgbbmadjdaphnaaGreatDoor.mlL a b))=wL (h*(18446744073709551616:Int)+l+a*b)∧True)
def ptot1_T (wH:Int->Int) (wL:Int->Int) (adZ:Int->Int->Int->Int->Int) (mlH:Int->Int->Int) (mlL:Int->Int->Int):Prop :=
 ∀ (gl:Glob) (a b h l:Int),AdP h (wH (a*b))->IR9 a->IR9 b->True->IR9 h->0≤l∧l≤(18446744073709551615:Int)->True∧AdP h (YtgbbmadjdaphnaaGreatDoor.mlH a b)∧(ptot1_1 wH adZ h l a b wL)∧(ptot1_1 wH adZ h l a b wL)∧True
theorem ptot1_P:ptot1_T wH wL adZ mlH mlL:=by
 unfold ptot1_T
 delta ptot1_1
 intro gl a b h l hP
 intros
 have e:adZ h l (mlH a b) (mlL a b)=h*18446744073709551616+l+a*b:=by unfold adZ mlH mlL; omega
 rw [e]
 exact ⟨trivial,hP,by repeat' first|exact trivial|exact rfl|assumption|apply And.intro⟩
theorem ptot1_e (wH:Int->Int) (wL:Int->Int) (adZ:Int->Int->Int->Int->Int) (mlH:Int->Int->Int) (mlL:Int->Int->Int):ptot1_T wH wL adZ mlH mlL=(∀ (gl:Glob) (a b h l:Int),AdP h (wH (a*b))->fnH Tryz.prog { glob:=gl,spec:=lk [(149,pprod_s),(64,(padd_s wH wL adZ))],specH:=lk [],nowf:=true } { nt:=12,drop:=drp [(1,1984),(2,2048)],fr:=1000,kp:=[0] } (λ _ _=>none) 6 Tryz.f148 [.int .i64 a,.int .i64 b,.ptr 0 0] [.cells [.int .i64 h,.int .u64 l]] (.agg [.int .i64 (wH (h*18446744073709551616+l+a*b)),.int .u64 (wL (h*18446744073709551616+l+a*b))]) [.cells [.int .i64 (wH (h*18446744073709551616+l+a*b)),.int .u64 (wL (h*18446744073709551616+l+a*b))]]):=by kernel_rfl
def ptot1_v:=Eq.mp (ptot1_e ..) (ptot1_P)
theorem ptot1_ok (gl:Glob):HOK Tryz.prog gl 148 (ptot1_s wH wL adZ mlH mlL):=by
 refine ⟨fok Tryz.func148 (by kernel_rfl) (by kernel_rfl),?_⟩
 intro xs bs pre r bs2 h hp
 unfold ptot1_s at h
 split at h
 ·cases h
  exact fnH_sound tyNil (by exact specOK rfl rfl ⟨(pprod_ok gl),(padd_ok gl),trivial⟩ trivial) (by kernel_rfl) Tryz.func148 (ptot1_v gl _ _ _ _ hp)
 ·cases h
def ptot_s:SpH
 | [],[]=>some (True,.fn 148 [.ptr 0 0],[.cells [.int .i64 0,.int .u64 0]])
 | _,_=>none
def ptot_T:Prop :=
 ∀ (gl:Glob),((0:Nat)=(0:Nat)∧True)∧((0:Int)=(0:Int)∧(0:Int)=(0:Int)∧True)∧True
theorem ptot_P:ptot_T:=by
 unfold ptot_T
 intro gl
 (repeat' (first | exact trivial | exact rfl | assumption | apply And.intro))
theorem ptot_e:ptot_T=(∀ (gl:Glob),fnH Tryz.prog { glob:=gl,spec:=lk [],specH:=lk [] } { nt:=3,drop:=drp [(2,4)],fr:=1000,kp:=[] } (λ _ _=>none) 6 Tryz.f110 [] [] (.fn 148 [.ptr 0 0]) [.cells [.int .i64 0,.int .u64 0]]):=by kernel_rfl
def ptot_v:=Eq.mp (ptot_e ..) (ptot_P)
theorem ptot_ok (gl:Glob):HOK Tryz.prog gl 110 ptot_s:=by
 refine ⟨fok Tryz.func110 (by kernel_rfl) (by kernel_rfl),?_⟩
 intro xs bs pre r bs2 h hp
 unfold ptot_s at h
 split at h
 ·cases h
  exact fnH_sound tyNil (by exact specOK rfl rfl trivial trivial) (by kernel_rfl) Tryz.func110 (ptot_v gl )
 ·cases h
def dotN (xs ys:List Int):Nat->Int
 | 0=>0
 | k+1=>dotN xs ys k+xs.getD k 0*ys.getD k 0
def dotZ (xs ys:List Int):Int:=dotN xs ys xs.length
structure DotP (xs ys:LL):Prop where
 xe:xs=intsL (ungI xs)
 ye:ys=intsL (ungI ys)
 le:xs.length=ys.length
 ll:xs.length≤2000
 xb:∀ z ∈ ungI xs,-72057594037927936≤z∧z≤72057594037927936
 yb:∀ z ∈ ungI ys,-72057594037927936≤z∧z≤72057594037927936
structure DoP (n:Nat) (k:Int):Prop where
 lo:0≤k
 hi:k≤n
theorem mul56 {a b:Int} (ha:-72057594037927936≤a∧a≤72057594037927936) (hb:-72057594037927936≤b∧b≤72057594037927936):-5192296858534827628530496329220096≤a*b∧a*b≤5192296858534827628530496329220096:=by
 have h:(a*b).natAbs≤72057594037927936*72057594037927936:=by
  rw [Int.natAbs_mul]
  exact Nat.mul_le_mul (show a.natAbs≤72057594037927936 by omega) (show b.natAbs≤72057594037927936 by omega)
 omega
theorem getD_bd {l:List Int} {B:Int} (hB:0≤B) (h:∀ z ∈ l,-B≤z∧z≤B) (k:Nat):-B≤l.getD k 0∧l.getD k 0≤B:=by
 by_cases q:k < l.length
 ·exact h _ (by rw [List.getD_eq_getElem?_getD,List.getElem?_eq_getElem q]; exact List.getElem_mem q)
 ·rw [List.getD_eq_getElem?_getD,List.getElem?_eq_none (by omega)]
  simp only [Option.getD_none]; omega
theorem dot_bd {xs ys:List Int} (hx:∀ z ∈ xs,-72057594037927936≤z∧z≤72057594037927936) (hy:∀ z ∈ ys,-72057594037927936≤z∧z≤72057594037927936):∀ k:Nat,-(k*5192296858534827628530496329220096:Int)≤dotN xs ys k∧dotN xs ys k≤k*5192296858534827628530496329220096
 | 0=>by simp [dotN]
 | k+1=>by
  have:=dot_bd hx hy k
  have:=mul56 (getD_bd (by decide) hx k) (getD_bd (by decide) hy k)
  rw [dotN]
  generalize xs.getD k 0*ys.getD k 0=p at *
  omega
def wide (z:Int):List AV:=[.int .i64 (wH z),.int .u64 (wL z)]
def doI (f g:Bool) (xs ys:List Int):LInv:=⟨Int,λ k=>⟨[(0,.sl 1 f (intsL xs)),(1,.sl 1 g (intsL ys)),(4,.ptr 4 0),(6,.fn 148 [.ptr 15 0]),(7,.ptr 7 0),(19,.int .i64 xs.length),(20,.int .i64 k)],[(4,.cells [.int .i64 0,.int .u64 0]),(7,.cells [.int .i64 (wH (dotN xs ys k.toNat)),.int .u64 (wL (dotN xs ys k.toNat))]),(15,.cells [.int .i64 (wH (dotN xs ys k.toNat)),.int .u64 (wL (dotN xs ys k.toNat))])]⟩,DoP xs.length,λ k=>(xs.length - k).toNat,none⟩
def pdot_s (wH:Int->Int) (wL:Int->Int):Sp
 | [.sl 1 f xs,.sl 1 g ys]=>some (DotP xs ys,.tup [.agg [.int .i64 (wH (dotZ (ungI xs) (ungI ys))),.int .u64 (wL (dotZ (ungI xs) (ungI ys)))],.int .i64 0])
 | _=>none
abbrev pdot_1 (xs:LL) (ys:LL) (x1:Int):=(dotN (ungI xs) (ungI ys) x1.toNat)
def pdot_T (wH:Int->Int) (wL:Int->Int) (adZ:Int->Int->Int->Int->Int) (mlH:Int->Int->Int) (mlL:Int->Int->Int):Prop :=
 ∀ (gl:Glob) (f g:Bool) (xs ys:LL),DotP xs ys->True->True->bif decide ¬(↑xs.length:Int)=(↑ys.length:Int) then ((0:Int)=wH (dotZ (ungI xs) (ungI ys))∧(0:Int)=wL (dotZ (ungI xs) (ungI ys))∧True)∧(1:Int)=(0:Int)∧True else True∧AdP 0 (wH 0)∧(∃ x,DoP (ungI xs).length x∧(((bif f then f=true else True)∧xs=intsL (ungI xs))∧((bif g then g=true else True)∧ys=intsL (ungI ys))∧(0:Nat)=(0:Nat)∧((0:Nat)=(0:Nat)∧True)∧(0:Nat)=(0:Nat)∧(↑xs.length:Int)=(↑(ungI xs).length:Int)∧(0:Int)=x∧True)∧((0:Int)=(0:Int)∧(0:Int)=(0:Int)∧True)∧(wH 0=YtgbbmadjdaphnaaGreatDoor.wH (dotN (ungI xs) (ungI ys) (Int.toNat x))∧wL 0=YtgbbmadjdaphnaaGreatDoor.wL (dotN (ungI xs) (ungI ys) (Int.toNat x))∧True)∧(wH 0=YtgbbmadjdaphnaaGreatDoor.wH (dotN (ungI xs) (ungI ys) (Int.toNat x))∧wL 0=YtgbbmadjdaphnaaGreatDoor.wL (dotN (ungI xs) (ungI ys) (Int.toNat x))∧True)∧True)∧∀ (x1:Int),DoP (ungI xs).length x1->bif decide (x1 < (↑(ungI xs).length:Int)) then bif decide (0≤x1∧x1 < (↑(intsL (ungI xs)).length:Int)) then ∃ n,List.take [I6 n].length ((intsL (ungI xs)).getD x1.toNat [])=[I6 n]∧bif decide (0≤x1∧x1 < (↑(intsL (ungI ys)).length:Int)) then ∃ n_1,List.take [I6 n_1].length ((intsL (ungI ys)).getD x1.toNat [])=[I6 n_1]∧AdP (YtgbbmadjdaphnaaGreatDoor.wH (pdot_1 xs ys x1)) (wH (n*n_1))∧bif decide (rng IntKind.i64 (x1+(1:Int))) then ∃ y,DoP (ungI xs).length y∧(doI f g (ungI xs) (ungI ys)).m y < (doI f g (ungI xs) (ungI ys)).m x1∧(((bif f then f=true else True)∧intsL (ungI xs)=intsL (ungI xs))∧((bif g then g=true else True)∧intsL (ungI ys)=intsL (ungI ys))∧(0:Nat)=(0:Nat)∧((0:Nat)=(0:Nat)∧True)∧(0:Nat)=(0:Nat)∧(↑(ungI xs).length:Int)=(↑(ungI xs).length:Int)∧x1+(1:Int)=y∧True)∧((0:Int)=(0:Int)∧(0:Int)=(0:Int)∧True)∧(wH (YtgbbmadjdaphnaaGreatDoor.wH (pdot_1 xs ys x1)*(18446744073709551616:Int)+YtgbbmadjdaphnaaGreatDoor.wL (pdot_1 xs ys x1)+n*n_1)=YtgbbmadjdaphnaaGreatDoor.wH (dotN (ungI xs) (ungI ys) (Int.toNat y))∧wL (YtgbbmadjdaphnaaGreatDoor.wH (pdot_1 xs ys x1)*(18446744073709551616:Int)+YtgbbmadjdaphnaaGreatDoor.wL (pdot_1 xs ys x1)+n*n_1)=YtgbbmadjdaphnaaGreatDoor.wL (dotN (ungI xs) (ungI ys) (Int.toNat y))∧True)∧(wH (YtgbbmadjdaphnaaGreatDoor.wH (pdot_1 xs ys x1)*(18446744073709551616:Int)+YtgbbmadjdaphnaaGreatDoor.wL (pdot_1 xs ys x1)+n*n_1)=YtgbbmadjdaphnaaGreatDoor.wH (dotN (ungI xs) (ungI ys) (Int.toNat y))∧wL (YtgbbmadjdaphnaaGreatDoor.wH (pdot_1 xs ys x1)*(18446744073709551616:Int)+YtgbbmadjdaphnaaGreatDoor.wL (pdot_1 xs ys x1)+n*n_1)=YtgbbmadjdaphnaaGreatDoor.wL (dotN (ungI xs) (ungI ys) (Int.toNat y))∧True)∧True else False else False else False else (YtgbbmadjdaphnaaGreatDoor.wH (pdot_1 xs ys x1)=wH (dotZ (ungI xs) (ungI ys))∧YtgbbmadjdaphnaaGreatDoor.wL (pdot_1 xs ys x1)=wL (dotZ (ungI xs) (ungI ys))∧True)∧(0:Int)=(0:Int)∧True
theorem pdot_P:pdot_T wH wL adZ mlH mlL:=by
 unfold pdot_T
 delta pdot_1 I6
 intro gl f g xs ys hP
 intros
 have hle:=hP.le
 have hll:=hP.ll
 have hx:=hP.xb
 have hy:=hP.yb
 have xe:=hP.xe
 have ye:=hP.ye
 clear hP
 obtain ⟨zx,hzx⟩:∃ z,z=ungI xs:=⟨_,rfl⟩
 obtain ⟨zy,hzy⟩:∃ z,z=ungI ys:=⟨_,rfl⟩
 rw [← hzx] at xe hx ⊢
 rw [← hzy] at ye hy ⊢
 clear hzx hzy
 subst xe ye
 rw [intsL_len] at hle hll
 rw [intsL_len] at hle
 have gf:cond f (f=true) True:=gg f
 have gg':cond g (g=true) True:=gg g
 refine cd0 (λ h=>h (by rw [intsL_len,intsL_len,hle])) ⟨trivial,⟨by decide,by decide,by decide,by decide⟩,⟨0,⟨Int.le_refl 0,by omega⟩,by rw [intsL_len]; (repeat' (first | exact trivial | exact rfl | assumption | apply And.intro))⟩,?_⟩
 intro k ⟨k0,kl⟩
 rw [intsL_len,intsL_len]
 have hd:=dot_bd hx hy k.toNat
 refine csp (λ h=>?_) (λ h=>?_)
 ·have ex:=at_getD (l:=zx) (i:=k.toNat) (by omega)
  have ey:=at_getD (l:=zy) (i:=k.toNat) (by omega)
  have hm:=mul56 (getD_bd (by decide) hx k.toNat) (getD_bd (by decide) hy k.toNat)
  have es:wH (dotN zx zy k.toNat)*18446744073709551616+wL (dotN zx zy k.toNat)+zx.getD k.toNat 0*zy.getD k.toNat 0=dotN zx zy (k+1).toNat:=by
   rw [w_eq,show (k+1).toNat=k.toNat+1 by omega]; rfl
  refine cd1 ⟨k0,h⟩ ⟨zx.getD k.toNat 0,by rw [intsL_at ex]; rfl,cd1 ⟨k0,by omega⟩ ⟨zy.getD k.toNat 0,by rw [intsL_at ey]; rfl,?_,cdI (by omega) ⟨k+1,⟨by omega,by omega⟩,by simp only [doI]; omega,by rw [es]; (repeat' (first | exact trivial | exact rfl | assumption | apply And.intro))⟩⟩⟩
  have kk:(k.toNat:Int)≤2000:=by omega
  unfold wH
  generalize zx.getD k.toNat 0*zy.getD k.toNat 0=p at *
  generalize dotN zx zy k.toNat=d at *
  generalize k.toNat=q at *
  exact ⟨by omega,by omega,by omega,by omega⟩
 ·have e:dotN zx zy k.toNat=dotZ zx zy:=by unfold dotZ; rw [show k.toNat=zx.length by omega]
  rw [e]
  (repeat' (first | exact trivial | exact rfl | assumption | apply And.intro))
theorem pdot_e (wH:Int->Int) (wL:Int->Int) (adZ:Int->Int->Int->Int->Int) (mlH:Int->Int->Int) (mlL:Int->Int->Int):pdot_T wH wL adZ mlH mlL=(∀ (gl:Glob) (f g:Bool) (xs ys:LL),DotP xs ys->fnK Tryz.prog { glob:=gl,spec:=lk [],specH:=lk [(110,ptot_s),(148,(ptot1_s wH wL adZ mlH mlL))],shape:=[27,31],nowf:=true } { nt:=35,drop:=drp [(1,7680),(2,16384),(3,32768),(4,196608),(5,262144),(7,4194304),(8,8581545984),(9,8589934592),(10,17179869184)] } (invs [(6,doI f g (ungI xs) (ungI ys))]) 6 Tryz.f63 [.sl 1 f xs,.sl 1 g ys] (.tup [.agg [.int .i64 (wH (dotZ (ungI xs) (ungI ys))),.int .u64 (wL (dotZ (ungI xs) (ungI ys)))],.int .i64 0])):=by kernel_rfl
def pdot_v:=Eq.mp (pdot_e ..) (pdot_P)
theorem pdot_ok (gl:Glob):SOK Tryz.prog gl 63 (pdot_s wH wL):=by
 refine ⟨fok Tryz.func63 (by kernel_rfl) (by kernel_rfl),?_⟩
 intro xs pre r h hp
 unfold pdot_s at h
 split at h
 ·cases h
  exact fnK_sound tyNil (by exact specOK rfl rfl trivial ⟨(ptot_ok gl),(ptot1_ok gl),trivial⟩) (by kernel_rfl) Tryz.func63 rfl (pdot_v gl _ _ _ _ hp)
 ·cases h
def wan (s z:Int):Int:=z / 2 ^ min s.toNat 64
def amV (es:LL) (ds fs dg:List Int) (mv:Int) (k:Nat):Int × Int :=
 let a:=(nI (es.getD k []) 0).toNat
 let b:=(nI (es.getD k []) 1).toNat
 let l0:=(ds.getD a 0).tdiv (dg.getD a 0)
 let l1:=(ds.getD b 0).tdiv (dg.getD b 0)
 let w:=wan mv (fs.getD k 0)
 if l0 < w then (l0,1) else if w < -l1 then (-l1,-1) else (w,0)
def amK (es:LL) (ds fs dg:List Int) (mv:Int):Nat->List Int × List Int
 | 0=>([],[])
 | k+1=>((amK es ds fs dg mv k).1++[(amV es ds fs dg mv k).1],(amK es ds fs dg mv k).2++[(amV es ds fs dg mv k).2])
def amZ (n mv:Int) (ds fs:List Int):List Int × List Int:=amK (edgG nrm n) ds fs (degZ n) mv (edgG nrm n).length
theorem edg_mem {nrm:NrT} {n:Int} (h:BldQ nrm n) (r:List AV):r ∈ edgG nrm n↔r ∈ edL (clG nrm n):=by
 have h3:=clG_in h.l2 h.rg
 have p3:=sortR_perm (cf:=cf3) swo3 (λ r hr=>(h3 r hr).ok)
 have h2:∀ q ∈ edL (celG nrm n),InR (ptG nrm n).1.length 2 q:=λ q hq=>by
  simp only [edL,List.mem_flatMap] at hq
  obtain ⟨r,hr,hq⟩:=hq
  exact edR_in h.l2 (h3 r (p3.mem_iff.1 hr)) q hq
 have p2:=sortR_perm (cf:=cf2) swo2 (λ r hr=>(h2 r hr).ok)
 rw [show edgG nrm n=cmpct (sortR 2 cf2 (edL (celG nrm n))) from rfl,cmpct_mem (λ r hr=>(h2 r (p2.mem_iff.1 hr)).ok)]
 rw [p2.mem_iff]
 simp only [edL,List.mem_flatMap]
 exact exists_congr λ c=>and_congr_left λ _=>p3.mem_iff
theorem has_nb {n:Int} (h:GrdP nrm n) {j:Nat} (hj:j < (ptG nrm n).1.length):∃ k:Nat,k < (ptG nrm n).1.length∧(k:Int) ∈ nb (nxtG nrm n) j:=by
 obtain ⟨rk,hc⟩:=h.cn
 have hN:2≤(ptG nrm n).1.length:=by
  have:=h.ln
  have h1:=h.bq.lo
  have h4:=h.bq.hi
  rcases n14 h1 h4 with rfl | rfl | rfl | rfl <;> omega
 rcases Nat.eq_zero_or_pos j with rfl | hp
 ·have key:∀ m k,rk k≤m->1≤k->k < (ptG nrm n).1.length->∃ q:Nat,q < (ptG nrm n).1.length∧((0:Nat):Int) ∈ nb (nxtG nrm n) q:=λ m=>by
   induction m with
   | zero =>
    intro k hm h1 hk
    obtain ⟨q,hq,hr,_⟩:=hc k h1 hk
    omega
   | succ m ih =>
    intro k hm h1 hk
    obtain ⟨q,hq,hr,hmm⟩:=hc k h1 hk
    rcases Nat.eq_zero_or_pos q with rfl | hq0
    ·exact ⟨k,hk,hmm⟩
    ·exact ih q (by omega) hq0 hq
  obtain ⟨q,hq,hm⟩:=key _ 1 (Nat.le_refl _) (Nat.le_refl _) (by omega)
  exact ⟨q,hq,(nb_sym h.bq (by omega) hq).2 hm⟩
 ·obtain ⟨k,hk,_,hm⟩:=hc j hp hj
  exact ⟨k,hk,hm⟩
theorem has_edge {n:Int} (h:GrdP nrm n) {j:Nat} (hj:j < ndN n):∃ i:Nat,i < (edgG nrm n).length∧((nI ((edgG nrm n).getD i []) 0).toNat=j∨(nI ((edgG nrm n).getD i []) 1).toNat=j):=by
 have hl:=h.ln
 have hj':j < (ptG nrm n).1.length:=by unfold ndN at hj; omega
 obtain ⟨k,hk,hm⟩:=has_nb h hj'
 rcases (nb_mem h.bq hj' k).1 hm with q | q
 ·obtain ⟨i,hi,e⟩:=List.getElem_of_mem ((edg_mem h.bq _).2 q)
  refine ⟨i,hi,.inl ?_⟩
  rw [List.getD_eq_getElem?_getD,List.getElem?_eq_getElem hi,Option.getD_some,e]; rfl
 ·obtain ⟨i,hi,e⟩:=List.getElem_of_mem ((edg_mem h.bq _).2 q)
  refine ⟨i,hi,.inr ?_⟩
  rw [List.getD_eq_getElem?_getD,List.getElem?_eq_getElem hi,Option.getD_some,e]; rfl
theorem set_up {l:List Int} {i j:Nat}:l.getD j 0≤(l.set i (l.getD i 0+1)).getD j 0∧(i=j->i < l.length->l.getD j 0+1≤(l.set i (l.getD i 0+1)).getD j 0):=by
 rw [List.getD_eq_getElem?_getD (l:=l.set i (l.getD i 0+1)),List.getElem?_set]
 by_cases e:i=j
 ·subst e
  rw [if_pos rfl]
  by_cases h:i < l.length
  ·rw [if_pos h,Option.getD_some]; exact ⟨by omega,λ _ _=>by omega⟩
  ·rw [if_neg h,List.getD_eq_getElem?_getD,List.getElem?_eq_none (by omega)]; exact ⟨Int.le_refl _,λ _ q=>absurd q h⟩
 ·rw [if_neg e,← List.getD_eq_getElem?_getD]; exact ⟨Int.le_refl _,λ q=>absurd q e⟩
theorem degS_up (ds:List Int) (r:List AV) (j:Nat):ds.getD j 0≤(degS ds r).getD j 0∧((nI r 0).toNat=j∨(nI r 1).toNat=j->j < ds.length->ds.getD j 0+1≤(degS ds r).getD j 0):=by
 have a:=set_up (l:=ds) (i:=(nI r 0).toNat) (j:=j)
 have b:=set_up (l:=ds.set (nI r 0).toNat (ds.getD (nI r 0).toNat 0+1)) (i:=(nI r 1).toNat) (j:=j)
 rw [List.length_set] at b
 show _≤List.getD (List.set _ _ _) j 0∧(_->_->_≤List.getD (List.set _ _ _) j 0)
 refine ⟨Int.le_trans a.1 b.1,λ h hl=>?_⟩
 rcases h with h | h
 ·exact Int.le_trans (a.2 h (by omega)) b.1
 ·have:=b.2 h (by omega); omega
theorem degK_up (es:LL) (N:Nat) (j:Nat):∀ m k,(degK es N k).getD j 0≤(degK es N (k+m)).getD j 0
 | 0,k=>Int.le_refl _
 | m+1,k=>Int.le_trans (degK_up es N j m k) (degS_up _ _ _).1
theorem deg_pos {n:Int} (h:GrdP nrm n) {j:Nat} (hj:j < ndN n):1≤(degZ n).getD j 0:=by
 obtain ⟨i,hi,he⟩:=has_edge h hj
 have h1:=(degS_up (degK (edgG nrm n) (ndN n) i) ((edgG nrm n).getD i []) j).2 he (by rw [degK_len]; exact hj)
 have h0:=(degK_bd (edgG nrm n) (ndN n) i j).1
 have h2:=degK_up (edgG nrm n) (ndN n) j ((edgG nrm n).length - (i+1)) (i+1)
 rw [show i+1+((edgG nrm n).length - (i+1))=(edgG nrm n).length by omega] at h2
 have e:degK (edgG nrm n) (ndN n) (i+1)=degS (degK (edgG nrm n) (ndN n) i) ((edgG nrm n).getD i []):=rfl
 rw [e] at h2
 unfold degZ
 omega
theorem degZ_len (n:Int):(degZ n).length=ndN n:=degK_len _ _ _
theorem amK_len (es:LL) (ds fs dg:List Int) (mv:Int):∀ k,(amK es ds fs dg mv k).1.length=k∧(amK es ds fs dg mv k).2.length=k
 | 0=>⟨rfl,rfl⟩
 | k+1=>by
  have:=amK_len es ds fs dg mv k
  simp only [amK,List.length_append,List.length_singleton]
  omega
theorem sch_b {a b c:Int} (h:schE a b c=0):(1≤a∧a≤4)∧(1≤b∧b≤4)∧1≤c∧c≤4:=by
 unfold schE at h
 split at h
 ·cases h
 ·rename_i q
  have q:outB 1 4 [a,b,c]=false:=by simpa using q
  have:=outB_in q
  exact ⟨this a (by simp),this b (by simp),this c (by simp)⟩
theorem tdiv_b {x y:Int} (h0:0≤x) (h:x≤16777216) (hy:1≤y):0≤x.tdiv y∧x.tdiv y≤16777216:=by
 rw [Int.tdiv_eq_ediv_of_nonneg h0]
 refine ⟨Int.ediv_nonneg h0 (by omega),Int.le_trans (Int.ediv_le_self y h0) h⟩
theorem wan_b {s z:Int} (hs:1≤s∧s≤4) (hz:-16777216≤z∧z≤16777216):-16777216≤wan s z∧wan s z≤16777216:=by
 unfold wan
 rcases (by omega:s=1∨s=2∨s=3∨s=4) with rfl | rfl | rfl | rfl
 ·rw [show ((2:Int) ^ min (Int.toNat 1) 64)=2 from rfl]; omega
 ·rw [show ((2:Int) ^ min (Int.toNat 2) 64)=4 from rfl]; omega
 ·rw [show ((2:Int) ^ min (Int.toNat 3) 64)=8 from rfl]; omega
 ·rw [show ((2:Int) ^ min (Int.toNat 4) 64)=16 from rfl]; omega
structure AmoP (n a b c:Int) (ds fs:LL):Prop where
 v:VStP n ds fs
 sc:schE a b c=0
def amL (n a b c:Int) (g h:Bool) (ds fs:LL):RL:=RLe n [(2,.ptr 2 0),(3,.ptr 3 0),(9,.ptr 9 0),(11,.ptr 11 0),(12,.ptr 12 0)] (λ k=>[(2,.cells [.int .i64 a,.int .i64 b,.int .i64 c]),(3,.cells [.int .i64 n,.sl 1 g ds,.sl 1 h fs]),(9,.cells [.sl 1 false (intsL (degZ n))]),(11,.cells [.rw 1100 1 (amK (edgG nrm n) (ungI ds) (ungI fs) (degZ n) c k).1.length]),(12,.cells [.rw 1200 1 (amK (edgG nrm n) (ungI ds) (ungI fs) (degZ n) c k).2.length]),(1100,.row 3 1 (intsL (amK (edgG nrm n) (ungI ds) (ungI fs) (degZ n) c k).1)),(1200,.row 3 1 (intsL (amK (edgG nrm n) (ungI ds) (ungI fs) (degZ n) c k).2))]) 38 [2,3,9,11,12]
def famt_s:Sp
 | [.agg [.int .i64 a,.int .i64 b,.int .i64 c],.agg [.int .i64 n,.sl 1 g ds,.sl 1 h fs]]=>some (AmoP n a b c ds fs,.tup [.sl 1 false (intsL (amZ n c (ungI ds) (ungI fs)).1),.sl 1 false (intsL (amZ n c (ungI ds) (ungI fs)).2),.int .i64 0])
 | _=>none
abbrev famt_1 (n:Int) (ds:LL) (fs:LL) (c:Int) (k7:Nat):=(amK (edgG YtgbbmadjdaphnaaGreatDoor.nrm n) (ungI ds) (ungI fs) (degZ n) c k7)
abbrev famt_2 (n:Int):=(edgG YtgbbmadjdaphnaaGreatDoor.nrm n)
abbrev famt_3 (n:Int) (ds:LL) (fs:LL) (c:Int) (k7:Nat):=(amK (famt_2 n) (ungI ds) (ungI fs) (degZ n) c (k7+(1:Nat)))
abbrev famt_4 (n:Int) (ds:LL) (fs:LL) (c:Int) (k7:Nat):=((famt_1 n ds fs c k7).2.length=(intsL (famt_1 n ds fs c k7).2).length∧(intsL (famt_1 n ds fs c k7).2).length+(1:Nat)≤(9223372036854775807:Nat)∧((intsL (famt_1 n ds fs c k7).2).length+(1:Nat))*(8:Nat)≤(140737488355328:Nat))
abbrev famt_5 (n:Int) (g:Bool) (ds:LL) (h:Bool) (fs:LL):=(n=n∧((bif g then g=true else True)∧ds=ds)∧((bif h then h=true else True)∧fs=fs)∧True)
abbrev famt_6 (n:Int) (ds:LL) (fs:LL) (c:Int) (a:Int) (b:Int) (g:Bool) (h:Bool):=(amK (famt_2 n) (ungI ds) (ungI fs) (degZ n) c (amL n a b c g h ds fs).N)
abbrev famt_7 (n:Int):=((True∧intsL (degZ n)=intsL (degZ n))∧True)
def famt_T (outB:Int->Int->List Int->Bool) (schE:Int->Int->Int->Int) (nrm:NrT) (staE:Int->List Int->List Int->Int):Prop :=
 ∀ (n a b c:Int) (g h:Bool) (ds fs:LL),AmoP n a b c ds fs->True∧bif decide ¬schE a b c=(0:Int) then intsL (amZ n c (ungI ds) (ungI fs)).1=[]∧intsL (amZ n c (ungI ds) (ungI fs)).2=[]∧schE a b c=(0:Int)∧True else StaP n ds fs∧bif decide ¬staE n (ungI ds) (ungI fs)=(0:Int) then intsL (amZ n c (ungI ds) (ungI fs)).1=[]∧intsL (amZ n c (ungI ds) (ungI fs)).2=[]∧staE n (ungI ds) (ungI fs)=(0:Int)∧True else GrdP YtgbbmadjdaphnaaGreatDoor.nrm n∧True∧ItOK (amL n a b c g h ds fs).gf (amL n a b c g h ds fs).c (amL n a b c g h ds fs).N (amL n a b c g h ds fs).x0 (amL n a b c g h ds fs).x1∧((((0:Nat)=(0:Nat)∧True)∧(0:Nat)=(0:Nat)∧(0:Nat)=(0:Nat)∧(0:Nat)=(0:Nat)∧(0:Nat)=(0:Nat)∧(0:Nat)=(0:Nat)∧True)∧(n=n∧True)∧(a=a∧b=b∧c=c∧True)∧(famt_5 n g ds h fs)∧(famt_7 n)∧((0:Nat)=(amK (famt_2 n) (ungI ds) (ungI fs) (degZ n) c 0).1.length∧True)∧((0:Nat)=(amK (famt_2 n) (ungI ds) (ungI fs) (degZ n) c 0).2.length∧True)∧[]=intsL (amK (famt_2 n) (ungI ds) (ungI fs) (degZ n) c 0).1∧[]=intsL (amK (famt_2 n) (ungI ds) (ungI fs) (degZ n) c 0).2∧True)∧((∀ (k1:Nat),nn k1 (AV.ptr 2 0)=false->inL k1 (amL n a b c g h ds fs).kp=true)∧(∀ (k2:Nat),nn k2 (AV.ptr 3 0)=false->inL k2 (amL n a b c g h ds fs).kp=true)∧(∀ (k3:Nat),nn k3 (AV.ptr 9 0)=false->inL k3 (amL n a b c g h ds fs).kp=true)∧(∀ (k4:Nat),nn k4 (AV.ptr 11 0)=false->inL k4 (amL n a b c g h ds fs).kp=true)∧(∀ (k5:Nat),nn k5 (AV.ptr 12 0)=false->inL k5 (amL n a b c g h ds fs).kp=true)∧True)∧(∀ (k6:Nat),okHs ((amL n a b c g h ds fs).H k6)=true)∧(∀ (k7:Nat),k7 < (amL n a b c g h ds fs).N->bif decide (0≤nI ((famt_2 n).getD k7 []) 0∧nI ((famt_2 n).getD k7 []) 0 < (↑ds.length:Int)) then ∃ n_1,List.take [I6 n_1].length (ds.getD (nI ((famt_2 n).getD k7 []) 0).toNat [])=[I6 n_1]∧bif decide (0≤nI ((famt_2 n).getD k7 []) 0∧nI ((famt_2 n).getD k7 []) 0 < (↑(intsL (degZ n)).length:Int)) then ∃ n_2,List.take [I6 n_2].length ((intsL (degZ n)).getD (nI ((famt_2 n).getD k7 []) 0).toNat [])=[I6 n_2]∧bif decide ¬n_2=(0:Int) then bif decide (rng IntKind.i64 (n_1.tdiv n_2)) then bif decide (0≤nI ((famt_2 n).getD k7 []) 1∧nI ((famt_2 n).getD k7 []) 1 < (↑ds.length:Int)) then ∃ n_3,List.take [I6 n_3].length (ds.getD (nI ((famt_2 n).getD k7 []) 1).toNat [])=[I6 n_3]∧bif decide (0≤nI ((famt_2 n).getD k7 []) 1∧nI ((famt_2 n).getD k7 []) 1 < (↑(intsL (degZ n)).length:Int)) then ∃ n_4,List.take [I6 n_4].length ((intsL (degZ n)).getD (nI ((famt_2 n).getD k7 []) 1).toNat [])=[I6 n_4]∧bif decide ¬n_4=(0:Int) then bif decide (rng IntKind.i64 (n_3.tdiv n_4)) then bif decide ((0:Int)≤(↑k7:Int)∧(↑k7:Int) < (↑fs.length:Int)) then ∃ n_5,List.take [I6 n_5].length (fs.getD (↑k7:Int).toNat [])=[I6 n_5]∧bif decide (0≤c) then bif decide (n_1.tdiv n_2 < n_5 / (2:Int) ^ min c.toNat 64) then bif decide ((famt_1 n ds fs c k7).1.length=(intsL (famt_1 n ds fs c k7).1).length∧(intsL (famt_1 n ds fs c k7).1).length+[[I6 (n_1.tdiv n_2)]].length≤(9223372036854775807:Nat)∧((intsL (famt_1 n ds fs c k7).1).length+[[I6 (n_1.tdiv n_2)]].length)*(8:Nat)≤(140737488355328:Nat)) then bif decide (famt_4 n ds fs c k7) then True∧(a=a∧b=b∧c=c∧True)∧(famt_5 n g ds h fs)∧(famt_7 n)∧((intsL (famt_1 n ds fs c k7).1++[[I6 (n_1.tdiv n_2)]]).length=(famt_3 n ds fs c k7).1.length∧True)∧((intsL (famt_1 n ds fs c k7).2++[[I6 1]]).length=(famt_3 n ds fs c k7).2.length∧True)∧intsL (famt_1 n ds fs c k7).1++[[I6 (n_1.tdiv n_2)]]=intsL (famt_3 n ds fs c k7).1∧intsL (famt_1 n ds fs c k7).2++[[I6 1]]=intsL (famt_3 n ds fs c k7).2∧True else False else False else bif decide (rng IntKind.i64 ((0:Int) - n_3.tdiv n_4)) then bif decide (n_5 / (2:Int) ^ min c.toNat 64 < (0:Int) - n_3.tdiv n_4) then bif decide (rng IntKind.i64 ((0:Int) - n_3.tdiv n_4)) then bif decide ((famt_1 n ds fs c k7).1.length=(intsL (famt_1 n ds fs c k7).1).length∧(intsL (famt_1 n ds fs c k7).1).length+[[I6 ((0:Int) - n_3.tdiv n_4)]].length≤(9223372036854775807:Nat)∧((intsL (famt_1 n ds fs c k7).1).length+[[I6 ((0:Int) - n_3.tdiv n_4)]].length)*(8:Nat)≤(140737488355328:Nat)) then bif decide (famt_4 n ds fs c k7) then True∧(a=a∧b=b∧c=c∧True)∧(famt_5 n g ds h fs)∧(famt_7 n)∧((intsL (famt_1 n ds fs c k7).1++[[I6 ((0:Int) - n_3.tdiv n_4)]]).length=(famt_3 n ds fs c k7).1.length∧True)∧((intsL (famt_1 n ds fs c k7).2++[[I6 (-1:Int)]]).length=(famt_3 n ds fs c k7).2.length∧True)∧intsL (famt_1 n ds fs c k7).1++[[I6 ((0:Int) - n_3.tdiv n_4)]]=intsL (famt_3 n ds fs c k7).1∧intsL (famt_1 n ds fs c k7).2++[[I6 (-1:Int)]]=intsL (famt_3 n ds fs c k7).2∧True else False else False else False else bif decide ((famt_1 n ds fs c k7).1.length=(intsL (famt_1 n ds fs c k7).1).length∧(intsL (famt_1 n ds fs c k7).1).length+[[I6 (n_5 / (2:Int) ^ min c.toNat 64)]].length≤(9223372036854775807:Nat)∧((intsL (famt_1 n ds fs c k7).1).length+[[I6 (n_5 / (2:Int) ^ min c.toNat 64)]].length)*(8:Nat)≤(140737488355328:Nat)) then bif decide (famt_4 n ds fs c k7) then True∧(a=a∧b=b∧c=c∧True)∧(famt_5 n g ds h fs)∧(famt_7 n)∧((intsL (famt_1 n ds fs c k7).1++[[I6 (n_5 / (2:Int) ^ min c.toNat 64)]]).length=(famt_3 n ds fs c k7).1.length∧True)∧((intsL (famt_1 n ds fs c k7).2++[[I6 0]]).length=(famt_3 n ds fs c k7).2.length∧True)∧intsL (famt_1 n ds fs c k7).1++[[I6 (n_5 / (2:Int) ^ min c.toNat 64)]]=intsL (famt_3 n ds fs c k7).1∧intsL (famt_1 n ds fs c k7).2++[[I6 0]]=intsL (famt_3 n ds fs c k7).2∧True else False else False else False else False else False else False else False else False else False else False else False else False else False)∧bif decide ((famt_6 n ds fs c a b g h).1.length=(intsL (famt_6 n ds fs c a b g h).1).length) then bif decide ((famt_6 n ds fs c a b g h).2.length=(intsL (famt_6 n ds fs c a b g h).2).length) then (True∧intsL (famt_6 n ds fs c a b g h).1=intsL (amZ n c (ungI ds) (ungI fs)).1)∧(True∧intsL (famt_6 n ds fs c a b g h).2=intsL (amZ n c (ungI ds) (ungI fs)).2)∧(0:Int)=(0:Int)∧True else False else False
theorem famt_P:famt_T outB schE nrm staE:=by
 unfold famt_T
 delta famt_1 famt_2 famt_3 famt_4 famt_5 famt_6 famt_7 I6
 intro n a b c g h ds fs hP
 have hv:=hP.v
 have hsc:=hP.sc
 obtain ⟨ld,lf,bd,bf⟩:=hv.facts
 have hg:=hv.gp
 have hs:staE n (ungI ds) (ungI fs)=0:=by unfold staE; rw [hv.ok]; rfl
 have hsp:=hv.sp
 have de:=hv.de
 have fe:=hv.fe
 have hE:=(edgG_in hg.bq).2
 have g1:cond g (g=true) True:=gg g
 have g2:cond h (h=true) True:=gg h
 obtain ⟨_,_,hc⟩:=sch_b hsc
 refine ⟨trivial,cd0 (λ q=>q hsc) ⟨hsp,cd0 (λ q=>q hs) ⟨hg,trivial,itE hg.bq,by repeat' first|exact trivial|exact rfl|assumption|apply And.intro,?_,λ k=>rfl,?_,?_⟩⟩⟩
 ·refine ⟨λ k q=>by rw [nn_ptr q]; rfl,λ k q=>by rw [nn_ptr q]; rfl,λ k q=>by rw [nn_ptr q]; rfl,λ k q=>by rw [nn_ptr q]; rfl,λ k q=>by rw [nn_ptr q]; rfl,trivial⟩
 ·clear hsp hs
  intro k hk
  have hk:k < (edgG nrm n).length:=hk
  obtain ⟨zd,hzd⟩:∃ z,z=ungI ds:=⟨_,rfl⟩
  obtain ⟨zf,hzf⟩:∃ z,z=ungI fs:=⟨_,rfl⟩
  rw [← hzd] at de ld bd ⊢
  rw [← hzf] at fe lf bf ⊢
  clear hzd hzf
  obtain ⟨ea,eb⟩:=edg_at hg hk
  obtain ⟨l1,l2⟩:=amK_len (edgG nrm n) zd zf (degZ n) c k
  have es:amK (edgG nrm n) zd zf (degZ n) c (k+1)=((amK (edgG nrm n) zd zf (degZ n) c k).1++[(amV (edgG nrm n) zd zf (degZ n) c k).1],(amK (edgG nrm n) zd zf (degZ n) c k).2++[(amV (edgG nrm n) zd zf (degZ n) c k).2]):=rfl
  rw [es]
  generalize amK (edgG nrm n) zd zf (degZ n) c k=A at l1 l2 ⊢
  clear es
  have pa:1≤(degZ n).getD (nI ((edgG nrm n).getD k []) 0).toNat 0:=deg_pos hg (by omega)
  have pb:1≤(degZ n).getD (nI ((edgG nrm n).getD k []) 1).toNat 0:=deg_pos hg (by omega)
  have hdl:=degZ_len n
  have ev:amV (edgG nrm n) zd zf (degZ n) c k=if (zd.getD (nI ((edgG nrm n).getD k []) 0).toNat 0).tdiv ((degZ n).getD (nI ((edgG nrm n).getD k []) 0).toNat 0) < wan c (zf.getD k 0) then ((zd.getD (nI ((edgG nrm n).getD k []) 0).toNat 0).tdiv ((degZ n).getD (nI ((edgG nrm n).getD k []) 0).toNat 0),1) else if wan c (zf.getD k 0) < -(zd.getD (nI ((edgG nrm n).getD k []) 1).toNat 0).tdiv ((degZ n).getD (nI ((edgG nrm n).getD k []) 1).toNat 0) then (-(zd.getD (nI ((edgG nrm n).getD k []) 1).toNat 0).tdiv ((degZ n).getD (nI ((edgG nrm n).getD k []) 1).toNat 0),-1) else (wan c (zf.getD k 0),0):=rfl
  generalize amV (edgG nrm n) zd zf (degZ n) c k=V at ev ⊢
  generalize (edgG nrm n).getD k []=r at ea eb pa pb ev ⊢
  have e1:zd[(nI r 0).toNat]?=some (zd.getD (nI r 0).toNat 0):=at_getD (by omega)
  have e2:(degZ n)[(nI r 0).toNat]?=some ((degZ n).getD (nI r 0).toNat 0):=at_getD (by omega)
  have e3:zd[(nI r 1).toNat]?=some (zd.getD (nI r 1).toNat 0):=at_getD (by omega)
  have e4:(degZ n)[(nI r 1).toNat]?=some ((degZ n).getD (nI r 1).toNat 0):=at_getD (by omega)
  have e5:zf[k]?=some (zf.getD k 0):=at_getD (by omega)
  have b1:=bd _ (List.mem_of_getElem? e1)
  have b3:=bd _ (List.mem_of_getElem? e3)
  have b5:=bf _ (List.mem_of_getElem? e5)
  have t1:=tdiv_b b1.1 b1.2 pa
  have t3:=tdiv_b b3.1 b3.2 pb
  have hds:ds.length=ndN n:=by rw [de,intsL_len,ld]
  have hfs:fs.length=(edgG nrm n).length:=by rw [fe,intsL_len,lf]
  refine cd1 (by omega) ⟨zd.getD (nI r 0).toNat 0,by rw [de,intsL_at e1]; rfl,cd1 (by rw [intsL_len]; omega) ⟨(degZ n).getD (nI r 0).toNat 0,by rw [intsL_at e2]; rfl,cd1 (by omega) (cdI (by omega) (cd1 (by omega) ⟨zd.getD (nI r 1).toNat 0,by rw [de,intsL_at e3]; rfl,cd1 (by rw [intsL_len]; omega) ⟨(degZ n).getD (nI r 1).toNat 0,by rw [intsL_at e4]; rfl,cd1 (by omega) (cdI (by omega) (cd1 (by omega) ⟨zf.getD k 0,by rw [fe,show ((k:Int).toNat)=k from Int.toNat_natCast k,intsL_at e5]; rfl,cd1 (by omega) ?_⟩))⟩⟩))⟩⟩
  show cond (decide ((zd.getD (nI r 0).toNat 0).tdiv ((degZ n).getD (nI r 0).toNat 0) < wan c (zf.getD k 0))) _ _
  generalize (zd.getD (nI r 0).toNat 0).tdiv ((degZ n).getD (nI r 0).toNat 0)=x at t1 ev ⊢
  generalize (zd.getD (nI r 1).toNat 0).tdiv ((degZ n).getD (nI r 1).toNat 0)=y at t3 ev ⊢
  refine csp (λ q=>?_) (λ q=>cdI (by omega) (csp (λ q2=>cdI (by omega) ?_) (λ q2=>?_)))
  ·rw [if_pos q] at ev
   subst ev
   rw [← intsL_app,← intsL_app]
   refine cd1 ⟨by rw [intsL_len],by rw [intsL_len,List.length_singleton]; omega,by rw [intsL_len,List.length_singleton]; omega⟩ (cd1 ⟨by rw [intsL_len],by rw [intsL_len]; omega,by rw [intsL_len]; omega⟩ ?_)
   simp only [List.length_append,intsL_len,List.length_singleton]
   (repeat' (first | exact trivial | exact rfl | assumption | apply And.intro))
  ·have q2:wan c (zf.getD k 0) < -y:=by have q2:wan c (zf.getD k 0) < 0 - y:=q2; omega
   rw [if_neg q,if_pos q2] at ev
   subst ev
   rw [Int.zero_sub]
   rw [← intsL_app,← intsL_app]
   refine cd1 ⟨by rw [intsL_len],by rw [intsL_len,List.length_singleton]; omega,by rw [intsL_len,List.length_singleton]; omega⟩ (cd1 ⟨by rw [intsL_len],by rw [intsL_len]; omega,by rw [intsL_len]; omega⟩ ?_)
   simp only [List.length_append,intsL_len,List.length_singleton]
   (repeat' (first | exact trivial | exact rfl | assumption | apply And.intro))
  ·have q2:¬ wan c (zf.getD k 0) < -y:=λ q3=>q2 (show wan c (zf.getD k 0) < 0 - y by omega)
   rw [if_neg q,if_neg q2] at ev
   subst ev
   rw [← intsL_app,← intsL_app]
   refine cd1 ⟨by rw [intsL_len],by rw [intsL_len,List.length_singleton]; omega,by rw [intsL_len,List.length_singleton]; omega⟩ (cd1 ⟨by rw [intsL_len],by rw [intsL_len]; omega,by rw [intsL_len]; omega⟩ ?_)
   simp only [List.length_append,intsL_len,List.length_singleton]
   (repeat' (first | exact trivial | exact rfl | assumption | apply And.intro))
 ·exact cd1 (by rw [intsL_len]) (cd1 (by rw [intsL_len]) (by repeat' first|exact trivial|exact rfl|assumption|apply And.intro))
theorem famt_e (outB:Int->Int->List Int->Bool) (schE:Int->Int->Int->Int) (nrm:NrT) (staE:Int->List Int->List Int->Int):famt_T outB schE nrm staE=(∀ (n a b c:Int) (g h:Bool) (ds fs:LL),AmoP n a b c ds fs->fnR Tryz.prog { glob:=glb,spec:=lk [(65,(fsch_s outB schE)),(70,(fchk_s nrm staE)),(72,fdeg_s)],specH:=lk [(119,fedges_s)],shape:=[46,51,58,63,70],nowf:=true } { nt:=111,drop:=drp [(1,393216),(2,524288),(3,2097152),(4,12582912),(5,16777216),(6,67108864),(7,8455716864),(8,8589934592),(9,34359738368),(12,206158430208),(15,73786974095814950912),(16,18815678955183742648320),(17,2398962173297779768557568),(18,72535549176877750482370560),(19,19729669376110748131204792320),(20,1228036518971097232699931230208),(21,647769456716625224164815337947136),(22,1947111321950560360698936123457536)],emp:=λ id=>cond (Nat.beq id 12) [(1001100,1100,3,1),(1001200,1200,3,1)] [] } (λ _ _=>none) 6 (λ _=>some (amL n a b c g h ds fs)) Tryz.f104 [.agg [.int .i64 a,.int .i64 b,.int .i64 c],.agg [.int .i64 n,.sl 1 g ds,.sl 1 h fs]] (.tup [.sl 1 false (intsL (amZ n c (ungI ds) (ungI fs)).1),.sl 1 false (intsL (amZ n c (ungI ds) (ungI fs)).2),.int .i64 0])):=by kernel_rfl
def famt_v:=Eq.mp (famt_e ..) (famt_P)
theorem famt_ok:SOK Tryz.prog glb 104 famt_s:=by
 refine ⟨fok Tryz.func104 (by kernel_rfl) (by kernel_rfl),?_⟩
 intro xs pre r h hp
 unfold famt_s at h
 split at h
 ·cases h
  exact fnR_sound tyNil (by exact specOK rfl rfl ⟨(fsch_ok glb),(fchk_ok),(fdeg_ok),trivial⟩ ⟨(fedges_ok glb),trivial⟩) rfl Tryz.func104 rfl (famt_v  _ _ _ _ _ _ _ _ hp)
 ·cases h
def iclo_s:SpH
 | [.sl 1 g ys],[]=>some (1≤ys.length∧ys.length≤1000000,.rw 0 1 ys.length,[.row 3 1 ys])
 | _,_=>none
def iclo_T:Prop :=
 ∀ (gl:Glob) (g:Bool) (ys:LL),1≤ys.length∧ys.length≤(1000000:Nat)->True->(ys=[]->False∧False)∧bif decide ((0:Nat)=(0:Nat)∧(0:Nat)+ys.length≤(9223372036854775807:Nat)∧((0:Nat)+ys.length)*(8:Nat)≤(140737488355328:Nat)) then ([]++ys).length=ys.length∧[]++ys=ys∧True else False
theorem iclo_P:iclo_T:=by
 unfold iclo_T
 intro gl g ys ⟨h1,h2⟩
 intros
 exact ⟨λ e=>by subst e; simp at h1,cd1 ⟨rfl,by omega,by omega⟩ (by repeat' first|exact trivial|exact rfl|assumption|apply And.intro)⟩
theorem iclo_e:iclo_T=(∀ (gl:Glob) (g:Bool) (ys:LL),1≤ys.length∧ys.length≤1000000->fnH Tryz.prog { glob:=gl,spec:=lk [],specH:=lk [],nowf:=true,nq:=true } { nt:=8,drop:=drp [(1,8),(3,224)],fr:=1000,kp:=[],own:=true } (λ _ _=>none) 6 Tryz.f60 [.sl 1 g ys] [] (.rw 0 1 ys.length) [.row 3 1 ys]):=by kernel_rfl
def iclo_v:=Eq.mp (iclo_e ..) (iclo_P)
theorem iclo_ok (gl:Glob):HOK Tryz.prog gl 60 iclo_s:=by
 refine ⟨fok Tryz.func60 (by kernel_rfl) (by kernel_rfl),?_⟩
 intro xs bs pre r bs2 h hp
 unfold iclo_s at h
 split at h
 ·cases h
  exact fnH_sound tyNil (by exact specOK rfl rfl trivial trivial) (by kernel_rfl) Tryz.func60 (iclo_v gl _ _ hp)
 ·cases h
def mvS (es:LL) (ams:List Int) (k:Nat) (ds:List Int):List Int :=
 let a:=(nI (es.getD k []) 0).toNat
 let b:=(nI (es.getD k []) 1).toNat
 let d1:=ds.set a (ds.getD a 0 - ams.getD k 0)
 d1.set b (d1.getD b 0+ams.getD k 0)
def mvK (es:LL) (ams ds:List Int):Nat->List Int
 | 0=>ds
 | k+1=>mvS es ams k (mvK es ams ds k)
theorem mvS_len (es:LL) (ams:List Int) (k:Nat) (ds:List Int):(mvS es ams k ds).length=ds.length:=by simp [mvS]
theorem mvK_len (es:LL) (ams ds:List Int):∀ k,(mvK es ams ds k).length=ds.length
 | 0=>rfl
 | k+1=>by rw [mvK,mvS_len,mvK_len es ams ds k]
theorem set_bd {l:List Int} {B C x:Int} (h:∀ j,-B≤l.getD j 0∧l.getD j 0≤B) (hx:-C≤x∧x≤C) {i:Nat} (hC:0≤C):∀ j,-(B+C)≤(l.set i (l.getD i 0+x)).getD j 0∧(l.set i (l.getD i 0+x)).getD j 0≤B+C:=λ j=>by
 have hi:=h i
 have hj:=h j
 rw [List.getD_eq_getElem?_getD,List.getElem?_set]
 split
 ·split
  ·simp only [Option.getD_some]; omega
  ·simp only [Option.getD_none]; omega
 ·rw [← List.getD_eq_getElem?_getD]; omega
theorem mvK_bd {es:LL} {ams ds:List Int} (hd:∀ z ∈ ds,0≤z∧z≤16777216) (ha:∀ z ∈ ams,-16777216≤z∧z≤16777216):∀ (k j:Nat),-((2*k+1)*16777216:Int)≤(mvK es ams ds k).getD j 0∧(mvK es ams ds k).getD j 0≤(2*k+1)*16777216
 | 0,j=>by
  have:=getD_bd (B:=16777216) (by decide) (λ z hz=>by have:=hd z hz; omega) (l:=ds) j
  simp only [mvK]; omega
 | k+1,j=>by
  have hz:=getD_bd (B:=16777216) (by decide) ha k
  have h1:=set_bd (l:=mvK es ams ds k) (λ j=>mvK_bd hd ha k j) (x:=-ams.getD k 0) (C:=16777216) (by omega) (i:=(nI (es.getD k []) 0).toNat) (by decide)
  have h2:=set_bd h1 (x:=ams.getD k 0) (C:=16777216) hz (i:=(nI (es.getD k []) 1).toNat) (by decide) j
  rw [mvK]
  unfold mvS
  simp only [Int.sub_eq_add_neg] at h2 ⊢
  omega
theorem ndN_ge {n:Int} (h:GrdP nrm n):12≤ndN n∧ndN n≤200:=by
 have h1:=h.bq.lo
 have h4:=h.bq.hi
 unfold ndN
 rcases n14 h1 h4 with rfl | rfl | rfl | rfl <;> decide
def mvZ (n:Int) (ams ds:List Int):List Int:=mvK (edgG nrm n) ams ds (edgG nrm n).length
def mvB (n:Int) (ams ds:List Int):Bool:=outB 0 16777216 (mvZ n ams ds)
def mvE (n:Int) (ams ds:List Int):Int:=if mvB n ams ds=true then 7 else 0
def mvN (n:Int) (ams ds:List Int):Int:=if mvB n ams ds=true then 0 else n
def mvD (n:Int) (ams ds:List Int):LL:=if mvB n ams ds=true then [] else intsL (mvZ n ams ds)
def mvF (n:Int) (ams ds:List Int) (fs:LL):LL:=if mvB n ams ds=true then [] else fs
structure MovP (n:Int) (ds fs ams:LL):Prop where
 v:VStP n ds fs
 ae:ams=intsL (ungI ams)
 al:(ungI ams).length=(edgG nrm n).length
 ab:∀ z ∈ ungI ams,-16777216≤z∧z≤16777216
def mvL (n:Int) (g h i:Bool) (ds fs ams:LL):RL:=RLe n [(2,.ptr 2 0),(3,.ptr 3 0),(4,.ptr 4 0),(5,.int .i64 0),(7,.ptr 7 0)] (λ k=>[(2,.cells [.int .i64 n,.sl 1 g ds,.sl 1 h fs]),(3,.cells [.sl 1 i ams]),(4,.cells [.int .i64 0,.nils,.nils]),(7,.cells [.int .i64 n,.rw 31 1 (ndN n),.rw 34 1 (edgG nrm n).length]),(31,.row 3 1 (intsL (mvK (edgG nrm n) (ungI ams) (ungI ds) k))),(34,.row 3 1 fs)]) 38 [2,3,4,7]
def fmove_s:Sp
 | [.agg [.int .i64 n,.sl 1 g ds,.sl 1 h fs],.sl 1 i ams]=>some (MovP n ds fs ams,.tup [.agg [.int .i64 (mvN n (ungI ams) (ungI ds)),.sl 1 false (mvD n (ungI ams) (ungI ds)),.sl 1 false (mvF n (ungI ams) (ungI ds) fs)],.int .i64 (mvE n (ungI ams) (ungI ds))])
 | _=>none
abbrev fmove_1 (n:Int):=(edgG YtgbbmadjdaphnaaGreatDoor.nrm n)
abbrev fmove_2 (n:Int) (ams:LL) (ds:LL) (k7:Nat):=(intsL (mvK (fmove_1 n) (ungI ams) (ungI ds) k7))
abbrev fmove_3 (n:Int) (ams:LL) (ds:LL) (fs:LL):=((0:Int)=mvN n (ungI ams) (ungI ds)∧mvD n (ungI ams) (ungI ds)=[]∧mvF n (ungI ams) (ungI ds) fs=[]∧True)
abbrev fmove_4 (n:Int) (ams:LL) (ds:LL) (g:Bool) (h:Bool) (i:Bool) (fs:LL):=(mvK (fmove_1 n) (ungI ams) (ungI ds) (mvL n g h i ds fs ams).N)
abbrev fmove_5 (n:Int) (k7:Nat):=(nI ((fmove_1 n).getD k7 []) 0)
def fmove_T (nrm:NrT) (staE:Int->List Int->List Int->Int):Prop :=
 ∀ (n:Int) (g h i:Bool) (ds fs ams:LL),MovP n ds fs ams->StaP n ds fs∧bif decide ¬staE n (ungI ds) (ungI fs)=(0:Int) then (fmove_3 n ams ds fs)∧staE n (ungI ds) (ungI fs)=mvE n (ungI ams) (ungI ds)∧True else bif decide ¬(↑ams.length:Int)=(↑fs.length:Int) then (fmove_3 n ams ds fs)∧(1:Int)=mvE n (ungI ams) (ungI ds)∧True else (ams=intsL (ungI ams)∧ams.length≤(1000000:Nat))∧bif outB (-16777216:Int) 16777216 (ungI ams) then (fmove_3 n ams ds fs)∧(1:Int)=mvE n (ungI ams) (ungI ds)∧True else (1≤ds.length∧ds.length≤(1000000:Nat))∧(1≤fs.length∧fs.length≤(1000000:Nat))∧True∧ItOK (mvL n g h i ds fs ams).gf (mvL n g h i ds fs ams).c (mvL n g h i ds fs ams).N (mvL n g h i ds fs ams).x0 (mvL n g h i ds fs ams).x1∧((((0:Nat)=(0:Nat)∧True)∧(0:Nat)=(0:Nat)∧(0:Nat)=(0:Nat)∧(0:Nat)=(0:Nat)∧(0:Int)=(0:Int)∧(0:Nat)=(0:Nat)∧True)∧(n=n∧True)∧(n=n∧((bif g then g=true else True)∧ds=ds)∧((bif h then h=true else True)∧fs=fs)∧True)∧(((bif i then i=true else True)∧ams=ams)∧True)∧((0:Int)=(0:Int)∧True∧True∧True)∧(n=n∧ds.length=ndN n∧fs.length=(fmove_1 n).length∧True)∧ds=intsL (mvK (fmove_1 n) (ungI ams) (ungI ds) 0)∧fs=fs∧True)∧((∀ (k1:Nat),nn k1 (AV.ptr 2 0)=false->inL k1 (mvL n g h i ds fs ams).kp=true)∧(∀ (k2:Nat),nn k2 (AV.ptr 3 0)=false->inL k2 (mvL n g h i ds fs ams).kp=true)∧(∀ (k3:Nat),nn k3 (AV.ptr 4 0)=false->inL k3 (mvL n g h i ds fs ams).kp=true)∧(∀ (k4:Nat),nn k4 (I6 0)=false->inL k4 (mvL n g h i ds fs ams).kp=true)∧(∀ (k5:Nat),nn k5 (AV.ptr 7 0)=false->inL k5 (mvL n g h i ds fs ams).kp=true)∧True)∧(∀ (k6:Nat),okHs ((mvL n g h i ds fs ams).H k6)=true)∧(∀ (k7:Nat),k7 < (mvL n g h i ds fs ams).N->bif decide (0≤nI ((fmove_1 n).getD k7 []) 0∧nI ((fmove_1 n).getD k7 []) 0 < (↑(ndN n):Int)) then bif decide (ndN n=(fmove_2 n ams ds k7).length∧(fmove_5 n k7).toNat < (fmove_2 n ams ds k7).length) then ∃ n_1,List.take [I6 n_1].length (List.drop 0 ((fmove_2 n ams ds k7).getD (fmove_5 n k7).toNat []))=[I6 n_1]∧bif decide ((0:Int)≤(↑k7:Int)∧(↑k7:Int) < (↑ams.length:Int)) then ∃ n_2,List.take [I6 n_2].length (ams.getD (↑k7:Int).toNat [])=[I6 n_2]∧bif decide (rng IntKind.i64 (n_1 - n_2)) then bif decide (0≤nI ((fmove_1 n).getD k7 []) 0∧nI ((fmove_1 n).getD k7 []) 0 < (↑(ndN n):Int)) then bif decide (ndN n=(fmove_2 n ams ds k7).length∧(fmove_5 n k7).toNat < (fmove_2 n ams ds k7).length) then bif decide (0≤nI ((fmove_1 n).getD k7 []) 1∧nI ((fmove_1 n).getD k7 []) 1 < (↑(ndN n):Int)) then bif decide (ndN n=(setEl (fmove_2 n ams ds k7) (fmove_5 n k7).toNat 0 [I6 (n_1 - n_2)]).length∧(nI ((fmove_1 n).getD k7 []) 1).toNat < (setEl (fmove_2 n ams ds k7) (fmove_5 n k7).toNat 0 [I6 (n_1 - n_2)]).length) then ∃ n_3,List.take [I6 n_3].length (List.drop 0 ((setEl (fmove_2 n ams ds k7) (fmove_5 n k7).toNat 0 [I6 (n_1 - n_2)]).getD (nI ((fmove_1 n).getD k7 []) 1).toNat []))=[I6 n_3]∧bif decide ((0:Int)≤(↑k7:Int)∧(↑k7:Int) < (↑ams.length:Int)) then ∃ n_4,List.take [I6 n_4].length (ams.getD (↑k7:Int).toNat [])=[I6 n_4]∧bif decide (rng IntKind.i64 (n_3+n_4)) then bif decide (0≤nI ((fmove_1 n).getD k7 []) 1∧nI ((fmove_1 n).getD k7 []) 1 < (↑(ndN n):Int)) then bif decide (ndN n=(setEl (fmove_2 n ams ds k7) (fmove_5 n k7).toNat 0 [I6 (n_1 - n_2)]).length∧(nI ((fmove_1 n).getD k7 []) 1).toNat < (setEl (fmove_2 n ams ds k7) (fmove_5 n k7).toNat 0 [I6 (n_1 - n_2)]).length) then True∧(n=n∧((bif g then g=true else True)∧ds=ds)∧((bif h then h=true else True)∧fs=fs)∧True)∧(((bif i then i=true else True)∧ams=ams)∧True)∧((0:Int)=(0:Int)∧True∧True∧True)∧(n=n∧ndN n=ndN n∧(fmove_1 n).length=(fmove_1 n).length∧True)∧setEl (setEl (fmove_2 n ams ds k7) (fmove_5 n k7).toNat 0 [I6 (n_1 - n_2)]) (nI ((fmove_1 n).getD k7 []) 1).toNat 0 [I6 (n_3+n_4)]=intsL (mvK (fmove_1 n) (ungI ams) (ungI ds) (k7+(1:Nat)))∧fs=fs∧True else False else False else False else False else False else False else False else False else False else False else False else False)∧bif decide (ndN n=(intsL (fmove_4 n ams ds g h i fs)).length) then (intsL (fmove_4 n ams ds g h i fs)=intsL (ungI (intsL (fmove_4 n ams ds g h i fs)))∧(intsL (fmove_4 n ams ds g h i fs)).length≤(1000000:Nat))∧bif outB 0 16777216 (ungI (intsL (fmove_4 n ams ds g h i fs))) then (fmove_3 n ams ds fs)∧(7:Int)=mvE n (ungI ams) (ungI ds)∧True else bif decide (ndN n=(intsL (fmove_4 n ams ds g h i fs)).length) then bif decide ((fmove_1 n).length=fs.length) then (n=mvN n (ungI ams) (ungI ds)∧(True∧intsL (fmove_4 n ams ds g h i fs)=mvD n (ungI ams) (ungI ds))∧(True∧fs=mvF n (ungI ams) (ungI ds) fs)∧True)∧(0:Int)=mvE n (ungI ams) (ungI ds)∧True else False else False else False
theorem fmove_P:fmove_T nrm staE:=by
 unfold fmove_T
 delta fmove_1 fmove_2 fmove_3 fmove_4 fmove_5 I6
 intro n g h i ds fs ams hP
 have hv:=hP.v
 obtain ⟨ld,lf,bd,bf⟩:=hv.facts
 have hg:=hv.gp
 have hs:staE n (ungI ds) (ungI fs)=0:=by unfold staE; rw [hv.ok]; rfl
 have hsp:=hv.sp
 have de:=hv.de
 have fe:=hv.fe
 have ae:=hP.ae
 have al:=hP.al
 have ab:=hP.ab
 have hE:=(edgG_in hg.bq).2
 have hN:=ndN_ge hg
 have g1:cond g (g=true) True:=gg g
 have g2:cond h (h=true) True:=gg h
 have g3:cond i (i=true) True:=gg i
 have hfs:fs.length=(edgG nrm n).length:=by rw [← ungI_len,lf]
 have hds:ds.length=ndN n:=by rw [← ungI_len,ld]
 have hams:ams.length=(edgG nrm n).length:=by rw [← ungI_len,al]
 have hE1:1≤(edgG nrm n).length:=by
  obtain ⟨q,hq,_⟩:=has_edge hg (j:=0) (by omega)
  omega
 have hout:outB (-16777216) 16777216 (ungI ams)=false:=inB_out ab
 rw [hout]
 refine ⟨hsp,cd0 (λ q=>q hs) (cd0 (λ q=>q (by rw [hams,hfs])) ⟨⟨ae,by omega⟩,⟨by omega,by omega⟩,⟨by omega,by omega⟩,trivial,itE hg.bq,by repeat' first|exact trivial|exact rfl|assumption|apply And.intro,?_,λ k=>rfl,?_,?_⟩)⟩
 ·refine ⟨λ k q=>by rw [nn_ptr q]; rfl,λ k q=>by rw [nn_ptr q]; rfl,λ k q=>by rw [nn_ptr q]; rfl,λ k q=>by simp [nn] at q,λ k q=>by rw [nn_ptr q]; rfl,trivial⟩
 ·clear hsp hs
  intro k hk
  have hk:k < (edgG nrm n).length:=hk
  obtain ⟨ea,eb⟩:=edg_at hg hk
  obtain ⟨za,hza⟩:∃ z,z=ungI ams:=⟨_,rfl⟩
  obtain ⟨zd,hzd⟩:∃ z,z=ungI ds:=⟨_,rfl⟩
  rw [← hza] at ae al ab ⊢
  rw [← hzd] at ld bd ⊢
  have hl:(mvK (edgG nrm n) za zd k).length=ndN n:=by rw [mvK_len,ld]
  have hb:=mvK_bd (es:=edgG nrm n) bd ab k
  have es:mvK (edgG nrm n) za zd (k+1)=((mvK (edgG nrm n) za zd k).set (nI ((edgG nrm n).getD k []) 0).toNat ((mvK (edgG nrm n) za zd k).getD (nI ((edgG nrm n).getD k []) 0).toNat 0 - za.getD k 0)).set (nI ((edgG nrm n).getD k []) 1).toNat (((mvK (edgG nrm n) za zd k).set (nI ((edgG nrm n).getD k []) 0).toNat ((mvK (edgG nrm n) za zd k).getD (nI ((edgG nrm n).getD k []) 0).toNat 0 - za.getD k 0)).getD (nI ((edgG nrm n).getD k []) 1).toNat 0+za.getD k 0):=rfl
  rw [es]
  generalize mvK (edgG nrm n) za zd k=d at hl hb ⊢
  generalize (edgG nrm n).getD k []=r at ea eb ⊢
  have e1:d[(nI r 0).toNat]?=some (d.getD (nI r 0).toNat 0):=at_getD (by omega)
  have e2:za[k]?=some (za.getD k 0):=at_getD (by omega)
  have ba:=ab _ (List.mem_of_getElem? e2)
  have b1:=hb (nI r 0).toNat
  have et:∀ q,List.take [AV.int .i64 q].length (ams.getD ((k:Int).toNat) [])=[AV.int .i64 q]↔q=za.getD k 0:=λ q=>by
   rw [Int.toNat_natCast,ae,intsL_at e2]
   exact ⟨λ h=>by injection h with h _; injection h with _ h; exact h.symm,λ h=>by rw [h]; rfl⟩
  refine cd1 ea (cd1 ⟨by rw [intsL_len,hl],by rw [intsL_len]; omega⟩ ⟨d.getD (nI r 0).toNat 0,by rw [List.drop_zero,intsL_at e1]; rfl,cd1 (by omega) ⟨za.getD k 0,(et _).2 rfl,cdI (by omega) ?_⟩⟩)
  rw [intsL_set (by omega)]
  have hl2:(d.set (nI r 0).toNat (d.getD (nI r 0).toNat 0 - za.getD k 0)).length=ndN n:=by rw [List.length_set,hl]
  have hb2:=set_bd hb (x:=-za.getD k 0) (C:=16777216) (by omega) (i:=(nI r 0).toNat) (by decide)
  rw [← Int.sub_eq_add_neg] at hb2
  generalize d.set (nI r 0).toNat (d.getD (nI r 0).toNat 0 - za.getD k 0)=d2 at hl2 hb2 ⊢
  have e3:d2[(nI r 1).toNat]?=some (d2.getD (nI r 1).toNat 0):=at_getD (by omega)
  have b3:=hb2 (nI r 1).toNat
  refine cd1 ea (cd1 ⟨by rw [intsL_len,hl],by rw [intsL_len]; omega⟩ (cd1 eb (cd1 ⟨by rw [intsL_len,hl2],by rw [intsL_len]; omega⟩ ⟨d2.getD (nI r 1).toNat 0,by rw [List.drop_zero,intsL_at e3]; rfl,cd1 (by omega) ⟨za.getD k 0,(et _).2 rfl,cdI (by omega) (cd1 eb (cd1 ⟨by rw [intsL_len,hl2],by rw [intsL_len]; omega⟩ ?_))⟩⟩)))
  rw [intsL_set (by omega)]
  (repeat' (first | exact trivial | exact rfl | assumption | apply And.intro))
 ·rw [show (mvL n g h i ds fs ams).N=(edgG nrm n).length from rfl]
  have hl:(mvK (edgG nrm n) (ungI ams) (ungI ds) (edgG nrm n).length).length=ndN n:=by rw [mvK_len,ld]
  refine cd1 (by rw [intsL_len,hl]) ⟨⟨by rw [ungI_ints],by rw [intsL_len,hl]; omega⟩,?_⟩
  rw [ungI_ints]
  unfold mvN mvD mvF mvE
  refine csplit (λ q=>?_) (λ q=>?_)
  ·have q:mvB n (ungI ams) (ungI ds)=true:=q
   rw [q]
   exact ⟨⟨rfl,rfl,rfl,trivial⟩,rfl,trivial⟩
  ·have q:mvB n (ungI ams) (ungI ds)=false:=q
   rw [q]
   exact cd1 (by rw [intsL_len,hl]) (cd1 hfs.symm ⟨⟨rfl,⟨trivial,rfl⟩,⟨trivial,rfl⟩,trivial⟩,rfl,trivial⟩)
theorem fmove_e (nrm:NrT) (staE:Int->List Int->List Int->Int):fmove_T nrm staE=(∀ (n:Int) (g h i:Bool) (ds fs ams:LL),MovP n ds fs ams->fnR Tryz.prog { glob:=glb,spec:=lk [(70,(fchk_s nrm staE)),(112,fout_s)],specH:=lk [(60,iclo_s),(119,fedges_s)],shape:=[46,50,58,62],nowf:=true } { nt:=70,drop:=drp [(1,3072),(2,4096),(3,49152),(4,33488896),(5,67108864),(6,68585259008),(7,206158430208),(10,9005000231485440),(11,36884480948164362240),(12,110680464442257309696),(13,295147905179352825856),(14,590295810358705651712)] } (λ _ _=>none) 6 (λ _=>some (mvL n g h i ds fs ams)) Tryz.f105 [.agg [.int .i64 n,.sl 1 g ds,.sl 1 h fs],.sl 1 i ams] (.tup [.agg [.int .i64 (mvN n (ungI ams) (ungI ds)),.sl 1 false (mvD n (ungI ams) (ungI ds)),.sl 1 false (mvF n (ungI ams) (ungI ds) fs)],.int .i64 (mvE n (ungI ams) (ungI ds))])):=by kernel_rfl
def fmove_v:=Eq.mp (fmove_e ..) (fmove_P)
theorem fmove_ok:SOK Tryz.prog glb 105 fmove_s:=by
 refine ⟨fok Tryz.func105 (by kernel_rfl) (by kernel_rfl),?_⟩
 intro xs pre r h hp
 unfold fmove_s at h
 split at h
 ·cases h
  exact fnR_sound tyNil (by exact specOK rfl rfl ⟨(fchk_ok),(fout_ok glb),trivial⟩ ⟨(iclo_ok glb),(fedges_ok glb),trivial⟩) rfl Tryz.func105 rfl (fmove_v  _ _ _ _ _ _ _ hp)
 ·cases h
def acV (a b:Int) (fs sl:List Int) (k:Nat):Int:=min (max (fs.getD k 0+(wan b (sl.getD k 0) - wan a (fs.getD k 0))) (-16777216)) 16777216
def acK (a b:Int) (fs sl:List Int):Nat->List Int
 | 0=>[]
 | k+1=>acK a b fs sl k++[acV a b fs sl k]
def acZ (n a b:Int) (ds fs:List Int):List Int:=acK a b fs (sloZ n ds) (edgG nrm n).length
structure AccP (n a b:Int) (ds fs:List Int) (x:Int × List Int):Prop where
 lo:0≤x.1
 hi:x.1≤(edgG nrm n).length
 eq:x.2=acK a b fs (sloZ n ds) x.1.toNat
def acL (n a b c:Int) (g h:Bool) (ds fs:List Int):LInv:=⟨Int × List Int,λ x=>⟨[(2,.ptr 2 0),(4,.ptr 4 0),(5,.int .i64 0),(7,.sl 1 false (intsL (sloZ n ds))),(9,.ptr 9 0),(34,.sl 1 h (intsL fs)),(35,.int .i64 fs.length),(36,.int .i64 x.1)],[(2,.cells [.int .i64 a,.int .i64 b,.int .i64 c]),(4,.cells [.int .i64 0,.nils,.nils]),(9,.cells [.int .i64 n,.sl 1 false (intsL ds),.rw 900 1 x.2.length]),(900,.row 3 1 (intsL x.2))]⟩,AccP n a b ds fs,λ x=>((edgG nrm n).length - x.1).toNat,none⟩
theorem sloI_at (es:LL) (ds:List Int):∀ (m k:Nat),k < m->(sloI es ds m)[k]?=some (ds.getD (nI (es.getD k []) 0).toNat 0 - ds.getD (nI (es.getD k []) 1).toNat 0)
 | 0,k,h=>by omega
 | m+1,k,h=>by
  rw [sloI]
  by_cases q:k < m
  ·rw [List.getElem?_append_left (by rw [sloI_len]; exact q)]; exact sloI_at es ds m k q
  ·obtain rfl:k=m:=by omega
   rw [List.getElem?_append_right (by rw [sloI_len]; omega),sloI_len,Nat.sub_self]; rfl
theorem acK_len (a b:Int) (fs sl:List Int):∀ k,(acK a b fs sl k).length=k
 | 0=>rfl
 | k+1=>by rw [acK,List.length_append,acK_len a b fs sl k]; rfl
theorem acK_bd (a b:Int) (fs sl:List Int):∀ k,∀ z ∈ acK a b fs sl k,-16777216≤z∧z≤16777216
 | 0,z,h=>by simp [acK] at h
 | k+1,z,h=>by
  rw [acK] at h
  rcases List.mem_append.1 h with h | h
  ·exact acK_bd a b fs sl k z h
  ·rw [List.mem_singleton] at h; subst h; unfold acV; omega
theorem VStP.acc {n a b:Int} {ds fs:LL} (h:VStP n ds fs):VStP n ds (intsL (acZ n a b (ungI ds) (ungI fs))):=by
 obtain ⟨ld,lf,bd,bf⟩:=h.facts
 refine ⟨h.gp,h.de,by rw [ungI_ints],?_⟩
 have e:=(ndN_eq h.gp).1
 unfold staB
 rw [ungI_ints,decide_eq_true (by omega),decide_eq_true (by unfold acZ; rw [acK_len]),inB_out bd,show outB (-16777216) 16777216 (acZ n a b (ungI ds) (ungI fs))=false from inB_out (acK_bd _ _ _ _ _)]; rfl
theorem amV_bd {n c:Int} {ds fs:LL} (h:VStP n ds fs) (hc:1≤c∧c≤4) {k:Nat} (hk:k < (edgG nrm n).length):(-16777216≤(amV (edgG nrm n) (ungI ds) (ungI fs) (degZ n) c k).1∧(amV (edgG nrm n) (ungI ds) (ungI fs) (degZ n) c k).1≤16777216)∧-1≤(amV (edgG nrm n) (ungI ds) (ungI fs) (degZ n) c k).2∧(amV (edgG nrm n) (ungI ds) (ungI fs) (degZ n) c k).2≤1:=by
 obtain ⟨ld,lf,bd,bf⟩:=h.facts
 obtain ⟨ea,eb⟩:=edg_at h.gp hk
 have pa:1≤(degZ n).getD (nI ((edgG nrm n).getD k []) 0).toNat 0:=deg_pos h.gp (by omega)
 have pb:1≤(degZ n).getD (nI ((edgG nrm n).getD k []) 1).toNat 0:=deg_pos h.gp (by omega)
 have b1:=bd _ (getD_mem (d:=0) (i:=(nI ((edgG nrm n).getD k []) 0).toNat) (by omega))
 have b3:=bd _ (getD_mem (d:=0) (i:=(nI ((edgG nrm n).getD k []) 1).toNat) (by omega))
 have b5:=bf _ (getD_mem (d:=0) (i:=k) (by omega))
 have t1:=tdiv_b b1.1 b1.2 pa
 have t3:=tdiv_b b3.1 b3.2 pb
 have tw:=wan_b hc b5
 unfold amV
 simp only
 generalize ((ungI ds).getD (nI ((edgG nrm n).getD k []) 0).toNat 0).tdiv ((degZ n).getD (nI ((edgG nrm n).getD k []) 0).toNat 0)=x at *
 generalize ((ungI ds).getD (nI ((edgG nrm n).getD k []) 1).toNat 0).tdiv ((degZ n).getD (nI ((edgG nrm n).getD k []) 1).toNat 0)=y at *
 generalize wan c ((ungI fs).getD k 0)=z at *
 by_cases q:x < z
 ·rw [if_pos q]; simp only; omega
 ·rw [if_neg q]
  by_cases q2:z < -y
  ·rw [if_pos q2]; simp only; omega
  ·rw [if_neg q2]; simp only; omega
theorem amK_bd {n c:Int} {ds fs:LL} (h:VStP n ds fs) (hc:1≤c∧c≤4):∀ k,k≤(edgG nrm n).length->(∀ z ∈ (amK (edgG nrm n) (ungI ds) (ungI fs) (degZ n) c k).1,-16777216≤z∧z≤16777216)∧∀ z ∈ (amK (edgG nrm n) (ungI ds) (ungI fs) (degZ n) c k).2,-1≤z∧z≤1
 | 0,_=>by simp [amK]
 | k+1,hk=>by
  obtain ⟨h1,h2⟩:=amK_bd h hc k (by omega)
  obtain ⟨v1,v2⟩:=amV_bd h hc (k:=k) (by omega)
  refine ⟨λ z hz=>?_,λ z hz=>?_⟩
  ·rcases List.mem_append.1 hz with hz | hz
   ·exact h1 z hz
   ·rw [List.mem_singleton] at hz; subst hz; exact v1
  ·rcases List.mem_append.1 hz with hz | hz
   ·exact h2 z hz
   ·rw [List.mem_singleton] at hz; subst hz; exact v2
theorem AmoP.mov {n a b c:Int} {ds fs:LL} (h:AmoP n a b c ds fs):MovP n ds fs (intsL (amZ n c (ungI ds) (ungI fs)).1):=by
 obtain ⟨_,_,hc⟩:=sch_b h.sc
 refine ⟨h.v,by rw [ungI_ints],?_,?_⟩
 ·rw [ungI_ints]; exact (amK_len _ _ _ _ _ _).1
 ·rw [ungI_ints]; exact (amK_bd h.v hc _ (Nat.le_refl _)).1
def macc_s:Sp
 | [.agg [.int .i64 a,.int .i64 b,.int .i64 c],.agg [.int .i64 n,.sl 1 g ds,.sl 1 h fs]]=>some (AmoP n a b c ds fs,.tup [.agg [.int .i64 n,.sl 1 false ds,.sl 1 false (intsL (acZ n a b (ungI ds) (ungI fs)))],.int .i64 0])
 | _=>none
def macc_T (outB:Int->Int->List Int->Bool) (schE:Int->Int->Int->Int):Prop :=
 ∀ (n a b c:Int) (g h:Bool) (ds fs:LL),AmoP n a b c ds fs->(IR9 a)∧(IR9 b)∧(IR9 c)∧True->(IR9 n)∧True∧True∧True->True∧bif decide ¬schE a b c=(0:Int) then ((0:Int)=n∧ds=[]∧intsL (acZ n a b (ungI ds) (ungI fs))=[]∧True)∧schE a b c=(0:Int)∧True else VStP n ds fs∧ds.length≤(1000000:Nat)∧(∃ x,AccP n a b (ungI ds) (ungI fs) x∧((0:Nat)=(0:Nat)∧(0:Nat)=(0:Nat)∧(0:Int)=(0:Int)∧(True∧intsL (sloZ n (ungI ds))=intsL (sloZ n (ungI ds)))∧(0:Nat)=(0:Nat)∧((bif h then h=true else True)∧fs=intsL (ungI fs))∧(↑fs.length:Int)=(↑(ungI fs).length:Int)∧(0:Int)=x.1∧True)∧(a=a∧b=b∧c=c∧True)∧((0:Int)=(0:Int)∧True∧True∧True)∧(n=n∧(True∧ds=intsL (ungI ds))∧(0:Nat)=x.2.length∧True)∧[]=intsL x.2∧True)∧∀ (x1:Int × List Int),AccP n a b (ungI ds) (ungI fs) x1->bif decide (x1.1 < (↑(ungI fs).length:Int)) then bif decide (0≤x1.1∧x1.1 < (↑(intsL (ungI fs)).length:Int)) then ∃ n_1,List.take [I6 n_1].length ((intsL (ungI fs)).getD x1.1.toNat [])=[I6 n_1]∧bif decide (0≤x1.1∧x1.1 < (↑(intsL (sloZ n (ungI ds))).length:Int)) then ∃ n_2,List.take [I6 n_2].length ((intsL (sloZ n (ungI ds))).getD x1.1.toNat [])=[I6 n_2]∧bif decide (0≤b) then bif decide (0≤a) then bif decide (rng IntKind.i64 (n_2 / (2:Int) ^ min b.toNat 64 - n_1 / (2:Int) ^ min a.toNat 64)) then bif decide (rng IntKind.i64 (n_1+(n_2 / (2:Int) ^ min b.toNat 64 - n_1 / (2:Int) ^ min a.toNat 64))) then bif decide (x1.2.length=(intsL x1.2).length∧(intsL x1.2).length+[[I6 (min (max (n_1+(n_2 / (2:Int) ^ min b.toNat 64 - n_1 / (2:Int) ^ min a.toNat 64)) (-16777216:Int)) 16777216)]].length≤(9223372036854775807:Nat)∧((intsL x1.2).length+[[I6 (min (max (n_1+(n_2 / (2:Int) ^ min b.toNat 64 - n_1 / (2:Int) ^ min a.toNat 64)) (-16777216:Int)) 16777216)]].length)*(8:Nat)≤(140737488355328:Nat)) then bif decide (rng IntKind.i64 (x1.1+(1:Int))) then ∃ y,AccP n a b (ungI ds) (ungI fs) y∧(acL n a b c g h (ungI ds) (ungI fs)).m y < (acL n a b c g h (ungI ds) (ungI fs)).m x1∧((0:Nat)=(0:Nat)∧(0:Nat)=(0:Nat)∧(0:Int)=(0:Int)∧(True∧intsL (sloZ n (ungI ds))=intsL (sloZ n (ungI ds)))∧(0:Nat)=(0:Nat)∧((bif h then h=true else True)∧intsL (ungI fs)=intsL (ungI fs))∧(↑(ungI fs).length:Int)=(↑(ungI fs).length:Int)∧x1.1+(1:Int)=y.1∧True)∧(a=a∧b=b∧c=c∧True)∧((0:Int)=(0:Int)∧True∧True∧True)∧(n=n∧(True∧intsL (ungI ds)=intsL (ungI ds))∧(intsL x1.2++[[I6 (min (max (n_1+(n_2 / (2:Int) ^ min b.toNat 64 - n_1 / (2:Int) ^ min a.toNat 64)) (-16777216:Int)) 16777216)]]).length=y.2.length∧True)∧intsL x1.2++[[I6 (min (max (n_1+(n_2 / (2:Int) ^ min b.toNat 64 - n_1 / (2:Int) ^ min a.toNat 64)) (-16777216:Int)) 16777216)]]=intsL y.2∧True else False else False else False else False else False else False else False else False else bif decide (x1.2.length=(intsL x1.2).length) then (n=n∧(True∧intsL (ungI ds)=ds)∧(True∧intsL x1.2=intsL (acZ n a b (ungI ds) (ungI fs)))∧True)∧(0:Int)=(0:Int)∧True else False
theorem macc_P:macc_T outB schE:=by
 unfold macc_T
 delta I6
 intro n a b c g h ds fs hP
 intros
 have hv:=hP.v
 have hsc:=hP.sc
 obtain ⟨ld,lf,bd,bf⟩:=hv.facts
 have hg:=hv.gp
 have de:=hv.de
 have fe:=hv.fe
 have hE:=(edgG_in hg.bq).2
 have hN:=ndN_ge hg
 have g1:cond g (g=true) True:=gg g
 have g2:cond h (h=true) True:=gg h
 obtain ⟨ha,hb,hc⟩:=sch_b hsc
 refine ⟨trivial,cd0 (λ q=>q hsc) ⟨hv,by rw [de,intsL_len]; omega,⟨(0,[]),⟨Int.le_refl 0,by simp only; omega,rfl⟩,by rw [ungI_len]; (repeat' (first | exact trivial | exact rfl | assumption | apply And.intro))⟩,?_⟩⟩
 clear hP hv
 obtain ⟨zd,hzd⟩:∃ z,z=ungI ds:=⟨_,rfl⟩
 obtain ⟨zf,hzf⟩:∃ z,z=ungI fs:=⟨_,rfl⟩
 rw [← hzd] at de ld bd ⊢
 rw [← hzf] at fe lf bf ⊢
 clear hzd hzf
 rintro ⟨i,os⟩ ⟨i0,il,ie⟩
 simp only at i0 il ie
 have hol:os.length=i.toNat:=by rw [ie,acK_len]
 rw [intsL_len]
 refine csp (λ q=>?_) (λ q=>?_)
 ·simp only at q
  have hk:i.toNat < (edgG nrm n).length:=by omega
  obtain ⟨ea,eb⟩:=edg_at hg hk
  have e1:zf[i.toNat]?=some (zf.getD i.toNat 0):=at_getD (by omega)
  have e2:(sloZ n zd)[i.toNat]?=some (zd.getD (nI ((edgG nrm n).getD i.toNat []) 0).toNat 0 - zd.getD (nI ((edgG nrm n).getD i.toNat []) 1).toNat 0):=sloI_at (edgG nrm n) zd (edgG nrm n).length i.toNat hk
  have b1:=bf _ (List.mem_of_getElem? e1)
  have ba:=bd _ (getD_mem (d:=0) (i:=(nI ((edgG nrm n).getD i.toNat []) 0).toNat) (by omega))
  have bb:=bd _ (getD_mem (d:=0) (i:=(nI ((edgG nrm n).getD i.toNat []) 1).toNat) (by omega))
  have es:acK a b zf (sloZ n zd) (i+1).toNat=os++[acV a b zf (sloZ n zd) i.toNat]:=by rw [show (i+1).toNat=i.toNat+1 by omega,acK,ie]
  have ev:acV a b zf (sloZ n zd) i.toNat=min (max (zf.getD i.toNat 0+(wan b (zd.getD (nI ((edgG nrm n).getD i.toNat []) 0).toNat 0 - zd.getD (nI ((edgG nrm n).getD i.toNat []) 1).toNat 0) - wan a (zf.getD i.toNat 0))) (-16777216)) 16777216:=by
   unfold acV
   rw [show (sloZ n zd).getD i.toNat 0=zd.getD (nI ((edgG nrm n).getD i.toNat []) 0).toNat 0 - zd.getD (nI ((edgG nrm n).getD i.toNat []) 1).toNat 0 from getD_at e2]
  rw [ev] at es
  have bx:-16777216≤zd.getD (nI ((edgG nrm n).getD i.toNat []) 0).toNat 0 - zd.getD (nI ((edgG nrm n).getD i.toNat []) 1).toNat 0∧zd.getD (nI ((edgG nrm n).getD i.toNat []) 0).toNat 0 - zd.getD (nI ((edgG nrm n).getD i.toNat []) 1).toNat 0≤16777216:=by omega
  clear ev
  generalize zd.getD (nI ((edgG nrm n).getD i.toNat []) 0).toNat 0 - zd.getD (nI ((edgG nrm n).getD i.toNat []) 1).toNat 0=x at *
  have w1:=wan_b ha b1
  have w2:-16777216≤wan b x∧wan b x≤16777216:=wan_b hb bx
  have hsl:(sloZ n zd).length=(edgG nrm n).length:=sloI_len _ _ _
  refine cd1 ⟨i0,by omega⟩ ⟨zf.getD i.toNat 0,by rw [intsL_at e1]; rfl,cd1 ⟨i0,by rw [intsL_len]; omega⟩ ⟨x,by rw [intsL_at e2]; rfl,cd1 (by omega) (cd1 (by omega) ?_)⟩⟩
  show cond (decide (rng .i64 (wan b x - wan a (zf.getD i.toNat 0)))) _ _
  refine cdI (by omega) (cdI (show _∧_ by show _≤zf.getD i.toNat 0+(wan b x - wan a (zf.getD i.toNat 0))∧zf.getD i.toNat 0+(wan b x - wan a (zf.getD i.toNat 0))≤_; omega) (cd1 ⟨by rw [intsL_len],by rw [intsL_len,List.length_singleton]; simp only; omega,by rw [intsL_len,List.length_singleton]; simp only; omega⟩ (cdI (by simp only; omega) ⟨(i+1,os++[min (max (zf.getD i.toNat 0+(wan b x - wan a (zf.getD i.toNat 0))) (-16777216)) 16777216]),⟨by simp only; omega,by simp only; omega,es.symm⟩,by simp only [acL]; omega,?_⟩)))
  simp only [← intsL_app,List.length_append,intsL_len,List.length_singleton]
  (repeat' (first | exact trivial | exact rfl | assumption | apply And.intro))
 ·simp only at q
  have e:os=acZ n a b zd zf:=by rw [ie,show i.toNat=(edgG nrm n).length by omega]; rfl
  subst e
  have de':=de.symm
  exact cd1 (by rw [intsL_len]) (by repeat' first|exact trivial|exact rfl|assumption|apply And.intro)
theorem macc_e (outB:Int->Int->List Int->Bool) (schE:Int->Int->Int->Int):macc_T outB schE=(∀ (n a b c:Int) (g h:Bool) (ds fs:LL),AmoP n a b c ds fs->fnK Tryz.prog { glob:=glb,spec:=lk [(65,(fsch_s outB schE)),(145,mslo_s),(60,icln_s)],specH:=lk [],shape:=[40,45],nowf:=true } { nt:=65,drop:=drp [(1,12288),(2,16384),(3,196608),(4,8126464),(5,8388608),(6,100663296),(7,8455716864),(8,8589934592),(10,1924145348608),(11,36026597995708416),(12,9187343239835811840),(13,9223372036854775808),(14,18446744073709551616)],emp:=λ id=>cond (Nat.beq id 8) [(1000902,900,3,1)] [] } (invs [(9,acL n a b c g h (ungI ds) (ungI fs))]) 6 Tryz.f102 [.agg [.int .i64 a,.int .i64 b,.int .i64 c],.agg [.int .i64 n,.sl 1 g ds,.sl 1 h fs]] (.tup [.agg [.int .i64 n,.sl 1 false ds,.sl 1 false (intsL (acZ n a b (ungI ds) (ungI fs)))],.int .i64 0])):=by kernel_rfl
def macc_v:=Eq.mp (macc_e ..) (macc_P)
theorem macc_ok:SOK Tryz.prog glb 102 macc_s:=by
 refine ⟨fok Tryz.func102 (by kernel_rfl) (by kernel_rfl),?_⟩
 intro xs pre r h hp
 unfold macc_s at h
 split at h
 ·cases h
  exact fnK_sound tyNil (by exact specOK rfl rfl ⟨(fsch_ok glb),(mslo_ok),(icln_ok glb),trivial⟩ trivial) (by kernel_rfl) Tryz.func102 rfl (macc_v  _ _ _ _ _ _ _ _ hp)
 ·cases h
def macl_s:SpH
 | [.agg [.int .i64 a,.int .i64 b,.int .i64 c]],[]=>some (True,.fn 101 [.ptr 0 0],[.cells [.int .i64 a,.int .i64 b,.int .i64 c]])
 | _,_=>none
def macl_T:Prop :=
 ∀ (gl:Glob) (a b c:Int),(IR9 a)∧(IR9 b)∧(IR9 c)∧True->((0:Nat)=(0:Nat)∧True)∧(a=a∧b=b∧c=c∧True)∧True
theorem macl_P:macl_T:=by
 unfold macl_T
 intro gl a b c
 intros
 (repeat' (first | exact trivial | exact rfl | assumption | apply And.intro))
theorem macl_e:macl_T=(∀ (gl:Glob) (a b c:Int),fnH Tryz.prog { glob:=gl,spec:=lk [],specH:=lk [] } { nt:=4,drop:=drp [(1,8)],fr:=1000,kp:=[] } (λ _ _=>none) 6 Tryz.f51 [.agg [.int .i64 a,.int .i64 b,.int .i64 c]] [] (.fn 101 [.ptr 0 0]) [.cells [.int .i64 a,.int .i64 b,.int .i64 c]]):=by kernel_rfl
def macl_v:=Eq.mp (macl_e ..) (macl_P)
theorem macl_ok (gl:Glob):HOK Tryz.prog gl 51 macl_s:=by
 refine ⟨fok Tryz.func51 (by kernel_rfl) (by kernel_rfl),?_⟩
 intro xs bs pre r bs2 h hp
 unfold macl_s at h
 split at h
 ·cases h
  exact fnH_sound tyNil (by exact specOK rfl rfl trivial trivial) (by kernel_rfl) Tryz.func51 (macl_v gl _ _ _)
 ·cases h
def mmvl_s:SpH
 | [.agg [.int .i64 a,.int .i64 b,.int .i64 c]],[]=>some (True,.fn 103 [.ptr 0 0],[.cells [.int .i64 a,.int .i64 b,.int .i64 c]])
 | _,_=>none
def mmvl_T:Prop :=
 ∀ (gl:Glob) (a b c:Int),(IR9 a)∧(IR9 b)∧(IR9 c)∧True->((0:Nat)=(0:Nat)∧True)∧(a=a∧b=b∧c=c∧True)∧True
theorem mmvl_P:mmvl_T:=by
 unfold mmvl_T
 intro gl a b c
 intros
 (repeat' (first | exact trivial | exact rfl | assumption | apply And.intro))
theorem mmvl_e:mmvl_T=(∀ (gl:Glob) (a b c:Int),fnH Tryz.prog { glob:=gl,spec:=lk [],specH:=lk [] } { nt:=4,drop:=drp [(1,8)],fr:=1000,kp:=[] } (λ _ _=>none) 6 Tryz.f52 [.agg [.int .i64 a,.int .i64 b,.int .i64 c]] [] (.fn 103 [.ptr 0 0]) [.cells [.int .i64 a,.int .i64 b,.int .i64 c]]):=by kernel_rfl
def mmvl_v:=Eq.mp (mmvl_e ..) (mmvl_P)
theorem mmvl_ok (gl:Glob):HOK Tryz.prog gl 52 mmvl_s:=by
 refine ⟨fok Tryz.func52 (by kernel_rfl) (by kernel_rfl),?_⟩
 intro xs bs pre r bs2 h hp
 unfold mmvl_s at h
 split at h
 ·cases h
  exact fnH_sound tyNil (by exact specOK rfl rfl trivial trivial) (by kernel_rfl) Tryz.func52 (mmvl_v gl _ _ _)
 ·cases h
def mac1_s:SpH
 | [.agg [.int .i64 n,.sl 1 g ds,.sl 1 h fs,.nils],.ptr 0 0],[.cells [.int .i64 a,.int .i64 b,.int .i64 c]]=>some (AmoP n a b c ds fs,.tup [.agg [.int .i64 n,.sl 1 false ds,.sl 1 false (intsL (acZ n a b (ungI ds) (ungI fs))),.nils],.int .i64 0],[.cells [.int .i64 a,.int .i64 b,.int .i64 c]])
 | _,_=>none
def mac1_T:Prop :=
 ∀ (n a b c:Int) (g h:Bool) (ds fs:LL),AmoP n a b c ds fs->(IR9 n)∧True∧True∧True∧True->True->IR9 a->IR9 b->IR9 c->AmoP n a b c ds fs∧((n=n∧(True∧ds=ds)∧(True∧intsL (acZ n a b (ungI ds) (ungI fs))=intsL (acZ n a b (ungI ds) (ungI fs)))∧True∧True)∧(0:Int)=(0:Int)∧True)∧(a=a∧b=b∧c=c∧True)∧True
theorem mac1_P:mac1_T:=by
 unfold mac1_T
 intro n a b c g h ds fs hP
 intros
 exact ⟨hP,by repeat' first|exact trivial|exact rfl|assumption|apply And.intro⟩
theorem mac1_e:mac1_T=(∀ (n a b c:Int) (g h:Bool) (ds fs:LL),AmoP n a b c ds fs->fnH Tryz.prog { glob:=glb,spec:=lk [(102,macc_s)],specH:=lk [],nowf:=true } { nt:=19,drop:=drp [(1,16256),(2,507904)],fr:=1000,kp:=[0] } (λ _ _=>none) 6 Tryz.f101 [.agg [.int .i64 n,.sl 1 g ds,.sl 1 h fs,.nils],.ptr 0 0] [.cells [.int .i64 a,.int .i64 b,.int .i64 c]] (.tup [.agg [.int .i64 n,.sl 1 false ds,.sl 1 false (intsL (acZ n a b (ungI ds) (ungI fs))),.nils],.int .i64 0]) [.cells [.int .i64 a,.int .i64 b,.int .i64 c]]):=by kernel_rfl
def mac1_v:=Eq.mp (mac1_e ..) (mac1_P)
theorem mac1_ok:HOK Tryz.prog glb 101 mac1_s:=by
 refine ⟨fok Tryz.func101 (by kernel_rfl) (by kernel_rfl),?_⟩
 intro xs bs pre r bs2 h hp
 unfold mac1_s at h
 split at h
 ·cases h
  exact fnH_sound tyNil (by exact specOK rfl rfl ⟨(macc_ok),trivial⟩ trivial) (by kernel_rfl) Tryz.func101 (mac1_v  _ _ _ _ _ _ _ _ hp)
 ·cases h
def am1 (n c:Int) (ds fs:List Int):List Int:=(amZ n c ds fs).1
def mmv1_s:SpH
 | [.agg [.int .i64 n,.sl 1 g ds,.sl 1 h fs,.nils],.ptr 0 0],[.cells [.int .i64 a,.int .i64 b,.int .i64 c]]=>some (AmoP n a b c ds fs,.tup [.agg [.int .i64 (mvN n (am1 n c (ungI ds) (ungI fs)) (ungI ds)),.sl 1 false (mvD n (am1 n c (ungI ds) (ungI fs)) (ungI ds)),.sl 1 false (mvF n (am1 n c (ungI ds) (ungI fs)) (ungI ds) fs),.sl 1 false (intsL (amZ n c (ungI ds) (ungI fs)).2)],.int .i64 (mvE n (am1 n c (ungI ds) (ungI fs)) (ungI ds))],[.cells [.int .i64 a,.int .i64 b,.int .i64 c]])
 | _,_=>none
def mmv1_T:Prop :=
 ∀ (n a b c:Int) (g h:Bool) (ds fs:LL),AmoP n a b c ds fs->(IR9 n)∧True∧True∧True∧True->True->IR9 a->IR9 b->IR9 c->AmoP n a b c ds fs∧MovP n ds fs (intsL (amZ n c (ungI ds) (ungI fs)).1)∧((mvN n (ungI (intsL (amZ n c (ungI ds) (ungI fs)).1)) (ungI ds)=mvN n (am1 n c (ungI ds) (ungI fs)) (ungI ds)∧(True∧mvD n (ungI (intsL (amZ n c (ungI ds) (ungI fs)).1)) (ungI ds)=mvD n (am1 n c (ungI ds) (ungI fs)) (ungI ds))∧(True∧mvF n (ungI (intsL (amZ n c (ungI ds) (ungI fs)).1)) (ungI ds) fs=mvF n (am1 n c (ungI ds) (ungI fs)) (ungI ds) fs)∧(True∧intsL (amZ n c (ungI ds) (ungI fs)).2=intsL (amZ n c (ungI ds) (ungI fs)).2)∧True)∧mvE n (ungI (intsL (amZ n c (ungI ds) (ungI fs)).1)) (ungI ds)=mvE n (am1 n c (ungI ds) (ungI fs)) (ungI ds)∧True)∧(a=a∧b=b∧c=c∧True)∧True
theorem mmv1_P:mmv1_T:=by
 unfold mmv1_T
 intro n a b c g h ds fs hP
 intros
 rw [ungI_ints]
 exact ⟨hP,hP.mov,by repeat' first|exact trivial|exact rfl|assumption|apply And.intro⟩
theorem mmv1_e:mmv1_T=(∀ (n a b c:Int) (g h:Bool) (ds fs:LL),AmoP n a b c ds fs->fnH Tryz.prog { glob:=glb,spec:=lk [(104,famt_s),(105,fmove_s)],specH:=lk [],nowf:=true } { nt:=32,drop:=drp [(1,130560),(2,131072),(3,1572864),(4,266338304),(5,4026531840)],fr:=1000,kp:=[0] } (λ _ _=>none) 6 Tryz.f103 [.agg [.int .i64 n,.sl 1 g ds,.sl 1 h fs,.nils],.ptr 0 0] [.cells [.int .i64 a,.int .i64 b,.int .i64 c]] (.tup [.agg [.int .i64 (mvN n (am1 n c (ungI ds) (ungI fs)) (ungI ds)),.sl 1 false (mvD n (am1 n c (ungI ds) (ungI fs)) (ungI ds)),.sl 1 false (mvF n (am1 n c (ungI ds) (ungI fs)) (ungI ds) fs),.sl 1 false (intsL (amZ n c (ungI ds) (ungI fs)).2)],.int .i64 (mvE n (am1 n c (ungI ds) (ungI fs)) (ungI ds))]) [.cells [.int .i64 a,.int .i64 b,.int .i64 c]]):=by kernel_rfl
def mmv1_v:=Eq.mp (mmv1_e ..) (mmv1_P)
theorem mmv1_ok:HOK Tryz.prog glb 103 mmv1_s:=by
 refine ⟨fok Tryz.func103 (by kernel_rfl) (by kernel_rfl),?_⟩
 intro xs bs pre r bs2 h hp
 unfold mmv1_s at h
 split at h
 ·cases h
  exact fnH_sound tyNil (by exact specOK rfl rfl ⟨(famt_ok),(fmove_ok),trivial⟩ trivial) (by kernel_rfl) Tryz.func103 (mmv1_v  _ _ _ _ _ _ _ _ hp)
 ·cases h
def sAm (n a b c:Int) (ds fs:List Int):List Int:=am1 n c ds (acZ n a b ds fs)
def sE (n a b c:Int) (ds fs:List Int):Int:=mvE n (sAm n a b c ds fs) ds
def sN (n a b c:Int) (ds fs:List Int):Int:=mvN n (sAm n a b c ds fs) ds
def sD (n a b c:Int) (ds fs:List Int):LL:=mvD n (sAm n a b c ds fs) ds
def sF (n a b c:Int) (ds fs:List Int):LL:=mvF n (sAm n a b c ds fs) ds (intsL (acZ n a b ds fs))
def sB (n a b c:Int) (ds fs:List Int):LL:=if mvB n (sAm n a b c ds fs) ds=true then [] else intsL (amZ n c ds (acZ n a b ds fs)).2
def mdo_s:SpH
 | [.rw 0 1 2,.agg [.int .i64 n,.sl 1 g ds,.sl 1 h fs,.nils]],[.row 2000117 1 [[.fn 101 [.ptr 1 0]],[.fn 103 [.ptr 2 0]]],.cells [.int .i64 a,.int .i64 b,.int .i64 c],.cells [.int .i64 p,.int .i64 q,.int .i64 r]]=>some (AmoP n a b c ds fs∧p=a∧q=b∧r=c,.tup [.agg [.int .i64 (sN n a b c (ungI ds) (ungI fs)),.sl 1 false (sD n a b c (ungI ds) (ungI fs)),.sl 1 false (sF n a b c (ungI ds) (ungI fs)),.sl 1 false (sB n a b c (ungI ds) (ungI fs))],.int .i64 (sE n a b c (ungI ds) (ungI fs))],[.row 2000117 1 [[.fn 101 [.ptr 1 0]],[.fn 103 [.ptr 2 0]]],.cells [.int .i64 a,.int .i64 b,.int .i64 c],.cells [.int .i64 p,.int .i64 q,.int .i64 r]])
 | _,_=>none
abbrev mdo_1 (n:Int) (r:Int) (ds:LL) (a:Int) (b:Int) (fs:LL):=(am1 n r (ungI ds) (ungI (intsL (acZ n a b (ungI ds) (ungI fs)))))
def mdo_T:Prop :=
 ∀ (n a b c p q r:Int) (g h:Bool) (ds fs:LL),AmoP n a b c ds fs∧p=a∧q=b∧r=c->True->(IR9 n)∧True∧True∧True∧True->IR9 a->IR9 b->IR9 c->IR9 p->IR9 q->IR9 r->AmoP n a b c ds fs∧AmoP n p q r ds (intsL (acZ n a b (ungI ds) (ungI fs)))∧bif decide ¬mvE n (mdo_1 n r ds a b fs) (ungI ds)=(0:Int) then (((0:Int)=sN n a b c (ungI ds) (ungI fs)∧sD n a b c (ungI ds) (ungI fs)=[]∧sF n a b c (ungI ds) (ungI fs)=[]∧sB n a b c (ungI ds) (ungI fs)=[]∧True)∧mvE n (mdo_1 n r ds a b fs) (ungI ds)=sE n a b c (ungI ds) (ungI fs)∧True)∧[[AV.fn (101:FuncId) [AV.ptr 1 0]],[AV.fn (103:FuncId) [AV.ptr 2 0]]]=[[AV.fn (101:FuncId) [AV.ptr 1 0]],[AV.fn (103:FuncId) [AV.ptr 2 0]]]∧(a=a∧b=b∧c=c∧True)∧(p=p∧q=q∧r=r∧True)∧True else ((mvN n (mdo_1 n r ds a b fs) (ungI ds)=sN n a b c (ungI ds) (ungI fs)∧(True∧mvD n (mdo_1 n r ds a b fs) (ungI ds)=sD n a b c (ungI ds) (ungI fs))∧(True∧mvF n (mdo_1 n r ds a b fs) (ungI ds) (intsL (acZ n a b (ungI ds) (ungI fs)))=sF n a b c (ungI ds) (ungI fs))∧(True∧intsL (amZ n r (ungI ds) (ungI (intsL (acZ n a b (ungI ds) (ungI fs))))).2=sB n a b c (ungI ds) (ungI fs))∧True)∧(0:Int)=sE n a b c (ungI ds) (ungI fs)∧True)∧[[AV.fn (101:FuncId) [AV.ptr 1 0]],[AV.fn (103:FuncId) [AV.ptr 2 0]]]=[[AV.fn (101:FuncId) [AV.ptr 1 0]],[AV.fn (103:FuncId) [AV.ptr 2 0]]]∧(a=a∧b=b∧c=c∧True)∧(p=p∧q=q∧r=r∧True)∧True
theorem mdo_P:mdo_T:=by
 unfold mdo_T
 delta mdo_1
 intro n a b c p q0 r g h ds fs ⟨hP,e1,e2,e3⟩
 intros
 subst e1 e2 e3
 rw [ungI_ints]
 refine ⟨hP,⟨hP.v.acc,hP.sc⟩,?_⟩
 unfold sN sD sF sB sE mvN mvD mvF mvE sAm
 refine csp (λ q=>?_) (λ q=>?_)
 ·have q1:=Classical.byContradiction λ e=>q (if_neg e)
  rw [if_pos q1,if_pos q1,if_pos q1,if_pos q1,if_pos q1]
  (repeat' (first | exact trivial | exact rfl | assumption | apply And.intro))
 ·have q1:¬ mvB n (am1 n r (ungI ds) (acZ n p q0 (ungI ds) (ungI fs))) (ungI ds)=true:=λ e=>q (by rw [if_pos e]; decide)
  rw [if_neg q1,if_neg q1,if_neg q1,if_neg q1,if_neg q1]
  (repeat' (first | exact trivial | exact rfl | assumption | apply And.intro))
theorem mdo_e:mdo_T=(∀ (n a b c p q r:Int) (g h:Bool) (ds fs:LL),AmoP n a b c ds fs∧p=a∧q=b∧r=c->fnH Tryz.prog { glob:=glb,spec:=lk [],specH:=lk [(101,mac1_s),(103,mmv1_s)],nowf:=true } { nt:=28,drop:=drp [(3,49152),(5,4128768),(6,4194304),(8,50331648),(9,67108864),(10,134217728)],fr:=1000,kp:=[0,1,2] } (λ _ _=>none) 6 Tryz.f53 [.rw 0 1 2,.agg [.int .i64 n,.sl 1 g ds,.sl 1 h fs,.nils]] [.row 2000117 1 [[.fn 101 [.ptr 1 0]],[.fn 103 [.ptr 2 0]]],.cells [.int .i64 a,.int .i64 b,.int .i64 c],.cells [.int .i64 p,.int .i64 q,.int .i64 r]] (.tup [.agg [.int .i64 (sN n a b c (ungI ds) (ungI fs)),.sl 1 false (sD n a b c (ungI ds) (ungI fs)),.sl 1 false (sF n a b c (ungI ds) (ungI fs)),.sl 1 false (sB n a b c (ungI ds) (ungI fs))],.int .i64 (sE n a b c (ungI ds) (ungI fs))]) [.row 2000117 1 [[.fn 101 [.ptr 1 0]],[.fn 103 [.ptr 2 0]]],.cells [.int .i64 a,.int .i64 b,.int .i64 c],.cells [.int .i64 p,.int .i64 q,.int .i64 r]]):=by kernel_rfl
def mdo_v:=Eq.mp (mdo_e ..) (mdo_P)
theorem mdo_ok:HOK Tryz.prog glb 53 mdo_s:=by
 refine ⟨fok Tryz.func53 (by kernel_rfl) (by kernel_rfl),?_⟩
 intro xs bs pre r bs2 h hp
 unfold mdo_s at h
 split at h
 ·cases h
  exact fnH_sound tyNil (by exact specOK rfl rfl trivial ⟨(mac1_ok),(mmv1_ok),trivial⟩) (by kernel_rfl) Tryz.func53 (mdo_v  _ _ _ _ _ _ _ _ _ _ _ hp)
 ·cases h
def mstep_s:Sp
 | [.agg [.int .i64 a,.int .i64 b,.int .i64 c],.agg [.int .i64 n,.sl 1 g ds,.sl 1 h fs]]=>some (AmoP n a b c ds fs,.tup [.agg [.int .i64 (sN n a b c (ungI ds) (ungI fs)),.sl 1 false (sD n a b c (ungI ds) (ungI fs)),.sl 1 false (sF n a b c (ungI ds) (ungI fs))],.sl 1 false (sB n a b c (ungI ds) (ungI fs)),.int .i64 (sE n a b c (ungI ds) (ungI fs))])
 | _=>none
def mstep_T:Prop :=
 ∀ (n a b c:Int) (g h:Bool) (ds fs:LL),AmoP n a b c ds fs->(IR9 a)∧(IR9 b)∧(IR9 c)∧True->(IR9 n)∧True∧True∧True->True∧True∧(AmoP n a b c ds fs∧a=a∧b=b∧c=c)∧(sN n a b c (ungI ds) (ungI fs)=sN n a b c (ungI ds) (ungI fs)∧(True∧sD n a b c (ungI ds) (ungI fs)=sD n a b c (ungI ds) (ungI fs))∧(True∧sF n a b c (ungI ds) (ungI fs)=sF n a b c (ungI ds) (ungI fs))∧True)∧(True∧sB n a b c (ungI ds) (ungI fs)=sB n a b c (ungI ds) (ungI fs))∧sE n a b c (ungI ds) (ungI fs)=sE n a b c (ungI ds) (ungI fs)∧True
theorem mstep_P:mstep_T:=by
 unfold mstep_T
 intro n a b c g h ds fs hP
 intros
 exact ⟨trivial,trivial,⟨hP,rfl,rfl,rfl⟩,by repeat' first|exact trivial|exact rfl|assumption|apply And.intro⟩
theorem mstep_e:mstep_T=(∀ (n a b c:Int) (g h:Bool) (ds fs:LL),AmoP n a b c ds fs->fnK Tryz.prog { glob:=glb,spec:=lk [],specH:=lk [(51,macl_s),(52,mmvl_s),(53,mdo_s)],nowf:=true } { nt:=25,drop:=drp [(1,1048064),(2,32505856)] } (λ _ _=>none) 6 Tryz.f20 [.agg [.int .i64 a,.int .i64 b,.int .i64 c],.agg [.int .i64 n,.sl 1 g ds,.sl 1 h fs]] (.tup [.agg [.int .i64 (sN n a b c (ungI ds) (ungI fs)),.sl 1 false (sD n a b c (ungI ds) (ungI fs)),.sl 1 false (sF n a b c (ungI ds) (ungI fs))],.sl 1 false (sB n a b c (ungI ds) (ungI fs)),.int .i64 (sE n a b c (ungI ds) (ungI fs))])):=by kernel_rfl
def mstep_v:=Eq.mp (mstep_e ..) (mstep_P)
theorem mstep_ok:SOK Tryz.prog glb 20 mstep_s:=by
 refine ⟨fok Tryz.func20 (by kernel_rfl) (by kernel_rfl),?_⟩
 intro xs pre r h hp
 unfold mstep_s at h
 split at h
 ·cases h
  exact fnK_sound tyNil (by exact specOK rfl rfl trivial ⟨(macl_ok glb),(mmvl_ok glb),(mdo_ok),trivial⟩) (by kernel_rfl) Tryz.func20 rfl (mstep_v  _ _ _ _ _ _ _ _ hp)
 ·cases h
def scZ (a b c:Int):Int:=30*2 ^ min (max a b+c).toNat 64
theorem p2c {t:Int} (h:0≤t∧t≤8):(2:Int) ^ min t.toNat 64=1∨(2:Int) ^ min t.toNat 64=2∨(2:Int) ^ min t.toNat 64=4∨(2:Int) ^ min t.toNat 64=8∨(2:Int) ^ min t.toNat 64=16∨(2:Int) ^ min t.toNat 64=32∨(2:Int) ^ min t.toNat 64=64∨(2:Int) ^ min t.toNat 64=128∨(2:Int) ^ min t.toNat 64=256:=by
 rcases (show t=0∨t=1∨t=2∨t=3∨t=4∨t=5∨t=6∨t=7∨t=8 by omega) with rfl | rfl | rfl | rfl | rfl | rfl | rfl | rfl | rfl <;> decide
theorem scZ_b {a b c:Int} (h:schE a b c=0):30≤scZ a b c∧scZ a b c≤7680:=by
 obtain ⟨ha,hb,hc⟩:=sch_b h
 have:=p2c (t:=max a b+c) (by omega)
 unfold scZ
 omega
def tscl_s:Sp
 | [.agg [.int .i64 a,.int .i64 b,.int .i64 c]]=>some (schE a b c=0,.tup [.int .i64 (scZ a b c),.int .i64 0])
 | _=>none
def tscl_T (outB:Int->Int->List Int->Bool) (schE:Int->Int->Int->Int):Prop :=
 ∀ (gl:Glob) (a b c:Int),schE a b c=(0:Int)->(IR9 a)∧(IR9 b)∧(IR9 c)∧True->True∧bif decide ¬schE a b c=(0:Int) then (0:Int)=scZ a b c∧schE a b c=(0:Int)∧True else bif decide (rng IntKind.i64 (max a b+c)) then bif decide (0≤max a b+c) then bif decide (rng IntKind.i64 ((30:Int)*(2:Int) ^ min (max a b+c).toNat 64)) then (30:Int)*(2:Int) ^ min (max a b+c).toNat 64=scZ a b c∧(0:Int)=(0:Int)∧True else False else False else False
theorem tscl_P:tscl_T outB schE:=by
 unfold tscl_T
 intro gl a b c h
 intros
 obtain ⟨ha,hb,hc⟩:=sch_b h
 refine ⟨trivial,cd0 (λ q=>q h) (cd1 ?_ (cd1 (by omega) (cd1 ?_ ⟨rfl,rfl,trivial⟩)))⟩
 ·show _∧_; omega
 ·have:=scZ_b h
  show _∧_
  unfold scZ at this
  omega
theorem tscl_e (outB:Int->Int->List Int->Bool) (schE:Int->Int->Int->Int):tscl_T outB schE=(∀ (gl:Glob) (a b c:Int),schE a b c=0->fnK Tryz.prog { glob:=gl,spec:=lk [(65,(fsch_s outB schE))],specH:=lk [],nowf:=true } { nt:=19,drop:=drp [(1,96),(2,128),(3,512),(4,523264)] } (λ _ _=>none) 6 Tryz.f26 [.agg [.int .i64 a,.int .i64 b,.int .i64 c]] (.tup [.int .i64 (scZ a b c),.int .i64 0])):=by kernel_rfl
def tscl_v:=Eq.mp (tscl_e ..) (tscl_P)
theorem tscl_ok (gl:Glob):SOK Tryz.prog gl 26 tscl_s:=by
 refine ⟨fok Tryz.func26 (by kernel_rfl) (by kernel_rfl),?_⟩
 intro xs pre r h hp
 unfold tscl_s at h
 split at h
 ·cases h
  exact fnK_sound tyNil (by exact specOK rfl rfl ⟨(fsch_ok gl),trivial⟩ trivial) (by kernel_rfl) Tryz.func26 rfl (tscl_v gl _ _ _ hp)
 ·cases h
structure ChP (n B:Int) (ds fs:LL):Prop where
 gp:GrdP nrm n
 de:ds=intsL (ungI ds)
 fe:fs=intsL (ungI fs)
 ld:(ungI ds).length=ndN n
 lf:(ungI fs).length=(edgG nrm n).length
 bd:∀ z ∈ ungI ds,-B≤z∧z≤B
 bf:∀ z ∈ ungI fs,-B≤z∧z≤B
structure BrP (n:Int) (bs:LL):Prop where
 be:bs=intsL (ungI bs)
 lb:(ungI bs).length=(edgG nrm n).length
 bb:∀ z ∈ ungI bs,-1≤z∧z≤1
def tchk_s:Sp
 | [.int .i64 n,.sl 1 i bs,.agg [.sl 1 g ds,.sl 1 h fs]]=>some (ChP n 1099511627776 ds fs∧BrP n bs,.int .i64 0)
 | _=>none
def tchk_T (nrm:NrT):Prop :=
 ∀ (n:Int) (i g h:Bool) (bs ds fs:LL),ChP n 1099511627776 ds fs∧BrP n bs->IR9 n->True->True∧True∧True->BldQ nrm n∧(1≤n∧n≤(4:Int))∧bif decide ¬(↑ds.length:Int)=(10:Int)*n*n+(2:Int) then (1:Int)=(0:Int) else bif decide ¬(↑fs.length:Int)=(↑(edgG nrm n).length:Int) then (1:Int)=(0:Int) else bif decide ¬(↑bs.length:Int)=(↑(edgG nrm n).length:Int) then (1:Int)=(0:Int) else ((bs=intsL (ungI bs)∧bs.length≤(1000000:Nat))∧(-9000000000000000000:Int)≤(1:Int)∧(1:Int)≤(9000000000000000000:Int))∧bif outB (-1:Int) 1 (ungI bs) then (1:Int)=(0:Int) else ((ds=intsL (ungI ds)∧ds.length≤(1000000:Nat))∧(-9000000000000000000:Int)≤(1099511627776:Int)∧(1099511627776:Int)≤(9000000000000000000:Int))∧bif outB (-1099511627776:Int) 1099511627776 (ungI ds) then (1:Int)=(0:Int) else ((fs=intsL (ungI fs)∧fs.length≤(1000000:Nat))∧(-9000000000000000000:Int)≤(1099511627776:Int)∧(1099511627776:Int)≤(9000000000000000000:Int))∧bif outB (-1099511627776:Int) 1099511627776 (ungI fs) then (1:Int)=(0:Int) else (0:Int)=(0:Int)
theorem tchk_P:tchk_T nrm:=by
 unfold tchk_T
 intro n i g h bs ds fs ⟨hP,hB⟩
 intros
 have hg:=hP.gp
 have ld:=hP.ld
 have lf:=hP.lf
 have lb:=hB.lb
 rw [ungI_len] at ld lf lb
 have e:=(ndN_eq hg).1
 have hN:=ndN_ge hg
 have hE:=(edgG_in hg.bq).2
 refine ⟨hg.bq,⟨hg.bq.lo,hg.bq.hi⟩,cd0 (by omega) (cd0 (by omega) (cd0 (by omega) ⟨⟨⟨hB.be,by omega⟩,by omega⟩,?_⟩))⟩
 rw [inB_out hB.bb]
 refine ⟨⟨⟨hP.de,by omega⟩,by omega⟩,?_⟩
 rw [inB_out hP.bd]
 refine ⟨⟨⟨hP.fe,by omega⟩,by omega⟩,?_⟩
 rw [inB_out hP.bf]
 rfl
theorem tchk_e (nrm:NrT):tchk_T nrm=(∀ (n:Int) (i g h:Bool) (bs ds fs:LL),ChP n 1099511627776 ds fs∧BrP n bs->fnK Tryz.prog { glob:=glb,spec:=lk [(58,(gedges_s nrm)),(59,gcount_s),(68,tout_s)],specH:=lk [],nowf:=true } { nt:=53,drop:=drp [(1,15872),(2,4503599627354112)] } (λ _ _=>none) 6 Tryz.f71 [.int .i64 n,.sl 1 i bs,.agg [.sl 1 g ds,.sl 1 h fs]] (.int .i64 0)):=by kernel_rfl
def tchk_v:=Eq.mp (tchk_e ..) (tchk_P)
theorem tchk_ok:SOK Tryz.prog glb 71 tchk_s:=by
 refine ⟨fok Tryz.func71 (by kernel_rfl) (by kernel_rfl),?_⟩
 intro xs pre r h hp
 unfold tchk_s at h
 split at h
 ·cases h
  exact fnK_sound tyNil (by exact specOK rfl rfl ⟨(gedges_ok),(gcount_ok glb),(tout_ok glb),trivial⟩ trivial) (by kernel_rfl) Tryz.func71 rfl (tchk_v  _ _ _ _ _ _ _ hp)
 ·cases h
def mk (f:Nat->Int) (k:Nat):List Int:=(List.range k).map f
theorem mk_succ (f:Nat->Int) (k:Nat):mk f (k+1)=mk f k++[f k]:=by unfold mk; rw [List.range_succ,List.map_append]; rfl
theorem mk_len (f:Nat->Int) (k:Nat):(mk f k).length=k:=by simp [mk]
theorem mk_at (f:Nat->Int) {k n:Nat} (h:k < n):(mk f n)[k]?=some (f k):=by simp [mk,h]
theorem mk_getD (f:Nat->Int) {k n:Nat} (h:k < n):(mk f n).getD k 0=f k:=getD_at (mk_at f h)
def taF (es:LL) (Z a b:Int) (ds fs:List Int) (k:Nat):Int:=(Z - wan a Z)*fs.getD k 0+wan b Z*(ds.getD (nI (es.getD k []) 0).toNat 0 - ds.getD (nI (es.getD k []) 1).toNat 0)
def taA (es:LL) (Z a b c:Int) (dg bs ds fs:List Int) (k:Nat):Int :=
 if bs.getD k 0=1 then Z.tdiv (dg.getD (nI (es.getD k []) 0).toNat 0)*ds.getD (nI (es.getD k []) 0).toNat 0
 else if bs.getD k 0=-1 then -(Z.tdiv (dg.getD (nI (es.getD k []) 1).toNat 0)*ds.getD (nI (es.getD k []) 1).toNat 0)
 else wan c (taF es Z a b ds fs k)
def taS (Z:Int) (ds:List Int) (k:Nat):Int:=Z*ds.getD k 0
def taK (n a b c:Int) (bs ds fs:List Int) (k:Nat):List Int:=mvK (edgG nrm n) (mk (taA (edgG nrm n) (scZ a b c) a b c (degZ n) bs ds fs) (edgG nrm n).length) (mk (taS (scZ a b c) ds) (ndN n)) k
def taD (n a b c:Int) (bs ds fs:List Int):List Int:=taK n a b c bs ds fs (edgG nrm n).length
def taG (n a b:Int) (c:Int) (ds fs:List Int):List Int:=mk (taF (edgG nrm n) (scZ a b c) a b ds fs) (edgG nrm n).length
structure OneP (x:Unit):Prop where
 t:True
theorem mul_b {Z K x B:Int} (hz:0≤Z∧Z≤K) (hx:-B≤x∧x≤B):-(K*B)≤Z*x∧Z*x≤K*B:=by
 have h1:Z*B≤K*B:=Int.mul_le_mul_of_nonneg_right hz.2 (by omega)
 have h2:Z*x≤Z*B:=Int.mul_le_mul_of_nonneg_left hx.2 hz.1
 have h3:Z*-B≤Z*x:=Int.mul_le_mul_of_nonneg_left hx.1 hz.1
 rw [Int.mul_neg] at h3
 omega
theorem tdiv_c {x y K:Int} (h0:0≤x∧x≤K) (hy:1≤y):0≤x.tdiv y∧x.tdiv y≤K:=by
 rw [Int.tdiv_eq_ediv_of_nonneg h0.1]
 exact ⟨Int.ediv_nonneg h0.1 (by omega),Int.le_trans (Int.ediv_le_self y h0.1) h0.2⟩
theorem wan_c {s z X:Int} (hs:0≤s∧s≤8) (hz:-X≤z∧z≤X):-X≤wan s z∧wan s z≤X:=by
 unfold wan
 rcases p2c hs with e | e | e | e | e | e | e | e | e <;> rw [e] <;> omega
theorem wan_p {s z:Int} (hs:0≤s∧s≤8) (hz:0≤z):0≤wan s z∧wan s z≤z:=by
 unfold wan
 rcases p2c hs with e | e | e | e | e | e | e | e | e <;> rw [e] <;> omega
theorem taF_b {a b c B:Int} {es:LL} {ds fs:List Int} (hs:schE a b c=0) (hd:∀ j,-B≤ds.getD j 0∧ds.getD j 0≤B) (hf:∀ j,-B≤fs.getD j 0∧fs.getD j 0≤B) (k:Nat):-(23040*B)≤taF es (scZ a b c) a b ds fs k∧taF es (scZ a b c) a b ds fs k≤23040*B:=by
 obtain ⟨ha,hb,hc⟩:=sch_b hs
 have hZ:=scZ_b hs
 have w1:=wan_p (s:=a) (z:=scZ a b c) (by omega) (by omega)
 have w2:=wan_p (s:=b) (z:=scZ a b c) (by omega) (by omega)
 have p1:=mul_b (Z:=scZ a b c - wan a (scZ a b c)) (K:=7680) (by omega) (hf k)
 have d1:=hd (nI (es.getD k []) 0).toNat
 have d2:=hd (nI (es.getD k []) 1).toNat
 have p2:=mul_b (Z:=wan b (scZ a b c)) (K:=7680) (x:=ds.getD (nI (es.getD k []) 0).toNat 0 - ds.getD (nI (es.getD k []) 1).toNat 0) (B:=2*B) (by omega) (by omega)
 unfold taF
 omega
theorem taA_b {a b c B:Int} {es:LL} {dg bs ds fs:List Int} (hs:schE a b c=0) (hd:∀ j,-B≤ds.getD j 0∧ds.getD j 0≤B) (hf:∀ j,-B≤fs.getD j 0∧fs.getD j 0≤B) {k:Nat} (ga:1≤dg.getD (nI (es.getD k []) 0).toNat 0) (gb:1≤dg.getD (nI (es.getD k []) 1).toNat 0):-(23040*B)≤taA es (scZ a b c) a b c dg bs ds fs k∧taA es (scZ a b c) a b c dg bs ds fs k≤23040*B:=by
 obtain ⟨ha,hb,hc⟩:=sch_b hs
 have hZ:=scZ_b hs
 have d1:=hd (nI (es.getD k []) 0).toNat
 have d2:=hd (nI (es.getD k []) 1).toNat
 have p1:=mul_b (tdiv_c (x:=scZ a b c) (K:=7680) (by omega) ga) d1
 have p2:=mul_b (tdiv_c (x:=scZ a b c) (K:=7680) (by omega) gb) d2
 have p3:=wan_c (s:=c) (by omega) (taF_b (es:=es) hs hd hf k)
 unfold taA
 split
 ·omega
 ·split <;> omega
theorem mvK_bdC {es:LL} {ams ds:List Int} {C:Int} (hC:0≤C) (hd:∀ j,-C≤ds.getD j 0∧ds.getD j 0≤C) (ha:∀ j,-C≤ams.getD j 0∧ams.getD j 0≤C):∀ (k j:Nat),-((2*(k:Int)+1)*C)≤(mvK es ams ds k).getD j 0∧(mvK es ams ds k).getD j 0≤(2*(k:Int)+1)*C
 | 0,j=>by
  have:=hd j
  simp only [mvK]; omega
 | k+1,j=>by
  have hz:=ha k
  have h1:=set_bd (l:=mvK es ams ds k) (λ j=>mvK_bdC hC hd ha k j) (x:=-ams.getD k 0) (C:=C) (by omega) (i:=(nI (es.getD k []) 0).toNat) hC
  have h2:=set_bd h1 (x:=ams.getD k 0) (C:=C) hz (i:=(nI (es.getD k []) 1).toNat) hC j
  rw [show (2*((k+1:Nat):Int)+1)=(2*(k:Int)+1)+1+1 by omega,Int.add_mul,Int.add_mul,Int.one_mul]
  rw [mvK]
  unfold mvS
  simp only [Int.sub_eq_add_neg] at h2 ⊢
  omega
theorem gD_b {l:List Int} {B:Int} (hB:0≤B) (h:∀ z ∈ l,-B≤z∧z≤B):∀ j,-B≤l.getD j 0∧l.getD j 0≤B:=λ j=>getD_bd hB h j
theorem mk_b {f:Nat->Int} {n:Nat} {C:Int} (hC:0≤C) (h:∀ k,k < n->-C≤f k∧f k≤C):∀ j,-C≤(mk f n).getD j 0∧(mk f n).getD j 0≤C:=gD_b hC λ z hz=>by
 simp only [mk,List.mem_map,List.mem_range] at hz
 obtain ⟨k,hk,rfl⟩:=hz
 exact h k hk
theorem taS_b {a b c B:Int} {ds:List Int} (hs:schE a b c=0) (hd:∀ j,-B≤ds.getD j 0∧ds.getD j 0≤B) (k:Nat):-(7680*B)≤taS (scZ a b c) ds k∧taS (scZ a b c) ds k≤7680*B:=by
 have hZ:=scZ_b hs
 exact mul_b (by omega) (hd k)
theorem taK_b {n a b c B:Int} {bs ds fs:List Int} (hg:GrdP nrm n) (hB:0≤B) (hs:schE a b c=0) (hd:∀ j,-B≤ds.getD j 0∧ds.getD j 0≤B) (hf:∀ j,-B≤fs.getD j 0∧fs.getD j 0≤B) (k j:Nat):-((2*(k:Int)+1)*(23040*B))≤(taK n a b c bs ds fs k).getD j 0∧(taK n a b c bs ds fs k).getD j 0≤(2*(k:Int)+1)*(23040*B) :=
 mvK_bdC (by omega) (mk_b (by omega) λ k _=>by have:=taS_b hs hd k; omega) (mk_b (by omega) λ k hk=>by
  obtain ⟨ea,eb⟩:=edg_at hg hk
  exact taA_b hs hd hf (deg_pos hg (by omega)) (deg_pos hg (by omega))) k j
theorem taK_len (n a b c:Int) (bs ds fs:List Int) (k:Nat):(taK n a b c bs ds fs k).length=ndN n:=by unfold taK; rw [mvK_len,mk_len]
theorem ChP.mono {n B C:Int} {ds fs:LL} (h:ChP n B ds fs) (q:B≤C):ChP n C ds fs :=
 ⟨h.gp,h.de,h.fe,h.ld,h.lf,λ z hz=>by have:=h.bd z hz; omega,λ z hz=>by have:=h.bf z hz; omega⟩
structure LtP (m:Nat) (i:Int):Prop where
 lo:0≤i
 hi:i≤m
def ta1 (n a b c:Int) (i g h:Bool) (bs ds fs:LL):LInv:=⟨Int,λ x=>⟨[(2,.sl 1 i bs),(4,.ptr 4 0),(7,.ptr 7 0),(8,.ptr 8 0),(9,.int .i64 0),(10,.int .i64 (scZ a b c)),(13,.sl 1 false (intsL (degZ n))),(14,.sl 2 false (edgG nrm n)),(15,.ptr 15 0),(58,.sl 1 g ds),(59,.int .i64 ds.length),(60,.int .i64 x)],[(4,.cells [.int .i64 a,.int .i64 b,.int .i64 c]),(7,.cells [.sl 1 g ds,.sl 1 h fs]),(8,.cells [.nils,.nils]),(15,.cells [.rw 1500 1 x.toNat,.rw 1510 1 0]),(1500,.row 3 1 (intsL (mk (taS (scZ a b c) (ungI ds)) x.toNat))),(1510,.row 3 1 [])]⟩,LtP ds.length,λ x=>(ds.length - x).toNat,none⟩
def ta2 (n a b c:Int) (i g h:Bool) (bs ds fs:LL):LInv:=⟨Int,λ x=>⟨[(2,.sl 1 i bs),(4,.ptr 4 0),(7,.ptr 7 0),(8,.ptr 8 0),(9,.int .i64 0),(10,.int .i64 (scZ a b c)),(13,.sl 1 false (intsL (degZ n))),(15,.ptr 15 0),(73,.sl 2 false (edgG nrm n)),(74,.int .i64 (edgG nrm n).length),(75,.int .i64 x)],[(4,.cells [.int .i64 a,.int .i64 b,.int .i64 c]),(7,.cells [.sl 1 g ds,.sl 1 h fs]),(8,.cells [.nils,.nils]),(15,.cells [.rw 1500 1 (ndN n),.rw 1510 1 x.toNat]),(1500,.row 3 1 (intsL (taK n a b c (ungI bs) (ungI ds) (ungI fs) x.toNat))),(1510,.row 3 1 (intsL (mk (taF (edgG nrm n) (scZ a b c) a b (ungI ds) (ungI fs)) x.toNat)))]⟩,LtP (edgG nrm n).length,λ x=>((edgG nrm n).length - x).toNat,none⟩
def ta3 (n a b c:Int) (i g h:Bool) (bs ds fs:LL) (x:Int):LInv:=⟨Unit,λ _=>⟨[(2,.sl 1 i bs),(4,.ptr 4 0),(7,.ptr 7 0),(8,.ptr 8 0),(9,.int .i64 0),(10,.int .i64 (scZ a b c)),(13,.sl 1 false (intsL (degZ n))),(15,.ptr 15 0),(19,.ptr 19 0),(20,.int .i64 (taF (edgG nrm n) (scZ a b c) a b (ungI ds) (ungI fs) x.toNat)),(21,.int .i64 (taA (edgG nrm n) (scZ a b c) a b c (degZ n) (ungI bs) (ungI ds) (ungI fs) x.toNat)),(73,.sl 2 false (edgG nrm n)),(74,.int .i64 (edgG nrm n).length),(75,.int .i64 x)],[(4,.cells [.int .i64 a,.int .i64 b,.int .i64 c]),(7,.cells [.sl 1 g ds,.sl 1 h fs]),(8,.cells [.nils,.nils]),(15,.cells [.rw 1500 1 (ndN n),.rw 1510 1 x.toNat]),(19,.cells [.int .i64 (nI ((edgG nrm n).getD x.toNat []) 0),.int .i64 (nI ((edgG nrm n).getD x.toNat []) 1)]),(1500,.row 3 1 (intsL (taK n a b c (ungI bs) (ungI ds) (ungI fs) x.toNat))),(1510,.row 3 1 (intsL (mk (taF (edgG nrm n) (scZ a b c) a b (ungI ds) (ungI fs)) x.toNat)))]⟩,OneP,λ _=>0,none⟩
def tapp_s:Sp
 | [.agg [.int .i64 a,.int .i64 b,.int .i64 c],.int .i64 n,.sl 1 i bs,.agg [.sl 1 g ds,.sl 1 h fs]]=>some (schE a b c=0∧ChP n 10000000000 ds fs∧BrP n bs,.tup [.agg [.sl 1 false (intsL (taD n a b c (ungI bs) (ungI ds) (ungI fs))),.sl 1 false (intsL (taG n a b c (ungI ds) (ungI fs)))],.int .i64 0])
 | _=>none
abbrev tapp_1 (n:Int):=(edgG YtgbbmadjdaphnaaGreatDoor.nrm n)
abbrev tapp_2 (g:Bool) (ds:LL) (h:Bool) (fs:LL):=(((bif g then g=true else True)∧ds=ds)∧((bif h then h=true else True)∧fs=fs)∧True)
abbrev tapp_3 (n:Int) (a:Int) (b:Int) (c:Int) (ds:LL) (fs:LL):=(taF (tapp_1 n) (scZ a b c) a b (ungI ds) (ungI fs))
abbrev tapp_4 (n:Int):=(True∧edgG YtgbbmadjdaphnaaGreatDoor.nrm n=edgG YtgbbmadjdaphnaaGreatDoor.nrm n)
abbrev tapp_5 (a:Int) (b:Int) (c:Int):=(scZ a b c - scZ a b c / (2:Int) ^ min a.toNat 64)
abbrev tapp_6 (n:Int):=(True∧intsL (degZ n)=intsL (degZ n))
abbrev tapp_7 (i:Bool) (bs:LL):=((bif i then i=true else True)∧bs=bs)
def tapp_T (nrm:NrT):Prop :=
 ∀ (n a b c:Int) (i g h:Bool) (bs ds fs:LL),schE a b c=(0:Int)∧ChP n 10000000000 ds fs∧BrP n bs->(IR9 a)∧(IR9 b)∧(IR9 c)∧True->IR9 n->True->True∧True∧True->schE a b c=(0:Int)∧(ChP n 1099511627776 ds fs∧BrP n bs)∧GrdP YtgbbmadjdaphnaaGreatDoor.nrm n∧BldQ nrm n∧(∃ x,LtP ds.length x∧((tapp_7 i bs)∧(0:Nat)=(0:Nat)∧(0:Nat)=(0:Nat)∧(0:Nat)=(0:Nat)∧(0:Int)=(0:Int)∧scZ a b c=scZ a b c∧(tapp_6 n)∧(True∧edgG nrm n=edgG YtgbbmadjdaphnaaGreatDoor.nrm n)∧(0:Nat)=(0:Nat)∧((bif g then g=true else True)∧ds=ds)∧(↑ds.length:Int)=(↑ds.length:Int)∧(0:Int)=x∧True)∧(a=a∧b=b∧c=c∧True)∧(tapp_2 g ds h fs)∧(True∧True∧True)∧((0:Nat)=Int.toNat x∧(0:Nat)=(0:Nat)∧True)∧[]=intsL (mk (taS (scZ a b c) (ungI ds)) (Int.toNat x))∧([]:LL)=[]∧True)∧∀ (x1:Int),LtP ds.length x1->bif decide (x1 < (↑ds.length:Int)) then bif decide (0≤x1∧x1 < (↑ds.length:Int)) then ∃ n_1,List.take [I6 n_1].length (ds.getD x1.toNat [])=[I6 n_1]∧bif decide (rng IntKind.i64 (scZ a b c*n_1)) then bif decide (x1.toNat=(intsL (mk (taS (scZ a b c) (ungI ds)) x1.toNat)).length∧(intsL (mk (taS (scZ a b c) (ungI ds)) x1.toNat)).length+[[I6 (scZ a b c*n_1)]].length≤(9223372036854775807:Nat)∧((intsL (mk (taS (scZ a b c) (ungI ds)) x1.toNat)).length+[[I6 (scZ a b c*n_1)]].length)*(8:Nat)≤(140737488355328:Nat)) then bif decide (rng IntKind.i64 (x1+(1:Int))) then ∃ y,LtP ds.length y∧((λ x1=>ta1 n a b c i g h bs ds fs) 0).m y < ((λ x1=>ta1 n a b c i g h bs ds fs) 0).m x1∧((tapp_7 i bs)∧(0:Nat)=(0:Nat)∧(0:Nat)=(0:Nat)∧(0:Nat)=(0:Nat)∧(0:Int)=(0:Int)∧scZ a b c=scZ a b c∧(tapp_6 n)∧(tapp_4 n)∧(0:Nat)=(0:Nat)∧((bif g then g=true else True)∧ds=ds)∧(↑ds.length:Int)=(↑ds.length:Int)∧x1+(1:Int)=y∧True)∧(a=a∧b=b∧c=c∧True)∧(tapp_2 g ds h fs)∧(True∧True∧True)∧((intsL (mk (taS (scZ a b c) (ungI ds)) x1.toNat)++[[I6 (scZ a b c*n_1)]]).length=Int.toNat y∧(0:Nat)=(0:Nat)∧True)∧intsL (mk (taS (scZ a b c) (ungI ds)) x1.toNat)++[[I6 (scZ a b c*n_1)]]=intsL (mk (taS (scZ a b c) (ungI ds)) (Int.toNat y))∧([]:LL)=[]∧True else False else False else False else False else (∃ x_1,LtP (tapp_1 n).length x_1∧((tapp_7 i bs)∧(0:Nat)=(0:Nat)∧(0:Nat)=(0:Nat)∧(0:Nat)=(0:Nat)∧(0:Int)=(0:Int)∧scZ a b c=scZ a b c∧(tapp_6 n)∧(0:Nat)=(0:Nat)∧(tapp_4 n)∧(↑(tapp_1 n).length:Int)=(↑(tapp_1 n).length:Int)∧(0:Int)=x_1∧True)∧(a=a∧b=b∧c=c∧True)∧(tapp_2 g ds h fs)∧(True∧True∧True)∧(x1.toNat=ndN n∧(0:Nat)=Int.toNat x_1∧True)∧intsL (mk (taS (scZ a b c) (ungI ds)) x1.toNat)=intsL (taK n a b c (ungI bs) (ungI ds) (ungI fs) (Int.toNat x_1))∧[]=intsL (mk (tapp_3 n a b c ds fs) (Int.toNat x_1))∧True)∧∀ (x2:Int),LtP (tapp_1 n).length x2->bif decide (x2 < (↑(tapp_1 n).length:Int)) then bif decide (0≤x2∧x2 < (↑(tapp_1 n).length:Int)) then ∃ n_1 n_2,List.take [I6 n_1,I6 n_2].length ((tapp_1 n).getD x2.toNat [])=[I6 n_1,I6 n_2]∧bif decide (0≤a) then bif decide (rng IntKind.i64 (tapp_5 a b c)) then bif decide (0≤x2∧x2 < (↑fs.length:Int)) then ∃ n_3,List.take [I6 n_3].length (fs.getD x2.toNat [])=[I6 n_3]∧bif decide (rng IntKind.i64 ((tapp_5 a b c)*n_3)) then bif decide (0≤b) then bif decide (0≤n_1∧n_1 < (↑ds.length:Int)) then ∃ n_4,List.take [I6 n_4].length (ds.getD n_1.toNat [])=[I6 n_4]∧bif decide (0≤n_2∧n_2 < (↑ds.length:Int)) then ∃ n_5,List.take [I6 n_5].length (ds.getD n_2.toNat [])=[I6 n_5]∧bif decide (rng IntKind.i64 (n_4 - n_5)) then bif decide (rng IntKind.i64 (scZ a b c / (2:Int) ^ min b.toNat 64*(n_4 - n_5))) then bif decide (rng IntKind.i64 ((tapp_5 a b c)*n_3+scZ a b c / (2:Int) ^ min b.toNat 64*(n_4 - n_5))) then bif decide (0≤c) then (bif decide (0≤x2∧x2 < (↑bs.length:Int)) then ∃ n_6,List.take [I6 n_6].length (bs.getD x2.toNat [])=[I6 n_6]∧bif decide (n_6=(1:Int)) then bif decide (0≤n_1∧n_1 < (↑(intsL (degZ n)).length:Int)) then ∃ n_7,List.take [I6 n_7].length ((intsL (degZ n)).getD n_1.toNat [])=[I6 n_7]∧bif decide ¬n_7=(0:Int) then bif decide (rng IntKind.i64 ((scZ a b c).tdiv n_7)) then bif decide (0≤n_1∧n_1 < (↑ds.length:Int)) then ∃ n_8,List.take [I6 n_8].length (ds.getD n_1.toNat [])=[I6 n_8]∧bif decide (rng IntKind.i64 ((scZ a b c).tdiv n_7*n_8)) then ∃ x_1,OneP x_1∧((tapp_7 i bs)∧(0:Nat)=(0:Nat)∧(0:Nat)=(0:Nat)∧(0:Nat)=(0:Nat)∧(0:Int)=(0:Int)∧scZ a b c=scZ a b c∧(tapp_6 n)∧(0:Nat)=(0:Nat)∧(0:Nat)=(0:Nat)∧(tapp_5 a b c)*n_3+scZ a b c / (2:Int) ^ min b.toNat 64*(n_4 - n_5)=taF (tapp_1 n) (scZ a b c) a b (ungI ds) (ungI fs) x2.toNat∧(scZ a b c).tdiv n_7*n_8=taA (tapp_1 n) (scZ a b c) a b c (degZ n) (ungI bs) (ungI ds) (ungI fs) x2.toNat∧(tapp_4 n)∧(↑(tapp_1 n).length:Int)=(↑(tapp_1 n).length:Int)∧x2=x2∧True)∧(a=a∧b=b∧c=c∧True)∧(tapp_2 g ds h fs)∧(True∧True∧True)∧(ndN n=ndN n∧x2.toNat=x2.toNat∧True)∧(n_1=nI ((tapp_1 n).getD x2.toNat []) 0∧n_2=nI ((tapp_1 n).getD x2.toNat []) 1∧True)∧intsL (taK n a b c (ungI bs) (ungI ds) (ungI fs) x2.toNat)=intsL (taK n a b c (ungI bs) (ungI ds) (ungI fs) x2.toNat)∧intsL (mk (tapp_3 n a b c ds fs) x2.toNat)=intsL (mk (tapp_3 n a b c ds fs) x2.toNat)∧True else False else False else False else False else False else bif decide (n_6=(-1:Int)) then bif decide (0≤n_2∧n_2 < (↑(intsL (degZ n)).length:Int)) then ∃ n_7,List.take [I6 n_7].length ((intsL (degZ n)).getD n_2.toNat [])=[I6 n_7]∧bif decide ¬n_7=(0:Int) then bif decide (rng IntKind.i64 ((scZ a b c).tdiv n_7)) then bif decide (0≤n_2∧n_2 < (↑ds.length:Int)) then ∃ n_8,List.take [I6 n_8].length (ds.getD n_2.toNat [])=[I6 n_8]∧bif decide (rng IntKind.i64 ((scZ a b c).tdiv n_7*n_8)) then bif decide (rng IntKind.i64 ((0:Int) - (scZ a b c).tdiv n_7*n_8)) then ∃ x_1,OneP x_1∧((tapp_7 i bs)∧(0:Nat)=(0:Nat)∧(0:Nat)=(0:Nat)∧(0:Nat)=(0:Nat)∧(0:Int)=(0:Int)∧scZ a b c=scZ a b c∧(tapp_6 n)∧(0:Nat)=(0:Nat)∧(0:Nat)=(0:Nat)∧(tapp_5 a b c)*n_3+scZ a b c / (2:Int) ^ min b.toNat 64*(n_4 - n_5)=taF (tapp_1 n) (scZ a b c) a b (ungI ds) (ungI fs) x2.toNat∧(0:Int) - (scZ a b c).tdiv n_7*n_8=taA (tapp_1 n) (scZ a b c) a b c (degZ n) (ungI bs) (ungI ds) (ungI fs) x2.toNat∧(tapp_4 n)∧(↑(tapp_1 n).length:Int)=(↑(tapp_1 n).length:Int)∧x2=x2∧True)∧(a=a∧b=b∧c=c∧True)∧(tapp_2 g ds h fs)∧(True∧True∧True)∧(ndN n=ndN n∧x2.toNat=x2.toNat∧True)∧(n_1=nI ((tapp_1 n).getD x2.toNat []) 0∧n_2=nI ((tapp_1 n).getD x2.toNat []) 1∧True)∧intsL (taK n a b c (ungI bs) (ungI ds) (ungI fs) x2.toNat)=intsL (taK n a b c (ungI bs) (ungI ds) (ungI fs) x2.toNat)∧intsL (mk (tapp_3 n a b c ds fs) x2.toNat)=intsL (mk (tapp_3 n a b c ds fs) x2.toNat)∧True else False else False else False else False else False else False else ∃ x_1,OneP x_1∧((tapp_7 i bs)∧(0:Nat)=(0:Nat)∧(0:Nat)=(0:Nat)∧(0:Nat)=(0:Nat)∧(0:Int)=(0:Int)∧scZ a b c=scZ a b c∧(tapp_6 n)∧(0:Nat)=(0:Nat)∧(0:Nat)=(0:Nat)∧(tapp_5 a b c)*n_3+scZ a b c / (2:Int) ^ min b.toNat 64*(n_4 - n_5)=taF (tapp_1 n) (scZ a b c) a b (ungI ds) (ungI fs) x2.toNat∧((tapp_5 a b c)*n_3+scZ a b c / (2:Int) ^ min b.toNat 64*(n_4 - n_5)) / (2:Int) ^ min c.toNat 64=taA (tapp_1 n) (scZ a b c) a b c (degZ n) (ungI bs) (ungI ds) (ungI fs) x2.toNat∧(tapp_4 n)∧(↑(tapp_1 n).length:Int)=(↑(tapp_1 n).length:Int)∧x2=x2∧True)∧(a=a∧b=b∧c=c∧True)∧(tapp_2 g ds h fs)∧(True∧True∧True)∧(ndN n=ndN n∧x2.toNat=x2.toNat∧True)∧(n_1=nI ((tapp_1 n).getD x2.toNat []) 0∧n_2=nI ((tapp_1 n).getD x2.toNat []) 1∧True)∧intsL (taK n a b c (ungI bs) (ungI ds) (ungI fs) x2.toNat)=intsL (taK n a b c (ungI bs) (ungI ds) (ungI fs) x2.toNat)∧intsL (mk (tapp_3 n a b c ds fs) x2.toNat)=intsL (mk (tapp_3 n a b c ds fs) x2.toNat)∧True else False)∧∀ (x3:PUnit),OneP x3->bif decide (x2.toNat=(intsL (mk (tapp_3 n a b c ds fs) x2.toNat)).length∧(intsL (mk (tapp_3 n a b c ds fs) x2.toNat)).length+[[I6 (taF (tapp_1 n) (scZ a b c) a b (ungI ds) (ungI fs) x2.toNat)]].length≤(9223372036854775807:Nat)∧((intsL (mk (tapp_3 n a b c ds fs) x2.toNat)).length+[[I6 (taF (tapp_1 n) (scZ a b c) a b (ungI ds) (ungI fs) x2.toNat)]].length)*(8:Nat)≤(140737488355328:Nat)) then bif decide (0≤nI ((tapp_1 n).getD x2.toNat []) 0∧nI ((tapp_1 n).getD x2.toNat []) 0 < (↑(ndN n):Int)) then bif decide (ndN n=(intsL (taK n a b c (ungI bs) (ungI ds) (ungI fs) x2.toNat)).length∧(nI ((tapp_1 n).getD x2.toNat []) 0).toNat < (intsL (taK n a b c (ungI bs) (ungI ds) (ungI fs) x2.toNat)).length) then ∃ n_6,List.take [I6 n_6].length (List.drop 0 ((intsL (taK n a b c (ungI bs) (ungI ds) (ungI fs) x2.toNat)).getD (nI ((tapp_1 n).getD x2.toNat []) 0).toNat []))=[I6 n_6]∧bif decide (rng IntKind.i64 (n_6 - taA (tapp_1 n) (scZ a b c) a b c (degZ n) (ungI bs) (ungI ds) (ungI fs) x2.toNat)) then bif decide (0≤nI ((tapp_1 n).getD x2.toNat []) 0∧nI ((tapp_1 n).getD x2.toNat []) 0 < (↑(ndN n):Int)) then bif decide (ndN n=(intsL (taK n a b c (ungI bs) (ungI ds) (ungI fs) x2.toNat)).length∧(nI ((tapp_1 n).getD x2.toNat []) 0).toNat < (intsL (taK n a b c (ungI bs) (ungI ds) (ungI fs) x2.toNat)).length) then bif decide (0≤nI ((tapp_1 n).getD x2.toNat []) 1∧nI ((tapp_1 n).getD x2.toNat []) 1 < (↑(ndN n):Int)) then bif decide (ndN n=(setEl (intsL (taK n a b c (ungI bs) (ungI ds) (ungI fs) x2.toNat)) (nI ((tapp_1 n).getD x2.toNat []) 0).toNat 0 [I6 (n_6 - taA (tapp_1 n) (scZ a b c) a b c (degZ n) (ungI bs) (ungI ds) (ungI fs) x2.toNat)]).length∧(nI ((tapp_1 n).getD x2.toNat []) 1).toNat < (setEl (intsL (taK n a b c (ungI bs) (ungI ds) (ungI fs) x2.toNat)) (nI ((tapp_1 n).getD x2.toNat []) 0).toNat 0 [I6 (n_6 - taA (tapp_1 n) (scZ a b c) a b c (degZ n) (ungI bs) (ungI ds) (ungI fs) x2.toNat)]).length) then ∃ n_7,List.take [I6 n_7].length (List.drop 0 ((setEl (intsL (taK n a b c (ungI bs) (ungI ds) (ungI fs) x2.toNat)) (nI ((tapp_1 n).getD x2.toNat []) 0).toNat 0 [I6 (n_6 - taA (tapp_1 n) (scZ a b c) a b c (degZ n) (ungI bs) (ungI ds) (ungI fs) x2.toNat)]).getD (nI ((tapp_1 n).getD x2.toNat []) 1).toNat []))=[I6 n_7]∧bif decide (rng IntKind.i64 (n_7+taA (tapp_1 n) (scZ a b c) a b c (degZ n) (ungI bs) (ungI ds) (ungI fs) x2.toNat)) then bif decide (0≤nI ((tapp_1 n).getD x2.toNat []) 1∧nI ((tapp_1 n).getD x2.toNat []) 1 < (↑(ndN n):Int)) then bif decide (ndN n=(setEl (intsL (taK n a b c (ungI bs) (ungI ds) (ungI fs) x2.toNat)) (nI ((tapp_1 n).getD x2.toNat []) 0).toNat 0 [I6 (n_6 - taA (tapp_1 n) (scZ a b c) a b c (degZ n) (ungI bs) (ungI ds) (ungI fs) x2.toNat)]).length∧(nI ((tapp_1 n).getD x2.toNat []) 1).toNat < (setEl (intsL (taK n a b c (ungI bs) (ungI ds) (ungI fs) x2.toNat)) (nI ((tapp_1 n).getD x2.toNat []) 0).toNat 0 [I6 (n_6 - taA (tapp_1 n) (scZ a b c) a b c (degZ n) (ungI bs) (ungI ds) (ungI fs) x2.toNat)]).length) then bif decide (rng IntKind.i64 (x2+(1:Int))) then ∃ y,LtP (tapp_1 n).length y∧((λ x2=>ta2 n a b c i g h bs ds fs) 0).m y < ((λ x2=>ta2 n a b c i g h bs ds fs) 0).m x2∧((tapp_7 i bs)∧(0:Nat)=(0:Nat)∧(0:Nat)=(0:Nat)∧(0:Nat)=(0:Nat)∧(0:Int)=(0:Int)∧scZ a b c=scZ a b c∧(tapp_6 n)∧(0:Nat)=(0:Nat)∧(tapp_4 n)∧(↑(tapp_1 n).length:Int)=(↑(tapp_1 n).length:Int)∧x2+(1:Int)=y∧True)∧(a=a∧b=b∧c=c∧True)∧(tapp_2 g ds h fs)∧(True∧True∧True)∧(ndN n=ndN n∧(intsL (mk (tapp_3 n a b c ds fs) x2.toNat)++[[I6 (taF (tapp_1 n) (scZ a b c) a b (ungI ds) (ungI fs) x2.toNat)]]).length=Int.toNat y∧True)∧setEl (setEl (intsL (taK n a b c (ungI bs) (ungI ds) (ungI fs) x2.toNat)) (nI ((tapp_1 n).getD x2.toNat []) 0).toNat 0 [I6 (n_6 - taA (tapp_1 n) (scZ a b c) a b c (degZ n) (ungI bs) (ungI ds) (ungI fs) x2.toNat)]) (nI ((tapp_1 n).getD x2.toNat []) 1).toNat 0 [I6 (n_7+taA (tapp_1 n) (scZ a b c) a b c (degZ n) (ungI bs) (ungI ds) (ungI fs) x2.toNat)]=intsL (taK n a b c (ungI bs) (ungI ds) (ungI fs) (Int.toNat y))∧intsL (mk (tapp_3 n a b c ds fs) x2.toNat)++[[I6 (taF (tapp_1 n) (scZ a b c) a b (ungI ds) (ungI fs) x2.toNat)]]=intsL (mk (tapp_3 n a b c ds fs) (Int.toNat y))∧True else False else False else False else False else False else False else False else False else False else False else False else False else False else False else False else False else False else False else False else False else False else False else False else False else bif decide (ndN n=(intsL (taK n a b c (ungI bs) (ungI ds) (ungI fs) x2.toNat)).length) then bif decide (x2.toNat=(intsL (mk (tapp_3 n a b c ds fs) x2.toNat)).length) then ((True∧intsL (taK n a b c (ungI bs) (ungI ds) (ungI fs) x2.toNat)=intsL (taD n a b c (ungI bs) (ungI ds) (ungI fs)))∧(True∧intsL (mk (tapp_3 n a b c ds fs) x2.toNat)=intsL (taG n a b c (ungI ds) (ungI fs)))∧True)∧(0:Int)=(0:Int)∧True else False else False
theorem tapp_P:tapp_T nrm:=by
 unfold tapp_T
 delta tapp_1 tapp_2 tapp_3 tapp_4 tapp_5 tapp_6 tapp_7 I6
 intro n a b c i g h bs ds fs ⟨hs,hP,hB⟩
 intros
 have hg:=hP.gp
 obtain ⟨ha,hb,hc⟩:=sch_b hs
 have hZ:=scZ_b hs
 have g1:cond g (g=true) True:=gg g
 have g2:cond h (h=true) True:=gg h
 have g3:cond i (i=true) True:=gg i
 have hN:=ndN_ge hg
 have hE:=(edgG_in hg.bq).2
 have de:=hP.de
 have fe:=hP.fe
 have ld:=hP.ld
 have lf:=hP.lf
 have be:=hB.be
 have lb:=hB.lb
 have hds:ds.length=ndN n:=by rw [← ungI_len,ld]
 have hfs:fs.length=(edgG nrm n).length:=by rw [← ungI_len,lf]
 have hbs:bs.length=(edgG nrm n).length:=by rw [← ungI_len,lb]
 have bd:=gD_b (by decide) hP.bd
 have bf:=gD_b (by decide) hP.bf
 refine ⟨hs,⟨hP.mono (by decide),hB⟩,hg,hg.bq,⟨0,⟨Int.le_refl 0,by omega⟩,by repeat' first|exact trivial|exact rfl|assumption|apply And.intro⟩,?_⟩
 clear hP hB
 obtain ⟨zd,hzd⟩:∃ z,z=ungI ds:=⟨_,rfl⟩
 obtain ⟨zf,hzf⟩:∃ z,z=ungI fs:=⟨_,rfl⟩
 obtain ⟨zb,hzb⟩:∃ z,z=ungI bs:=⟨_,rfl⟩
 rw [← hzd] at de ld bd ⊢
 rw [← hzf] at fe lf bf ⊢
 rw [← hzb] at be lb ⊢
 intro x ⟨x0,xl⟩
 refine csp (λ q=>?_) (λ q=>?_)
 ·have e1:zd[x.toNat]?=some (zd.getD x.toNat 0):=at_getD (by omega)
  have t1:=taS_b hs bd x.toNat
  have es:mk (taS (scZ a b c) zd) (x+1).toNat=mk (taS (scZ a b c) zd) x.toNat++[scZ a b c*zd.getD x.toNat 0]:=by rw [show (x+1).toNat=x.toNat+1 by omega,mk_succ]; rfl
  have t1:-(7680*10000000000)≤scZ a b c*zd.getD x.toNat 0∧scZ a b c*zd.getD x.toNat 0≤7680*10000000000:=t1
  refine cd1 ⟨x0,q⟩ ⟨zd.getD x.toNat 0,by rw [de,intsL_at e1]; rfl,cdI (by omega) (cd1 ⟨by rw [intsL_len,mk_len],by rw [intsL_len,mk_len,List.length_singleton]; omega,by rw [intsL_len,mk_len,List.length_singleton]; omega⟩ (cdI (by omega) ⟨x+1,⟨by omega,by omega⟩,by simp only [ta1]; omega,?_⟩))⟩
  rw [es,← intsL_app,List.length_append,intsL_len,mk_len,List.length_singleton,show (x+1).toNat=x.toNat+1 by omega]
  (repeat' (first | exact trivial | exact rfl | assumption | apply And.intro))
 ·have ex:x.toNat=ndN n:=by omega
  rw [ex]
  refine ⟨⟨0,⟨Int.le_refl 0,by omega⟩,by repeat' first|exact trivial|exact rfl|assumption|apply And.intro⟩,?_⟩
  clear q x0 xl ex x
  intro x ⟨x0,xl⟩
  refine csp (λ q=>?_) (λ q=>?_)
  ·have hk:x.toNat < (edgG nrm n).length:=by omega
   obtain ⟨ea,eb⟩:=edg_at hg hk
   have er:=edg_row hg hk
   have pa:=deg_pos hg (j:=(nI ((edgG nrm n).getD x.toNat []) 0).toNat) (by omega)
   have pb:=deg_pos hg (j:=(nI ((edgG nrm n).getD x.toNat []) 1).toNat) (by omega)
   have hF:taF (edgG nrm n) (scZ a b c) a b zd zf x.toNat=(scZ a b c - scZ a b c / 2 ^ min a.toNat 64)*zf.getD x.toNat 0+scZ a b c / 2 ^ min b.toNat 64*(zd.getD (nI ((edgG nrm n).getD x.toNat []) 0).toNat 0 - zd.getD (nI ((edgG nrm n).getD x.toNat []) 1).toNat 0):=rfl
   have hA:taA (edgG nrm n) (scZ a b c) a b c (degZ n) zb zd zf x.toNat=if zb.getD x.toNat 0=1 then (scZ a b c).tdiv ((degZ n).getD (nI ((edgG nrm n).getD x.toNat []) 0).toNat 0)*zd.getD (nI ((edgG nrm n).getD x.toNat []) 0).toNat 0 else if zb.getD x.toNat 0=-1 then -((scZ a b c).tdiv ((degZ n).getD (nI ((edgG nrm n).getD x.toNat []) 1).toNat 0)*zd.getD (nI ((edgG nrm n).getD x.toNat []) 1).toNat 0) else taF (edgG nrm n) (scZ a b c) a b zd zf x.toNat / 2 ^ min c.toNat 64:=rfl
   have hK:taK n a b c zb zd zf (x.toNat+1)=((taK n a b c zb zd zf x.toNat).set (nI ((edgG nrm n).getD x.toNat []) 0).toNat ((taK n a b c zb zd zf x.toNat).getD (nI ((edgG nrm n).getD x.toNat []) 0).toNat 0 - taA (edgG nrm n) (scZ a b c) a b c (degZ n) zb zd zf x.toNat)).set (nI ((edgG nrm n).getD x.toNat []) 1).toNat (((taK n a b c zb zd zf x.toNat).set (nI ((edgG nrm n).getD x.toNat []) 0).toNat ((taK n a b c zb zd zf x.toNat).getD (nI ((edgG nrm n).getD x.toNat []) 0).toNat 0 - taA (edgG nrm n) (scZ a b c) a b c (degZ n) zb zd zf x.toNat)).getD (nI ((edgG nrm n).getD x.toNat []) 1).toNat 0+taA (edgG nrm n) (scZ a b c) a b c (degZ n) zb zd zf x.toNat):=by
    unfold taK
    rw [mvK,mvS]
    simp only [mk_getD _ hk]
   have lK:=taK_len n a b c zb zd zf x.toNat
   have bK:=taK_b hg (by decide) hs bd bf (bs:=zb) x.toNat
   have bF:=taF_b (es:=edgG nrm n) hs bd bf x.toNat
   have bA:=taA_b (es:=edgG nrm n) (bs:=zb) hs bd bf pa pb
   have w1:=wan_p (s:=a) (z:=scZ a b c) (by omega) (by omega)
   have w2:=wan_p (s:=b) (z:=scZ a b c) (by omega) (by omega)
   unfold wan at w1 w2
   have hdl:=degZ_len n
   generalize taK n a b c zb zd zf x.toNat=K at hK lK bK ⊢
   generalize taA (edgG nrm n) (scZ a b c) a b c (degZ n) zb zd zf x.toNat=A at hA hK bA ⊢
   generalize hV:taF (edgG nrm n) (scZ a b c) a b zd zf x.toNat=V at hA hF bF ⊢
   have e2:zf[x.toNat]?=some (zf.getD x.toNat 0):=at_getD (by omega)
   have e6:zb[x.toNat]?=some (zb.getD x.toNat 0):=at_getD (by omega)
   have p1:=mul_b (K:=7680) ⟨by omega,by omega⟩ (bf x.toNat) (Z:=scZ a b c - scZ a b c / 2 ^ min a.toNat 64)
   generalize (edgG nrm n).getD x.toNat []=r at ea eb er pa pb hF hA hK ⊢
   have e3:zd[(nI r 0).toNat]?=some (zd.getD (nI r 0).toNat 0):=at_getD (by omega)
   have e4:zd[(nI r 1).toNat]?=some (zd.getD (nI r 1).toNat 0):=at_getD (by omega)
   have e7:(degZ n)[(nI r 0).toNat]?=some ((degZ n).getD (nI r 0).toNat 0):=at_getD (by omega)
   have e8:(degZ n)[(nI r 1).toNat]?=some ((degZ n).getD (nI r 1).toNat 0):=at_getD (by omega)
   have b3:=bd (nI r 0).toNat
   have b4:=bd (nI r 1).toNat
   have p2:=mul_b (K:=7680) ⟨by omega,by omega⟩ (show -20000000000≤zd.getD (nI r 0).toNat 0 - zd.getD (nI r 1).toNat 0∧zd.getD (nI r 0).toNat 0 - zd.getD (nI r 1).toNat 0≤20000000000 by omega) (Z:=scZ a b c / 2 ^ min b.toNat 64)
   have t1:=tdiv_c (x:=scZ a b c) (K:=7680) (by omega) pa
   have t2:=tdiv_c (x:=scZ a b c) (K:=7680) (by omega) pb
   have p3:=mul_b t1 b3
   have p4:=mul_b t2 b4
   have hF':=hF.symm
   refine cd1 ⟨x0,q⟩ ⟨nI r 0,nI r 1,(congrArg (List.take 2) er).trans rfl,cd1 (by omega) (cdI (by omega) (cd1 (by omega) ⟨zf.getD x.toNat 0,by rw [fe,intsL_at e2]; rfl,cdI (by omega) (cd1 (by omega) (cd1 (by omega) ⟨zd.getD (nI r 0).toNat 0,by rw [de,intsL_at e3]; rfl,cd1 (by omega) ⟨zd.getD (nI r 1).toNat 0,by rw [de,intsL_at e4]; rfl,cdI (by omega) (cdI (by omega) (cdI (by rw [hF']; omega) (cd1 (by omega) ⟨cd1 (by omega) ⟨zb.getD x.toNat 0,by rw [be,intsL_at e6]; rfl,csp (λ q1=>?_) (λ q1=>csp (λ q2=>?_) (λ q2=>?_))⟩,λ _ _=>?_⟩)))⟩⟩))⟩))⟩
   ·rw [if_pos q1] at hA
    have hA':=hA.symm
    exact cd1 (by rw [intsL_len]; omega) ⟨(degZ n).getD (nI r 0).toNat 0,by rw [intsL_at e7]; rfl,cd1 (by omega) (cdI (by omega) (cd1 (by omega) ⟨zd.getD (nI r 0).toNat 0,by rw [de,intsL_at e3]; rfl,cdI (by omega) ⟨(),⟨trivial⟩,by repeat' first|exact trivial|exact rfl|assumption|apply And.intro⟩⟩))⟩
   ·rw [if_neg q1,if_pos q2] at hA
    have hA':0 - (scZ a b c).tdiv ((degZ n).getD (nI r 1).toNat 0)*zd.getD (nI r 1).toNat 0=A:=by omega
    exact cd1 (by rw [intsL_len]; omega) ⟨(degZ n).getD (nI r 1).toNat 0,by rw [intsL_at e8]; rfl,cd1 (by omega) (cdI (by omega) (cd1 (by omega) ⟨zd.getD (nI r 1).toNat 0,by rw [de,intsL_at e4]; rfl,cdI (by omega) (cdI (by omega) ⟨(),⟨trivial⟩,by repeat' first|exact trivial|exact rfl|assumption|apply And.intro⟩)⟩))⟩
   ·rw [if_neg q1,if_neg q2] at hA
    rw [hF']
    have hA':=hA.symm
    exact ⟨(),⟨trivial⟩,by repeat' first|exact trivial|exact rfl|assumption|apply And.intro⟩
   ·clear hA p1 p2 p3 p4 t1 t2 w1 w2 b3 b4 e2 e6 e7 e8
    have k1:K[(nI r 0).toNat]?=some (K.getD (nI r 0).toNat 0):=at_getD (by omega)
    have b1:=bK (nI r 0).toNat
    refine cd1 ⟨by rw [intsL_len,mk_len],by rw [intsL_len,mk_len,List.length_singleton]; omega,by rw [intsL_len,mk_len,List.length_singleton]; omega⟩ (cd1 ea (cd1 ⟨by rw [intsL_len,lK],by rw [intsL_len]; omega⟩ ⟨K.getD (nI r 0).toNat 0,by rw [List.drop_zero,intsL_at k1]; rfl,cdI (by omega) ?_⟩))
    rw [intsL_set (by omega)]
    have hl2:(K.set (nI r 0).toNat (K.getD (nI r 0).toNat 0 - A)).length=ndN n:=by rw [List.length_set,lK]
    have hb2:=set_bd bK (x:=-A) (C:=230400000000000) (by omega) (i:=(nI r 0).toNat) (by decide)
    rw [← Int.sub_eq_add_neg] at hb2
    generalize K.set (nI r 0).toNat (K.getD (nI r 0).toNat 0 - A)=d2 at hK hl2 hb2 ⊢
    have k2:d2[(nI r 1).toNat]?=some (d2.getD (nI r 1).toNat 0):=at_getD (by omega)
    have b2:=hb2 (nI r 1).toNat
    refine cd1 ea (cd1 ⟨by rw [intsL_len,lK],by rw [intsL_len]; omega⟩ (cd1 eb (cd1 ⟨by rw [intsL_len,hl2],by rw [intsL_len]; omega⟩ ⟨d2.getD (nI r 1).toNat 0,by rw [List.drop_zero,intsL_at k2]; rfl,cdI (by omega) (cd1 eb (cd1 ⟨by rw [intsL_len,hl2],by rw [intsL_len]; omega⟩ (cdI (by omega) ⟨x+1,⟨by omega,by omega⟩,by simp only [ta2]; omega,?_⟩)))⟩)))
    rw [intsL_set (by omega),show (x+1).toNat=x.toNat+1 by omega,hK,mk_succ,hV,← intsL_app,List.length_append,intsL_len,mk_len,List.length_singleton]
    (repeat' (first | exact trivial | exact rfl | assumption | apply And.intro))
  ·have ex:x.toNat=(edgG nrm n).length:=by omega
   rw [ex]
   exact cd1 (by rw [intsL_len,taK_len]) (cd1 (by rw [intsL_len,mk_len]) (by repeat' first|exact trivial|exact rfl|assumption|apply And.intro))
theorem tapp_e (nrm:NrT):tapp_T nrm=(∀ (n a b c:Int) (i g h:Bool) (bs ds fs:LL),schE a b c=0∧ChP n 10000000000 ds fs∧BrP n bs->fnK Tryz.prog { glob:=glb,spec:=lk [(26,tscl_s),(71,tchk_s),(72,fdeg_s),(58,(gedges_s nrm))],specH:=lk [],shape:=[63,79,90,101,107,118,126,133,142,149,163,172],nowf:=true } { nt:=178,drop:=drp [(1,130023424),(2,134217728),(3,1610612736),(4,32212254720),(5,34359738368),(6,412316860416),(7,17042430230528),(8,17592186044416),(9,211106232532992),(10,8725724278030336),(11,9007199254740992),(12,108086391056891904),(14,144115188075855872),(16,13835058055282163712),(17,4703919738795935662080),(18,4722366482869645213696),(21,1057810092162800527867904),(22,2596148428058487994650618989903872),(23,38942226439011207213978722469150720),(24,290768624077950347197707794436325376),(25,1329227995784915872903807060280344576),(26,43553484509888553491566142137145770377216),(27,87112285931760246646623899502532662132736),(28,5708816546251976003739850629998975480206721024),(29,359666418561901890026688064301272774368452149248),(30,186706834169022847800520737379505155761045382365184),(31,95593899094539698073866617538306639749655235770974208),(32,95780971304118053647396689196894323976171195136475136),(33,191561942608236107294793378393788647952342390272950272)],emp:=λ id=>cond (Nat.beq id 14) [(1001500,1500,3,1),(1001501,1510,3,1)] [] } (invsN [(15,60,λ _=>ta1 n a b c i g h bs ds fs),(20,75,λ _=>ta2 n a b c i g h bs ds fs),(100029,75,ta3 n a b c i g h bs ds fs)]) 6 Tryz.f30 [.agg [.int .i64 a,.int .i64 b,.int .i64 c],.int .i64 n,.sl 1 i bs,.agg [.sl 1 g ds,.sl 1 h fs]] (.tup [.agg [.sl 1 false (intsL (taD n a b c (ungI bs) (ungI ds) (ungI fs))),.sl 1 false (intsL (taG n a b c (ungI ds) (ungI fs)))],.int .i64 0])):=by kernel_rfl
def tapp_v:=Eq.mp (tapp_e ..) (tapp_P)
theorem tapp_ok:SOK Tryz.prog glb 30 tapp_s:=by
 refine ⟨fok Tryz.func30 (by kernel_rfl) (by kernel_rfl),?_⟩
 intro xs pre r h hp
 unfold tapp_s at h
 split at h
 ·cases h
  exact fnK_sound tyNil (by exact specOK rfl rfl ⟨(tscl_ok glb),(tchk_ok),(fdeg_ok),(gedges_ok),trivial⟩ trivial) (by kernel_rfl) Tryz.func30 rfl (tapp_v  _ _ _ _ _ _ _ _ _ _ hp)
 ·cases h
def tcm1_s:SpH
 | [.agg [.sl 1 g ds,.sl 1 h fs],.sl 1 i bs,.ptr 0 0,.ptr 1 0],[.cells [.int .i64 a,.int .i64 b,.int .i64 c],.cells [.int .i64 n]]=>some (schE a b c=0∧ChP n 10000000000 ds fs∧BrP n bs,.tup [.agg [.sl 1 false (intsL (taD n a b c (ungI bs) (ungI ds) (ungI fs))),.sl 1 false (intsL (taG n a b c (ungI ds) (ungI fs)))],.int .i64 0],[.cells [.int .i64 a,.int .i64 b,.int .i64 c],.cells [.int .i64 n]])
 | _,_=>none
def tcm1_T:Prop :=
 ∀ (n a b c:Int) (i g h:Bool) (bs ds fs:LL),schE a b c=(0:Int)∧ChP n 10000000000 ds fs∧BrP n bs->True∧True∧True->True->True->True->IR9 a->IR9 b->IR9 c->IR9 n->(schE a b c=(0:Int)∧ChP n 10000000000 ds fs∧BrP n bs)∧(((True∧intsL (taD n a b c (ungI bs) (ungI ds) (ungI fs))=intsL (taD n a b c (ungI bs) (ungI ds) (ungI fs)))∧(True∧intsL (taG n a b c (ungI ds) (ungI fs))=intsL (taG n a b c (ungI ds) (ungI fs)))∧True)∧(0:Int)=(0:Int)∧True)∧(a=a∧b=b∧c=c∧True)∧(n=n∧True)∧True
theorem tcm1_P:tcm1_T:=by
 unfold tcm1_T
 intro n a b c i g h bs ds fs hP
 intros
 exact ⟨hP,by repeat' first|exact trivial|exact rfl|assumption|apply And.intro⟩
theorem tcm1_e:tcm1_T=(∀ (n a b c:Int) (i g h:Bool) (bs ds fs:LL),schE a b c=0∧ChP n 10000000000 ds fs∧BrP n bs->fnH Tryz.prog { glob:=glb,spec:=lk [(30,tapp_s)],specH:=lk [],nowf:=true } { nt:=15,drop:=drp [(1,32512)],fr:=1000,kp:=[0,1] } (λ _ _=>none) 6 Tryz.f62 [.agg [.sl 1 g ds,.sl 1 h fs],.sl 1 i bs,.ptr 0 0,.ptr 1 0] [.cells [.int .i64 a,.int .i64 b,.int .i64 c],.cells [.int .i64 n]] (.tup [.agg [.sl 1 false (intsL (taD n a b c (ungI bs) (ungI ds) (ungI fs))),.sl 1 false (intsL (taG n a b c (ungI ds) (ungI fs)))],.int .i64 0]) [.cells [.int .i64 a,.int .i64 b,.int .i64 c],.cells [.int .i64 n]]):=by kernel_rfl
def tcm1_v:=Eq.mp (tcm1_e ..) (tcm1_P)
theorem tcm1_ok:HOK Tryz.prog glb 62 tcm1_s:=by
 refine ⟨fok Tryz.func62 (by kernel_rfl) (by kernel_rfl),?_⟩
 intro xs bs pre r bs2 h hp
 unfold tcm1_s at h
 split at h
 ·cases h
  exact fnH_sound tyNil (by exact specOK rfl rfl ⟨(tapp_ok),trivial⟩ trivial) (by kernel_rfl) Tryz.func62 (tcm1_v  _ _ _ _ _ _ _ _ _ _ hp)
 ·cases h
def tfol_s:SpH
 | [.sl 1 j [[.sl 1 i bs]],.agg [.sl 1 g ds,.sl 1 h fs],.fn 62 [.ptr 0 0,.ptr 1 0]],[.cells [.int .i64 a,.int .i64 b,.int .i64 c],.cells [.int .i64 n]]=>some (schE a b c=0∧ChP n 10000000000 ds fs∧BrP n bs,.tup [.agg [.sl 1 false (intsL (taD n a b c (ungI bs) (ungI ds) (ungI fs))),.sl 1 false (intsL (taG n a b c (ungI ds) (ungI fs)))],.int .i64 0],[.cells [.int .i64 a,.int .i64 b,.int .i64 c],.cells [.int .i64 n]])
 | _,_=>none
def tfol_T:Prop :=
 ∀ (n a b c:Int) (j i g h:Bool) (bs ds fs:LL),schE a b c=(0:Int)∧ChP n 10000000000 ds fs∧BrP n bs->True->True∧True∧True->True->IR9 a->IR9 b->IR9 c->IR9 n->(schE a b c=(0:Int)∧ChP n 10000000000 ds fs∧BrP n bs)∧(((True∧intsL (taD n a b c (ungI bs) (ungI ds) (ungI fs))=intsL (taD n a b c (ungI bs) (ungI ds) (ungI fs)))∧(True∧intsL (taG n a b c (ungI ds) (ungI fs))=intsL (taG n a b c (ungI ds) (ungI fs)))∧True)∧(0:Int)=(0:Int)∧True)∧(a=a∧b=b∧c=c∧True)∧(n=n∧True)∧True
theorem tfol_P:tfol_T:=by
 unfold tfol_T
 intro n a b c j i g h bs ds fs hP
 intros
 exact ⟨hP,by repeat' first|exact trivial|exact rfl|assumption|apply And.intro⟩
theorem tfol_e:tfol_T=(∀ (n a b c:Int) (j i g h:Bool) (bs ds fs:LL),schE a b c=0∧ChP n 10000000000 ds fs∧BrP n bs->fnH Tryz.prog { glob:=glb,spec:=lk [],specH:=lk [(62,tcm1_s)],nowf:=true } { nt:=31,drop:=drp [(3,196608),(5,33292288),(6,33554432),(8,402653184),(9,536870912),(10,1073741824)],fr:=1000,kp:=[0,1] } (λ _ _=>none) 6 Tryz.f61 [.sl 1 j [[.sl 1 i bs]],.agg [.sl 1 g ds,.sl 1 h fs],.fn 62 [.ptr 0 0,.ptr 1 0]] [.cells [.int .i64 a,.int .i64 b,.int .i64 c],.cells [.int .i64 n]] (.tup [.agg [.sl 1 false (intsL (taD n a b c (ungI bs) (ungI ds) (ungI fs))),.sl 1 false (intsL (taG n a b c (ungI ds) (ungI fs)))],.int .i64 0]) [.cells [.int .i64 a,.int .i64 b,.int .i64 c],.cells [.int .i64 n]]):=by kernel_rfl
def tfol_v:=Eq.mp (tfol_e ..) (tfol_P)
theorem tfol_ok:HOK Tryz.prog glb 61 tfol_s:=by
 refine ⟨fok Tryz.func61 (by kernel_rfl) (by kernel_rfl),?_⟩
 intro xs bs pre r bs2 h hp
 unfold tfol_s at h
 split at h
 ·cases h
  exact fnH_sound tyNil (by exact specOK rfl rfl trivial ⟨(tcm1_ok),trivial⟩) (by kernel_rfl) Tryz.func61 (tfol_v  _ _ _ _ _ _ _ _ _ _ _ hp)
 ·cases h
def tcom_s:Sp
 | [.agg [.int .i64 a,.int .i64 b,.int .i64 c],.int .i64 n,.sl 1 j [[.sl 1 i bs]],.agg [.sl 1 g ds,.sl 1 h fs]]=>some (schE a b c=0∧ChP n 10000000000 ds fs∧BrP n bs,.tup [.agg [.sl 1 false (intsL (taD n a b c (ungI bs) (ungI ds) (ungI fs))),.sl 1 false (intsL (taG n a b c (ungI ds) (ungI fs)))],.int .i64 0])
 | _=>none
def tcom_T:Prop :=
 ∀ (n a b c:Int) (j i g h:Bool) (bs ds fs:LL),schE a b c=(0:Int)∧ChP n 10000000000 ds fs∧BrP n bs->(IR9 a)∧(IR9 b)∧(IR9 c)∧True->IR9 n->True->True∧True∧True->ds.length≤(1000000:Nat)∧fs.length≤(1000000:Nat)∧(schE a b c=(0:Int)∧ChP n 10000000000 ds fs∧BrP n bs)∧((True∧intsL (taD n a b c (ungI bs) (ungI ds) (ungI fs))=intsL (taD n a b c (ungI bs) (ungI ds) (ungI fs)))∧(True∧intsL (taG n a b c (ungI ds) (ungI fs))=intsL (taG n a b c (ungI ds) (ungI fs)))∧True)∧(0:Int)=(0:Int)∧True
theorem tcom_P:tcom_T:=by
 unfold tcom_T
 intro n a b c j i g h bs ds fs hP
 intros
 have hC:=hP.2.1
 have ld:=hC.ld
 have lf:=hC.lf
 rw [ungI_len] at ld lf
 have hN:=ndN_ge hC.gp
 have hE:=(edgG_in hC.gp.bq).2
 exact ⟨by omega,by omega,hP,by repeat' first|exact trivial|exact rfl|assumption|apply And.intro⟩
theorem tcom_e:tcom_T=(∀ (n a b c:Int) (j i g h:Bool) (bs ds fs:LL),schE a b c=0∧ChP n 10000000000 ds fs∧BrP n bs->fnK Tryz.prog { glob:=glb,spec:=lk [(60,icln_s)],specH:=lk [(61,tfol_s)],nowf:=true } { nt:=24,drop:=drp [(1,260096),(2,16515072)] } (λ _ _=>none) 6 Tryz.f24 [.agg [.int .i64 a,.int .i64 b,.int .i64 c],.int .i64 n,.sl 1 j [[.sl 1 i bs]],.agg [.sl 1 g ds,.sl 1 h fs]] (.tup [.agg [.sl 1 false (intsL (taD n a b c (ungI bs) (ungI ds) (ungI fs))),.sl 1 false (intsL (taG n a b c (ungI ds) (ungI fs)))],.int .i64 0])):=by kernel_rfl
def tcom_v:=Eq.mp (tcom_e ..) (tcom_P)
theorem tcom_ok:SOK Tryz.prog glb 24 tcom_s:=by
 refine ⟨fok Tryz.func24 (by kernel_rfl) (by kernel_rfl),?_⟩
 intro xs pre r h hp
 unfold tcom_s at h
 split at h
 ·cases h
  exact fnK_sound tyNil (by exact specOK rfl rfl ⟨(icln_ok glb),trivial⟩ ⟨(tfol_ok),trivial⟩) (by kernel_rfl) Tryz.func24 rfl (tcom_v  _ _ _ _ _ _ _ _ _ _ _ hp)
 ·cases h
def tdot_s (wH:Int->Int) (wL:Int->Int) (adZ:Int->Int->Int->Int->Int):Sp
 | [.agg [.sl 1 g ds,.sl 1 h fs],.agg [.sl 1 g' ds',.sl 1 h' fs']]=>some (DotP ds ds'∧DotP fs fs',.tup [.agg [.int .i64 (wH (dotZ (ungI ds) (ungI ds')+dotZ (ungI fs) (ungI fs'))),.int .u64 (wL (dotZ (ungI ds) (ungI ds')+dotZ (ungI fs) (ungI fs')))],.int .i64 0])
 | _=>none
def tdot_T (wH:Int->Int) (wL:Int->Int) (adZ:Int->Int->Int->Int->Int):Prop :=
 ∀ (gl:Glob) (g h g' h':Bool) (ds fs ds' fs':LL),DotP ds ds'∧DotP fs fs'->True∧True∧True->True∧True∧True->DotP ds ds'∧DotP fs fs'∧AdP (wH (dotZ (ungI ds) (ungI ds'))) (wH (dotZ (ungI fs) (ungI fs')))∧(wH (adZ (wH (dotZ (ungI ds) (ungI ds'))) (wL (dotZ (ungI ds) (ungI ds'))) (wH (dotZ (ungI fs) (ungI fs'))) (wL (dotZ (ungI fs) (ungI fs'))))=wH (dotZ (ungI ds) (ungI ds')+dotZ (ungI fs) (ungI fs'))∧wL (adZ (wH (dotZ (ungI ds) (ungI ds'))) (wL (dotZ (ungI ds) (ungI ds'))) (wH (dotZ (ungI fs) (ungI fs'))) (wL (dotZ (ungI fs) (ungI fs'))))=wL (dotZ (ungI ds) (ungI ds')+dotZ (ungI fs) (ungI fs'))∧True)∧(0:Int)=(0:Int)∧True
theorem tdot_P:tdot_T wH wL adZ:=by
 unfold tdot_T
 intro gl g h g' h' ds fs ds' fs' ⟨h1,h2⟩
 intros
 have b1:=dot_bd h1.xb h1.yb (ungI ds).length
 have b2:=dot_bd h2.xb h2.yb (ungI fs).length
 have l1:=h1.ll
 have l2:=h2.ll
 have e1:=w_eq (dotZ (ungI ds) (ungI ds'))
 have e2:=w_eq (dotZ (ungI fs) (ungI fs'))
 rw [ungI_len] at b1 b2
 have b1:-(ds.length*5192296858534827628530496329220096:Int)≤dotZ (ungI ds) (ungI ds')∧dotZ (ungI ds) (ungI ds')≤ds.length*5192296858534827628530496329220096:=by unfold dotZ; rw [ungI_len]; exact b1
 have b2:-(fs.length*5192296858534827628530496329220096:Int)≤dotZ (ungI fs) (ungI fs')∧dotZ (ungI fs) (ungI fs')≤fs.length*5192296858534827628530496329220096:=by unfold dotZ; rw [ungI_len]; exact b2
 generalize dotZ (ungI ds) (ungI ds')=x at *
 generalize dotZ (ungI fs) (ungI fs')=y at *
 have e3:adZ (wH x) (wL x) (wH y) (wL y)=x+y:=by unfold adZ; omega
 rw [e3]
 refine ⟨h1,h2,⟨?_,?_,?_,?_⟩,by repeat' first|exact trivial|exact rfl|assumption|apply And.intro⟩ <;> unfold wH <;> omega
theorem tdot_e (wH:Int->Int) (wL:Int->Int) (adZ:Int->Int->Int->Int->Int):tdot_T wH wL adZ=(∀ (gl:Glob) (g h g' h':Bool) (ds fs ds' fs':LL),DotP ds ds'∧DotP fs fs'->fnK Tryz.prog { glob:=gl,spec:=lk [(63,(pdot_s wH wL)),(64,(padd_s wH wL adZ))],specH:=lk [],nowf:=true } { nt:=36,drop:=drp [(1,130560),(2,131072),(3,1572864),(4,534773760),(5,536870912),(6,6442450944),(7,60129542144)] } (λ _ _=>none) 6 Tryz.f25 [.agg [.sl 1 g ds,.sl 1 h fs],.agg [.sl 1 g' ds',.sl 1 h' fs']] (.tup [.agg [.int .i64 (wH (dotZ (ungI ds) (ungI ds')+dotZ (ungI fs) (ungI fs'))),.int .u64 (wL (dotZ (ungI ds) (ungI ds')+dotZ (ungI fs) (ungI fs')))],.int .i64 0])):=by kernel_rfl
def tdot_v:=Eq.mp (tdot_e ..) (tdot_P)
theorem tdot_ok (gl:Glob):SOK Tryz.prog gl 25 (tdot_s wH wL adZ):=by
 refine ⟨fok Tryz.func25 (by kernel_rfl) (by kernel_rfl),?_⟩
 intro xs pre r h hp
 unfold tdot_s at h
 split at h
 ·cases h
  exact fnK_sound tyNil (by exact specOK rfl rfl ⟨(pdot_ok gl),(padd_ok gl),trivial⟩ trivial) (by kernel_rfl) Tryz.func25 rfl (tdot_v gl _ _ _ _ _ _ _ _ hp)
 ·cases h
def addA (l:List Int) (i:Nat) (x:Int):List Int:=l.set i (l.getD i 0+x)
theorem addA_len (l:List Int) (i:Nat) (x:Int):(addA l i x).length=l.length:=by simp [addA]
theorem addA_getD (l:List Int) (i:Nat) (x:Int) (j:Nat):(addA l i x).getD j 0=l.getD j 0+if i=j∧j < l.length then x else 0:=by
 unfold addA
 rw [List.getD_eq_getElem?_getD,List.getElem?_set]
 by_cases q:i=j
 ·subst q
  by_cases q2:i < l.length
  ·rw [if_pos rfl,if_pos q2,if_pos ⟨rfl,q2⟩]; rfl
  ·rw [if_pos rfl,if_neg q2,if_neg (λ e=>q2 e.2),List.getD_eq_getElem?_getD,List.getElem?_eq_none (by omega)]; rfl
 ·rw [if_neg q,if_neg (λ e=>q e.1),List.getD_eq_getElem?_getD]; omega
theorem ext_getD {l m:List Int} (h:l.length=m.length) (k:∀ j,l.getD j 0=m.getD j 0):l=m:=by
 apply List.ext_getElem?
 intro j
 have:=k j
 by_cases q:j < l.length
 ·rw [List.getD_eq_getElem?_getD,List.getD_eq_getElem?_getD,List.getElem?_eq_getElem q,List.getElem?_eq_getElem (by omega)] at this
  rw [List.getElem?_eq_getElem q,List.getElem?_eq_getElem (by omega)]
  exact congrArg some this
 ·rw [List.getElem?_eq_none (by omega),List.getElem?_eq_none (by omega)]
structure LkP (a b c Z r0 r1 i:Int) (dg ds fs:LL):Prop where
 ha:1≤a∧a≤4
 hb:1≤b∧b≤4
 hc:1≤c∧c≤4
 hZ:0≤Z∧Z≤7680
 h0:0≤r0∧r0 < ds.length
 h1:0≤r1∧r1 < ds.length
 hi:0≤i∧i < fs.length
 dl:dg.length=ds.length
 ge:dg=intsL (ungI dg)
 de:ds=intsL (ungI ds)
 fe:fs=intsL (ungI fs)
 p0:1≤(ungI dg).getD r0.toNat 0
 p1:1≤(ungI dg).getD r1.toNat 0
 bd:∀ j,-10000000000≤(ungI ds).getD j 0∧(ungI ds).getD j 0≤10000000000
 bf:∀ j,-10000000000≤(ungI fs).getD j 0∧(ungI fs).getD j 0≤10000000000
structure AmtP (r0 r1:Int) (ds:LL):Prop where
 h0:0≤r0∧r0 < ds.length
 h1:0≤r1∧r1 < ds.length
 de:ds=intsL (ungI ds)
 bd:∀ j,-10000000000≤(ungI ds).getD j 0∧(ungI ds).getD j 0≤10000000000
theorem LkP.amt {a b c Z r0 r1 i:Int} {dg ds fs:LL} (h:LkP a b c Z r0 r1 i dg ds fs):AmtP r0 r1 ds:=⟨h.h0,h.h1,h.de,h.bd⟩
def alQ (r0 r1:Int) (ds:List Int):Int:=ds.getD r1.toNat 0 - ds.getD r0.toNat 0
def alF (a c Z br r0 r1 i:Int) (ds fs:List Int):Int:=(Z - wan a Z)*fs.getD i.toNat 0+if br=0 then wan c (Z - wan a Z)*alQ r0 r1 ds else 0
def alV (b c Z br r0 r1 i:Int) (ds fs:List Int):Int:=wan b Z*fs.getD i.toNat 0+if br=0 then wan (b+c) Z*alQ r0 r1 ds else 0
def alX (Z br r0 r1:Int) (dg ds os:List Int):List Int:=if br=1 then addA os r0.toNat (Z.tdiv (dg.getD r0.toNat 0)*alQ r0 r1 ds) else if br=-1 then addA os r1.toNat (-(Z.tdiv (dg.getD r1.toNat 0)*alQ r0 r1 ds)) else os
def alU (Z br r0 r1:Int) (dg ds:List Int):Int:=if br=1 then Z.tdiv (dg.getD r0.toNat 0)*alQ r0 r1 ds else 0
def alW (Z br r0 r1:Int) (dg ds:List Int):Int:=if br=-1 then Z.tdiv (dg.getD r1.toNat 0)*alQ r0 r1 ds else 0
def alD (b c Z br r0 r1 i:Int) (dg ds fs os:List Int):List Int:=addA (addA os r0.toNat (alV b c Z br r0 r1 i ds fs+alU Z br r0 r1 dg ds)) r1.toNat (-(alV b c Z br r0 r1 i ds fs+alW Z br r0 r1 dg ds))
theorem alX_D (b c Z br r0 r1 i:Int) (dg ds fs os:List Int):addA (addA (alX Z br r0 r1 dg ds os) r0.toNat (alV b c Z br r0 r1 i ds fs)) r1.toNat (-alV b c Z br r0 r1 i ds fs)=alD b c Z br r0 r1 i dg ds fs os:=by
 have l0:(alX Z br r0 r1 dg ds os).length=os.length:=by
  unfold alX
  split
  ·exact addA_len _ _ _
  ·split
   ·exact addA_len _ _ _
   ·rfl
 refine ext_getD (by unfold alD; simp only [addA_len,l0]) λ j=>?_
 unfold alD
 simp only [addA_getD,addA_len,l0]
 have:(alX Z br r0 r1 dg ds os).getD j 0=os.getD j 0+(if r0.toNat=j∧j < os.length then alU Z br r0 r1 dg ds else 0) - if r1.toNat=j∧j < os.length then alW Z br r0 r1 dg ds else 0:=by
  unfold alX alU alW
  by_cases q:br=1
  ·rw [if_pos q,if_pos q,if_neg (show ¬ br=-1 by omega),addA_getD]; split <;> split <;> omega
  ·rw [if_neg q,if_neg q]
   by_cases q2:br=-1
   ·rw [if_pos q2,if_pos q2,addA_getD]; split <;> split <;> omega
   ·rw [if_neg q2,if_neg q2]; split <;> split <;> omega
 rw [this]
 split <;> split <;> omega
def alth_s (wan:Int->Int->Int):Sp
 | [.agg [.int .i64 r0,.int .i64 r1,.int .i64 a,.int .i64 b,.int .i64 c,.int .i64 Z,.int .i64 br,.sl 1 f dg]]=>some ((1≤a∧a≤4)∧0≤Z∧Z≤7680,.int .i64 (Z - wan a Z))
 | _=>none
def alth_T (wan:Int->Int->Int):Prop :=
 ∀ (gl:Glob) (a b c Z r0 r1 br:Int) (f:Bool) (dg:LL),(1≤a∧a≤(4:Int))∧0≤Z∧Z≤(7680:Int)->(IR9 r0)∧(IR9 r1)∧(IR9 a)∧(IR9 b)∧(IR9 c)∧(IR9 Z)∧(IR9 br)∧True∧True->bif decide (0≤a) then bif decide (rng IntKind.i64 (Z - Z / (2:Int) ^ min a.toNat 64)) then Z - Z / (2:Int) ^ min a.toNat 64=Z - wan a Z else False else False
theorem alth_P:alth_T wan:=by
 unfold alth_T
 intro gl a b c Z r0 r1 br f dg ⟨ha,hZ⟩
 intros
 have w:=wan_p (s:=a) (z:=Z) (by omega) hZ.1
 unfold wan at w
 exact cd1 (by omega) (cdI (by omega) rfl)
theorem alth_e (wan:Int->Int->Int):alth_T wan=(∀ (gl:Glob) (a b c Z r0 r1 br:Int) (f:Bool) (dg:LL),(1≤a∧a≤4)∧0≤Z∧Z≤7680->fnK Tryz.prog { glob:=gl,spec:=lk [],specH:=lk [],nowf:=true } { nt:=12,drop:=drp [(1,4088)] } (λ _ _=>none) 6 Tryz.f151 [.agg [.int .i64 r0,.int .i64 r1,.int .i64 a,.int .i64 b,.int .i64 c,.int .i64 Z,.int .i64 br,.sl 1 f dg]] (.int .i64 (Z - wan a Z))):=by kernel_rfl
def alth_v:=Eq.mp (alth_e ..) (alth_P)
theorem alth_ok (gl:Glob):SOK Tryz.prog gl 151 (alth_s wan):=by
 refine ⟨fok Tryz.func151 (by kernel_rfl) (by kernel_rfl),?_⟩
 intro xs pre r h hp
 unfold alth_s at h
 split at h
 ·cases h
  exact fnK_sound tyNil (by exact specOK rfl rfl trivial trivial) (by kernel_rfl) Tryz.func151 rfl (alth_v gl _ _ _ _ _ _ _ _ _ hp)
 ·cases h
def aamt_s (alQ:Int->Int->List Int->Int):Sp
 | [.agg [.int .i64 r0,.int .i64 r1,.int .i64 a,.int .i64 b,.int .i64 c,.int .i64 Z,.int .i64 br,.sl 1 f dg],.agg [.sl 1 g ds,.sl 1 h fs]]=>some (AmtP r0 r1 ds,.int .i64 (alQ r0 r1 (ungI ds)))
 | _=>none
def aamt_T (alQ:Int->Int->List Int->Int):Prop :=
 ∀ (gl:Glob) (a b c Z r0 r1 br:Int) (f g h:Bool) (dg ds fs:LL),AmtP r0 r1 ds->(IR9 r0)∧(IR9 r1)∧(IR9 a)∧(IR9 b)∧(IR9 c)∧(IR9 Z)∧(IR9 br)∧True∧True->True∧True∧True->bif decide (0≤r1∧r1 < (↑ds.length:Int)) then ∃ n,List.take [AV.int IntKind.i64 n].length (ds.getD r1.toNat [])=[AV.int IntKind.i64 n]∧bif decide (0≤r0∧r0 < (↑ds.length:Int)) then ∃ n_1,List.take [AV.int IntKind.i64 n_1].length (ds.getD r0.toNat [])=[AV.int IntKind.i64 n_1]∧bif decide (rng IntKind.i64 (n - n_1)) then n - n_1=alQ r0 r1 (ungI ds) else False else False else False
theorem aamt_P:aamt_T alQ:=by
 unfold aamt_T
 intro gl a b c Z r0 r1 br f g h dg ds fs hP
 intros
 have h0:=hP.h0
 have h1:=hP.h1
 have de:=hP.de
 have bd:=hP.bd
 have hl:=ungI_len ds
 obtain ⟨zd,hzd⟩:∃ z,z=ungI ds:=⟨_,rfl⟩
 rw [← hzd] at de bd hl ⊢
 have e0:zd[r0.toNat]?=some (zd.getD r0.toNat 0):=at_getD (by omega)
 have e1:zd[r1.toNat]?=some (zd.getD r1.toNat 0):=at_getD (by omega)
 have b0:=bd r0.toNat
 have b1:=bd r1.toNat
 exact cd1 h1 ⟨zd.getD r1.toNat 0,by rw [de,intsL_at e1]; rfl,cd1 h0 ⟨zd.getD r0.toNat 0,by rw [de,intsL_at e0]; rfl,cdI (by omega) rfl⟩⟩
theorem aamt_e (alQ:Int->Int->List Int->Int):aamt_T alQ=(∀ (gl:Glob) (a b c Z r0 r1 br:Int) (f g h:Bool) (dg ds fs:LL),AmtP r0 r1 ds->fnK Tryz.prog { glob:=gl,spec:=lk [],specH:=lk [],shape:=[11,18],nowf:=true } { nt:=20,drop:=drp [(1,1048544)] } (λ _ _=>none) 6 Tryz.f152 [.agg [.int .i64 r0,.int .i64 r1,.int .i64 a,.int .i64 b,.int .i64 c,.int .i64 Z,.int .i64 br,.sl 1 f dg],.agg [.sl 1 g ds,.sl 1 h fs]] (.int .i64 (alQ r0 r1 (ungI ds)))):=by kernel_rfl
def aamt_v:=Eq.mp (aamt_e ..) (aamt_P)
theorem aamt_ok (gl:Glob):SOK Tryz.prog gl 152 (aamt_s alQ):=by
 refine ⟨fok Tryz.func152 (by kernel_rfl) (by kernel_rfl),?_⟩
 intro xs pre r h hp
 unfold aamt_s at h
 split at h
 ·cases h
  exact fnK_sound tyNil (by exact specOK rfl rfl trivial trivial) (by kernel_rfl) Tryz.func152 rfl (aamt_v gl _ _ _ _ _ _ _ _ _ _ _ _ _ hp)
 ·cases h
def aflo_s (wan:Int->Int->Int) (alQ:Int->Int->List Int->Int):Sp
 | [.agg [.int .i64 r0,.int .i64 r1,.int .i64 a,.int .i64 b,.int .i64 c,.int .i64 Z,.int .i64 br,.sl 1 f dg],.agg [.sl 1 g ds,.sl 1 h fs],.int .i64 i]=>some (LkP a b c Z r0 r1 i dg ds fs,.int .i64 (alF a c Z br r0 r1 i (ungI ds) (ungI fs)))
 | _=>none
def aflo_T (wan:Int->Int->Int) (alQ:Int->Int->List Int->Int):Prop :=
 ∀ (gl:Glob) (a b c Z r0 r1 br i:Int) (f g h:Bool) (dg ds fs:LL),LkP a b c Z r0 r1 i dg ds fs->(IR9 r0)∧(IR9 r1)∧(IR9 a)∧(IR9 b)∧(IR9 c)∧(IR9 Z)∧(IR9 br)∧True∧True->True∧True∧True->IR9 i->((1≤a∧a≤(4:Int))∧0≤Z∧Z≤(7680:Int))∧bif decide (0≤i∧i < (↑fs.length:Int)) then ∃ n,List.take [I6 n].length (fs.getD i.toNat [])=[I6 n]∧bif decide (rng IntKind.i64 ((Z - wan a Z)*n)) then bif decide (br=(0:Int)) then ((1≤a∧a≤(4:Int))∧0≤Z∧Z≤(7680:Int))∧bif decide (0≤c) then AmtP r0 r1 ds∧bif decide (rng IntKind.i64 ((Z - wan a Z) / (2:Int) ^ min c.toNat 64*alQ r0 r1 (ungI ds))) then bif decide (rng IntKind.i64 ((Z - wan a Z)*n+(Z - wan a Z) / (2:Int) ^ min c.toNat 64*alQ r0 r1 (ungI ds))) then (Z - wan a Z)*n+(Z - wan a Z) / (2:Int) ^ min c.toNat 64*alQ r0 r1 (ungI ds)=alF a c Z br r0 r1 i (ungI ds) (ungI fs) else False else False else False else (Z - wan a Z)*n=alF a c Z br r0 r1 i (ungI ds) (ungI fs) else False else False
theorem aflo_P:aflo_T wan alQ:=by
 unfold aflo_T
 delta I6
 intro gl a b c Z r0 r1 br i f g h dg ds fs hP
 intros
 have hA:=hP.amt
 have ha:=hP.ha
 have hc:=hP.hc
 have hZ:=hP.hZ
 have hi:=hP.hi
 have fe:=hP.fe
 have bf:=hP.bf i.toNat
 have hl:=ungI_len fs
 have d0:=hP.bd r0.toNat
 have d1:=hP.bd r1.toNat
 have w:=wan_p (s:=a) (z:=Z) (by omega) hZ.1
 have w2:=wan_p (s:=c) (z:=Z - wan a Z) (by omega) (by omega)
 have bq:-20000000000≤alQ r0 r1 (ungI ds)∧alQ r0 r1 (ungI ds)≤20000000000:=by unfold alQ; omega
 have p1:=mul_b (K:=7680) ⟨show 0≤Z - wan a Z by omega,by omega⟩ bf
 have p2:=mul_b (K:=7680) ⟨w2.1,by omega⟩ bq
 have e0:(ungI fs)[i.toNat]?=some ((ungI fs).getD i.toNat 0):=at_getD (by omega)
 unfold alF
 rw [show wan c (Z - wan a Z)=(Z - wan a Z) / 2 ^ min c.toNat 64 from rfl] at p2 ⊢
 refine ⟨⟨ha,hZ⟩,cd1 hi ⟨(ungI fs).getD i.toNat 0,by rw [fe,ungI_ints,intsL_at e0]; rfl,cdI (by omega) (csp (λ q=>⟨⟨ha,hZ⟩,cd1 (by omega) ⟨hA,cdI (by omega) (cdI (by omega) ?_)⟩⟩) (λ q=>?_))⟩⟩
 ·rw [if_pos q]
 ·rw [if_neg q]; omega
theorem aflo_e (wan:Int->Int->Int) (alQ:Int->Int->List Int->Int):aflo_T wan alQ=(∀ (gl:Glob) (a b c Z r0 r1 br i:Int) (f g h:Bool) (dg ds fs:LL),LkP a b c Z r0 r1 i dg ds fs->fnK Tryz.prog { glob:=gl,spec:=lk [(151,(alth_s wan)),(152,(aamt_s alQ))],specH:=lk [],shape:=[14],nowf:=true } { nt:=32,drop:=drp [(1,65280),(2,196608),(3,2146959360),(4,2147483648)] } (λ _ _=>none) 6 Tryz.f114 [.agg [.int .i64 r0,.int .i64 r1,.int .i64 a,.int .i64 b,.int .i64 c,.int .i64 Z,.int .i64 br,.sl 1 f dg],.agg [.sl 1 g ds,.sl 1 h fs],.int .i64 i] (.int .i64 (alF a c Z br r0 r1 i (ungI ds) (ungI fs)))):=by kernel_rfl
def aflo_v:=Eq.mp (aflo_e ..) (aflo_P)
theorem aflo_ok (gl:Glob):SOK Tryz.prog gl 114 (aflo_s wan alQ):=by
 refine ⟨fok Tryz.func114 (by kernel_rfl) (by kernel_rfl),?_⟩
 intro xs pre r h hp
 unfold aflo_s at h
 split at h
 ·cases h
  exact fnK_sound tyNil (by exact specOK rfl rfl ⟨(alth_ok gl),(aamt_ok gl),trivial⟩ trivial) (by kernel_rfl) Tryz.func114 rfl (aflo_v gl _ _ _ _ _ _ _ _ _ _ _ _ _ _ hp)
 ·cases h
structure DpP (N m:Nat) (zs:LL):Prop where
 ze:zs=intsL (ungI zs)
 zl:zs.length=N
 zm:m=N
 zb:∀ j,-8000000000000000000≤(ungI zs).getD j 0∧(ungI zs).getD j 0≤8000000000000000000
def adC (m:Nat) (a b c Z r0 r1 br i:Int) (f g h:Bool) (dg ds fs zs:LL):LInv:=⟨Unit,λ _=>⟨[(1,.rw 0 1 m),(4,.ptr 1004 0),(9,.int .i64 (alV b c Z br r0 r1 i (ungI ds) (ungI fs)))],[(0,.row 3 1 (intsL (alX Z br r0 r1 (ungI dg) (ungI ds) (ungI zs)))),(1004,.cells [.int .i64 r0,.int .i64 r1,.int .i64 a,.int .i64 b,.int .i64 c,.int .i64 Z,.int .i64 br,.sl 1 f dg])]⟩,OneP,λ _=>0,none⟩
def adep_s:SpH
 | [.agg [.int .i64 r0,.int .i64 r1,.int .i64 a,.int .i64 b,.int .i64 c,.int .i64 Z,.int .i64 br,.sl 1 f dg],.rw 0 1 m,.agg [.sl 1 g ds,.sl 1 h fs],.int .i64 i],[.row 3 1 zs]=>some (LkP a b c Z r0 r1 i dg ds fs∧DpP ds.length m zs,.tup [],[.row 3 1 (intsL (alD b c Z br r0 r1 i (ungI dg) (ungI ds) (ungI fs) (ungI zs)))])
 | _,_=>none
abbrev adep_1 (Z:Int) (br:Int) (r0:Int) (r1:Int) (dg:LL) (ds:LL) (zs:LL):=(intsL (alX Z br r0 r1 (ungI dg) (ungI ds) (ungI zs)))
abbrev adep_2 (r0:Int) (r1:Int) (a:Int) (b:Int) (c:Int) (Z:Int) (br:Int) (f:Bool) (dg:LL):=(r0=r0∧r1=r1∧a=a∧b=b∧c=c∧Z=Z∧br=br∧((bif f then f=true else True)∧dg=dg)∧True)
def adep_T (alQ:Int->Int->List Int->Int):Prop :=
 ∀ (gl:Glob) (a b c Z r0 r1 br i:Int) (m:Nat) (f g h:Bool) (dg ds fs zs:LL),LkP a b c Z r0 r1 i dg ds fs∧DpP ds.length m zs->(IR9 r0)∧(IR9 r1)∧(IR9 a)∧(IR9 b)∧(IR9 c)∧(IR9 Z)∧(IR9 br)∧True∧True->True->True∧True∧True->IR9 i->AmtP r0 r1 ds∧bif decide (0≤b) then bif decide (0≤i∧i < (↑fs.length:Int)) then ∃ n,List.take [I6 n].length (fs.getD i.toNat [])=[I6 n]∧bif decide (rng IntKind.i64 (Z / (2:Int) ^ min b.toNat 64*n)) then (bif decide (br=(0:Int)) then bif decide (rng IntKind.i64 (b+c)) then bif decide (0≤b+c) then bif decide (rng IntKind.i64 (Z / (2:Int) ^ min (b+c).toNat 64*alQ r0 r1 (ungI ds))) then bif decide (rng IntKind.i64 (Z / (2:Int) ^ min b.toNat 64*n+Z / (2:Int) ^ min (b+c).toNat 64*alQ r0 r1 (ungI ds))) then ∃ x,OneP x∧(m=m∧(0:Nat)=(0:Nat)∧Z / (2:Int) ^ min b.toNat 64*n+Z / (2:Int) ^ min (b+c).toNat 64*alQ r0 r1 (ungI ds)=alV b c Z br r0 r1 i (ungI ds) (ungI fs)∧True)∧zs=intsL (alX Z br r0 r1 (ungI dg) (ungI ds) (ungI zs))∧(adep_2 r0 r1 a b c Z br f dg)∧True else False else False else False else False else bif decide (br=(1:Int)) then bif decide (0≤r0∧r0 < (↑m:Int)) then bif decide (m=zs.length∧r0.toNat < zs.length) then ∃ n_1,List.take [I6 n_1].length (List.drop 0 (zs.getD r0.toNat []))=[I6 n_1]∧bif decide (0≤r0∧r0 < (↑dg.length:Int)) then ∃ n_2,List.take [I6 n_2].length (dg.getD r0.toNat [])=[I6 n_2]∧bif decide ¬n_2=(0:Int) then bif decide (rng IntKind.i64 (Z.tdiv n_2)) then bif decide (rng IntKind.i64 (Z.tdiv n_2*alQ r0 r1 (ungI ds))) then bif decide (rng IntKind.i64 (n_1+Z.tdiv n_2*alQ r0 r1 (ungI ds))) then bif decide (0≤r0∧r0 < (↑m:Int)) then bif decide (m=zs.length∧r0.toNat < zs.length) then ∃ x,OneP x∧(m=m∧(0:Nat)=(0:Nat)∧Z / (2:Int) ^ min b.toNat 64*n=alV b c Z br r0 r1 i (ungI ds) (ungI fs)∧True)∧setEl zs r0.toNat 0 [I6 (n_1+Z.tdiv n_2*alQ r0 r1 (ungI ds))]=intsL (alX Z br r0 r1 (ungI dg) (ungI ds) (ungI zs))∧(adep_2 r0 r1 a b c Z br f dg)∧True else False else False else False else False else False else False else False else False else False else bif decide (br=(-1:Int)) then bif decide (0≤r1∧r1 < (↑m:Int)) then bif decide (m=zs.length∧r1.toNat < zs.length) then ∃ n_1,List.take [I6 n_1].length (List.drop 0 (zs.getD r1.toNat []))=[I6 n_1]∧bif decide (0≤r1∧r1 < (↑dg.length:Int)) then ∃ n_2,List.take [I6 n_2].length (dg.getD r1.toNat [])=[I6 n_2]∧bif decide ¬n_2=(0:Int) then bif decide (rng IntKind.i64 (Z.tdiv n_2)) then bif decide (rng IntKind.i64 (Z.tdiv n_2*alQ r0 r1 (ungI ds))) then bif decide (rng IntKind.i64 (n_1 - Z.tdiv n_2*alQ r0 r1 (ungI ds))) then bif decide (0≤r1∧r1 < (↑m:Int)) then bif decide (m=zs.length∧r1.toNat < zs.length) then ∃ x,OneP x∧(m=m∧(0:Nat)=(0:Nat)∧Z / (2:Int) ^ min b.toNat 64*n=alV b c Z br r0 r1 i (ungI ds) (ungI fs)∧True)∧setEl zs r1.toNat 0 [I6 (n_1 - Z.tdiv n_2*alQ r0 r1 (ungI ds))]=intsL (alX Z br r0 r1 (ungI dg) (ungI ds) (ungI zs))∧(adep_2 r0 r1 a b c Z br f dg)∧True else False else False else False else False else False else False else False else False else False else ∃ x,OneP x∧(m=m∧(0:Nat)=(0:Nat)∧Z / (2:Int) ^ min b.toNat 64*n=alV b c Z br r0 r1 i (ungI ds) (ungI fs)∧True)∧zs=intsL (alX Z br r0 r1 (ungI dg) (ungI ds) (ungI zs))∧(adep_2 r0 r1 a b c Z br f dg)∧True)∧∀ (x1:PUnit),OneP x1->bif decide (0≤r0∧r0 < (↑m:Int)) then bif decide (m=(adep_1 Z br r0 r1 dg ds zs).length∧r0.toNat < (adep_1 Z br r0 r1 dg ds zs).length) then ∃ n,List.take [I6 n].length (List.drop 0 ((adep_1 Z br r0 r1 dg ds zs).getD r0.toNat []))=[I6 n]∧bif decide (rng IntKind.i64 (n+alV b c Z br r0 r1 i (ungI ds) (ungI fs))) then bif decide (0≤r0∧r0 < (↑m:Int)) then bif decide (m=(adep_1 Z br r0 r1 dg ds zs).length∧r0.toNat < (adep_1 Z br r0 r1 dg ds zs).length) then bif decide (0≤r1∧r1 < (↑m:Int)) then bif decide (m=(setEl (adep_1 Z br r0 r1 dg ds zs) r0.toNat 0 [I6 (n+alV b c Z br r0 r1 i (ungI ds) (ungI fs))]).length∧r1.toNat < (setEl (adep_1 Z br r0 r1 dg ds zs) r0.toNat 0 [I6 (n+alV b c Z br r0 r1 i (ungI ds) (ungI fs))]).length) then ∃ n_1,List.take [I6 n_1].length (List.drop 0 ((setEl (adep_1 Z br r0 r1 dg ds zs) r0.toNat 0 [I6 (n+alV b c Z br r0 r1 i (ungI ds) (ungI fs))]).getD r1.toNat []))=[I6 n_1]∧bif decide (rng IntKind.i64 (n_1 - alV b c Z br r0 r1 i (ungI ds) (ungI fs))) then bif decide (0≤r1∧r1 < (↑m:Int)) then bif decide (m=(setEl (adep_1 Z br r0 r1 dg ds zs) r0.toNat 0 [I6 (n+alV b c Z br r0 r1 i (ungI ds) (ungI fs))]).length∧r1.toNat < (setEl (adep_1 Z br r0 r1 dg ds zs) r0.toNat 0 [I6 (n+alV b c Z br r0 r1 i (ungI ds) (ungI fs))]).length) then True∧setEl (setEl (adep_1 Z br r0 r1 dg ds zs) r0.toNat 0 [I6 (n+alV b c Z br r0 r1 i (ungI ds) (ungI fs))]) r1.toNat 0 [I6 (n_1 - alV b c Z br r0 r1 i (ungI ds) (ungI fs))]=intsL (alD b c Z br r0 r1 i (ungI dg) (ungI ds) (ungI fs) (ungI zs))∧True else False else False else False else False else False else False else False else False else False else False else False else False else False
theorem adep_P:adep_T alQ:=by
 unfold adep_T
 delta adep_1 adep_2 I6
 intro gl a b c Z r0 r1 br i m f g h dg ds fs zs ⟨hP,hD⟩
 intros
 have hA:=hP.amt
 have hb:=hP.hb
 have hc:=hP.hc
 have hZ:=hP.hZ
 have hi:=hP.hi
 have h0:=hP.h0
 have h1:=hP.h1
 have fe:=hP.fe
 have ge:=hP.ge
 have dl:=hP.dl
 have p0:=hP.p0
 have p1:=hP.p1
 have bf:=hP.bf i.toNat
 have d0:=hP.bd r0.toNat
 have d1:=hP.bd r1.toNat
 obtain ⟨ze,zl,zm,zb⟩:=hD
 have lf:=ungI_len fs
 have lg:=ungI_len dg
 have lz:=ungI_len zs
 have gf:cond f (f=true) True:=gg f
 clear hP
 have bq:-20000000000≤alQ r0 r1 (ungI ds)∧alQ r0 r1 (ungI ds)≤20000000000:=by unfold alQ; omega
 obtain ⟨zd,hzd⟩:∃ z,z=ungI ds:=⟨_,rfl⟩
 obtain ⟨zf,hzf⟩:∃ z,z=ungI fs:=⟨_,rfl⟩
 obtain ⟨zg,hzg⟩:∃ z,z=ungI dg:=⟨_,rfl⟩
 obtain ⟨zo,hzo⟩:∃ z,z=ungI zs:=⟨_,rfl⟩
 rw [← hzd] at bq d0 d1 ⊢
 rw [← hzf] at fe bf lf ⊢
 rw [← hzg] at ge p0 p1 lg ⊢
 rw [← hzo] at ze zb lz ⊢
 clear hzd hzf hzg hzo
 have hX:=alX_D b c Z br r0 r1 i zg zd zf zo
 have hV:alV b c Z br r0 r1 i zd zf=Z / 2 ^ min b.toNat 64*zf.getD i.toNat 0+if br=0 then Z / 2 ^ min (b+c).toNat 64*alQ r0 r1 zd else 0:=rfl
 have hXe:alX Z br r0 r1 zg zd zo=if br=1 then zo.set r0.toNat (zo.getD r0.toNat 0+Z.tdiv (zg.getD r0.toNat 0)*alQ r0 r1 zd) else if br=-1 then zo.set r1.toNat (zo.getD r1.toNat 0+-(Z.tdiv (zg.getD r1.toNat 0)*alQ r0 r1 zd)) else zo:=rfl
 have w1:=wan_p (s:=b) (z:=Z) (by omega) hZ.1
 have w2:=wan_p (s:=b+c) (z:=Z) (by omega) hZ.1
 unfold wan at w1 w2
 have q1:=mul_b (K:=7680) ⟨w1.1,by omega⟩ bf
 have q2:=mul_b (K:=7680) ⟨w2.1,by omega⟩ bq
 have t0:=tdiv_c hZ p0
 have t1:=tdiv_c hZ p1
 have m0:=mul_b t0 bq
 have m1:=mul_b t1 bq
 generalize alQ r0 r1 zd=Q at *
 generalize alD b c Z br r0 r1 i zg zd zf zo=D at *
 have vb:-230400000000000≤alV b c Z br r0 r1 i zd zf∧alV b c Z br r0 r1 i zd zf≤230400000000000:=by rw [hV]; split <;> omega
 have xl:(alX Z br r0 r1 zg zd zo).length=zs.length:=by
  rw [hXe]
  split
  ·rw [List.length_set,lz]
  ·split
   ·rw [List.length_set,lz]
   ·exact lz
 have xb:∀ j,-(8000000000000000000+153600000000000)≤(alX Z br r0 r1 zg zd zo).getD j 0∧(alX Z br r0 r1 zg zd zo).getD j 0≤8000000000000000000+153600000000000:=by
  rw [hXe]
  split
  ·exact set_bd zb (by omega) (by decide)
  ·split
   ·exact set_bd zb (by omega) (by decide)
   ·intro j; have:=zb j; omega
 generalize alV b c Z br r0 r1 i zd zf=V at *
 generalize alX Z br r0 r1 zg zd zo=X at *
 have e0:zf[i.toNat]?=some (zf.getD i.toNat 0):=at_getD (by omega)
 refine ⟨hA,cd1 (by omega) (cd1 hi ⟨zf.getD i.toNat 0,by rw [fe,intsL_at e0]; rfl,cdI (by omega) ⟨csp (λ q=>?_) (λ qa=>csp (λ q=>?_) (λ qb=>csp (λ q=>?_) (λ q=>?_))),λ _ _=>?_⟩⟩)⟩
 ·rw [if_neg (show ¬ br=1 by omega),if_neg (show ¬ br=-1 by omega)] at hXe
  rw [if_pos q] at hV
  have hV':=hV.symm
  rw [hXe,← ze]
  exact cdI (by omega) (cd1 (by omega) (cdI (by omega) (cdI (by omega) ⟨(),⟨trivial⟩,by repeat' first|exact trivial|exact rfl|assumption|apply And.intro⟩)))
 ·rw [if_pos q] at hXe
  rw [if_neg qa,Int.add_zero] at hV
  have hV':=hV.symm
  have k0:zo[r0.toNat]?=some (zo.getD r0.toNat 0):=at_getD (by omega)
  have k1:zg[r0.toNat]?=some (zg.getD r0.toNat 0):=at_getD (by omega)
  have z0:=zb r0.toNat
  refine cd1 (by omega) (cd1 (by omega) ⟨zo.getD r0.toNat 0,by rw [ze,List.drop_zero,intsL_at k0]; rfl,cd1 (by omega) ⟨zg.getD r0.toNat 0,by rw [ge,intsL_at k1]; rfl,cd1 (by omega) (cdI (by omega) (cdI (by omega) (cdI (by omega) (cd1 (by omega) (cd1 (by omega) ⟨(),⟨trivial⟩,?_⟩)))))⟩⟩)
  have hx:setEl zs r0.toNat 0 [.int .i64 (zo.getD r0.toNat 0+Z.tdiv (zg.getD r0.toNat 0)*Q)]=intsL X:=by rw [ze,intsL_set (by omega),hXe]
  (repeat' (first | exact trivial | exact rfl | assumption | apply And.intro))
 ·rw [if_neg qb,if_pos q] at hXe
  rw [if_neg qa,Int.add_zero] at hV
  have hV':=hV.symm
  have k0:zo[r1.toNat]?=some (zo.getD r1.toNat 0):=at_getD (by omega)
  have k1:zg[r1.toNat]?=some (zg.getD r1.toNat 0):=at_getD (by omega)
  have z0:=zb r1.toNat
  refine cd1 (by omega) (cd1 (by omega) ⟨zo.getD r1.toNat 0,by rw [ze,List.drop_zero,intsL_at k0]; rfl,cd1 (by omega) ⟨zg.getD r1.toNat 0,by rw [ge,intsL_at k1]; rfl,cd1 (by omega) (cdI (by omega) (cdI (by omega) (cdI (by omega) (cd1 (by omega) (cd1 (by omega) ⟨(),⟨trivial⟩,?_⟩)))))⟩⟩)
  have hx:setEl zs r1.toNat 0 [.int .i64 (zo.getD r1.toNat 0 - Z.tdiv (zg.getD r1.toNat 0)*Q)]=intsL X:=by rw [ze,intsL_set (by omega),hXe,Int.sub_eq_add_neg]
  (repeat' (first | exact trivial | exact rfl | assumption | apply And.intro))
 ·rw [if_neg qb,if_neg q] at hXe
  rw [if_neg qa,Int.add_zero] at hV
  have hV':=hV.symm
  rw [hXe,← ze]
  exact ⟨(),⟨trivial⟩,by repeat' first|exact trivial|exact rfl|assumption|apply And.intro⟩
 ·have k0:X[r0.toNat]?=some (X.getD r0.toNat 0):=at_getD (by omega)
  have x0:=xb r0.toNat
  refine cd1 (by omega) (cd1 ⟨by rw [intsL_len]; omega,by rw [intsL_len]; omega⟩ ⟨X.getD r0.toNat 0,by rw [List.drop_zero,intsL_at k0]; rfl,cdI (by omega) (cd1 (by omega) (cd1 ⟨by rw [intsL_len]; omega,by rw [intsL_len]; omega⟩ ?_))⟩)
  rw [intsL_set (by omega)]
  have l2:(X.set r0.toNat (X.getD r0.toNat 0+V)).length=zs.length:=by rw [List.length_set,xl]
  have hX:(X.set r0.toNat (X.getD r0.toNat 0+V)).set r1.toNat ((X.set r0.toNat (X.getD r0.toNat 0+V)).getD r1.toNat 0+-V)=D:=hX
  have b2:=set_bd xb (x:=V) (C:=230400000000000) vb (i:=r0.toNat) (by decide) r1.toNat
  generalize X.set r0.toNat (X.getD r0.toNat 0+V)=Y at hX l2 b2 ⊢
  have k1:Y[r1.toNat]?=some (Y.getD r1.toNat 0):=at_getD (by omega)
  refine cd1 (by omega) (cd1 ⟨by rw [intsL_len]; omega,by rw [intsL_len]; omega⟩ ⟨Y.getD r1.toNat 0,by rw [List.drop_zero,intsL_at k1]; rfl,cdI (by omega) (cd1 (by omega) (cd1 ⟨by rw [intsL_len]; omega,by rw [intsL_len]; omega⟩ ?_))⟩)
  rw [intsL_set (by omega),Int.sub_eq_add_neg,hX]
  (repeat' (first | exact trivial | exact rfl | assumption | apply And.intro))
theorem adep_e (alQ:Int->Int->List Int->Int):adep_T alQ=(∀ (gl:Glob) (a b c Z r0 r1 br i:Int) (m:Nat) (f g h:Bool) (dg ds fs zs:LL),LkP a b c Z r0 r1 i dg ds fs∧DpP ds.length m zs->fnH Tryz.prog { glob:=gl,spec:=lk [(152,(aamt_s alQ))],specH:=lk [],shape:=[23,50,59,72,81,92,101],nowf:=true } { nt:=105,drop:=drp [(1,7168),(2,33546240),(3,33554432),(4,268435456),(5,8795556151296),(6,17592186044416),(7,36893452963047014400),(8,73786976294838206464),(9,154742357336719944685977600),(10,79073420009353665059181559808),(11,40485591044789076510300958621696)],fr:=1000,kp:=[0] } (invs [(100010,adC m a b c Z r0 r1 br i f g h dg ds fs zs)]) 6 Tryz.f115 [.agg [.int .i64 r0,.int .i64 r1,.int .i64 a,.int .i64 b,.int .i64 c,.int .i64 Z,.int .i64 br,.sl 1 f dg],.rw 0 1 m,.agg [.sl 1 g ds,.sl 1 h fs],.int .i64 i] [.row 3 1 zs] (.tup []) [.row 3 1 (intsL (alD b c Z br r0 r1 i (ungI dg) (ungI ds) (ungI fs) (ungI zs)))]):=by kernel_rfl
def adep_v:=Eq.mp (adep_e ..) (adep_P)
theorem adep_ok (gl:Glob):HOK Tryz.prog gl 115 adep_s:=by
 refine ⟨fok Tryz.func115 (by kernel_rfl) (by kernel_rfl),?_⟩
 intro xs bs pre r bs2 h hp
 unfold adep_s at h
 split at h
 ·cases h
  exact fnH_sound tyNil (by exact specOK rfl rfl ⟨(aamt_ok gl),trivial⟩ trivial) (by kernel_rfl) Tryz.func115 (adep_v gl _ _ _ _ _ _ _ _ _ _ _ _ _ _ _ _ hp)
 ·cases h
end Go.Proofs.YtgbbmadjdaphnaaGreatDoor
