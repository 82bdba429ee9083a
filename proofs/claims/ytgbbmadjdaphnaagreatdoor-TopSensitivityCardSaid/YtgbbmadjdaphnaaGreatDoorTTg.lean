import Derived.Test.YtgbbmadjdaphnaaGreatDoorTTf
import Derived.Shelf.Abstract
import Derived.WalkKit
import Derived.OwnWalkIn
import Derived.TacticsInMore
import Derived.Test.YtgbbmadjdaphnaaGreatDoorTTe
set_option maxRecDepth 100000
set_option linter.defProp false
set_option linter.unusedVariables false
set_option linter.unusedSimpArgs false
namespace Go.Proofs.YtgbbmadjdaphnaaGreatDoor
open Go
def ajF (es:LL) (Z a c:Int) (bs ds fs:List Int) (k:Nat):Int:=alF a c Z (bs.getD k 0) (nI (es.getD k []) 0) (nI (es.getD k []) 1) k ds fs
def ajS (es:LL) (Z b c:Int) (dg bs ds fs:List Int) (k:Nat) (os:List Int):List Int:=alD b c Z (bs.getD k 0) (nI (es.getD k []) 0) (nI (es.getD k []) 1) k dg ds fs os
def ajR (es:LL) (Z b c:Int) (dg bs ds fs os:List Int):Nat->List Int
 | 0=>os
 | k+1=>ajS es Z b c dg bs ds fs k (ajR es Z b c dg bs ds fs os k)
def ajK (n a b c:Int) (bs ds fs:List Int) (k:Nat):List Int:=ajR (edgG nrm n) (scZ a b c) b c (degZ n) bs ds fs (mk (taS (scZ a b c) ds) (ndN n)) k
def ajD (n a b c:Int) (bs ds fs:List Int):List Int:=ajK n a b c bs ds fs (edgG nrm n).length
def ajG (n a b c:Int) (bs ds fs:List Int):List Int:=mk (ajF (edgG nrm n) (scZ a b c) a c bs ds fs) (edgG nrm n).length
theorem alQ_b {B:Int} {r0 r1:Int} {ds:List Int} (hd:∀ j,-B≤ds.getD j 0∧ds.getD j 0≤B):-(2*B)≤alQ r0 r1 ds∧alQ r0 r1 ds≤2*B:=by
 have h0:=hd r0.toNat
 have h1:=hd r1.toNat
 unfold alQ
 omega
theorem alF_b {a b c B br r0 r1 i:Int} {ds fs:List Int} (hs:schE a b c=0) (hd:∀ j,-B≤ds.getD j 0∧ds.getD j 0≤B) (hf:∀ j,-B≤fs.getD j 0∧fs.getD j 0≤B):-(23040*B)≤alF a c (scZ a b c) br r0 r1 i ds fs∧alF a c (scZ a b c) br r0 r1 i ds fs≤23040*B:=by
 obtain ⟨ha,hb,hc⟩:=sch_b hs
 have hZ:=scZ_b hs
 have w1:=wan_p (s:=a) (z:=scZ a b c) (by omega) (by omega)
 have w2:=wan_p (s:=c) (z:=scZ a b c - wan a (scZ a b c)) (by omega) (by omega)
 have p1:=mul_b (Z:=scZ a b c - wan a (scZ a b c)) (K:=7680) (by omega) (hf i.toNat)
 have p2:=mul_b (Z:=wan c (scZ a b c - wan a (scZ a b c))) (K:=7680) (by omega) (alQ_b (r0:=r0) (r1:=r1) hd)
 have hB:=hd 0
 unfold alF
 split <;> omega
theorem alV_b {a b c B br r0 r1 i:Int} {ds fs:List Int} (hs:schE a b c=0) (hd:∀ j,-B≤ds.getD j 0∧ds.getD j 0≤B) (hf:∀ j,-B≤fs.getD j 0∧fs.getD j 0≤B):-(23040*B)≤alV b c (scZ a b c) br r0 r1 i ds fs∧alV b c (scZ a b c) br r0 r1 i ds fs≤23040*B:=by
 obtain ⟨ha,hb,hc⟩:=sch_b hs
 have hZ:=scZ_b hs
 have w1:=wan_p (s:=b) (z:=scZ a b c) (by omega) (by omega)
 have w2:=wan_p (s:=b+c) (z:=scZ a b c) (by omega) (by omega)
 have p1:=mul_b (Z:=wan b (scZ a b c)) (K:=7680) (by omega) (hf i.toNat)
 have p2:=mul_b (Z:=wan (b+c) (scZ a b c)) (K:=7680) (by omega) (alQ_b (r0:=r0) (r1:=r1) hd)
 have hB:=hd 0
 unfold alV
 split <;> omega
theorem alU_b {a b c B br r0 r1:Int} {dg ds:List Int} (hs:schE a b c=0) (hd:∀ j,-B≤ds.getD j 0∧ds.getD j 0≤B) (ga:1≤dg.getD r0.toNat 0):-(15360*B)≤alU (scZ a b c) br r0 r1 dg ds∧alU (scZ a b c) br r0 r1 dg ds≤15360*B:=by
 have hZ:=scZ_b hs
 have p1:=mul_b (tdiv_c (x:=scZ a b c) (K:=7680) (by omega) ga) (alQ_b (r0:=r0) (r1:=r1) hd)
 have hB:=hd 0
 unfold alU
 split <;> omega
theorem alW_b {a b c B br r0 r1:Int} {dg ds:List Int} (hs:schE a b c=0) (hd:∀ j,-B≤ds.getD j 0∧ds.getD j 0≤B) (ga:1≤dg.getD r1.toNat 0):-(15360*B)≤alW (scZ a b c) br r0 r1 dg ds∧alW (scZ a b c) br r0 r1 dg ds≤15360*B:=by
 have hZ:=scZ_b hs
 have p1:=mul_b (tdiv_c (x:=scZ a b c) (K:=7680) (by omega) ga) (alQ_b (r0:=r0) (r1:=r1) hd)
 have hB:=hd 0
 unfold alW
 split <;> omega
theorem alD_len (b c Z br r0 r1 i:Int) (dg ds fs os:List Int):(alD b c Z br r0 r1 i dg ds fs os).length=os.length:=by unfold alD; rw [addA_len,addA_len]
theorem ajK_len (n a b c:Int) (bs ds fs:List Int):∀ k,(ajK n a b c bs ds fs k).length=ndN n
 | 0=>mk_len _ _
 | k+1=>(alD_len _ _ _ _ _ _ _ _ _ _ _).trans (ajK_len n a b c bs ds fs k)
theorem ajK_b {n a b c B:Int} {bs ds fs:List Int} (hg:GrdP nrm n) (hB:0≤B) (hs:schE a b c=0) (hd:∀ j,-B≤ds.getD j 0∧ds.getD j 0≤B) (hf:∀ j,-B≤fs.getD j 0∧fs.getD j 0≤B):∀ (k:Nat),k≤(edgG nrm n).length->∀ (j:Nat),-((2*(k:Int)+1)*(38400*B))≤(ajK n a b c bs ds fs k).getD j 0∧(ajK n a b c bs ds fs k).getD j 0≤(2*(k:Int)+1)*(38400*B)
 | 0,_,j=>by
  have:=mk_b (C:=7680*B) (n:=ndN n) (by omega) (λ k _=>taS_b hs hd k) j
  show _≤(mk (taS (scZ a b c) ds) (ndN n)).getD j 0∧(mk (taS (scZ a b c) ds) (ndN n)).getD j 0≤_
  omega
 | k+1,hk,j=>by
  obtain ⟨ea,eb⟩:=edg_at hg (k:=k) (by omega)
  have v:=alV_b (br:=bs.getD k 0) (r0:=nI ((edgG nrm n).getD k []) 0) (r1:=nI ((edgG nrm n).getD k []) 1) (i:=k) hs hd hf
  have u:=alU_b (br:=bs.getD k 0) (r0:=nI ((edgG nrm n).getD k []) 0) (r1:=nI ((edgG nrm n).getD k []) 1) hs hd (deg_pos hg (by omega))
  have w:=alW_b (br:=bs.getD k 0) (r0:=nI ((edgG nrm n).getD k []) 0) (r1:=nI ((edgG nrm n).getD k []) 1) hs hd (deg_pos hg (by omega))
  have h1:=set_bd (l:=ajK n a b c bs ds fs k) (λ j=>ajK_b hg hB hs hd hf k (by omega) j) (x:=alV b c (scZ a b c) (bs.getD k 0) (nI ((edgG nrm n).getD k []) 0) (nI ((edgG nrm n).getD k []) 1) k ds fs+alU (scZ a b c) (bs.getD k 0) (nI ((edgG nrm n).getD k []) 0) (nI ((edgG nrm n).getD k []) 1) (degZ n) ds) (C:=38400*B) (by omega) (i:=(nI ((edgG nrm n).getD k []) 0).toNat) (by omega)
  have h2:=set_bd h1 (x:=-(alV b c (scZ a b c) (bs.getD k 0) (nI ((edgG nrm n).getD k []) 0) (nI ((edgG nrm n).getD k []) 1) k ds fs+alW (scZ a b c) (bs.getD k 0) (nI ((edgG nrm n).getD k []) 0) (nI ((edgG nrm n).getD k []) 1) (degZ n) ds)) (C:=38400*B) (by omega) (i:=(nI ((edgG nrm n).getD k []) 1).toNat) (by omega) j
  rw [show (2*((k+1:Nat):Int)+1)=(2*(k:Int)+1)+1+1 by omega,Int.add_mul,Int.add_mul,Int.one_mul]
  exact h2
def aj1 (n a b c:Int) (i g h:Bool) (bs ds fs:LL):LInv:=⟨Int,λ x=>⟨[(2,.sl 1 i bs),(4,.ptr 4 0),(7,.ptr 7 0),(8,.ptr 8 0),(9,.int .i64 0),(10,.int .i64 (scZ a b c)),(13,.sl 1 false (intsL (degZ n))),(14,.sl 2 false (edgG nrm n)),(15,.ptr 15 0),(57,.sl 1 g ds),(58,.int .i64 ds.length),(59,.int .i64 x)],[(4,.cells [.int .i64 a,.int .i64 b,.int .i64 c]),(7,.cells [.sl 1 g ds,.sl 1 h fs]),(8,.cells [.nils,.nils]),(15,.cells [.rw 1500 1 x.toNat,.rw 1510 1 0]),(1500,.row 3 1 (intsL (mk (taS (scZ a b c) (ungI ds)) x.toNat))),(1510,.row 3 1 [])]⟩,LtP ds.length,λ x=>(ds.length - x).toNat,none⟩
def aj2 (n a b c:Int) (i g h:Bool) (bs ds fs:LL):LInv:=⟨Int,λ x=>⟨[(2,.sl 1 i bs),(4,.ptr 4 0),(7,.ptr 7 0),(8,.ptr 8 0),(9,.int .i64 0),(10,.int .i64 (scZ a b c)),(13,.sl 1 false (intsL (degZ n))),(15,.ptr 15 0),(72,.sl 2 false (edgG nrm n)),(73,.int .i64 (edgG nrm n).length),(74,.int .i64 x)],[(4,.cells [.int .i64 a,.int .i64 b,.int .i64 c]),(7,.cells [.sl 1 g ds,.sl 1 h fs]),(8,.cells [.nils,.nils]),(15,.cells [.rw 1500 1 (ndN n),.rw 1510 1 x.toNat]),(1500,.row 3 1 (intsL (ajK n a b c (ungI bs) (ungI ds) (ungI fs) x.toNat))),(1510,.row 3 1 (intsL (mk (ajF (edgG nrm n) (scZ a b c) a c (ungI bs) (ungI ds) (ungI fs)) x.toNat)))]⟩,LtP (edgG nrm n).length,λ x=>((edgG nrm n).length - x).toNat,none⟩
def aapp_s:Sp
 | [.agg [.int .i64 a,.int .i64 b,.int .i64 c],.int .i64 n,.sl 1 i bs,.agg [.sl 1 g ds,.sl 1 h fs]]=>some (schE a b c=0∧ChP n 10000000000 ds fs∧BrP n bs,.tup [.agg [.sl 1 false (intsL (ajD n a b c (ungI bs) (ungI ds) (ungI fs))),.sl 1 false (intsL (ajG n a b c (ungI bs) (ungI ds) (ungI fs)))],.int .i64 0])
 | _=>none
abbrev aapp_1 (n:Int):=(edgG YtgbbmadjdaphnaaGreatDoor.nrm n)
abbrev aapp_2 (n:Int) (a:Int) (b:Int) (c:Int) (bs:LL) (ds:LL) (fs:LL):=(ajF (aapp_1 n) (scZ a b c) a c (ungI bs) (ungI ds) (ungI fs))
abbrev aapp_3 (g:Bool) (ds:LL) (h:Bool) (fs:LL):=(((bif g then g=true else True)∧ds=ds)∧((bif h then h=true else True)∧fs=fs)∧True)
abbrev aapp_4 (n:Int):=(True∧edgG YtgbbmadjdaphnaaGreatDoor.nrm n=edgG YtgbbmadjdaphnaaGreatDoor.nrm n)
abbrev aapp_5 (n:Int):=(True∧intsL (degZ n)=intsL (degZ n))
def aapp_T (nrm:NrT) (wan:Int->Int->Int) (alQ:Int->Int->List Int->Int):Prop :=
 ∀ (n a b c:Int) (i g h:Bool) (bs ds fs:LL),schE a b c=(0:Int)∧ChP n 10000000000 ds fs∧BrP n bs->(IR9 a)∧(IR9 b)∧(IR9 c)∧True->IR9 n->True->True∧True∧True->schE a b c=(0:Int)∧(ChP n 1099511627776 ds fs∧BrP n bs)∧GrdP YtgbbmadjdaphnaaGreatDoor.nrm n∧BldQ nrm n∧(∃ x,LtP ds.length x∧(((bif i then i=true else True)∧bs=bs)∧(0:Nat)=(0:Nat)∧(0:Nat)=(0:Nat)∧(0:Nat)=(0:Nat)∧(0:Int)=(0:Int)∧scZ a b c=scZ a b c∧(aapp_5 n)∧(True∧edgG nrm n=edgG YtgbbmadjdaphnaaGreatDoor.nrm n)∧(0:Nat)=(0:Nat)∧((bif g then g=true else True)∧ds=ds)∧(↑ds.length:Int)=(↑ds.length:Int)∧(0:Int)=x∧True)∧(a=a∧b=b∧c=c∧True)∧(aapp_3 g ds h fs)∧(True∧True∧True)∧((0:Nat)=Int.toNat x∧(0:Nat)=(0:Nat)∧True)∧[]=intsL (mk (taS (scZ a b c) (ungI ds)) (Int.toNat x))∧([]:LL)=[]∧True)∧∀ (x1:Int),LtP ds.length x1->bif decide (x1 < (↑ds.length:Int)) then bif decide (0≤x1∧x1 < (↑ds.length:Int)) then ∃ n_1,List.take [I6 n_1].length (ds.getD x1.toNat [])=[I6 n_1]∧bif decide (rng IntKind.i64 (scZ a b c*n_1)) then bif decide (x1.toNat=(intsL (mk (taS (scZ a b c) (ungI ds)) x1.toNat)).length∧(intsL (mk (taS (scZ a b c) (ungI ds)) x1.toNat)).length+[[I6 (scZ a b c*n_1)]].length≤(9223372036854775807:Nat)∧((intsL (mk (taS (scZ a b c) (ungI ds)) x1.toNat)).length+[[I6 (scZ a b c*n_1)]].length)*(8:Nat)≤(140737488355328:Nat)) then bif decide (rng IntKind.i64 (x1+(1:Int))) then ∃ y,LtP ds.length y∧(aj1 n a b c i g h bs ds fs).m y < (aj1 n a b c i g h bs ds fs).m x1∧(((bif i then i=true else True)∧bs=bs)∧(0:Nat)=(0:Nat)∧(0:Nat)=(0:Nat)∧(0:Nat)=(0:Nat)∧(0:Int)=(0:Int)∧scZ a b c=scZ a b c∧(aapp_5 n)∧(aapp_4 n)∧(0:Nat)=(0:Nat)∧((bif g then g=true else True)∧ds=ds)∧(↑ds.length:Int)=(↑ds.length:Int)∧x1+(1:Int)=y∧True)∧(a=a∧b=b∧c=c∧True)∧(aapp_3 g ds h fs)∧(True∧True∧True)∧((intsL (mk (taS (scZ a b c) (ungI ds)) x1.toNat)++[[I6 (scZ a b c*n_1)]]).length=Int.toNat y∧(0:Nat)=(0:Nat)∧True)∧intsL (mk (taS (scZ a b c) (ungI ds)) x1.toNat)++[[I6 (scZ a b c*n_1)]]=intsL (mk (taS (scZ a b c) (ungI ds)) (Int.toNat y))∧([]:LL)=[]∧True else False else False else False else False else (∃ x_1,LtP (aapp_1 n).length x_1∧(((bif i then i=true else True)∧bs=bs)∧(0:Nat)=(0:Nat)∧(0:Nat)=(0:Nat)∧(0:Nat)=(0:Nat)∧(0:Int)=(0:Int)∧scZ a b c=scZ a b c∧(aapp_5 n)∧(0:Nat)=(0:Nat)∧(aapp_4 n)∧(↑(aapp_1 n).length:Int)=(↑(aapp_1 n).length:Int)∧(0:Int)=x_1∧True)∧(a=a∧b=b∧c=c∧True)∧(aapp_3 g ds h fs)∧(True∧True∧True)∧(x1.toNat=ndN n∧(0:Nat)=Int.toNat x_1∧True)∧intsL (mk (taS (scZ a b c) (ungI ds)) x1.toNat)=intsL (ajK n a b c (ungI bs) (ungI ds) (ungI fs) (Int.toNat x_1))∧[]=intsL (mk (aapp_2 n a b c bs ds fs) (Int.toNat x_1))∧True)∧∀ (x2:Int),LtP (aapp_1 n).length x2->bif decide (x2 < (↑(aapp_1 n).length:Int)) then bif decide (0≤x2∧x2 < (↑(aapp_1 n).length:Int)) then ∃ n_1 n_2,List.take [I6 n_1,I6 n_2].length ((aapp_1 n).getD x2.toNat [])=[I6 n_1,I6 n_2]∧bif decide (0≤x2∧x2 < (↑bs.length:Int)) then ∃ n_3,List.take [I6 n_3].length (bs.getD x2.toNat [])=[I6 n_3]∧LkP a b c (scZ a b c) n_1 n_2 x2 (intsL (degZ n)) ds fs∧bif decide (x2.toNat=(intsL (mk (aapp_2 n a b c bs ds fs) x2.toNat)).length∧(intsL (mk (aapp_2 n a b c bs ds fs) x2.toNat)).length+[[I6 (alF a c (scZ a b c) n_3 n_1 n_2 x2 (ungI ds) (ungI fs))]].length≤(9223372036854775807:Nat)∧((intsL (mk (aapp_2 n a b c bs ds fs) x2.toNat)).length+[[I6 (alF a c (scZ a b c) n_3 n_1 n_2 x2 (ungI ds) (ungI fs))]].length)*(8:Nat)≤(140737488355328:Nat)) then (LkP a b c (scZ a b c) n_1 n_2 x2 (intsL (degZ n)) ds fs∧DpP ds.length (ndN n) (intsL (ajK n a b c (ungI bs) (ungI ds) (ungI fs) x2.toNat)))∧bif decide (rng IntKind.i64 (x2+(1:Int))) then ∃ y,LtP (aapp_1 n).length y∧(aj2 n a b c i g h bs ds fs).m y < (aj2 n a b c i g h bs ds fs).m x2∧(((bif i then i=true else True)∧bs=bs)∧(0:Nat)=(0:Nat)∧(0:Nat)=(0:Nat)∧(0:Nat)=(0:Nat)∧(0:Int)=(0:Int)∧scZ a b c=scZ a b c∧(aapp_5 n)∧(0:Nat)=(0:Nat)∧(aapp_4 n)∧(↑(aapp_1 n).length:Int)=(↑(aapp_1 n).length:Int)∧x2+(1:Int)=y∧True)∧(a=a∧b=b∧c=c∧True)∧(aapp_3 g ds h fs)∧(True∧True∧True)∧(ndN n=ndN n∧(intsL (mk (aapp_2 n a b c bs ds fs) x2.toNat)++[[I6 (alF a c (scZ a b c) n_3 n_1 n_2 x2 (ungI ds) (ungI fs))]]).length=Int.toNat y∧True)∧intsL (alD b c (scZ a b c) n_3 n_1 n_2 x2 (ungI (intsL (degZ n))) (ungI ds) (ungI fs) (ungI (intsL (ajK n a b c (ungI bs) (ungI ds) (ungI fs) x2.toNat))))=intsL (ajK n a b c (ungI bs) (ungI ds) (ungI fs) (Int.toNat y))∧intsL (mk (aapp_2 n a b c bs ds fs) x2.toNat)++[[I6 (alF a c (scZ a b c) n_3 n_1 n_2 x2 (ungI ds) (ungI fs))]]=intsL (mk (aapp_2 n a b c bs ds fs) (Int.toNat y))∧True else False else False else False else False else bif decide (ndN n=(intsL (ajK n a b c (ungI bs) (ungI ds) (ungI fs) x2.toNat)).length) then bif decide (x2.toNat=(intsL (mk (aapp_2 n a b c bs ds fs) x2.toNat)).length) then ((True∧intsL (ajK n a b c (ungI bs) (ungI ds) (ungI fs) x2.toNat)=intsL (ajD n a b c (ungI bs) (ungI ds) (ungI fs)))∧(True∧intsL (mk (aapp_2 n a b c bs ds fs) x2.toNat)=intsL (ajG n a b c (ungI bs) (ungI ds) (ungI fs)))∧True)∧(0:Int)=(0:Int)∧True else False else False
theorem aapp_P:aapp_T nrm wan alQ:=by
 unfold aapp_T
 delta aapp_1 aapp_2 aapp_3 aapp_4 aapp_5 I6
 intro n a b c i g h bs ds fs ⟨hs,hP,hB⟩
 intros
 have hg:=hP.gp
 obtain ⟨ha,hb,hc⟩:=sch_b hs
 have hZ:=scZ_b hs
 have g1:cond g (g=true) True:=gg g
 have g2:cond h (h=true) True:=gg h
 have g3:cond i (i=true) True:=gg i
 have hN:=ndN_ge hg
 have hE:=(edgG_in hg.bq).2
 have de:=hP.de
 have fe:=hP.fe
 have ld:=hP.ld
 have lf:=hP.lf
 have be:=hB.be
 have lb:=hB.lb
 have hds:ds.length=ndN n:=by rw [← ungI_len,ld]
 have hfs:fs.length=(edgG nrm n).length:=by rw [← ungI_len,lf]
 have hbs:bs.length=(edgG nrm n).length:=by rw [← ungI_len,lb]
 have bd:=gD_b (by decide) hP.bd
 have bf:=gD_b (by decide) hP.bf
 refine ⟨hs,⟨hP.mono (by decide),hB⟩,hg,hg.bq,⟨0,⟨Int.le_refl 0,by omega⟩,by repeat' first|exact trivial|exact rfl|assumption|apply And.intro⟩,?_⟩
 clear hP hB
 intro x ⟨x0,xl⟩
 refine csp (λ q=>?_) (λ q=>?_)
 ·have e1:(ungI ds)[x.toNat]?=some ((ungI ds).getD x.toNat 0):=at_getD (by omega)
  have t1:=taS_b hs bd x.toNat
  have es:mk (taS (scZ a b c) (ungI ds)) (x+1).toNat=mk (taS (scZ a b c) (ungI ds)) x.toNat++[scZ a b c*(ungI ds).getD x.toNat 0]:=by rw [show (x+1).toNat=x.toNat+1 by omega,mk_succ]; rfl
  have t1:-(7680*10000000000)≤scZ a b c*(ungI ds).getD x.toNat 0∧scZ a b c*(ungI ds).getD x.toNat 0≤7680*10000000000:=t1
  have e2:=intsL_at e1
  rw [← de] at e2
  refine cd1 ⟨x0,q⟩ ⟨(ungI ds).getD x.toNat 0,by rw [e2]; rfl,cdI (by omega) (cd1 ⟨by rw [intsL_len,mk_len],by rw [intsL_len,mk_len,List.length_singleton]; omega,by rw [intsL_len,mk_len,List.length_singleton]; omega⟩ (cdI (by omega) ⟨x+1,⟨by omega,by omega⟩,by simp only [aj1]; omega,?_⟩))⟩
  rw [es,← intsL_app,List.length_append,intsL_len,mk_len,List.length_singleton,show (x+1).toNat=x.toNat+1 by omega]
  (repeat' (first | exact trivial | exact rfl | assumption | apply And.intro))
 ·have ex:x.toNat=ndN n:=by omega
  rw [ex]
  refine ⟨⟨0,⟨Int.le_refl 0,by omega⟩,by repeat' first|exact trivial|exact rfl|assumption|apply And.intro⟩,?_⟩
  clear q x0 xl ex x
  intro x ⟨x0,xl⟩
  refine csp (λ q=>?_) (λ q=>?_)
  ·have hk:x.toNat < (edgG nrm n).length:=by omega
   obtain ⟨ea,eb⟩:=edg_at hg hk
   have er:=edg_row hg hk
   have hdl:=degZ_len n
   have pa:=deg_pos hg (j:=(nI ((edgG nrm n).getD x.toNat []) 0).toNat) (by omega)
   have pb:=deg_pos hg (j:=(nI ((edgG nrm n).getD x.toNat []) 1).toNat) (by omega)
   have hx:((x.toNat:Nat):Int)=x:=by omega
   have hK:ajK n a b c (ungI bs) (ungI ds) (ungI fs) (x.toNat+1)=alD b c (scZ a b c) ((ungI bs).getD x.toNat 0) (nI ((edgG nrm n).getD x.toNat []) 0) (nI ((edgG nrm n).getD x.toNat []) 1) ((x.toNat:Nat):Int) (degZ n) (ungI ds) (ungI fs) (ajK n a b c (ungI bs) (ungI ds) (ungI fs) x.toNat):=rfl
   have hF:ajF (edgG nrm n) (scZ a b c) a c (ungI bs) (ungI ds) (ungI fs) x.toNat=alF a c (scZ a b c) ((ungI bs).getD x.toNat 0) (nI ((edgG nrm n).getD x.toNat []) 0) (nI ((edgG nrm n).getD x.toNat []) 1) ((x.toNat:Nat):Int) (ungI ds) (ungI fs):=rfl
   rw [hx] at hK hF
   have lK:=ajK_len n a b c (ungI bs) (ungI ds) (ungI fs) x.toNat
   have bK:=ajK_b hg (by decide) hs bd bf (bs:=ungI bs) x.toNat (by omega)
   have e6:(ungI bs)[x.toNat]?=some ((ungI bs).getD x.toNat 0):=at_getD (by omega)
   have e7:=intsL_at e6
   rw [← be] at e7
   generalize (edgG nrm n).getD x.toNat []=r at ea eb er pa pb hF hK ⊢
   have hL:LkP a b c (scZ a b c) (nI r 0) (nI r 1) x (intsL (degZ n)) ds fs:=⟨ha,hb,hc,by omega,by omega,by omega,by omega,by rw [intsL_len]; omega,by rw [ungI_ints],de,fe,by rw [ungI_ints]; exact pa,by rw [ungI_ints]; exact pb,bd,bf⟩
   have hD:DpP ds.length (ndN n) (intsL (ajK n a b c (ungI bs) (ungI ds) (ungI fs) x.toNat)):=⟨by rw [ungI_ints],by rw [intsL_len]; omega,by omega,λ j=>by rw [ungI_ints]; have:=bK j; omega⟩
   refine cd1 ⟨x0,q⟩ ⟨nI r 0,nI r 1,(congrArg (List.take 2) er).trans rfl,cd1 ⟨x0,by omega⟩ ⟨(ungI bs).getD x.toNat 0,by rw [e7]; rfl,hL,cd1 ⟨by rw [intsL_len,mk_len],by rw [intsL_len,mk_len,List.length_singleton]; omega,by rw [intsL_len,mk_len,List.length_singleton]; omega⟩ ⟨⟨hL,hD⟩,cdI (by omega) ⟨x+1,⟨by omega,by omega⟩,by simp only [aj2]; omega,?_⟩⟩⟩⟩
   rw [ungI_ints,ungI_ints,show (x+1).toNat=x.toNat+1 by omega,hK,mk_succ,hF,← intsL_app,List.length_append,intsL_len,mk_len,List.length_singleton]
   (repeat' (first | exact trivial | exact rfl | assumption | apply And.intro))
  ·have ex:x.toNat=(edgG nrm n).length:=by omega
   rw [ex]
   exact cd1 (by rw [intsL_len,ajK_len]) (cd1 (by rw [intsL_len,mk_len]) (by repeat' first|exact trivial|exact rfl|assumption|apply And.intro))
theorem aapp_e (nrm:NrT) (wan:Int->Int->Int) (alQ:Int->Int->List Int->Int):aapp_T nrm wan alQ=(∀ (n a b c:Int) (i g h:Bool) (bs ds fs:LL),schE a b c=0∧ChP n 10000000000 ds fs∧BrP n bs->fnK Tryz.prog { glob:=glb,spec:=lk [(26,tscl_s),(71,tchk_s),(72,fdeg_s),(58,(gedges_s nrm)),(114,(aflo_s wan alQ))],specH:=lk [(115,adep_s)],shape:=[62,78,85],nowf:=true } { nt:=105,drop:=drp [(1,65011712),(2,67108864),(3,805306368),(4,16106127360),(5,17179869184),(6,206158430208),(7,8521215115264),(8,8796093022208),(9,105553116266496),(10,4362862139015168),(11,4503599627370496),(12,54043195528445952),(14,72057594037927936),(16,6917529027641081856),(17,2351959869397967831040),(18,2361183241434822606848),(21,528905046081400263933952),(22,308880546911537754137427968),(23,158146840018707330118363119616),(24,4912146075884388930799724920832),(25,10141204801825835211973625643008),(26,20282409603651670423947251286016)],emp:=λ id=>cond (Nat.beq id 14) [(1001500,1500,3,1),(1001501,1510,3,1)] [] } (invs [(15,aj1 n a b c i g h bs ds fs),(20,aj2 n a b c i g h bs ds fs)]) 6 Tryz.f67 [.agg [.int .i64 a,.int .i64 b,.int .i64 c],.int .i64 n,.sl 1 i bs,.agg [.sl 1 g ds,.sl 1 h fs]] (.tup [.agg [.sl 1 false (intsL (ajD n a b c (ungI bs) (ungI ds) (ungI fs))),.sl 1 false (intsL (ajG n a b c (ungI bs) (ungI ds) (ungI fs)))],.int .i64 0])):=by kernel_rfl
def aapp_v:=Eq.mp (aapp_e ..) (aapp_P)
theorem aapp_ok:SOK Tryz.prog glb 67 aapp_s:=by
 refine ⟨fok Tryz.func67 (by kernel_rfl) (by kernel_rfl),?_⟩
 intro xs pre r h hp
 unfold aapp_s at h
 split at h
 ·cases h
  exact fnK_sound tyNil (by exact specOK rfl rfl ⟨(tscl_ok glb),(tchk_ok),(fdeg_ok),(gedges_ok),(aflo_ok glb),trivial⟩ ⟨(adep_ok glb),trivial⟩) (by kernel_rfl) Tryz.func67 rfl (aapp_v  _ _ _ _ _ _ _ _ _ _ hp)
 ·cases h
end Go.Proofs.YtgbbmadjdaphnaaGreatDoor
namespace Go.Proofs.YtgbbmadjdaphnaaGreatDoor
open Go Go.RowKit
attribute [local go_sem] Oper.semAt_some
def bkX0 (N:Nat) (k:Nat):AV:=.int .i64 ((N:Int) - 1 - k)
def bkX1 (bl:LL) (k:Nat):AV:=(bl.getD (bl.length - 1 - k) []).getD 0 .undef
def bkV (S:Pin) (A:Option Addr) (N k:Nat):Value:=match A with
 | some a=>(S a.block (a.off+(N - 1 - k))).getD undef
 | none=>undef
set_option maxHeartbeats 4000000 in
theorem back1_in {bl:LL} {A:Option Addr} {c:Nat} (hcl:bl.length≤c) (hcm:c≤maxLen) (hA:A=none->c=0) {S1:Pin} (hE:∀ a,A=some a->(c≠0->a.spot=none)∧CE S1 bl 1 a.block a.off) {l b0 n:Nat} {J:Nat->Pin->World->Prop} (hJ:JOK J)
  (hY:∀ k S W,J k S W->k < bl.length->YieldAt Fence.wide (n - 1) Tryz.prog l #[.int .i64 ((bl.length:Int) - 1 - k),bkV S1 A bl.length k] W λ e W'=>e=.returned (.bool true)∧∃ S',Ext S S'∧J (k+1) S' W')
  {S0:Pin} {W:World} (hg:GOKg glb S0) (hx:Ext S1 S0) (h0:J 0 S0 W) (hc:S0 b0 0=some (.slice A bl.length c)) :
  CallsIn Fence.wide n Tryz.prog 113 #[.func (.yield l) #[] #[],.pointer (some ⟨b0,0,none⟩)] W λ e W'=>(∃ v,e=.returned v)∧∃ S',Ext S0 S'∧J bl.length S' W':=by
 have hcc:=hJ.ag _ _ _ h0 b0 0 _ hc
 have hcell:=hcc.1
 have hml:c≤9223372036854775807:=hcm
 refine callsIn_of_wp Tryz.func113 rfl trivial ?_ rfl
 simp only [Tryz.ntmps113,List.size_toArray,List.length_cons,List.length_nil,Nat.reduceAdd,Nat.reduceSub,Array.replicate_succ,Array.replicate_zero,List.push_toArray,List.append_toArray,List.nil_append,List.cons_append]
 gi_wp2
 gi_loopw [3] (λ i wr=>∃ (k:Nat) (S:Pin),k≤bl.length∧i=.int .i64 ((bl.length:Int) - 1 - k)∧J k S wr∧Ext S0 S) (λ i _=>(intOf i+1).toNat)
 case atStart=>exact ⟨0,S0,Nat.zero_le _,by simp,h0,Ext.refl _⟩
 case round =>
  obtain ⟨k,S,hk,rfl,hJs,hex⟩:=hrel
  by_cases hlt:k < bl.length
  ·cases A with
   | none=>have:=hA rfl; omega
   | some ad =>
    obtain ⟨b,off,sp⟩:=ad
    obtain ⟨h1,h2⟩:=hE _ rfl
    obtain rfl:sp=none:=h1 (by omega)
    obtain ⟨j,hj⟩:∃ j,j+k+1=bl.length:=⟨bl.length - 1 - k,by omega⟩
    have er:bl[j]?=some (bl.getD j []):=by rw [List.getD_eq_getElem?_getD,List.getElem?_eq_getElem (by omega)]; rfl
    obtain ⟨hl1,hcc⟩:=h2.get er
    obtain ⟨y,hy⟩:=List.length_eq_one_iff.1 hl1
    rw [hy] at hcc
    obtain ⟨u,q0,v0⟩:=hcc.get (j:=0) rfl
    rw [Nat.add_zero,Nat.mul_one] at q0
    have c0:=hJ.ag _ _ _ hJs _ _ _ (hex _ _ _ (hx _ _ _ q0))
    have hR:=hY k S wr hJs hlt
    have eV:bkV S1 (some ⟨b,off,none⟩) bl.length k=u:=by
     show (S1 b (off+(bl.length - 1 - k))).getD undef=u
     rw [show bl.length - 1 - k=j by omega,q0]; rfl
    rw [eV] at hR
    obtain ⟨fn,tmps,assign,body,hy2,hR⟩:=hR
    have hji:(bl.length:Int) - 1 - k=(j:Int):=by omega
    rw [hji] at hy2 ⊢
    have hcell1:=(hJ.ag _ _ _ hJs _ _ _ (hex _ _ _ hc)).1
    have hw:wrap64 ((j:Int) - 1)=(j:Int) - 1:=by unfold wrap64; omega
    have c00:=c0.1
    have c01:=c0.2
    gi_wp2
    refine ⟨λ q=>(by cases q),hR.mono ?_⟩
    rintro e W3 ⟨rfl,S3,hS3,hJ3⟩
    gi_wp2
    go_roundw
    case rel=>exact ⟨k+1,S3,by omega,by congr 1; omega,hJ3,hex.trans hS3⟩
    case measure=>simp only [intOf]; omega
  ·obtain rfl:k=bl.length:=by omega
   gi_wp2
   go_end0
   exact ⟨⟨_,rfl⟩,S,hex,hJs⟩
theorem itB (f:Bool) (bl:LL):ItOK 113 (.sl 1 f bl) bl.length (bkX0 bl.length) (bkX1 bl):=by
 refine ⟨rfl,λ k=>rfl,λ S m v h=>?_,enters_of Tryz.func113 (by kernel_rfl) rfl,λ S m g v hp hc=>?_⟩
 ·simp only [CV] at h; obtain ⟨A,c,rfl,_⟩:=h; rfl
 simp only [CV] at hc
 obtain ⟨A,c,rfl,hcl,hcm,_,hA,hE⟩:=hc
 have hml:c≤9223372036854775807:=hcm
 refine ⟨λ k=>.int .i64 ((bl.length:Int) - 1 - k),λ k=>bkV S A bl.length k,?_,?_⟩
 ·intro k hlt S' hS' m'
  refine ⟨?_,?_⟩
  ·simp only [bkX0,CV]
   exact ⟨trivial,by unfold rng; omega⟩
  ·cases A with
   | none=>have:=hA rfl; omega
   | some ad =>
    obtain ⟨b,off,sp⟩:=ad
    obtain ⟨h1,h2⟩:=hE _ rfl
    obtain rfl:sp=none:=h1 (by omega)
    obtain ⟨j,hj⟩:∃ j,j+k+1=bl.length:=⟨bl.length - 1 - k,by omega⟩
    have er:bl[j]?=some (bl.getD j []):=by rw [List.getD_eq_getElem?_getD,List.getElem?_eq_getElem (by omega)]; rfl
    obtain ⟨hl1,hcc⟩:=h2.get er
    obtain ⟨y,hy⟩:=List.length_eq_one_iff.1 hl1
    rw [hy] at hcc
    obtain ⟨u,q0,v0⟩:=hcc.get (j:=0) rfl
    rw [Nat.add_zero,Nat.mul_one] at q0
    have eV:bkV S (some ⟨b,off,none⟩) bl.length k=u:=by
     show (S b (off+(bl.length - 1 - k))).getD undef=u
     rw [show bl.length - 1 - k=j by omega,q0]; rfl
    have eX:bkX1 bl k=y:=by
     unfold bkX1
     rw [show bl.length - 1 - k=j by omega,hy]; rfl
    rw [eX]
    show CV S' y m' (bkV S (some ⟨b,off,none⟩) bl.length k)
    rw [eV]
    exact CV.mono hS' y noNm m' u (λ k u _ e=>by cases e) v0
 ·intro n l J hJ hY S0 W hg hX h0
  exact back1_in hcl hcm hA hE hJ hY hg hX h0 (hX _ _ _ hp)
end Go.Proofs.YtgbbmadjdaphnaaGreatDoor
namespace Go.Proofs.YtgbbmadjdaphnaaGreatDoor
open Go
def sbak_s:SpH
 | [.sl 1 f bl],[]=>some (True,.fn 113 [.ptr 0 0],[.cells [.sl 1 f bl]])
 | _,_=>none
def sbak_T:Prop :=
 ∀ (gl:Glob) (f:Bool) (bl:LL),True->((0:Nat)=(0:Nat)∧True)∧(((bif f then f=true else True)∧bl=bl)∧True)∧True
theorem sbak_P:sbak_T:=by
 unfold sbak_T
 intro gl f bl
 intros
 have g1:cond f (f=true) True:=gg f
 (repeat' (first | exact trivial | exact rfl | assumption | apply And.intro))
theorem sbak_e:sbak_T=(∀ (gl:Glob) (f:Bool) (bl:LL),fnH Tryz.prog { glob:=gl,spec:=lk [],specH:=lk [] } { nt:=4,drop:=drp [(1,8)],fr:=1000,kp:=[] } (λ _ _=>none) 6 Tryz.f66 [.sl 1 f bl] [] (.fn 113 [.ptr 0 0]) [.cells [.sl 1 f bl]]):=by kernel_rfl
def sbak_v:=Eq.mp (sbak_e ..) (sbak_P)
theorem sbak_ok (gl:Glob):HOK Tryz.prog gl 66 sbak_s:=by
 refine ⟨fok Tryz.func66 (by kernel_rfl) (by kernel_rfl),?_⟩
 intro xs bs pre r bs2 h hp
 unfold sbak_s at h
 split at h
 ·cases h
  exact fnH_sound tyNil (by exact specOK rfl rfl trivial trivial) (by kernel_rfl) Tryz.func66 (sbak_v gl _ _)
 ·cases h
theorem itB1 (f i:Bool) (bs:LL):ItOK 113 (.sl 1 f [[.sl 1 i bs]]) 1 (λ k=>.int .i64 ((1:Int) - 1 - k)) (λ _=>.sl 1 i bs):=by
 obtain ⟨h0,h1,h2,h3,h4⟩:=itB f [[.sl 1 i bs]]
 refine ⟨h0,h1,h2,h3,λ S m g v hp hc=>?_⟩
 obtain ⟨v0,v1,k1,k2⟩:=h4 S m g v hp hc
 refine ⟨v0,v1,λ k hk S' hS m'=>?_,k2⟩
 obtain rfl:k=0:=by omega
 exact k1 0 hk S' hS m'
def cmD (n a b c:Int) (bs ds fs:LL):Nat->LL
 | 0=>ds
 | _+1=>intsL (ajD n a b c (ungI bs) (ungI ds) (ungI fs))
def cmF (n a b c:Int) (bs ds fs:LL):Nat->LL
 | 0=>fs
 | _+1=>intsL (ajG n a b c (ungI bs) (ungI ds) (ungI fs))
def cmL (n a b c:Int) (f i:Bool) (bs ds fs:LL):RL:=⟨113,.sl 1 f [[.sl 1 i bs]],1,λ k=>.int .i64 ((1:Int) - 1 - k),λ _=>.sl 1 i bs,[(4,.ptr 4 0),(5,.ptr 5 0),(8,.ptr 8 0),(9,.ptr 9 0),(10,.ptr 10 0)],λ k=>[(4,.cells [.int .i64 a,.int .i64 b,.int .i64 c]),(5,.cells [.int .i64 n]),(8,.cells [.nils,.nils]),(9,.cells [.int .i64 0]),(10,.cells [.sl 1 false (cmD n a b c bs ds fs k),.sl 1 false (cmF n a b c bs ds fs k)])],22,[4,5,8,9,10]⟩
def acom_s:Sp
 | [.agg [.int .i64 a,.int .i64 b,.int .i64 c],.int .i64 n,.sl 1 f [[.sl 1 i bs]],.agg [.sl 1 g ds,.sl 1 h fs]]=>some (schE a b c=0∧ChP n 10000000000 ds fs∧BrP n bs,.tup [.agg [.sl 1 false (intsL (ajD n a b c (ungI bs) (ungI ds) (ungI fs))),.sl 1 false (intsL (ajG n a b c (ungI bs) (ungI ds) (ungI fs)))],.int .i64 0])
 | _=>none
def acom_T:Prop :=
 ∀ (n a b c:Int) (f i g h:Bool) (bs ds fs:LL),schE a b c=(0:Int)∧ChP n 10000000000 ds fs∧BrP n bs->ds.length≤(1000000:Nat)∧fs.length≤(1000000:Nat)∧True∧ItOK (cmL n a b c f i bs ds fs).gf (cmL n a b c f i bs ds fs).c (cmL n a b c f i bs ds fs).N (cmL n a b c f i bs ds fs).x0 (cmL n a b c f i bs ds fs).x1∧((((0:Nat)=(0:Nat)∧True)∧(0:Nat)=(0:Nat)∧(0:Nat)=(0:Nat)∧(0:Nat)=(0:Nat)∧(0:Nat)=(0:Nat)∧(0:Nat)=(0:Nat)∧True)∧(((bif f then f=true else True)∧[[AV.sl 1 i bs]]=[[AV.sl 1 i bs]])∧True)∧(a=a∧b=b∧c=c∧True)∧(n=n∧True)∧(True∧True∧True)∧((0:Int)=(0:Int)∧True)∧((True∧ds=cmD n a b c bs ds fs 0)∧(True∧fs=cmF n a b c bs ds fs 0)∧True)∧True)∧((∀ (k:Nat),nn k (AV.ptr 4 0)=false->inL k (cmL n a b c f i bs ds fs).kp=true)∧(∀ (k:Nat),nn k (AV.ptr 5 0)=false->inL k (cmL n a b c f i bs ds fs).kp=true)∧(∀ (k:Nat),nn k (AV.ptr 8 0)=false->inL k (cmL n a b c f i bs ds fs).kp=true)∧(∀ (k:Nat),nn k (AV.ptr 9 0)=false->inL k (cmL n a b c f i bs ds fs).kp=true)∧(∀ (k:Nat),nn k (AV.ptr 10 0)=false->inL k (cmL n a b c f i bs ds fs).kp=true)∧True)∧(∀ (k:Nat),okHs ((cmL n a b c f i bs ds fs).H k)=true)∧(∀ (k:Nat),k < (cmL n a b c f i bs ds fs).N->(schE a b c=(0:Int)∧ChP n 10000000000 (cmD n a b c bs ds fs k) (cmF n a b c bs ds fs k)∧BrP n bs)∧True∧(a=a∧b=b∧c=c∧True)∧(n=n∧True)∧(True∧True∧True)∧((0:Int)=(0:Int)∧True)∧((True∧intsL (ajD n a b c (ungI bs) (ungI (cmD n a b c bs ds fs k)) (ungI (cmF n a b c bs ds fs k)))=cmD n a b c bs ds fs (k+(1:Nat)))∧(True∧intsL (ajG n a b c (ungI bs) (ungI (cmD n a b c bs ds fs k)) (ungI (cmF n a b c bs ds fs k)))=cmF n a b c bs ds fs (k+(1:Nat)))∧True)∧True)∧((True∧cmD n a b c bs ds fs (cmL n a b c f i bs ds fs).N=intsL (ajD n a b c (ungI bs) (ungI ds) (ungI fs)))∧(True∧cmF n a b c bs ds fs (cmL n a b c f i bs ds fs).N=intsL (ajG n a b c (ungI bs) (ungI ds) (ungI fs)))∧True)∧(0:Int)=(0:Int)∧True
theorem acom_P:acom_T:=by
 unfold acom_T
 intro n a b c f i g h bs ds fs hQ
 have hP:=hQ.2.1
 have ld:=hP.ld
 have lf:=hP.lf
 rw [ungI_len] at ld lf
 have hN:=ndN_ge hP.gp
 have hE:=(edgG_in hP.gp.bq).2
 have g1:cond f (f=true) True:=gg f
 refine ⟨by omega,by omega,trivial,itB1 f i bs,by repeat' first|exact trivial|exact rfl|assumption|apply And.intro,⟨λ k q=>by rw [nn_ptr q]; rfl,λ k q=>by rw [nn_ptr q]; rfl,λ k q=>by rw [nn_ptr q]; rfl,λ k q=>by rw [nn_ptr q]; rfl,λ k q=>by rw [nn_ptr q]; rfl,trivial⟩,λ k=>rfl,λ k hk=>?_,by repeat' first|exact trivial|exact rfl|assumption|apply And.intro⟩
 have hk:k < 1:=hk
 obtain rfl:k=0:=by omega
 exact ⟨hQ,by repeat' first|exact trivial|exact rfl|assumption|apply And.intro⟩
theorem acom_e:acom_T=(∀ (n a b c:Int) (f i g h:Bool) (bs ds fs:LL),schE a b c=0∧ChP n 10000000000 ds fs∧BrP n bs->fnR Tryz.prog { glob:=glb,spec:=lk [(60,icln_s),(67,aapp_s)],specH:=lk [(66,sbak_s)],nowf:=true } { nt:=38,drop:=drp [(1,2080768),(2,2097152),(5,8556380160),(6,8589934592),(7,103079215104),(8,137438953472)] } (λ _ _=>none) 6 (λ _=>some (cmL n a b c f i bs ds fs)) Tryz.f28 [.agg [.int .i64 a,.int .i64 b,.int .i64 c],.int .i64 n,.sl 1 f [[.sl 1 i bs]],.agg [.sl 1 g ds,.sl 1 h fs]] (.tup [.agg [.sl 1 false (intsL (ajD n a b c (ungI bs) (ungI ds) (ungI fs))),.sl 1 false (intsL (ajG n a b c (ungI bs) (ungI ds) (ungI fs)))],.int .i64 0])):=by kernel_rfl
def acom_v:=Eq.mp (acom_e ..) (acom_P)
theorem acom_ok:SOK Tryz.prog glb 28 acom_s:=by
 refine ⟨fok Tryz.func28 (by kernel_rfl) (by kernel_rfl),?_⟩
 intro xs pre r h hp
 unfold acom_s at h
 split at h
 ·cases h
  exact fnR_sound tyNil (by exact specOK rfl rfl ⟨(icln_ok glb),(aapp_ok),trivial⟩ ⟨(sbak_ok glb),trivial⟩) rfl Tryz.func28 rfl (acom_v  _ _ _ _ _ _ _ _ _ _ _ hp)
 ·cases h
def unV (n:Int) (k:Nat):List Int:=(List.replicate (ndN n) 0).set k 1
def zeV (n:Int):List Int:=List.replicate (edgG nrm n).length 0
theorem unV_b (n:Int) (k:Nat):∀ z ∈ unV n k,-1≤z∧z≤1:=λ z hz=>by
 unfold unV at hz
 rcases List.mem_or_eq_of_mem_set hz with h | h
 ·rw [List.mem_replicate] at h; omega
 ·omega
theorem zeV_b (n:Int):∀ z ∈ zeV n,-1≤z∧z≤1:=λ z hz=>by
 unfold zeV at hz
 rw [List.mem_replicate] at hz; omega
theorem unV_ch {n:Int} (h:GrdP nrm n) (k:Nat):ChP n 1 (intsL (unV n k)) (intsL (zeV n)) :=
 ⟨h,by rw [ungI_ints],by rw [ungI_ints],by rw [ungI_ints]; simp [unV],by rw [ungI_ints]; simp [zeV],by rw [ungI_ints]; exact unV_b n k,by rw [ungI_ints]; exact zeV_b n⟩
def asen_s:Sp
 | [.agg [.int .i64 a,.int .i64 b,.int .i64 c],.int .i64 n,.sl 1 f [[.sl 1 i bs]],.int .i64 k]=>some ((schE a b c=0∧GrdP nrm n∧BrP n bs)∧0≤k∧k < ndN n,.tup [.agg [.sl 1 false (intsL (ajD n a b c (ungI bs) (unV n k.toNat) (zeV n))),.sl 1 false (intsL (ajG n a b c (ungI bs) (unV n k.toNat) (zeV n)))],.int .i64 0])
 | _=>none
abbrev asen_1 (n:Int):=(List.replicate ((10:Int)*n*n+(2:Int)).toNat [AV.int IntKind.i64 0])
abbrev asen_2 (nrm:NrT) (n:Int):=(List.replicate (↑(edgG nrm n).length:Int).toNat [AV.int IntKind.i64 0])
abbrev asen_3 (n:Int) (k:Int):=(setEl (asen_1 n) k.toNat 0 [AV.int IntKind.i64 1])
def asen_T (nrm:NrT):Prop :=
 ∀ (n a b c k:Int) (f i:Bool) (bs:LL),(schE a b c=(0:Int)∧GrdP nrm n∧BrP n bs)∧0≤k∧k < (↑(ndN n):Int)->(IR9 a)∧(IR9 b)∧(IR9 c)∧True->IR9 n->True->IR9 k->schE a b c=(0:Int)∧BldQ nrm n∧(1≤n∧n≤(4:Int))∧bif decide ((0:Int)≤(10:Int)*n*n+(2:Int)∧(10:Int)*n*n+(2:Int)≤(10:Int)*n*n+(2:Int)∧(8:Int)*((10:Int)*n*n+(2:Int))≤(281474976710656:Int)∧(10:Int)*n*n+(2:Int)≤(9223372036854775807:Int)) then bif decide ((0:Int)≤(↑(edgG nrm n).length:Int)∧(↑(edgG nrm n).length:Int)≤(↑(edgG nrm n).length:Int)∧(8:Int)*(↑(edgG nrm n).length:Int)≤(281474976710656:Int)∧(↑(edgG nrm n).length:Int)≤(9223372036854775807:Int)) then bif decide (k < (0:Int)) then (intsL (ajD n a b c (ungI bs) (unV n k.toNat) (zeV n))=[]∧intsL (ajG n a b c (ungI bs) (unV n k.toNat) (zeV n))=[]∧True)∧(1:Int)=(0:Int)∧True else bif decide ((↑((10:Int)*n*n+(2:Int)).toNat:Int)≤k) then (intsL (ajD n a b c (ungI bs) (unV n k.toNat) (zeV n))=[]∧intsL (ajG n a b c (ungI bs) (unV n k.toNat) (zeV n))=[]∧True)∧(1:Int)=(0:Int)∧True else bif decide (0≤k∧k < (↑((10:Int)*n*n+(2:Int)).toNat:Int)) then bif decide (((10:Int)*n*n+(2:Int)).toNat=(asen_1 n).length∧k.toNat < (asen_1 n).length) then bif decide (((10:Int)*n*n+(2:Int)).toNat=(asen_3 n k).length) then bif decide ((↑(edgG nrm n).length:Int).toNat=(asen_2 nrm n).length) then (schE a b c=(0:Int)∧ChP n 10000000000 (asen_3 n k) (asen_2 nrm n)∧BrP n bs)∧((True∧intsL (ajD n a b c (ungI bs) (ungI (asen_3 n k)) (ungI (asen_2 nrm n)))=intsL (ajD n a b c (ungI bs) (unV n k.toNat) (zeV n)))∧(True∧intsL (ajG n a b c (ungI bs) (ungI (asen_3 n k)) (ungI (asen_2 nrm n)))=intsL (ajG n a b c (ungI bs) (unV n k.toNat) (zeV n)))∧True)∧(0:Int)=(0:Int)∧True else False else False else False else False else False else False
theorem asen_P:asen_T nrm:=by
 unfold asen_T
 delta asen_1 asen_2 asen_3
 intro n a b c k f i bs ⟨⟨hs,hg,hB⟩,k0,k1⟩
 intros
 have hN:=ndN_ge hg
 have hE:=(edgG_in hg.bq).2
 have e:=(ndN_eq hg).1
 have eN:(10*n*n+2).toNat=ndN n:=rfl
 have e1:setEl (List.replicate (10*n*n+2).toNat [AV.int .i64 0]) k.toNat 0 [.int .i64 1]=intsL (unV n k.toNat):=by
  rw [eN,show List.replicate (ndN n) [AV.int .i64 0]=intsL (List.replicate (ndN n) 0) by simp [intsL],intsL_set (by rw [List.length_replicate]; omega)]; rfl
 have e2:List.replicate ((edgG nrm n).length:Int).toNat [AV.int .i64 0]=intsL (zeV n):=by rw [Int.toNat_natCast]; simp [intsL,zeV]
 have hC:=(unV_ch hg k.toNat).mono (C:=10000000000) (by decide)
 refine ⟨hs,hg.bq,⟨hg.bq.lo,hg.bq.hi⟩,cd1 (by omega) (cd1 (by omega) (cd0 (by omega) (cd0 (by omega) (cd1 (by omega) (cd1 ⟨by rw [List.length_replicate],by rw [List.length_replicate]; omega⟩ ?_)))))⟩
 rw [e1,e2]
 refine cd1 (by rw [intsL_len]; simp [unV]; rfl) (cd1 (by rw [intsL_len]; simp [zeV]) ⟨⟨hs,hC,hB⟩,?_⟩)
 rw [ungI_ints,ungI_ints]
 (repeat' (first | exact trivial | exact rfl | assumption | apply And.intro))
theorem asen_e (nrm:NrT):asen_T nrm=(∀ (n a b c k:Int) (f i:Bool) (bs:LL),(schE a b c=0∧GrdP nrm n∧BrP n bs)∧0≤k∧k < ndN n->fnK Tryz.prog { glob:=glb,spec:=lk [(26,tscl_s),(58,(gedges_s nrm)),(59,gcount_s),(28,acom_s)],specH:=lk [],nowf:=true } { nt:=60,drop:=drp [(1,1015808),(2,1048576),(3,12582912),(4,520093696),(5,536870912),(6,2147483648),(7,545460846592),(8,140187732541440),(9,281474976710656),(10,8444249301319680),(11,1143914305352105984)],frz:=λ id=>cond (Nat.beq id 11) [1000034,1000037] [] } (λ _ _=>none) 6 Tryz.f23 [.agg [.int .i64 a,.int .i64 b,.int .i64 c],.int .i64 n,.sl 1 f [[.sl 1 i bs]],.int .i64 k] (.tup [.agg [.sl 1 false (intsL (ajD n a b c (ungI bs) (unV n k.toNat) (zeV n))),.sl 1 false (intsL (ajG n a b c (ungI bs) (unV n k.toNat) (zeV n)))],.int .i64 0])):=by kernel_rfl
def asen_v:=Eq.mp (asen_e ..) (asen_P)
theorem asen_ok:SOK Tryz.prog glb 23 asen_s:=by
 refine ⟨fok Tryz.func23 (by kernel_rfl) (by kernel_rfl),?_⟩
 intro xs pre r h hp
 unfold asen_s at h
 split at h
 ·cases h
  exact fnK_sound tyNil (by exact specOK rfl rfl ⟨(tscl_ok glb),(gedges_ok),(gcount_ok glb),(acom_ok),trivial⟩ trivial) (by kernel_rfl) Tryz.func23 rfl (asen_v  _ _ _ _ _ _ _ _ hp)
 ·cases h
def dpl (d:Int) (n:Nat):LL:=List.replicate n [.int .i64 d]
def rpD (d N k:Int):LL:=List.replicate k.toNat [.int .i64 d]++List.replicate (N - k).toNat [.int .i64 0]
theorem rpD_len {d N k:Int} (h:RepP N k):(rpD d N k).length=N.toNat:=by
 have:=h.lo
 have:=h.hi
 simp only [rpD,List.length_append,List.length_replicate]; omega
theorem rpD_take {d N k:Int}:(rpD d N k).take k.toNat=List.replicate k.toNat [.int .i64 d]:=by
 unfold rpD; rw [List.take_left' (by simp)]
theorem rpD_step {d N k:Int} (h:RepP N k) (hk:k < N) {M:Nat} (hM:M=Nat.min k.toNat (N.toNat - k.toNat)):(rpD d N k).take k.toNat++List.take M (List.replicate k.toNat [.int .i64 d])++(rpD d N k).drop (k.toNat+M)=rpD d N (k+M):=by
 have h1:=h.lo
 have m1:M≤k.toNat:=by rw [hM]; exact Nat.min_le_left _ _
 have m2:M≤N.toNat - k.toNat:=by rw [hM]; exact Nat.min_le_right _ _
 rw [rpD_take,List.take_replicate,Nat.min_eq_left m1,List.replicate_append_replicate]
 unfold rpD
 rw [show List.drop (k.toNat+M) (List.replicate k.toNat [AV.int .i64 d]++List.replicate (N - k).toNat [AV.int .i64 0])=List.drop M (List.replicate (N - k).toNat [AV.int .i64 0]) by
  rw [← List.drop_drop,List.drop_left' (by simp)],List.drop_replicate]
 congr 2 <;> omega
def rpDI (d N:Int) (xs:LL):LInv:=⟨Int,λ k=>⟨[(7,.rw 1030 1 N.toNat),(8,.int .i64 k)],[(0,.row 3 1 xs),(1030,.row 3 1 (rpD d N k))]⟩,RepP N,λ k=>(N - k).toNat,none⟩
def rpd_s:SpH
 | [.rw 0 1 1,.int .i64 n],[.row 3 1 [[.int .i64 d]]]=>some (FnN n,.rw 1 1 n.toNat,[.row 3 1 [[.int .i64 d]],.row 3 1 (dpl d n.toNat)])
 | _,_=>none
abbrev rpd_1 (x1:Int) (d:Int) (n:Int):=(List.take (x1.toNat - (0:Nat)) (List.drop 0 (rpD d n x1)))
abbrev rpd_2 (n:Int):=(List.replicate (IntKind.i64.wrap (IntKind.u64.wrap n)).toNat [AV.int IntKind.i64 0])
abbrev rpd_3 (n:Int) (x1:Int):=((↑n.toNat:Int).toNat - x1.toNat)
def rpd_T:Prop :=
 ∀ (gl:Glob) (n d:Int),FnN n->True->IR9 n->bif decide (n < (0:Int)) then False else ((1:Int)=(1:Int)∧FnN (IntKind.u64.wrap n))∧bif decide (9223372036854775807 < IntKind.u64.wrap n) then False else bif decide (0≤IntKind.i64.wrap (IntKind.u64.wrap n)∧IntKind.i64.wrap (IntKind.u64.wrap n)≤IntKind.i64.wrap (IntKind.u64.wrap n)∧(8:Int)*IntKind.i64.wrap (IntKind.u64.wrap n)≤(281474976710656:Int)∧IntKind.i64.wrap (IntKind.u64.wrap n)≤(9223372036854775807:Int)) then bif decide ((IntKind.i64.wrap (IntKind.u64.wrap n)).toNat=(rpd_2 n).length∧[[I6 d]].length≤(rpd_2 n).length) then (∃ x,RepP n x∧((IntKind.i64.wrap (IntKind.u64.wrap n)).toNat=n.toNat∧(↑[[I6 d]].length:Int)=x∧True)∧[[I6 d]]=[[I6 d]]∧[[I6 d]]++List.drop [[I6 d]].length (rpd_2 n)=rpD d n x∧True)∧∀ (x1:Int),RepP n x1->bif decide (x1 < (↑n.toNat:Int)) then bif decide ((0:Int)≤(↑n.toNat:Int)∧(↑n.toNat:Int)≤(↑n.toNat:Int)) then bif decide (0≤x1∧x1≤(↑n.toNat:Int)) then bif decide (0≤x1∧x1≤(↑n.toNat:Int)) then bif decide ((0:Int)≤(0:Int)∧0≤x1) then bif decide (n.toNat=(rpD d n x1).length∧(0:Nat)+(x1.toNat - (0:Nat))≤(rpD d n x1).length) then bif decide (n.toNat=(rpD d n x1).length∧(0:Nat)+x1.toNat+(rpd_3 n x1)≤(rpD d n x1).length∧(1:Nat)≤(↑n.toNat:Int).toNat - x1.toNat∧(1:Nat)≤(rpd_1 x1 d n).length) then bif decide (rng IntKind.i64 (x1+(↑((rpd_1 x1 d n).length.min (rpd_3 n x1)):Int))) then ∃ y,RepP n y∧(rpDI d n [[I6 d]]).m y < (rpDI d n [[I6 d]]).m x1∧(n.toNat=n.toNat∧x1+(↑((rpd_1 x1 d n).length.min (rpd_3 n x1)):Int)=y∧True)∧[[I6 d]]=[[I6 d]]∧List.take ((0:Nat)+x1.toNat) (rpD d n x1)++List.take ((rpd_1 x1 d n).length.min (rpd_3 n x1)) (rpd_1 x1 d n)++List.drop ((0:Nat)+x1.toNat+(rpd_1 x1 d n).length.min (rpd_3 n x1)) (rpD d n x1)=rpD d n y∧True else False else False else False else False else False else False else False else n.toNat=n.toNat∧[[I6 d]]=[[I6 d]]∧rpD d n x1=dpl d n.toNat∧True else False else False
theorem rpd_P:rpd_T:=by
 unfold rpd_T
 delta rpd_1 rpd_2 rpd_3 I6
 intro gl n d hn
 have hN:=mem_fnN hn
 have uw:IntKind.u64.wrap n=n:=wrap_eq (k:=.u64) (by show 0≤n∧n≤18446744073709551615; omega)
 have iw:IntKind.i64.wrap n=n:=wrap_eq (k:=.i64) (by show -9223372036854775808≤n∧n≤9223372036854775807; omega)
 rw [uw,iw]
 have hx:[[AV.int .i64 d]]=dpl d 1:=rfl
 rw [hx]
 intros
 have r1:RepP n 1:=⟨Int.le_refl 1,by omega⟩
 have e1:dpl d 1++List.drop (dpl d 1).length (List.replicate n.toNat [.int .i64 0])=rpD d n 1:=by
  unfold rpD dpl
  rw [List.length_replicate,List.drop_replicate]
  congr 2; omega
 refine cd0 (by omega) ⟨⟨rfl,hn⟩,cd0 (by omega) (cd1 ⟨by omega,by omega,by omega,by omega⟩ (cd1 ⟨by rw [List.length_replicate],by rw [List.length_replicate]; unfold dpl; rw [List.length_replicate]; omega⟩ ⟨⟨1,r1,⟨rfl,rfl,trivial⟩,rfl,e1,trivial⟩,?_⟩))⟩
 intro k hk
 have k1:=hk.lo
 have k2:=hk.hi
 have hl:=rpD_len (d:=d) hk
 refine csp (λ q=>?_) (λ q=>?_)
 ·have q:k < n:=by omega
  have es:List.take (k.toNat - 0) (List.drop 0 (rpD d n k))=List.replicate k.toNat [.int .i64 d]:=by rw [List.drop_zero,Nat.sub_zero,rpD_take]
  rw [es]
  simp only [Int.toNat_natCast,List.length_replicate]
  obtain ⟨M,hM⟩:∃ M,M=Nat.min k.toNat (n.toNat - k.toNat):=⟨_,rfl⟩
  have m1:M≤k.toNat:=by rw [hM]; exact Nat.min_le_left _ _
  have m2:M≤n.toNat - k.toNat:=by rw [hM]; exact Nat.min_le_right _ _
  have m3:1≤M:=by rw [hM]; exact Nat.le_min.2 ⟨by omega,by omega⟩
  rw [← hM]
  have st:=rpD_step (d:=d) hk q hM
  rw [show k.toNat=0+k.toNat by omega] at st
  simp only [Nat.zero_add] at st ⊢
  refine cd1 (by omega) (cd1 (by omega) (cd1 (by omega) (cd1 (by omega) (cd1 ⟨hl.symm,by omega⟩ (cd1 ⟨hl.symm,by omega,by omega,by omega⟩ (cdI (by omega) ⟨k+M,⟨by omega,by omega⟩,by simp only [rpDI]; omega,by repeat' first|exact trivial|exact rfl|assumption|apply And.intro⟩))))))
 ·have q:k=n:=by omega
  subst q
  refine ⟨rfl,rfl,?_,trivial⟩
  unfold rpD dpl
  rw [show (k - k).toNat=0 by omega]; simp
theorem rpd_e:rpd_T=(∀ (gl:Glob) (n d:Int),FnN n->fnH Tryz.prog { glob:=gl,spec:=lk [(143,mulU_s)],specH:=lk [],nowf:=true } { nt:=48,drop:=drp [(1,512),(2,2048),(3,2093056),(4,65011712),(5,134217728),(6,1879048192),(7,15032385536),(8,120259084288),(9,140462610448384),(10,140737488355328)],fr:=1000,kp:=[0],own:=true } (invs [(8,rpDI d n [[.int .i64 d]])]) 6 Tryz.f94 [.rw 0 1 1,.int .i64 n] [.row 3 1 [[.int .i64 d]]] (.rw 1 1 n.toNat) [.row 3 1 [[.int .i64 d]],.row 3 1 (dpl d n.toNat)]):=by kernel_rfl
def rpd_v:=Eq.mp (rpd_e ..) (rpd_P)
theorem rpd_ok (gl:Glob):HOK Tryz.prog gl 94 rpd_s:=by
 refine ⟨fok Tryz.func94 (by kernel_rfl) (by kernel_rfl),?_⟩
 intro xs bs pre r bs2 h hp
 unfold rpd_s at h
 split at h
 ·cases h
  exact fnH_sound tyNil (by exact specOK rfl rfl ⟨(mulU_ok gl),trivial⟩ trivial) (by kernel_rfl) Tryz.func94 (rpd_v gl _ _ hp)
 ·cases h
def mfrf_s:Sp
 | [.int .i64 n,.sl 1 g ds]=>some (VStP n ds (intsL (zeV n)),.tup [.agg [.int .i64 n,.sl 1 false ds,.sl 1 false (intsL (zeV n))],.int .i64 0])
 | _=>none
abbrev mfrf_1 (nrm:NrT) (n:Int):=(List.replicate (↑(edgG nrm n).length:Int).toNat [AV.int IntKind.i64 0])
def mfrf_T (nrm:NrT) (staE:Int->List Int->List Int->Int):Prop :=
 ∀ (n:Int) (g:Bool) (ds:LL),VStP n ds (intsL (zeV n))->IR9 n->True->BldQ nrm n∧ds.length≤(1000000:Nat)∧bif decide ((0:Int)≤(↑(edgG nrm n).length:Int)∧(↑(edgG nrm n).length:Int)≤(↑(edgG nrm n).length:Int)∧(8:Int)*(↑(edgG nrm n).length:Int)≤(281474976710656:Int)∧(↑(edgG nrm n).length:Int)≤(9223372036854775807:Int)) then bif decide ((↑(edgG nrm n).length:Int).toNat=(mfrf_1 nrm n).length) then StaP n ds (mfrf_1 nrm n)∧bif decide ¬staE n (ungI ds) (ungI (mfrf_1 nrm n))=(0:Int) then ((0:Int)=n∧ds=[]∧intsL (zeV n)=[]∧True)∧staE n (ungI ds) (ungI (mfrf_1 nrm n))=(0:Int)∧True else bif decide ((↑(edgG nrm n).length:Int).toNat=(mfrf_1 nrm n).length) then (n=n∧(True∧ds=ds)∧(True∧List.replicate (↑(edgG nrm n).length:Int).toNat [AV.int IntKind.i64 0]=intsL (zeV n))∧True)∧(0:Int)=(0:Int)∧True else False else False else False
theorem mfrf_P:mfrf_T nrm staE:=by
 unfold mfrf_T
 delta mfrf_1
 intro n g ds hP
 intros
 have hg:=hP.gp
 have ld:=hP.facts.1
 rw [ungI_len] at ld
 have hN:=ndN_ge hg
 have hE:=(edgG_in hg.bq).2
 have e2:List.replicate ((edgG nrm n).length:Int).toNat [AV.int .i64 0]=intsL (zeV n):=by rw [Int.toNat_natCast]; simp [intsL,zeV]
 have hs:staE n (ungI ds) (ungI (intsL (zeV n)))=0:=by unfold staE; rw [hP.ok]; rfl
 have hl:((edgG nrm n).length:Int).toNat=(intsL (zeV n)).length:=by rw [intsL_len]; simp [zeV]
 refine ⟨hg.bq,by omega,cd1 (by omega) ?_⟩
 rw [e2]
 exact cd1 hl ⟨hP.sp,cd0 (λ q=>q hs) (cd1 hl (by repeat' first|exact trivial|exact rfl|assumption|apply And.intro))⟩
theorem mfrf_e (nrm:NrT) (staE:Int->List Int->List Int->Int):mfrf_T nrm staE=(∀ (n:Int) (g:Bool) (ds:LL),VStP n ds (intsL (zeV n))->fnK Tryz.prog { glob:=glb,spec:=lk [(58,(gedges_s nrm)),(60,icln_s),(70,(fchk_s nrm staE))],specH:=lk [],nowf:=true } { nt:=32,drop:=drp [(1,31744),(2,32768),(3,131072),(4,33292288),(5,100663296),(6,134217728),(7,1610612736),(8,2147483648)],frz:=λ id=>cond (Nat.beq id 5) [1000023] [] } (λ _ _=>none) 6 Tryz.f106 [.int .i64 n,.sl 1 g ds] (.tup [.agg [.int .i64 n,.sl 1 false ds,.sl 1 false (intsL (zeV n))],.int .i64 0])):=by kernel_rfl
def mfrf_v:=Eq.mp (mfrf_e ..) (mfrf_P)
theorem mfrf_ok:SOK Tryz.prog glb 106 mfrf_s:=by
 refine ⟨fok Tryz.func106 (by kernel_rfl) (by kernel_rfl),?_⟩
 intro xs pre r h hp
 unfold mfrf_s at h
 split at h
 ·cases h
  exact fnK_sound tyNil (by exact specOK rfl rfl ⟨(gedges_ok),(icln_ok glb),(fchk_ok),trivial⟩ trivial) (by kernel_rfl) Tryz.func106 rfl (mfrf_v  _ _ _ hp)
 ·cases h
def mrst_s:Sp
 | [.int .i64 n,.int .i64 d]=>some (VStP n (List.replicate (ndN n) [.int .i64 d]) (intsL (zeV n)),.tup [.agg [.int .i64 n,.sl 1 false (List.replicate (ndN n) [.int .i64 d]),.sl 1 false (intsL (zeV n))],.int .i64 0])
 | _=>none
def mrst_T:Prop :=
 ∀ (n d:Int),VStP n (List.replicate (ndN n) [AV.int IntKind.i64 d]) (intsL (zeV n))->IR9 n->IR9 d->(1≤n∧n≤(4:Int))∧FnN ((10:Int)*n*n+(2:Int))∧bif decide (((10:Int)*n*n+(2:Int)).toNat=(dpl d ((10:Int)*n*n+(2:Int)).toNat).length) then VStP n (dpl d ((10:Int)*n*n+(2:Int)).toNat) (intsL (zeV n))∧(n=n∧(True∧dpl d ((10:Int)*n*n+(2:Int)).toNat=List.replicate (ndN n) [AV.int IntKind.i64 d])∧(True∧intsL (zeV n)=intsL (zeV n))∧True)∧(0:Int)=(0:Int)∧True else False
theorem mrst_P:mrst_T:=by
 unfold mrst_T
 intro n d hP
 intros
 have hg:=hP.gp
 have hf:=hg.fn
 rw [hg.ln] at hf
 exact ⟨⟨hg.bq.lo,hg.bq.hi⟩,hf,cd1 (by simp [dpl]) ⟨hP,by repeat' first|exact trivial|exact rfl|assumption|apply And.intro⟩⟩
theorem mrst_e:mrst_T=(∀ (n d:Int),VStP n (List.replicate (ndN n) [.int .i64 d]) (intsL (zeV n))->fnK Tryz.prog { glob:=glb,spec:=lk [(59,gcount_s),(106,mfrf_s)],specH:=lk [(94,rpd_s)],nowf:=true } { nt:=15,drop:=drp [(1,32704)] } (λ _ _=>none) 6 Tryz.f54 [.int .i64 n,.int .i64 d] (.tup [.agg [.int .i64 n,.sl 1 false (List.replicate (ndN n) [.int .i64 d]),.sl 1 false (intsL (zeV n))],.int .i64 0])):=by kernel_rfl
def mrst_v:=Eq.mp (mrst_e ..) (mrst_P)
theorem mrst_ok:SOK Tryz.prog glb 54 mrst_s:=by
 refine ⟨fok Tryz.func54 (by kernel_rfl) (by kernel_rfl),?_⟩
 intro xs pre r h hp
 unfold mrst_s at h
 split at h
 ·cases h
  exact fnK_sound tyNil (by exact specOK rfl rfl ⟨(gcount_ok glb),(mfrf_ok),trivial⟩ ⟨(rpd_ok glb),trivial⟩) (by kernel_rfl) Tryz.func54 rfl (mrst_v  _ _ hp)
 ·cases h
def fcck_s:Sp
 | [.agg [.int .i64 a,.int .i64 b,.int .i64 c],.agg [.int .i64 n,.sl 1 g ds,.sl 1 h fs],.int .i64 s,.int .i64 v]=>some ((schE a b c=0∧VStP n ds fs)∧(0≤s∧s≤400)∧1≤v∧v≤400,.int .i64 0)
 | _=>none
def fcck_T (outB:Int->Int->List Int->Bool) (schE:Int->Int->Int->Int) (nrm:NrT) (staE:Int->List Int->List Int->Int):Prop :=
 ∀ (n a b c s v:Int) (g h:Bool) (ds fs:LL),(schE a b c=(0:Int)∧VStP n ds fs)∧(0≤s∧s≤(400:Int))∧1≤v∧v≤(400:Int)->(IR9 a)∧(IR9 b)∧(IR9 c)∧True->(IR9 n)∧True∧True∧True->IR9 s->IR9 v->True∧bif decide ¬schE a b c=(0:Int) then schE a b c=(0:Int) else StaP n ds fs∧bif decide ¬staE n (ungI ds) (ungI fs)=(0:Int) then staE n (ungI ds) (ungI fs)=(0:Int) else bif decide (s < (0:Int)) then (1:Int)=(0:Int) else bif decide (400 < s) then (1:Int)=(0:Int) else bif decide (v < (1:Int)) then (1:Int)=(0:Int) else bif decide (400 < v) then (1:Int)=(0:Int) else (0:Int)=(0:Int)
theorem fcck_P:fcck_T outB schE nrm staE:=by
 unfold fcck_T
 intro n a b c s v g h ds fs ⟨⟨hs,hP⟩,h1,h2⟩
 intros
 have he:staE n (ungI ds) (ungI fs)=0:=by unfold staE; rw [hP.ok]; rfl
 exact ⟨trivial,cd0 (λ q=>q hs) ⟨hP.sp,cd0 (λ q=>q he) (cd0 (by omega) (cd0 (by omega) (cd0 (by omega) (cd0 (by omega) rfl))))⟩⟩
theorem fcck_e (outB:Int->Int->List Int->Bool) (schE:Int->Int->Int->Int) (nrm:NrT) (staE:Int->List Int->List Int->Int):fcck_T outB schE nrm staE=(∀ (n a b c s v:Int) (g h:Bool) (ds fs:LL),(schE a b c=0∧VStP n ds fs)∧(0≤s∧s≤400)∧1≤v∧v≤400->fnK Tryz.prog { glob:=glb,spec:=lk [(65,(fsch_s outB schE)),(70,(fchk_s nrm staE))],specH:=lk [],nowf:=true } { nt:=35,drop:=drp [(1,6144),(2,8192),(3,32768),(4,196608),(5,262144),(6,1048576),(7,17177772032)] } (λ _ _=>none) 6 Tryz.f107 [.agg [.int .i64 a,.int .i64 b,.int .i64 c],.agg [.int .i64 n,.sl 1 g ds,.sl 1 h fs],.int .i64 s,.int .i64 v] (.int .i64 0)):=by kernel_rfl
def fcck_v:=Eq.mp (fcck_e ..) (fcck_P)
theorem fcck_ok:SOK Tryz.prog glb 107 fcck_s:=by
 refine ⟨fok Tryz.func107 (by kernel_rfl) (by kernel_rfl),?_⟩
 intro xs pre r h hp
 unfold fcck_s at h
 split at h
 ·cases h
  exact fnK_sound tyNil (by exact specOK rfl rfl ⟨(fsch_ok glb),(fchk_ok),trivial⟩ trivial) (by kernel_rfl) Tryz.func107 rfl (fcck_v  _ _ _ _ _ _ _ _ _ _ hp)
 ·cases h
def fccp_s:Sp
 | [.agg [.int .i64 s,.int .i64 n,.sl 1 g ds,.sl 1 h fs]]=>some (ds.length≤1000000∧fs.length≤1000000,.agg [.int .i64 s,.int .i64 n,.sl 1 false ds,.sl 1 false fs])
 | _=>none
def fccp_T:Prop :=
 ∀ (gl:Glob) (s n:Int) (g h:Bool) (ds fs:LL),ds.length≤(1000000:Nat)∧fs.length≤(1000000:Nat)->(IR9 s)∧(IR9 n)∧True∧True∧True->ds.length≤(1000000:Nat)∧fs.length≤(1000000:Nat)∧s=s∧n=n∧(True∧ds=ds)∧(True∧fs=fs)∧True
theorem fccp_P:fccp_T:=by
 unfold fccp_T
 intro gl s n g h ds fs ⟨h1,h2⟩
 intros
 exact ⟨h1,h2,by repeat' first|exact trivial|exact rfl|assumption|apply And.intro⟩
theorem fccp_e:fccp_T=(∀ (gl:Glob) (s n:Int) (g h:Bool) (ds fs:LL),ds.length≤1000000∧fs.length≤1000000->fnK Tryz.prog { glob:=gl,spec:=lk [(60,icln_s)],specH:=lk [],nowf:=true } { nt:=16,drop:=drp [(1,32760),(2,32768)] } (λ _ _=>none) 6 Tryz.f146 [.agg [.int .i64 s,.int .i64 n,.sl 1 g ds,.sl 1 h fs]] (.agg [.int .i64 s,.int .i64 n,.sl 1 false ds,.sl 1 false fs])):=by kernel_rfl
def fccp_v:=Eq.mp (fccp_e ..) (fccp_P)
theorem fccp_ok (gl:Glob):SOK Tryz.prog gl 146 fccp_s:=by
 refine ⟨fok Tryz.func146 (by kernel_rfl) (by kernel_rfl),?_⟩
 intro xs pre r h hp
 unfold fccp_s at h
 split at h
 ·cases h
  exact fnK_sound tyNil (by exact specOK rfl rfl ⟨(icln_ok gl),trivial⟩ trivial) (by kernel_rfl) Tryz.func146 rfl (fccp_v gl _ _ _ _ _ _ hp)
 ·cases h
structure U8P (r:List AV):Prop where
 eq:r=[.int .u8 (nI r 0)]
 lo:0≤nI r 0
 hi:nI r 0≤255
structure ChsP (xs:LL) (p:Int):Prop where
 el:∀ r ∈ xs,U8P r
 ln:xs.length≤600
 lo:0≤p
 hi:p≤xs.length
def nxV (xs:LL) (p n:Int):Int:=if p < xs.length∧1≤n then (nI (xs.getD p.toNat []) 0).tmod n else 0
def nxA (xs:LL) (p n:Int):Int:=if p < xs.length∧1≤n then p+1 else p
theorem ChsP.row {xs:LL} {p:Int} (h:ChsP xs p) (q:p < xs.length):U8P (xs.getD p.toNat []):=by
 have:=h.lo
 refine h.el _ ?_
 rw [List.getD_eq_getElem?_getD,List.getElem?_eq_getElem (by omega)]
 exact List.getElem_mem _
theorem nxV_b {xs:LL} {p n:Int} (h:ChsP xs p) (hn:1≤n):0≤nxV xs p n∧nxV xs p n < n:=by
 unfold nxV
 split
 ·rename_i q
  have hr:=h.row q.1
  rw [Int.tmod_eq_emod_of_nonneg hr.lo]
  exact ⟨Int.emod_nonneg _ (by omega),Int.emod_lt_of_pos _ (by omega)⟩
 ·omega
theorem nxA_ok {xs:LL} {p:Int} (h:ChsP xs p) (n:Int):ChsP xs (nxA xs p n):=by
 have h1:=h.lo
 have h2:=h.hi
 refine ⟨h.el,h.ln,?_,?_⟩ <;> unfold nxA <;> split <;> omega
theorem tmod_b {z m:Int} (hm:0≤m):-m≤z.tmod (m+1)∧z.tmod (m+1)≤m:=by
 have h1:=Int.natAbs_tmod z (m+1)
 have h2:=Nat.mod_lt z.natAbs (y:=(m+1).natAbs) (by omega)
 omega
def cleft_s:SpH
 | [.ptr 0 0],[.cells [.sl 1 g xs,.int .i64 p]]=>some (True,.bool (decide (p < xs.length)),[.cells [.sl 1 g xs,.int .i64 p]])
 | _,_=>none
def cleft_T:Prop :=
 ∀ (gl:Glob) (p:Int) (g:Bool) (xs:LL),True->True->IR9 p->decide (p < (↑xs.length:Int))=decide (p < (↑xs.length:Int))∧(((bif g then g=true else True)∧xs=xs)∧p=p∧True)∧True
theorem cleft_P:cleft_T:=by
 unfold cleft_T
 intro gl p g xs
 intros
 have g1:cond g (g=true) True:=gg g
 (repeat' (first | exact trivial | exact rfl | assumption | apply And.intro))
theorem cleft_e:cleft_T=(∀ (gl:Glob) (p:Int) (g:Bool) (xs:LL),fnH Tryz.prog { glob:=gl,spec:=lk [],specH:=lk [],nowf:=true } { nt:=13,drop:=drp [(1,8184)],fr:=1000,kp:=[0] } (λ _ _=>none) 6 Tryz.f100 [.ptr 0 0] [.cells [.sl 1 g xs,.int .i64 p]] (.bool (decide (p < xs.length))) [.cells [.sl 1 g xs,.int .i64 p]]):=by kernel_rfl
def cleft_v:=Eq.mp (cleft_e ..) (cleft_P)
theorem cleft_ok (gl:Glob):HOK Tryz.prog gl 100 cleft_s:=by
 refine ⟨fok Tryz.func100 (by kernel_rfl) (by kernel_rfl),?_⟩
 intro xs bs pre r bs2 h hp
 unfold cleft_s at h
 split at h
 ·cases h
  exact fnH_sound tyNil (by exact specOK rfl rfl trivial trivial) (by kernel_rfl) Tryz.func100 (cleft_v gl _ _ _)
 ·cases h
def cnext_s:SpH
 | [.ptr 0 0,.int .i64 n],[.cells [.sl 1 g xs,.int .i64 p]]=>some (ChsP xs p,.int .i64 (nxV xs p n),[.cells [.sl 1 g xs,.int .i64 (nxA xs p n)]])
 | _,_=>none
def cnext_T:Prop :=
 ∀ (gl:Glob) (p n:Int) (g:Bool) (xs:LL),ChsP xs p->True->IR9 n->True->IR9 p->True∧bif !decide (p < (↑xs.length:Int)) then (0:Int)=nxV xs p n∧(((bif g then g=true else True)∧xs=xs)∧p=nxA xs p n∧True)∧True else bif decide (n < (1:Int)) then (0:Int)=nxV xs p n∧(((bif g then g=true else True)∧xs=xs)∧p=nxA xs p n∧True)∧True else bif decide (rng IntKind.i64 (p+(1:Int))) then bif decide (rng IntKind.i64 (p+(1:Int) - (1:Int))) then bif decide (0≤p+(1:Int) - (1:Int)∧p+(1:Int) - (1:Int) < (↑xs.length:Int)) then ∃ n_1,List.take [AV.int IntKind.u8 n_1].length (xs.getD (p+(1:Int) - (1:Int)).toNat [])=[AV.int IntKind.u8 n_1]∧bif decide ¬n=(0:Int) then n_1.tmod n=nxV xs p n∧(((bif g then g=true else True)∧xs=xs)∧p+(1:Int)=nxA xs p n∧True)∧True else False else False else False else False
theorem cnext_P:cnext_T:=by
 unfold cnext_T
 intro gl p n g xs h
 intros
 have g1:cond g (g=true) True:=gg g
 have h0:=h.lo
 have h1:=h.hi
 have h2:=h.ln
 refine ⟨trivial,csplit (λ q=>?_) (λ q=>?_)⟩
 ·have q:¬ p < xs.length:=by simpa using q
  have e1:0=nxV xs p n:=(if_neg (λ e=>q e.1)).symm
  have e2:p=nxA xs p n:=(if_neg (λ e=>q e.1)).symm
  (repeat' (first | exact trivial | exact rfl | assumption | apply And.intro))
 ·have q:p < xs.length:=by simpa using q
  refine csp (λ q2=>?_) (λ q2=>?_)
  ·have e1:0=nxV xs p n:=(if_neg (λ e=>by omega)).symm
   have e2:p=nxA xs p n:=(if_neg (λ e=>by omega)).symm
   (repeat' (first | exact trivial | exact rfl | assumption | apply And.intro))
  ·have e1:(nI (xs.getD p.toNat []) 0).tmod n=nxV xs p n:=(if_pos ⟨q,by omega⟩).symm
   have e2:p+1=nxA xs p n:=(if_pos ⟨q,by omega⟩).symm
   have hr:=(h.row q).eq
   have ep:p+1 - 1=p:=by omega
   rw [ep]
   refine cdI (by omega) (cdI (by omega) (cd1 (by omega) ⟨nI (xs.getD p.toNat []) 0,?_,cd1 (by omega) (by repeat' first|exact trivial|exact rfl|assumption|apply And.intro)⟩))
   exact (congrArg (List.take 1) hr).trans rfl
theorem cnext_e:cnext_T=(∀ (gl:Glob) (p n:Int) (g:Bool) (xs:LL),ChsP xs p->fnH Tryz.prog { glob:=gl,spec:=lk [],specH:=lk [(100,cleft_s)],shape:=[29],nowf:=true } { nt:=33,drop:=drp [(1,2016),(3,520192),(4,8589410304)],fr:=1000,kp:=[0] } (λ _ _=>none) 6 Tryz.f48 [.ptr 0 0,.int .i64 n] [.cells [.sl 1 g xs,.int .i64 p]] (.int .i64 (nxV xs p n)) [.cells [.sl 1 g xs,.int .i64 (nxA xs p n)]]):=by kernel_rfl
def cnext_v:=Eq.mp (cnext_e ..) (cnext_P)
theorem cnext_ok (gl:Glob):HOK Tryz.prog gl 48 cnext_s:=by
 refine ⟨fok Tryz.func48 (by kernel_rfl) (by kernel_rfl),?_⟩
 intro xs bs pre r bs2 h hp
 unfold cnext_s at h
 split at h
 ·cases h
  exact fnH_sound tyNil (by exact specOK rfl rfl trivial ⟨(cleft_ok gl),trivial⟩) (by kernel_rfl) Tryz.func48 (cnext_v gl _ _ _ _ hp)
 ·cases h
def sgN (a b c m:Int):Int:=(bits .or .i64 (bits .or .i64 (a*65536) (b*256)) c).tmod (m+1)
def sgP (xs:LL) (p:Int):Int:=nxA xs (nxA xs (nxA xs p 256) 256) 256
def sgX (xs:LL) (p m:Int):Int:=sgN (nxV xs p 256) (nxV xs (nxA xs p 256) 256) (nxV xs (nxA xs (nxA xs p 256) 256) 256) m
def sgV (xs:LL) (p m:Int):Int:=if nxV xs (sgP xs p) 2=1 then -sgX xs p m else sgX xs p m
def sgA (xs:LL) (p:Int):Int:=nxA xs (sgP xs p) 2
theorem sg_b {xs:LL} {p m:Int} (hm:0≤m):-m≤sgV xs p m∧sgV xs p m≤m:=by
 have:-m≤sgX xs p m∧sgX xs p m≤m:=tmod_b hm
 unfold sgV
 split <;> omega
theorem sgA_ok {xs:LL} {p:Int} (h:ChsP xs p):ChsP xs (sgA xs p):=nxA_ok (nxA_ok (nxA_ok (nxA_ok h _) _) _) _
def csgn_s (nxV:LL->Int->Int->Int) (nxA:LL->Int->Int->Int):SpH
 | [.ptr 0 0,.int .i64 m],[.cells [.sl 1 g xs,.int .i64 p]]=>some (ChsP xs p∧0≤m∧m≤1000000000,.int .i64 (sgV xs p m),[.cells [.sl 1 g xs,.int .i64 (sgA xs p)]])
 | _,_=>none
abbrev csgn_1 (xs:LL) (p:Int):=(bits BinOp.or IntKind.i64 (bits BinOp.or IntKind.i64 (YtgbbmadjdaphnaaGreatDoor.nxV xs p 256*(65536:Int)) (YtgbbmadjdaphnaaGreatDoor.nxV xs (YtgbbmadjdaphnaaGreatDoor.nxA xs p 256) 256*(256:Int))) (YtgbbmadjdaphnaaGreatDoor.nxV xs (YtgbbmadjdaphnaaGreatDoor.nxA xs (YtgbbmadjdaphnaaGreatDoor.nxA xs p 256) 256) 256))
abbrev csgn_2 (xs:LL) (p:Int):=(YtgbbmadjdaphnaaGreatDoor.nxA xs (YtgbbmadjdaphnaaGreatDoor.nxA xs (YtgbbmadjdaphnaaGreatDoor.nxA xs p 256) 256) 256)
def csgn_T (nxV:LL->Int->Int->Int) (nxA:LL->Int->Int->Int):Prop :=
 ∀ (gl:Glob) (p m:Int) (g:Bool) (xs:LL),ChsP xs p∧0≤m∧m≤(1000000000:Int)->True->IR9 m->True->IR9 p->ChsP xs p∧bif decide (rng IntKind.i64 (YtgbbmadjdaphnaaGreatDoor.nxV xs p 256*(65536:Int))) then ChsP xs (YtgbbmadjdaphnaaGreatDoor.nxA xs p 256)∧bif decide (rng IntKind.i64 (YtgbbmadjdaphnaaGreatDoor.nxV xs (YtgbbmadjdaphnaaGreatDoor.nxA xs p 256) 256*(256:Int))) then ChsP xs (YtgbbmadjdaphnaaGreatDoor.nxA xs (YtgbbmadjdaphnaaGreatDoor.nxA xs p 256) 256)∧bif decide (rng IntKind.i64 (m+(1:Int))) then bif decide ¬m+(1:Int)=(0:Int) then ChsP xs (csgn_2 xs p)∧bif decide (YtgbbmadjdaphnaaGreatDoor.nxV xs (csgn_2 xs p) 2=(1:Int)) then bif decide (rng IntKind.i64 ((0:Int) - (csgn_1 xs p).tmod (m+(1:Int)))) then (0:Int) - (csgn_1 xs p).tmod (m+(1:Int))=sgV xs p m∧(((bif g then g=true else True)∧xs=xs)∧YtgbbmadjdaphnaaGreatDoor.nxA xs (csgn_2 xs p) 2=sgA xs p∧True)∧True else False else (csgn_1 xs p).tmod (m+(1:Int))=sgV xs p m∧(((bif g then g=true else True)∧xs=xs)∧YtgbbmadjdaphnaaGreatDoor.nxA xs (csgn_2 xs p) 2=sgA xs p∧True)∧True else False else False else False else False
theorem csgn_P:csgn_T nxV nxA:=by
 unfold csgn_T
 delta csgn_1 csgn_2
 intro gl p m g xs ⟨h,m0,m1⟩
 intros
 have g1:cond g (g=true) True:=gg g
 have h1:=nxA_ok h 256
 have h2:=nxA_ok h1 256
 have h3:=nxA_ok h2 256
 have b0:=nxV_b h (n:=256) (by decide)
 have b1:=nxV_b h1 (n:=256) (by decide)
 have hX:-m≤sgX xs p m∧sgX xs p m≤m:=tmod_b m0
 have eX:sgX xs p m=(bits .or .i64 (bits .or .i64 (nxV xs p 256*65536) (nxV xs (nxA xs p 256) 256*256)) (nxV xs (nxA xs (nxA xs p 256) 256) 256)).tmod (m+1):=rfl
 refine ⟨h,cdI (by omega) ⟨h1,cdI (by omega) ⟨h2,cdI (by omega) (cd1 (by omega) ⟨h3,?_⟩)⟩⟩⟩
 rw [← eX]
 refine csp (λ q=>cdI (by omega) ?_) (λ q=>?_)
 ·have e:0 - sgX xs p m=sgV xs p m:=by rw [show sgV xs p m=-sgX xs p m from if_pos q]; omega
  (repeat' (first | exact trivial | exact rfl | assumption | apply And.intro))
 ·have e:sgX xs p m=sgV xs p m:=(if_neg q).symm
  (repeat' (first | exact trivial | exact rfl | assumption | apply And.intro))
theorem csgn_e (nxV:LL->Int->Int->Int) (nxA:LL->Int->Int->Int):csgn_T nxV nxA=(∀ (gl:Glob) (p m:Int) (g:Bool) (xs:LL),ChsP xs p∧0≤m∧m≤1000000000->fnH Tryz.prog { glob:=gl,spec:=lk [],specH:=lk [(48,cnext_s)],nowf:=true } { nt:=25,drop:=drp [(1,524224),(2,1572864),(3,12582912),(4,16777216)],fr:=1000,kp:=[0] } (λ _ _=>none) 6 Tryz.f99 [.ptr 0 0,.int .i64 m] [.cells [.sl 1 g xs,.int .i64 p]] (.int .i64 (sgV xs p m)) [.cells [.sl 1 g xs,.int .i64 (sgA xs p)]]):=by kernel_rfl
def csgn_v:=Eq.mp (csgn_e ..) (csgn_P)
theorem csgn_ok (gl:Glob):HOK Tryz.prog gl 99 (csgn_s nxV nxA):=by
 refine ⟨fok Tryz.func99 (by kernel_rfl) (by kernel_rfl),?_⟩
 intro xs bs pre r bs2 h hp
 unfold csgn_s at h
 split at h
 ·cases h
  exact fnH_sound tyNil (by exact specOK rfl rfl trivial ⟨(cnext_ok gl),trivial⟩) (by kernel_rfl) Tryz.func99 (csgn_v gl _ _ _ _ hp)
 ·cases h
def cschm_s (nxV:LL->Int->Int->Int) (nxA:LL->Int->Int->Int):SpH
 | [.ptr 0 0],[.cells [.sl 1 g xs,.int .i64 p]]=>some (ChsP xs p,.agg [.int .i64 (1+nxV xs p 4),.int .i64 (1+nxV xs (nxA xs p 4) 4),.int .i64 (1+nxV xs (nxA xs (nxA xs p 4) 4) 4)],[.cells [.sl 1 g xs,.int .i64 (nxA xs (nxA xs (nxA xs p 4) 4) 4)]])
 | _,_=>none
abbrev cschm_1 (xs:LL) (p:Int):=(YtgbbmadjdaphnaaGreatDoor.nxA xs (YtgbbmadjdaphnaaGreatDoor.nxA xs p 4) 4)
def cschm_T (nxV:LL->Int->Int->Int) (nxA:LL->Int->Int->Int):Prop :=
 ∀ (gl:Glob) (p:Int) (g:Bool) (xs:LL),ChsP xs p->True->True->IR9 p->ChsP xs p∧bif decide (rng IntKind.i64 ((1:Int)+YtgbbmadjdaphnaaGreatDoor.nxV xs p 4)) then ChsP xs (YtgbbmadjdaphnaaGreatDoor.nxA xs p 4)∧bif decide (rng IntKind.i64 ((1:Int)+YtgbbmadjdaphnaaGreatDoor.nxV xs (YtgbbmadjdaphnaaGreatDoor.nxA xs p 4) 4)) then ChsP xs (cschm_1 xs p)∧bif decide (rng IntKind.i64 ((1:Int)+YtgbbmadjdaphnaaGreatDoor.nxV xs (cschm_1 xs p) 4)) then ((1:Int)+YtgbbmadjdaphnaaGreatDoor.nxV xs p 4=(1:Int)+nxV xs p 4∧(1:Int)+YtgbbmadjdaphnaaGreatDoor.nxV xs (YtgbbmadjdaphnaaGreatDoor.nxA xs p 4) 4=(1:Int)+nxV xs (nxA xs p 4) 4∧(1:Int)+YtgbbmadjdaphnaaGreatDoor.nxV xs (cschm_1 xs p) 4=(1:Int)+nxV xs (nxA xs (nxA xs p 4) 4) 4∧True)∧(((bif g then g=true else True)∧xs=xs)∧YtgbbmadjdaphnaaGreatDoor.nxA xs (cschm_1 xs p) 4=nxA xs (nxA xs (nxA xs p 4) 4) 4∧True)∧True else False else False else False
theorem cschm_P:cschm_T nxV nxA:=by
 unfold cschm_T
 delta cschm_1
 intro gl p g xs h
 intros
 have g1:cond g (g=true) True:=gg g
 have h1:=nxA_ok h 4
 have h2:=nxA_ok h1 4
 have b0:=nxV_b h (n:=4) (by decide)
 have b1:=nxV_b h1 (n:=4) (by decide)
 have b2:=nxV_b h2 (n:=4) (by decide)
 exact ⟨h,cdI (by omega) ⟨h1,cdI (by omega) ⟨h2,cdI (by omega) (by repeat' first|exact trivial|exact rfl|assumption|apply And.intro)⟩⟩⟩
theorem cschm_e (nxV:LL->Int->Int->Int) (nxA:LL->Int->Int->Int):cschm_T nxV nxA=(∀ (gl:Glob) (p:Int) (g:Bool) (xs:LL),ChsP xs p->fnH Tryz.prog { glob:=gl,spec:=lk [],specH:=lk [(48,cnext_s)],nowf:=true } { nt:=13,drop:=drp [(1,8184)],fr:=1000,kp:=[0] } (λ _ _=>none) 6 Tryz.f18 [.ptr 0 0] [.cells [.sl 1 g xs,.int .i64 p]] (.agg [.int .i64 (1+nxV xs p 4),.int .i64 (1+nxV xs (nxA xs p 4) 4),.int .i64 (1+nxV xs (nxA xs (nxA xs p 4) 4) 4)]) [.cells [.sl 1 g xs,.int .i64 (nxA xs (nxA xs (nxA xs p 4) 4) 4)]]):=by kernel_rfl
def cschm_v:=Eq.mp (cschm_e ..) (cschm_P)
theorem cschm_ok (gl:Glob):HOK Tryz.prog gl 18 (cschm_s nxV nxA):=by
 refine ⟨fok Tryz.func18 (by kernel_rfl) (by kernel_rfl),?_⟩
 intro xs bs pre r bs2 h hp
 unfold cschm_s at h
 split at h
 ·cases h
  exact fnH_sound tyNil (by exact specOK rfl rfl trivial ⟨(cnext_ok gl),trivial⟩) (by kernel_rfl) Tryz.func18 (cschm_v gl _ _ _ hp)
 ·cases h
def vcC (xs:LL) (p m:Int):List Int:=[sgV xs p m,sgV xs (sgA xs p) m,sgV xs (sgA xs (sgA xs p)) m,sgV xs (sgA xs (sgA xs (sgA xs p))) 9,0,m,-m]
def vcP (xs:LL) (p:Int):Int:=sgA xs (sgA xs (sgA xs (sgA xs p)))
def vcK (xs:LL) (l:List Int) (p:Int):Nat->Int × List Int
 | 0=>(p,[])
 | k+1=>(nxA xs (vcK xs l p k).1 7,(vcK xs l p k).2++[l.getD (nxV xs (vcK xs l p k).1 7).toNat 0])
def vcL (xs:LL) (p n m:Int):List Int:=(vcK xs (vcC xs p m) (vcP xs p) n.toNat).2
def vcA (xs:LL) (p n m:Int):Int:=(vcK xs (vcC xs p m) (vcP xs p) n.toNat).1
theorem vcK_ok {xs:LL} {p:Int} (h:ChsP xs p) (l:List Int):∀ k,ChsP xs (vcK xs l p k).1∧(vcK xs l p k).2.length=k
 | 0=>⟨h,rfl⟩
 | k+1=>⟨nxA_ok (vcK_ok h l k).1 _,by rw [vcK,List.length_append,(vcK_ok h l k).2]; rfl⟩
theorem vcK_b {xs:LL} {l:List Int} {p B:Int} (hB:0≤B) (hl:∀ z ∈ l,-B≤z∧z≤B):∀ k,∀ z ∈ (vcK xs l p k).2,-B≤z∧z≤B
 | 0,z,h=>by simp [vcK] at h
 | k+1,z,h=>by
  rw [vcK] at h
  rcases List.mem_append.1 h with h | h
  ·exact vcK_b hB hl k z h
  ·rw [List.mem_singleton] at h; subst h; exact getD_bd hB hl _
theorem vcC_b {xs:LL} {p m:Int} (hm:0≤m):∀ z ∈ vcC xs p m,-(m+9)≤z∧z≤m+9:=λ z hz=>by
 have h1:=sg_b (xs:=xs) (p:=p) hm
 have h2:=sg_b (xs:=xs) (p:=sgA xs p) hm
 have h3:=sg_b (xs:=xs) (p:=sgA xs (sgA xs p)) hm
 have h4:=sg_b (xs:=xs) (p:=sgA xs (sgA xs (sgA xs p))) (m:=9) (by decide)
 simp only [vcC,List.mem_cons,List.not_mem_nil,or_false] at hz
 rcases hz with rfl | rfl | rfl | rfl | rfl | rfl | rfl <;> omega
theorem vcL_ok {xs:LL} {p n m:Int} (h:ChsP xs p) (hm:0≤m):(vcL xs p n m).length=n.toNat∧(∀ z ∈ vcL xs p n m,-(m+9)≤z∧z≤m+9)∧ChsP xs (vcA xs p n m):=by
 have h4:ChsP xs (vcP xs p):=sgA_ok (sgA_ok (sgA_ok (sgA_ok h)))
 obtain ⟨k1,k2⟩:=vcK_ok h4 (vcC xs p m) n.toNat
 exact ⟨k2,vcK_b (by omega) (vcC_b hm) _,k1⟩
def vcI (xs:LL) (g:Bool) (p n m:Int):LInv:=⟨Int,λ x=>⟨[(0,.ptr 0 0),(1,.int .i64 n),(7,.rw 1024 1 7),(8,.rw 800 1 x.toNat),(9,.int .i64 x)],[(0,.cells [.sl 1 g xs,.int .i64 (vcK xs (vcC xs p m) (vcP xs p) x.toNat).1]),(1024,.row 3 1 (intsL (vcC xs p m))),(800,.row 3 1 (intsL (vcK xs (vcC xs p m) (vcP xs p) x.toNat).2))]⟩,LtP n.toNat,λ x=>(n - x).toNat,none⟩
def cvec_s:SpH
 | [.ptr 0 0,.int .i64 n,.int .i64 m],[.cells [.sl 1 g xs,.int .i64 p]]=>some (ChsP xs p∧(1≤n∧n≤1000)∧0≤m∧m≤1000000000,.sl 1 false (intsL (vcL xs p n m)),[.cells [.sl 1 g xs,.int .i64 (vcA xs p n m)]])
 | _,_=>none
abbrev cvec_1 (xs:LL) (p:Int) (m:Int) (x1:Int):=(vcK xs (vcC xs p m) (vcP xs p) x1.toNat)
def cvec_T (nxV:LL->Int->Int->Int) (nxA:LL->Int->Int->Int):Prop :=
 ∀ (gl:Glob) (p n m:Int) (g:Bool) (xs:LL),ChsP xs p∧(1≤n∧n≤(1000:Int))∧0≤m∧m≤(1000000000:Int)->True->IR9 n->IR9 m->True->IR9 p->(ChsP xs p∧0≤m∧m≤(1000000000:Int))∧(ChsP xs (sgA xs p)∧0≤m∧m≤(1000000000:Int))∧(ChsP xs (sgA xs (sgA xs p))∧0≤m∧m≤(1000000000:Int))∧(ChsP xs (sgA xs (sgA xs (sgA xs p)))∧(0:Int)≤(9:Int)∧(9:Int)≤(1000000000:Int))∧bif decide (rng IntKind.i64 ((0:Int) - m)) then (∃ x,LtP n.toNat x∧((0:Nat)=(0:Nat)∧n=n∧(7:Nat)=(7:Nat)∧(0:Nat)=Int.toNat x∧(0:Int)=x∧True)∧(((bif g then g=true else True)∧xs=xs)∧sgA xs (sgA xs (sgA xs (sgA xs p)))=(vcK xs (vcC xs p m) (vcP xs p) (Int.toNat x)).1∧True)∧[[I6 (sgV xs p m)],[I6 (sgV xs (sgA xs p) m)],[I6 (sgV xs (sgA xs (sgA xs p)) m)],[I6 (sgV xs (sgA xs (sgA xs (sgA xs p))) 9)],[I6 0],[I6 m],[I6 ((0:Int) - m)]]=intsL (vcC xs p m)∧[]=intsL (vcK xs (vcC xs p m) (vcP xs p) (Int.toNat x)).2∧True)∧∀ (x1:Int),LtP n.toNat x1->bif decide (x1 < n) then ChsP xs (cvec_1 xs p m x1).1∧bif decide (0≤YtgbbmadjdaphnaaGreatDoor.nxV xs (cvec_1 xs p m x1).1 7∧YtgbbmadjdaphnaaGreatDoor.nxV xs (cvec_1 xs p m x1).1 7 < (7:Int)) then bif decide ((7:Nat)=(intsL (vcC xs p m)).length∧(YtgbbmadjdaphnaaGreatDoor.nxV xs (cvec_1 xs p m x1).1 7).toNat < (intsL (vcC xs p m)).length) then ∃ n_1,List.take [I6 n_1].length (List.drop 0 ((intsL (vcC xs p m)).getD (YtgbbmadjdaphnaaGreatDoor.nxV xs (cvec_1 xs p m x1).1 7).toNat []))=[I6 n_1]∧bif decide (x1.toNat=(intsL (cvec_1 xs p m x1).2).length∧(intsL (cvec_1 xs p m x1).2).length+[[I6 n_1]].length≤(9223372036854775807:Nat)∧((intsL (cvec_1 xs p m x1).2).length+[[I6 n_1]].length)*(8:Nat)≤(140737488355328:Nat)) then bif decide (rng IntKind.i64 (x1+(1:Int))) then ∃ y,LtP n.toNat y∧(vcI xs g p n m).m y < (vcI xs g p n m).m x1∧((0:Nat)=(0:Nat)∧n=n∧(7:Nat)=(7:Nat)∧(intsL (cvec_1 xs p m x1).2++[[I6 n_1]]).length=Int.toNat y∧x1+(1:Int)=y∧True)∧(((bif g then g=true else True)∧xs=xs)∧YtgbbmadjdaphnaaGreatDoor.nxA xs (cvec_1 xs p m x1).1 7=(vcK xs (vcC xs p m) (vcP xs p) (Int.toNat y)).1∧True)∧intsL (vcC xs p m)=intsL (vcC xs p m)∧intsL (cvec_1 xs p m x1).2++[[I6 n_1]]=intsL (vcK xs (vcC xs p m) (vcP xs p) (Int.toNat y)).2∧True else False else False else False else False else bif decide (x1.toNat=(intsL (cvec_1 xs p m x1).2).length) then (True∧intsL (cvec_1 xs p m x1).2=intsL (vcL xs p n m))∧(((bif g then g=true else True)∧xs=xs)∧(cvec_1 xs p m x1).1=vcA xs p n m∧True)∧True else False else False
theorem cvec_P:cvec_T nxV nxA:=by
 unfold cvec_T
 delta cvec_1 I6
 intro gl p n m g xs ⟨h,⟨n0,n1⟩,m0,m1⟩
 intros
 have g1:cond g (g=true) True:=gg g
 have h1:=sgA_ok h
 have h2:=sgA_ok h1
 have h3:=sgA_ok h2
 have h4:ChsP xs (vcP xs p):=sgA_ok h3
 have eC:[[AV.int .i64 (sgV xs p m)],[.int .i64 (sgV xs (sgA xs p) m)],[.int .i64 (sgV xs (sgA xs (sgA xs p)) m)],[.int .i64 (sgV xs (sgA xs (sgA xs (sgA xs p))) 9)],[.int .i64 0],[.int .i64 m],[.int .i64 (0 - m)]]=intsL (vcC xs p m):=by rw [Int.zero_sub]; rfl
 refine ⟨⟨h,m0,m1⟩,⟨h1,m0,m1⟩,⟨h2,m0,m1⟩,⟨h3,by decide,by decide⟩,cdI (by omega) ⟨⟨0,⟨Int.le_refl 0,by omega⟩,by repeat' first|exact trivial|exact rfl|assumption|apply And.intro⟩,?_⟩⟩
 intro x ⟨x0,xl⟩
 obtain ⟨k1,k2⟩:=vcK_ok h4 (vcC xs p m) x.toNat
 have hc:(vcC xs p m).length=7:=rfl
 refine csp (λ q=>?_) (λ q=>?_)
 ·have b:=nxV_b k1 (n:=7) (by decide)
  have e1:(vcC xs p m)[(nxV xs (vcK xs (vcC xs p m) (vcP xs p) x.toNat).1 7).toNat]?=some ((vcC xs p m).getD (nxV xs (vcK xs (vcC xs p m) (vcP xs p) x.toNat).1 7).toNat 0):=at_getD (by omega)
  have es:vcK xs (vcC xs p m) (vcP xs p) (x+1).toNat=(nxA xs (vcK xs (vcC xs p m) (vcP xs p) x.toNat).1 7,(vcK xs (vcC xs p m) (vcP xs p) x.toNat).2++[(vcC xs p m).getD (nxV xs (vcK xs (vcC xs p m) (vcP xs p) x.toNat).1 7).toNat 0]):=by rw [show (x+1).toNat=x.toNat+1 by omega]; rfl
  refine ⟨k1,cd1 b (cd1 ⟨by rw [intsL_len]; rfl,by rw [intsL_len]; omega⟩ ⟨_,by rw [List.drop_zero,intsL_at e1]; rfl,cd1 ⟨by rw [intsL_len,k2],by rw [intsL_len,k2,List.length_singleton]; omega,by rw [intsL_len,k2,List.length_singleton]; omega⟩ (cdI (by omega) ⟨x+1,⟨by omega,by omega⟩,by simp only [vcI]; omega,?_⟩)⟩)⟩
  rw [es]
  have e5:((intsL (vcK xs (vcC xs p m) (vcP xs p) x.toNat).2++[[AV.int .i64 ((vcC xs p m).getD (nxV xs (vcK xs (vcC xs p m) (vcP xs p) x.toNat).1 7).toNat 0)]]).length:Nat)=Int.toNat (x+1):=by rw [List.length_append,intsL_len,k2,List.length_singleton]; omega
  have e6:=intsL_app (vcK xs (vcC xs p m) (vcP xs p) x.toNat).2 ((vcC xs p m).getD (nxV xs (vcK xs (vcC xs p m) (vcP xs p) x.toNat).1 7).toNat 0)
  (repeat' (first | exact trivial | exact rfl | assumption | apply And.intro))
 ·have ex:x.toNat=n.toNat:=by omega
  refine cd1 (by rw [intsL_len,k2]) ?_
  rw [ex]
  (repeat' (first | exact trivial | exact rfl | assumption | apply And.intro))
theorem cvec_e (nxV:LL->Int->Int->Int) (nxA:LL->Int->Int->Int):cvec_T nxV nxA=(∀ (gl:Glob) (p n m:Int) (g:Bool) (xs:LL),ChsP xs p∧(1≤n∧n≤1000)∧0≤m∧m≤1000000000->fnH Tryz.prog { glob:=gl,spec:=lk [],specH:=lk [(48,cnext_s),(99,(csgn_s nxV nxA))],shape:=[35],nowf:=true } { nt:=39,drop:=drp [(1,33553408),(4,100663296),(5,805306368),(6,273804165120),(7,274877906944)],fr:=1000,kp:=[0],emp:=λ id=>cond (Nat.beq id 3) [(8,800,3,1)] [] } (invs [(4,vcI xs g p n m)]) 6 Tryz.f47 [.ptr 0 0,.int .i64 n,.int .i64 m] [.cells [.sl 1 g xs,.int .i64 p]] (.sl 1 false (intsL (vcL xs p n m))) [.cells [.sl 1 g xs,.int .i64 (vcA xs p n m)]]):=by kernel_rfl
def cvec_v:=Eq.mp (cvec_e ..) (cvec_P)
theorem cvec_ok (gl:Glob):HOK Tryz.prog gl 47 cvec_s:=by
 refine ⟨fok Tryz.func47 (by kernel_rfl) (by kernel_rfl),?_⟩
 intro xs bs pre r bs2 h hp
 unfold cvec_s at h
 split at h
 ·cases h
  exact fnH_sound tyNil (by exact specOK rfl rfl trivial ⟨(cnext_ok gl),(csgn_ok gl),trivial⟩) (by kernel_rfl) Tryz.func47 (cvec_v gl _ _ _ _ _ hp)
 ·cases h
def itS {σ:Type} (g:Int->σ->σ) (h:Int):Nat->Int->σ->σ
 | 0,_,s=>s
 | k+1,b,s=>itS g h k (b+h) (g b s)
def uptS {σ:Type} (g:Int->σ->σ) (h b e:Int) (s:σ):σ:=itS g h ((e - b) / h+1).toNat b s
structure H12 (h:Int):Prop where
 eq:h=840∨h=420
theorem uptS_lt {σ:Type} {g:Int->σ->σ} {h b e:Int} {s:σ} (hh:H12 h) (q:b≤e):uptS g h b e s=uptS g h (b+h) e (g b s):=by
 unfold uptS
 rw [show ((e - b) / h+1).toNat=((e - (b+h)) / h+1).toNat+1 by rcases hh.eq with rfl | rfl <;> omega]; rfl
theorem uptS_ge {σ:Type} {g:Int->σ->σ} {h b e:Int} {s:σ} (hh:H12 h) (q:e < b):uptS g h b e s=s:=by
 unfold uptS
 rw [show ((e - b) / h+1).toNat=0 by rcases hh.eq with rfl | rfl <;> omega]; rfl
def rqC (f a b:Int):Bool:=(decide (0 < a)&&decide (0 < b)&&decide (0 < 840 - a - b))||isN f a b (840 - a - b)
def rqS (f a b:Int) (s:LL):LL:=if rqC f a b=true then s++[rowP f a b (840 - a - b)] else s
def rqB (h f a b:Int) (s:LL):LL:=uptS (rqS f a) h b (840 - a) s
def rqA (h f a:Int) (s:LL):LL:=uptS (λ a s=>rqB h f a 0 s) h a 840 s
def rqF (h f:Int) (s:LL):LL:=upto (λ f s=>rqA h f 0 s) f 20 s
def rqG (n:Int):LL:=rqF (hN n) 0 []
def rcount_s:Sp
 | [.int .i64 n]=>some (1≤n∧n≤2,.int .i64 (10*n*n+2))
 | _=>none
def rcount_T:Prop :=
 ∀ (gl:Glob) (n:Int),1≤n∧n≤(2:Int)->IR9 n->bif decide (n < (1:Int)) then (0:Int)=(10:Int)*n*n+(2:Int) else bif decide (8 < n) then (0:Int)=(10:Int)*n*n+(2:Int) else bif decide (rng IntKind.i64 ((10:Int)*n)) then bif decide (rng IntKind.i64 ((10:Int)*n*n)) then bif decide (rng IntKind.i64 ((10:Int)*n*n+(2:Int))) then (10:Int)*n*n+(2:Int)=(10:Int)*n*n+(2:Int) else False else False else False
theorem rcount_P:rcount_T:=by
 unfold rcount_T
 intro gl n ⟨n1,n2⟩
 intros
 rcases (show n=1∨n=2 by omega) with rfl | rfl <;> exact cd0 (by decide) (cd0 (by decide) (cdI (by decide) (cdI (by decide) (cdI (by decide) rfl))))
theorem rcount_e:rcount_T=(∀ (gl:Glob) (n:Int),1≤n∧n≤2->fnK Tryz.prog { glob:=gl,spec:=lk [],specH:=lk [],nowf:=true } { nt:=14,drop:=drp [(1,248),(3,15872)] } (λ _ _=>none) 6 Tryz.f97 [.int .i64 n] (.int .i64 (10*n*n+2))):=by kernel_rfl
def rcount_v:=Eq.mp (rcount_e ..) (rcount_P)
theorem rcount_ok (gl:Glob):SOK Tryz.prog gl 97 rcount_s:=by
 refine ⟨fok Tryz.func97 (by kernel_rfl) (by kernel_rfl),?_⟩
 intro xs pre r h hp
 unfold rcount_s at h
 split at h
 ·cases h
  exact fnK_sound tyNil (by exact specOK rfl rfl trivial trivial) (by kernel_rfl) Tryz.func97 rfl (rcount_v gl _ hp)
 ·cases h
structure RqX (h:Int) (fin:LL) (x:Int × LL):Prop where
 lo:0≤x.1
 hi:x.1≤20
 go:rqF h x.1 x.2=fin
 sm:(x.2.length:Int)≤12*x.1
structure RqY (h f:Int) (fin:LL) (x:Int × LL):Prop where
 fl:0≤f∧f < 20
 lo:0≤x.1
 hi:x.1≤840+h
 go:rqF h (f+1) (rqA h f x.1 x.2)=fin
 sm:(x.2.length:Int)≤12*f+3*(x.1 / 420)
structure RqZ (h f a:Int) (fin:LL) (x:Int × LL):Prop where
 fl:0≤f∧f < 20
 al:0≤a∧a≤840
 lo:0≤x.1
 hi:x.1≤840 - a+h
 go:rqF h (f+1) (rqA h f (a+h) (rqB h f a x.1 x.2))=fin
 sm:(x.2.length:Int)≤12*f+3*(a / 420)+x.1 / 420
def rq6 (n:Int):LInv:=⟨Int × LL,λ x=>⟨[(4,.int .i64 (hN n)),(5,.rw 500 4 x.2.length),(6,.int .i64 x.1)],[(500,.row 27 4 x.2)]⟩,RqX (hN n) (rqG n),λ x=>(20 - x.1).toNat,none⟩
def rq9 (n f:Int):LInv:=⟨Int × LL,λ x=>⟨[(4,.int .i64 (hN n)),(5,.rw 500 4 x.2.length),(6,.int .i64 f),(7,.int .i64 x.1)],[(500,.row 27 4 x.2)]⟩,RqY (hN n) f (rqG n),λ x=>(840+hN n - x.1).toNat,none⟩
def rq12 (n f a:Int):LInv:=⟨Int × LL,λ x=>⟨[(4,.int .i64 (hN n)),(5,.rw 500 4 x.2.length),(6,.int .i64 f),(7,.int .i64 a),(8,.int .i64 x.1)],[(500,.row 27 4 x.2)]⟩,RqZ (hN n) f a (rqG n),λ x=>(840 - a+hN n - x.1).toNat,none⟩
def rnodes_s (isN:Int->Int->Int->Int->Bool):Sp
 | [.int .i64 n]=>some (1≤n∧n≤2,.tup [.sl 4 false (rqG n),.int .i64 0])
 | _=>none
def rnodes_T (isN:Int->Int->Int->Int->Bool) (nrm:NrT) (vld:Int->Int->Int->Int->Bool):Prop :=
 ∀ (gl:Glob) (n:Int),1≤n∧n≤(2:Int)->IR9 n->(1≤n∧n≤(2:Int))∧bif decide ((10:Int)*n*n+(2:Int)=(0:Int)) then rqG n=[]∧(1:Int)=(0:Int)∧True else bif decide ¬n=(0:Int) then bif decide (rng IntKind.i64 (Int.tdiv 840 n)) then (∃ x,RqX (hN n) (rqG n) x∧(Int.tdiv 840 n=hN n∧(0:Nat)=List.length x.2∧(0:Int)=x.1∧True)∧[]=x.2∧True)∧∀ (x1:Int × LL),RqX (hN n) (rqG n) x1->bif decide (x1.1 < (20:Int)) then (∃ x_1,RqY (hN n) x1.1 (rqG n) x_1∧(hN n=hN n∧List.length x1.2=List.length x_1.2∧x1.1=x1.1∧(0:Int)=x_1.1∧True)∧x1.2=x_1.2∧True)∧∀ (x2:Int × LL),RqY (hN n) x1.1 (rqG n) x2->bif decide (x2.1≤(840:Int)) then (∃ x_2,RqZ (hN n) x1.1 x2.1 (rqG n) x_2∧(hN n=hN n∧List.length x2.2=List.length x_2.2∧x1.1=x1.1∧x2.1=x2.1∧(0:Int)=x_2.1∧True)∧x2.2=x_2.2∧True)∧∀ (x3:Int × LL),RqZ (hN n) x1.1 x2.1 (rqG n) x3->bif decide (rng IntKind.i64 (x2.1+x3.1)) then bif decide (x2.1+x3.1≤(840:Int)) then bif decide (rng IntKind.i64 ((840:Int) - x2.1)) then bif decide (rng IntKind.i64 ((840:Int) - x2.1 - x3.1)) then bif decide (0 < x2.1) then bif decide (0 < x3.1) then bif decide ((0:Int) < (840:Int) - x2.1 - x3.1) then bif decide (List.length x3.2=List.length x3.2∧List.length x3.2+[[I6 x1.1,I6 x2.1,I6 x3.1,I6 ((840:Int) - x2.1 - x3.1)]].length≤(9223372036854775807:Nat)∧(List.length x3.2+[[I6 x1.1,I6 x2.1,I6 x3.1,I6 ((840:Int) - x2.1 - x3.1)]].length)*(32:Nat)≤(140737488355328:Nat)) then bif decide (rng IntKind.i64 (x3.1+hN n)) then ∃ y,RqZ (hN n) x1.1 x2.1 (rqG n) y∧(rq12 n x1.1 x2.1).m y < (rq12 n x1.1 x2.1).m x3∧(hN n=hN n∧(x3.2++[[I6 x1.1,I6 x2.1,I6 x3.1,I6 ((840:Int) - x2.1 - x3.1)]]).length=List.length y.2∧x1.1=x1.1∧x2.1=x2.1∧x3.1+hN n=y.1∧True)∧x3.2++[[I6 x1.1,I6 x2.1,I6 x3.1,I6 ((840:Int) - x2.1 - x3.1)]]=y.2∧True else False else False else True∧bif isN x1.1 x2.1 x3.1 ((840:Int) - x2.1 - x3.1) then bif decide (List.length x3.2=List.length x3.2∧List.length x3.2+[[I6 x1.1,I6 x2.1,I6 x3.1,I6 ((840:Int) - x2.1 - x3.1)]].length≤(9223372036854775807:Nat)∧(List.length x3.2+[[I6 x1.1,I6 x2.1,I6 x3.1,I6 ((840:Int) - x2.1 - x3.1)]].length)*(32:Nat)≤(140737488355328:Nat)) then bif decide (rng IntKind.i64 (x3.1+hN n)) then ∃ y,RqZ (hN n) x1.1 x2.1 (rqG n) y∧(rq12 n x1.1 x2.1).m y < (rq12 n x1.1 x2.1).m x3∧(hN n=hN n∧(x3.2++[[I6 x1.1,I6 x2.1,I6 x3.1,I6 ((840:Int) - x2.1 - x3.1)]]).length=List.length y.2∧x1.1=x1.1∧x2.1=x2.1∧x3.1+hN n=y.1∧True)∧x3.2++[[I6 x1.1,I6 x2.1,I6 x3.1,I6 ((840:Int) - x2.1 - x3.1)]]=y.2∧True else False else False else bif decide (rng IntKind.i64 (x3.1+hN n)) then ∃ y,RqZ (hN n) x1.1 x2.1 (rqG n) y∧(rq12 n x1.1 x2.1).m y < (rq12 n x1.1 x2.1).m x3∧(hN n=hN n∧List.length x3.2=List.length y.2∧x1.1=x1.1∧x2.1=x2.1∧x3.1+hN n=y.1∧True)∧x3.2=y.2∧True else False else True∧bif isN x1.1 x2.1 x3.1 ((840:Int) - x2.1 - x3.1) then bif decide (List.length x3.2=List.length x3.2∧List.length x3.2+[[I6 x1.1,I6 x2.1,I6 x3.1,I6 ((840:Int) - x2.1 - x3.1)]].length≤(9223372036854775807:Nat)∧(List.length x3.2+[[I6 x1.1,I6 x2.1,I6 x3.1,I6 ((840:Int) - x2.1 - x3.1)]].length)*(32:Nat)≤(140737488355328:Nat)) then bif decide (rng IntKind.i64 (x3.1+hN n)) then ∃ y,RqZ (hN n) x1.1 x2.1 (rqG n) y∧(rq12 n x1.1 x2.1).m y < (rq12 n x1.1 x2.1).m x3∧(hN n=hN n∧(x3.2++[[I6 x1.1,I6 x2.1,I6 x3.1,I6 ((840:Int) - x2.1 - x3.1)]]).length=List.length y.2∧x1.1=x1.1∧x2.1=x2.1∧x3.1+hN n=y.1∧True)∧x3.2++[[I6 x1.1,I6 x2.1,I6 x3.1,I6 ((840:Int) - x2.1 - x3.1)]]=y.2∧True else False else False else bif decide (rng IntKind.i64 (x3.1+hN n)) then ∃ y,RqZ (hN n) x1.1 x2.1 (rqG n) y∧(rq12 n x1.1 x2.1).m y < (rq12 n x1.1 x2.1).m x3∧(hN n=hN n∧List.length x3.2=List.length y.2∧x1.1=x1.1∧x2.1=x2.1∧x3.1+hN n=y.1∧True)∧x3.2=y.2∧True else False else True∧bif isN x1.1 x2.1 x3.1 ((840:Int) - x2.1 - x3.1) then bif decide (List.length x3.2=List.length x3.2∧List.length x3.2+[[I6 x1.1,I6 x2.1,I6 x3.1,I6 ((840:Int) - x2.1 - x3.1)]].length≤(9223372036854775807:Nat)∧(List.length x3.2+[[I6 x1.1,I6 x2.1,I6 x3.1,I6 ((840:Int) - x2.1 - x3.1)]].length)*(32:Nat)≤(140737488355328:Nat)) then bif decide (rng IntKind.i64 (x3.1+hN n)) then ∃ y,RqZ (hN n) x1.1 x2.1 (rqG n) y∧(rq12 n x1.1 x2.1).m y < (rq12 n x1.1 x2.1).m x3∧(hN n=hN n∧(x3.2++[[I6 x1.1,I6 x2.1,I6 x3.1,I6 ((840:Int) - x2.1 - x3.1)]]).length=List.length y.2∧x1.1=x1.1∧x2.1=x2.1∧x3.1+hN n=y.1∧True)∧x3.2++[[I6 x1.1,I6 x2.1,I6 x3.1,I6 ((840:Int) - x2.1 - x3.1)]]=y.2∧True else False else False else bif decide (rng IntKind.i64 (x3.1+hN n)) then ∃ y,RqZ (hN n) x1.1 x2.1 (rqG n) y∧(rq12 n x1.1 x2.1).m y < (rq12 n x1.1 x2.1).m x3∧(hN n=hN n∧List.length x3.2=List.length y.2∧x1.1=x1.1∧x2.1=x2.1∧x3.1+hN n=y.1∧True)∧x3.2=y.2∧True else False else False else False else bif decide (rng IntKind.i64 (x2.1+hN n)) then ∃ y,RqY (hN n) x1.1 (rqG n) y∧(rq9 n x1.1).m y < (rq9 n x1.1).m x2∧(hN n=hN n∧List.length x3.2=List.length y.2∧x1.1=x1.1∧x2.1+hN n=y.1∧True)∧x3.2=y.2∧True else False else False else bif decide (rng IntKind.i64 (x1.1+(1:Int))) then ∃ y,RqX (hN n) (rqG n) y∧((λ x1=>rq6 n) 0).m y < ((λ x1=>rq6 n) 0).m x1∧(hN n=hN n∧List.length x2.2=List.length y.2∧x1.1+(1:Int)=y.1∧True)∧x2.2=y.2∧True else False else bif decide (List.length x1.2=List.length x1.2) then (True∧x1.2=rqG n)∧(0:Int)=(0:Int)∧True else False else False else False
theorem rnodes_P:rnodes_T isN nrm vld:=by
 unfold rnodes_T
 delta I6
 intro gl n ⟨n1,n2⟩
 intros
 have hh:H12 (hN n):=by rcases (show n=1∨n=2 by omega) with rfl | rfl <;> exact ⟨by decide⟩
 have hn:¬ 10*n*n+2=0:=by rcases (show n=1∨n=2 by omega) with rfl | rfl <;> decide
 have eh:Int.tdiv 840 n=hN n:=rfl
 have hb:=hh.eq
 refine ⟨⟨n1,n2⟩,cd0 hn (cd1 (by omega) (cdI (by rw [eh]; omega) ⟨⟨(0,[]),⟨by decide,by decide,rfl,by decide⟩,by repeat' first|exact trivial|exact rfl|assumption|apply And.intro⟩,?_⟩))⟩
 rintro ⟨f,s⟩ ⟨f0,f20,fg,fs⟩
 simp only at f0 f20 fg fs
 refine csp (λ q=>⟨⟨(0,s),⟨⟨f0,q⟩,Int.le_refl 0,by simp only; omega,(upto_lt q).symm.trans fg,by simp only; omega⟩,by repeat' first|exact trivial|exact rfl|assumption|apply And.intro⟩,?_⟩) (λ q=>?_)
 ·clear fg fs
  simp only at q
  rintro ⟨a,s⟩ ⟨_,a0,a1,ag,as_⟩
  simp only at a0 a1 ag as_
  refine csp (λ qA=>⟨⟨(0,s),⟨⟨f0,q⟩,⟨a0,qA⟩,Int.le_refl 0,by simp only at qA ⊢; omega,(show rqA (hN n) f a s=rqA (hN n) f (a+hN n) (rqB (hN n) f a 0 s) from uptS_lt hh qA) ▸ ag,by simp only; omega⟩,by repeat' first|exact trivial|exact rfl|assumption|apply And.intro⟩,?_⟩) (λ qA=>?_)
  ·clear ag as_
   simp only at qA
   rintro ⟨b,s⟩ ⟨_,_,b0,b1,bg,bs⟩
   simp only at b0 b1 bg bs
   refine cdI (by simp only; omega) (csp (λ qB=>?_) (λ qB=>?_))
   ·simp only at qB
    rw [show rqB (hN n) f a b s=rqB (hN n) f a (b+hN n) (rqS f a b s) from uptS_lt hh (by omega)] at bg
    refine cdI (by simp only; omega) (cdI (by simp only; omega) ?_)
    exact csp (λ ha=>csp (λ hb2=>csp (λ hc=>(cd1 ⟨rfl,by rw [List.length_singleton]; simp only; omega,by rw [List.length_singleton]; simp only; omega⟩ (cdI (by simp only; omega) ⟨(b+hN n,s++[rowP f a b (840 - a - b)]),⟨⟨f0,q⟩,⟨a0,qA⟩,by simp only; omega,by simp only; omega,by rw [← (show rqS f a b s=s++[rowP f a b (840 - a - b)] from if_pos (show rqC f a b=true by unfold rqC; rw [decide_eq_true ha,decide_eq_true hb2,decide_eq_true hc]; rfl))]; exact bg,by simp only [List.length_append,List.length_singleton]; omega⟩,by simp only [rq12]; omega,by repeat' first|exact trivial|exact rfl|assumption|apply And.intro⟩))) (λ hc=>⟨trivial,csplit (λ q3=>(cd1 ⟨rfl,by rw [List.length_singleton]; simp only; omega,by rw [List.length_singleton]; simp only; omega⟩ (cdI (by simp only; omega) ⟨(b+hN n,s++[rowP f a b (840 - a - b)]),⟨⟨f0,q⟩,⟨a0,qA⟩,by simp only; omega,by simp only; omega,by rw [← (show rqS f a b s=s++[rowP f a b (840 - a - b)] from if_pos (show rqC f a b=true by unfold rqC; rw [q3,Bool.or_true]))]; exact bg,by simp only [List.length_append,List.length_singleton]; omega⟩,by simp only [rq12]; omega,by repeat' first|exact trivial|exact rfl|assumption|apply And.intro⟩))) (λ q3=>(cdI (by simp only; omega) ⟨(b+hN n,s),⟨⟨f0,q⟩,⟨a0,qA⟩,by simp only; omega,by simp only; omega,by rw [← (show rqS f a b s=s from if_neg (by rw [show rqC f a b=false by unfold rqC; rw [decide_eq_true ha,decide_eq_true hb2,decide_eq_false hc,q3]; rfl]; decide))]; exact bg,by simp only; omega⟩,by simp only [rq12]; omega,by repeat' first|exact trivial|exact rfl|assumption|apply And.intro⟩))⟩)) (λ hb2=>⟨trivial,csplit (λ q3=>(cd1 ⟨rfl,by rw [List.length_singleton]; simp only; omega,by rw [List.length_singleton]; simp only; omega⟩ (cdI (by simp only; omega) ⟨(b+hN n,s++[rowP f a b (840 - a - b)]),⟨⟨f0,q⟩,⟨a0,qA⟩,by simp only; omega,by simp only; omega,by rw [← (show rqS f a b s=s++[rowP f a b (840 - a - b)] from if_pos (show rqC f a b=true by unfold rqC; rw [q3,Bool.or_true]))]; exact bg,by simp only [List.length_append,List.length_singleton]; omega⟩,by simp only [rq12]; omega,by repeat' first|exact trivial|exact rfl|assumption|apply And.intro⟩))) (λ q3=>(cdI (by simp only; omega) ⟨(b+hN n,s),⟨⟨f0,q⟩,⟨a0,qA⟩,by simp only; omega,by simp only; omega,by rw [← (show rqS f a b s=s from if_neg (by rw [show rqC f a b=false by unfold rqC; rw [decide_eq_true ha,decide_eq_false hb2,q3]; rfl]; decide))]; exact bg,by simp only; omega⟩,by simp only [rq12]; omega,by repeat' first|exact trivial|exact rfl|assumption|apply And.intro⟩))⟩)) (λ ha=>⟨trivial,csplit (λ q3=>(cd1 ⟨rfl,by rw [List.length_singleton]; simp only; omega,by rw [List.length_singleton]; simp only; omega⟩ (cdI (by simp only; omega) ⟨(b+hN n,s++[rowP f a b (840 - a - b)]),⟨⟨f0,q⟩,⟨a0,qA⟩,by simp only; omega,by simp only; omega,by rw [← (show rqS f a b s=s++[rowP f a b (840 - a - b)] from if_pos (show rqC f a b=true by unfold rqC; rw [q3,Bool.or_true]))]; exact bg,by simp only [List.length_append,List.length_singleton]; omega⟩,by simp only [rq12]; omega,by repeat' first|exact trivial|exact rfl|assumption|apply And.intro⟩))) (λ q3=>(cdI (by simp only; omega) ⟨(b+hN n,s),⟨⟨f0,q⟩,⟨a0,qA⟩,by simp only; omega,by simp only; omega,by rw [← (show rqS f a b s=s from if_neg (by rw [show rqC f a b=false by unfold rqC; rw [decide_eq_false ha,q3]; rfl]; decide))]; exact bg,by simp only; omega⟩,by simp only [rq12]; omega,by repeat' first|exact trivial|exact rfl|assumption|apply And.intro⟩))⟩)
   ·simp only at qB
    rw [show rqB (hN n) f a b s=s from uptS_ge hh (by omega)] at bg
    exact cdI (by simp only; omega) ⟨(a+hN n,s),⟨⟨f0,q⟩,by simp only; omega,by simp only; omega,bg,by simp only; omega⟩,by simp only [rq9]; omega,by repeat' first|exact trivial|exact rfl|assumption|apply And.intro⟩
  ·simp only at qA
   rw [show rqA (hN n) f a s=s from uptS_ge hh (by omega)] at ag
   exact cdI (by simp only; omega) ⟨(f+1,s),⟨by simp only; omega,by simp only; omega,ag,by simp only; omega⟩,by simp only [rq6]; omega,by repeat' first|exact trivial|exact rfl|assumption|apply And.intro⟩
 ·simp only at q
  rw [show rqF (hN n) f s=s from upto_ge (by omega)] at fg
  subst fg
  exact cd1 rfl (by repeat' first|exact trivial|exact rfl|assumption|apply And.intro)
theorem rnodes_e (isN:Int->Int->Int->Int->Bool) (nrm:NrT) (vld:Int->Int->Int->Int->Bool):rnodes_T isN nrm vld=(∀ (gl:Glob) (n:Int),1≤n∧n≤2->fnK Tryz.prog { glob:=gl,spec:=lk [(97,rcount_s),(210,(rIsN_s nrm vld isN))],specH:=lk [],nowf:=true } { nt:=59,drop:=drp [(1,3072),(3,24576),(6,32768),(7,393216),(9,524288),(10,14680064),(12,117440512),(13,1879048192),(14,547608330240),(15,9006649498927104),(16,270215977642229760),(17,288230376151711744)],tys:=[27],emp:=λ id=>cond (Nat.beq id 5) [(5,500,27,4)] [] } (λ id st=>inv2 12 6 7 (rq12 n) id st (invsN [(6,6,λ _=>rq6 n),(9,6,rq9 n)] id st)) 6 Tryz.f186 [.int .i64 n] (.tup [.sl 4 false (rqG n),.int .i64 0])):=by kernel_rfl
def rnodes_v:=Eq.mp (rnodes_e ..) (rnodes_P)
theorem rnodes_ok (gl:Glob):SOK Tryz.prog gl 186 (rnodes_s isN):=by
 refine ⟨fok Tryz.func186 (by kernel_rfl) (by kernel_rfl),?_⟩
 intro xs pre r h hp
 unfold rnodes_s at h
 split at h
 ·cases h
  exact fnK_sound (tyOf (by kernel_rfl)) (by exact specOK rfl rfl ⟨(rcount_ok gl),(rIsN_ok gl),trivial⟩ trivial) (by kernel_rfl) Tryz.func186 rfl (rnodes_v gl _ hp)
 ·cases h
def ltP (r s:List AV):Bool:=if nI r 0≠nI s 0 then decide (nI r 0 < nI s 0) else if nI r 1≠nI s 1 then decide (nI r 1 < nI s 1) else decide (nI r 2 < nI s 2)
def rless_s:Sp
 | [.agg [.int .i64 a,.int .i64 b,.int .i64 c,.int .i64 d],.agg [.int .i64 e,.int .i64 f,.int .i64 g,.int .i64 h]]=>some (True,.bool (ltP [.int .i64 a,.int .i64 b,.int .i64 c,.int .i64 d] [.int .i64 e,.int .i64 f,.int .i64 g,.int .i64 h]))
 | _=>none
def rless_T:Prop :=
 ∀ (gl:Glob) (a b c d e f g h:Int),(IR9 a)∧(IR9 b)∧(IR9 c)∧(IR9 d)∧True->(IR9 e)∧(IR9 f)∧(IR9 g)∧(IR9 h)∧True->bif decide ¬a=e then decide (a < e)=ltP [I6 a,I6 b,I6 c,I6 d] [I6 e,I6 f,I6 g,I6 h] else bif decide ¬b=f then decide (b < f)=ltP [I6 a,I6 b,I6 c,I6 d] [I6 e,I6 f,I6 g,I6 h] else decide (c < g)=ltP [I6 a,I6 b,I6 c,I6 d] [I6 e,I6 f,I6 g,I6 h]
theorem rless_P:rless_T:=by
 unfold rless_T
 delta I6
 intro gl a b c d e f g h
 intros
 have E:ltP [.int .i64 a,.int .i64 b,.int .i64 c,.int .i64 d] [.int .i64 e,.int .i64 f,.int .i64 g,.int .i64 h]=if a≠e then decide (a < e) else if b≠f then decide (b < f) else decide (c < g):=rfl
 rw [E]
 refine csp (λ q=>?_) (λ q=>csp (λ q2=>?_) (λ q2=>?_))
 ·rw [if_pos q]
 ·rw [if_neg q,if_pos q2]
 ·rw [if_neg q,if_neg q2]
theorem rless_e:rless_T=(∀ (gl:Glob) (a b c d e f g h:Int),fnK Tryz.prog { glob:=gl,spec:=lk [],specH:=lk [],nowf:=true } { nt:=30,drop:=drp [(1,480),(2,31744),(3,491520),(4,32505856),(5,1040187392)] } (λ _ _=>none) 6 Tryz.f218 [.agg [.int .i64 a,.int .i64 b,.int .i64 c,.int .i64 d],.agg [.int .i64 e,.int .i64 f,.int .i64 g,.int .i64 h]] (.bool (ltP [.int .i64 a,.int .i64 b,.int .i64 c,.int .i64 d] [.int .i64 e,.int .i64 f,.int .i64 g,.int .i64 h]))):=by kernel_rfl
def rless_v:=Eq.mp (rless_e ..) (rless_P)
theorem rless_ok (gl:Glob):SOK Tryz.prog gl 218 rless_s:=by
 refine ⟨fok Tryz.func218 (by kernel_rfl) (by kernel_rfl),?_⟩
 intro xs pre r h hp
 unfold rless_s at h
 split at h
 ·cases h
  exact fnK_sound tyNil (by exact specOK rfl rfl trivial trivial) (by kernel_rfl) Tryz.func218 rfl (rless_v gl _ _ _ _ _ _ _ _)
 ·cases h
def fbB (l:LL) (p:List AV):Nat->Int->Int->Int
 | 0,lo,_=>lo
 | k+1,lo,hi=>if lo < hi then (if ltP (l.getD ((lo+hi) / 2).toNat []) p=true then fbB l p k ((lo+hi) / 2+1) hi else fbB l p k lo ((lo+hi) / 2)) else lo
def fbI (l:LL) (p:List AV):Int:=fbB l p l.length 0 l.length
def sameP (r p:List AV):Bool:=decide (nI r 0=nI p 0)&&(decide (nI r 1=nI p 1)&&(decide (nI r 2=nI p 2)&&(decide (nI r 3=nI p 3)&&true)))
def fbG (l:LL) (p:List AV):Int:=if fbI l p < l.length∧sameP (l.getD (fbI l p).toNat []) p=true then fbI l p else -1
structure PlcP (l:LL):Prop where
 el:∀ r ∈ l,r=rowP (nI r 0) (nI r 1) (nI r 2) (nI r 3)
 ln:l.length≤1000
structure FbP (l:LL) (p:List AV) (x:Int × Int):Prop where
 lo:0≤x.1
 le:x.1≤x.2
 hi:x.2≤l.length
 go:∃ k,x.2 - x.1≤(k:Nat)∧fbB l p k x.1 x.2=fbI l p
def fbL (g:Bool) (l:LL) (a b c d:Int):LInv:=⟨Int × Int,λ x=>⟨[(0,.sl 4 g l),(3,.ptr 3 0),(4,.int .i64 0),(5,.int .i64 x.1),(6,.int .i64 x.2)],[(3,.cells [.int .i64 a,.int .i64 b,.int .i64 c,.int .i64 d])]⟩,FbP l (rowP a b c d),λ x=>(x.2 - x.1).toNat,none⟩
def rfind_s (ltP:List AV->List AV->Bool):Sp
 | [.sl 4 g l,.agg [.int .i64 a,.int .i64 b,.int .i64 c,.int .i64 d]]=>some (PlcP l,.int .i64 (fbG l (rowP a b c d)))
 | _=>none
def rfind_T (ltP:List AV->List AV->Bool):Prop :=
 ∀ (gl:Glob) (a b c d:Int) (g:Bool) (l:LL),PlcP l->True->(IR9 a)∧(IR9 b)∧(IR9 c)∧(IR9 d)∧True->(∃ x,FbP l (rowP a b c d) x∧(((bif g then g=true else True)∧l=l)∧(0:Nat)=(0:Nat)∧(0:Int)=(0:Int)∧(0:Int)=x.1∧(↑l.length:Int)=x.2∧True)∧(a=a∧b=b∧c=c∧d=d∧True)∧True)∧∀ (x1:Int × Int),FbP l (rowP a b c d) x1->bif decide (x1.1 < x1.2) then bif decide (rng IntKind.i64 (x1.1+x1.2)) then bif decide (rng IntKind.i64 ((x1.1+x1.2).tdiv 2)) then bif decide ((0:Int)≤(x1.1+x1.2).tdiv 2∧(x1.1+x1.2).tdiv 2 < (↑l.length:Int)) then ∃ n n_1 n_2 n_3,List.take [I6 n,I6 n_1,I6 n_2,I6 n_3].length (l.getD ((x1.1+x1.2).tdiv 2).toNat [])=[I6 n,I6 n_1,I6 n_2,I6 n_3]∧True∧bif YtgbbmadjdaphnaaGreatDoor.ltP [I6 n,I6 n_1,I6 n_2,I6 n_3] [I6 a,I6 b,I6 c,I6 d] then bif decide (rng IntKind.i64 ((x1.1+x1.2).tdiv 2+(1:Int))) then ∃ y,FbP l (rowP a b c d) y∧(fbL g l a b c d).m y < (fbL g l a b c d).m x1∧(((bif g then g=true else True)∧l=l)∧(0:Nat)=(0:Nat)∧(0:Int)=(0:Int)∧(x1.1+x1.2).tdiv 2+(1:Int)=y.1∧x1.2=y.2∧True)∧(a=a∧b=b∧c=c∧d=d∧True)∧True else False else ∃ y,FbP l (rowP a b c d) y∧(fbL g l a b c d).m y < (fbL g l a b c d).m x1∧(((bif g then g=true else True)∧l=l)∧(0:Nat)=(0:Nat)∧(0:Int)=(0:Int)∧x1.1=y.1∧(x1.1+x1.2).tdiv 2=y.2∧True)∧(a=a∧b=b∧c=c∧d=d∧True)∧True else False else False else False else bif decide (x1.1 < (↑l.length:Int)) then bif decide (0≤x1.1∧x1.1 < (↑l.length:Int)) then ∃ n n_1 n_2 n_3,List.take [I6 n,I6 n_1,I6 n_2,I6 n_3].length (l.getD x1.1.toNat [])=[I6 n,I6 n_1,I6 n_2,I6 n_3]∧bif decide (n=a)&&(decide (n_1=b)&&(decide (n_2=c)&&(decide (n_3=d)&&true))) then x1.1=fbG l (rowP a b c d) else (-1:Int)=fbG l (rowP a b c d) else False else (-1:Int)=fbG l (rowP a b c d)
theorem rfind_P:rfind_T ltP:=by
 unfold rfind_T
 delta I6
 intro gl a b c d g l hP
 intros
 have g1:cond g (g=true) True:=gg g
 have hl:=hP.ln
 refine ⟨⟨(0,l.length),⟨Int.le_refl 0,by simp only; omega,Int.le_refl _,l.length,by simp only; omega,rfl⟩,by repeat' first|exact trivial|exact rfl|assumption|apply And.intro⟩,?_⟩
 rintro ⟨lo,hi⟩ ⟨h0,h1,h2,k,hk,go⟩
 simp only at h0 h1 h2 hk go
 have row:∀ i:Int,0≤i->i < l.length->l.getD i.toNat []=rowP (nI (l.getD i.toNat []) 0) (nI (l.getD i.toNat []) 1) (nI (l.getD i.toNat []) 2) (nI (l.getD i.toNat []) 3):=λ i i0 i1=>by
  refine hP.el _ ?_
  rw [List.getD_eq_getElem?_getD,List.getElem?_eq_getElem (by omega)]
  exact List.getElem_mem _
 have et:(lo+hi).tdiv 2=(lo+hi) / 2:=Int.tdiv_eq_ediv_of_nonneg (by omega)
 rw [et]
 refine csp (λ q=>?_) (λ q=>?_)
 ·simp only at q
  have er:=row ((lo+hi) / 2) (by omega) (by omega)
  have er2:=congrArg (List.take 4) er
  obtain ⟨k',rfl⟩:∃ k',k=k'+1:=⟨k - 1,by omega⟩
  rw [fbB,if_pos q] at go
  refine cdI (by omega) (cdI (by omega) (cd1 (by omega) ⟨_,_,_,_,er2,trivial,?_⟩))
  rw [er] at go
  refine csplit (λ q2=>?_) (λ q2=>?_)
  ·have q2:ltP (rowP (nI (l.getD ((lo+hi) / 2).toNat []) 0) (nI (l.getD ((lo+hi) / 2).toNat []) 1) (nI (l.getD ((lo+hi) / 2).toNat []) 2) (nI (l.getD ((lo+hi) / 2).toNat []) 3)) (rowP a b c d)=true:=q2
   rw [if_pos q2] at go
   exact cdI (by omega) ⟨((lo+hi) / 2+1,hi),⟨by simp only; omega,by simp only; omega,by simp only; omega,k',by simp only; omega,go⟩,by simp only [fbL]; omega,by repeat' first|exact trivial|exact rfl|assumption|apply And.intro⟩
  ·have q2:ltP (rowP (nI (l.getD ((lo+hi) / 2).toNat []) 0) (nI (l.getD ((lo+hi) / 2).toNat []) 1) (nI (l.getD ((lo+hi) / 2).toNat []) 2) (nI (l.getD ((lo+hi) / 2).toNat []) 3)) (rowP a b c d)=false:=q2
   rw [if_neg (by rw [q2]; decide)] at go
   exact ⟨(lo,(lo+hi) / 2),⟨by simp only; omega,by simp only; omega,by simp only; omega,k',by simp only; omega,go⟩,by simp only [fbL]; omega,by repeat' first|exact trivial|exact rfl|assumption|apply And.intro⟩
 ·simp only at q
  obtain rfl:lo=hi:=by omega
  have go:lo=fbI l (rowP a b c d):=by
   rw [← go]
   cases k with
   | zero=>rfl
   | succ k=>rw [fbB,if_neg q]
  unfold fbG
  rw [← go]
  refine csp (λ q2=>?_) (λ q2=>?_)
  ·simp only at q2
   have er:=row lo h0 q2
   have er2:=congrArg (List.take 4) er
   refine cd1 (by simp only; omega) ⟨_,_,_,_,er2,?_⟩
   refine csplit (λ q3=>?_) (λ q3=>?_)
   ·rw [if_pos ⟨q2,q3⟩]
   ·rw [if_neg]
    rintro ⟨_,e⟩
    have q3:sameP (l.getD lo.toNat []) (rowP a b c d)=false:=q3
    rw [q3] at e; cases e
  ·rw [if_neg (λ e=>q2 e.1)]
theorem rfind_e (ltP:List AV->List AV->Bool):rfind_T ltP=(∀ (gl:Glob) (a b c d:Int) (g:Bool) (l:LL),PlcP l->fnK Tryz.prog { glob:=gl,spec:=lk [(218,rless_s)],specH:=lk [],shape:=[20,34],nowf:=true } { nt:=39,drop:=drp [(1,768),(2,3072),(3,122880),(4,4063232),(5,25165824),(6,33554432),(7,137371844608),(8,274877906944)],tys:=[27] } (invs [(2,fbL g l a b c d)]) 6 Tryz.f211 [.sl 4 g l,.agg [.int .i64 a,.int .i64 b,.int .i64 c,.int .i64 d]] (.int .i64 (fbG l (rowP a b c d)))):=by kernel_rfl
def rfind_v:=Eq.mp (rfind_e ..) (rfind_P)
theorem rfind_ok (gl:Glob):SOK Tryz.prog gl 211 (rfind_s ltP):=by
 refine ⟨fok Tryz.func211 (by kernel_rfl) (by kernel_rfl),?_⟩
 intro xs pre r h hp
 unfold rfind_s at h
 split at h
 ·cases h
  exact fnK_sound (tyOf (by kernel_rfl)) (by exact specOK rfl rfl ⟨(rless_ok gl),trivial⟩ trivial) (by kernel_rfl) Tryz.func211 rfl (rfind_v gl _ _ _ _ _ _ hp)
 ·cases h
def atG (l:LL) (f a b:Int):Int:=fbG l (rowP (nrm f a b (840 - a - b)).1 (nrm f a b (840 - a - b)).2.1 (nrm f a b (840 - a - b)).2.2.1 (nrm f a b (840 - a - b)).2.2.2)
def rat_s (nrm:NrT) (vld:Int->Int->Int->Int->Bool) (fbG:LL->List AV->Int):Sp
 | [.sl 4 g l,.int .i64 f,.int .i64 a,.int .i64 b]=>some (PlcP l∧(0≤a∧a≤2000)∧0≤b∧b≤2000,.int .i64 (atG l f a b))
 | _=>none
def rat_T (nrm:NrT) (vld:Int->Int->Int->Int->Bool) (fbG:LL->List AV->Int) (adr:Int->Int->Int->Int->LL) (ltP:List AV->List AV->Bool):Prop :=
 ∀ (gl:Glob) (f a b:Int) (g:Bool) (l:LL),PlcP l∧(0≤a∧a≤(2000:Int))∧0≤b∧b≤(2000:Int)->True->IR9 f->IR9 a->IR9 b->bif decide (rng IntKind.i64 ((840:Int) - a)) then bif decide (rng IntKind.i64 ((840:Int) - a - b)) then True∧PlcP l∧YtgbbmadjdaphnaaGreatDoor.fbG l (rowP (nrm f a b ((840:Int) - a - b)).1 (nrm f a b ((840:Int) - a - b)).2.1 (nrm f a b ((840:Int) - a - b)).2.2.1 (nrm f a b ((840:Int) - a - b)).2.2.2)=atG l f a b else False else False
theorem rat_P:rat_T nrm vld fbG adr ltP:=by
 unfold rat_T
 intro gl f a b g l ⟨hP,ha,hb⟩
 intros
 exact cdI (by omega) (cdI (by omega) ⟨trivial,hP,rfl⟩)
theorem rat_e (nrm:NrT) (vld:Int->Int->Int->Int->Bool) (fbG:LL->List AV->Int) (adr:Int->Int->Int->Int->LL) (ltP:List AV->List AV->Bool):rat_T nrm vld fbG adr ltP=(∀ (gl:Glob) (f a b:Int) (g:Bool) (l:LL),PlcP l∧(0≤a∧a≤2000)∧0≤b∧b≤2000->fnK Tryz.prog { glob:=gl,spec:=lk [(31,(rNormal_s vld adr nrm)),(211,(rfind_s ltP))],specH:=lk [],nowf:=true } { nt:=26,drop:=drp [(1,8386560),(2,58720256)] } (λ _ _=>none) 6 Tryz.f189 [.sl 4 g l,.int .i64 f,.int .i64 a,.int .i64 b] (.int .i64 (atG l f a b))):=by kernel_rfl
def rat_v:=Eq.mp (rat_e ..) (rat_P)
theorem rat_ok (gl:Glob):SOK Tryz.prog gl 189 (rat_s nrm vld fbG):=by
 refine ⟨fok Tryz.func189 (by kernel_rfl) (by kernel_rfl),?_⟩
 intro xs pre r h hp
 unfold rat_s at h
 split at h
 ·cases h
  exact fnK_sound tyNil (by exact specOK rfl rfl ⟨(rNormal_ok gl),(rfind_ok gl),trivial⟩ trivial) (by kernel_rfl) Tryz.func189 rfl (rat_v gl _ _ _ _ _ hp)
 ·cases h
def rqE (a b c:Int):List AV:=[.int .i64 (min (min a b) c),.int .i64 (a+b+c - min (min a b) c - max (max a b) c),.int .i64 (max (max a b) c)]
def rcell_s:Sp
 | [.int .i64 a,.int .i64 b,.int .i64 c]=>some ((-1≤a∧a≤2000)∧(-1≤b∧b≤2000)∧-1≤c∧c≤2000,.agg (rqE a b c))
 | _=>none
def rcell_T:Prop :=
 ∀ (gl:Glob) (a b c:Int),((-1:Int)≤a∧a≤(2000:Int))∧((-1:Int)≤b∧b≤(2000:Int))∧(-1:Int)≤c∧c≤(2000:Int)->IR9 a->IR9 b->IR9 c->bif decide (rng IntKind.i64 (a+b)) then bif decide (rng IntKind.i64 (a+b+c)) then bif decide (rng IntKind.i64 (a+b+c - min (min a b) c)) then bif decide (rng IntKind.i64 (a+b+c - min (min a b) c - max (max a b) c)) then min (min a b) c=min (min a b) c∧a+b+c - min (min a b) c - max (max a b) c=a+b+c - min (min a b) c - max (max a b) c∧max (max a b) c=max (max a b) c∧True else False else False else False else False
theorem rcell_P:rcell_T:=by
 unfold rcell_T
 intro gl a b c ⟨ha,hb,hc⟩
 intros
 exact cdI (by omega) (cdI (by omega) (cdI (by omega) (cdI (by omega) (by repeat' first|exact trivial|exact rfl|assumption|apply And.intro))))
theorem rcell_e:rcell_T=(∀ (gl:Glob) (a b c:Int),(-1≤a∧a≤2000)∧(-1≤b∧b≤2000)∧-1≤c∧c≤2000->fnK Tryz.prog { glob:=gl,spec:=lk [],specH:=lk [],nowf:=true } { nt:=31,drop:=drp [(1,2147483520)] } (λ _ _=>none) 6 Tryz.f188 [.int .i64 a,.int .i64 b,.int .i64 c] (.agg (rqE a b c))):=by kernel_rfl
def rcell_v:=Eq.mp (rcell_e ..) (rcell_P)
theorem rcell_ok (gl:Glob):SOK Tryz.prog gl 188 rcell_s:=by
 refine ⟨fok Tryz.func188 (by kernel_rfl) (by kernel_rfl),?_⟩
 intro xs pre r h hp
 unfold rcell_s at h
 split at h
 ·cases h
  exact fnK_sound tyNil (by exact specOK rfl rfl trivial trivial) (by kernel_rfl) Tryz.func188 rfl (rcell_v gl _ _ _ hp)
 ·cases h
def ltC (r s:List AV):Bool:=decide (nI r 0 < nI s 0)||(decide (nI r 0=nI s 0)&&(decide (nI r 1 < nI s 1)||(decide (nI r 1=nI s 1)&&decide (nI r 2 < nI s 2))))
def inK (l:LL) (x:List AV):Nat->Nat
 | 0=>0
 | k+1=>if ltC x (l.getD k [])=true then inK l x k else k+1
def inG (l:LL) (x:List AV):LL:=l.take (inK l x l.length)++[x]++l.drop (inK l x l.length)
def row3 (a b c:Int):List AV:=[.int .i64 a,.int .i64 b,.int .i64 c]
structure InsP (l:LL) (m:Nat):Prop where
 el:∀ r ∈ l,r=row3 (nI r 0) (nI r 1) (nI r 2)
 ln:l.length≤1000
 eq:m=l.length
structure InS (l:LL) (x:List AV) (k:Int):Prop where
 lo:0≤k
 hi:k≤l.length
 go:inK l x k.toNat=inK l x l.length
def inI (l:LL) (a b c:Int):LInv:=⟨Int,λ k=>⟨[(0,.rw 0 3 l.length),(3,.ptr 1003 0),(4,.nils),(5,.int .i64 k)],[(0,.row 162 3 l),(1003,.cells [.int .i64 a,.int .i64 b,.int .i64 c])]⟩,InS l (row3 a b c),λ k=>k.toNat,none⟩
structure InE (l:LL) (x:List AV) (k:Int):Prop where
 lo:0≤k
 hi:k≤l.length
 eq:inK l x l.length=k.toNat
def inJ (l:LL) (a b c:Int):LInv:=⟨Int,λ k=>⟨[(0,.rw 0 3 l.length),(3,.ptr 1003 0),(4,.nils),(5,.int .i64 k)],[(0,.row 162 3 l),(1003,.cells [.int .i64 a,.int .i64 b,.int .i64 c])]⟩,InE l (row3 a b c),λ _=>0,none⟩
theorem ins_len (l:LL) (z:List AV) (k:Nat) (hk:k≤l.length):(List.take (k+1) (l++[z])++List.take ((List.take (l.length+1 - k) (List.drop k (l++[z]))).length.min (l.length+1 - (k+1))) (List.take (l.length+1 - k) (List.drop k (l++[z])))++List.drop (k+1+(List.take (l.length+1 - k) (List.drop k (l++[z]))).length.min (l.length+1 - (k+1))) (l++[z])).length=l.length+1:=by
 have e1:(List.take (l.length+1 - k) (List.drop k (l++[z]))).length=l.length+1 - k:=by rw [List.length_take,List.length_drop,List.length_append,List.length_singleton]; omega
 rw [e1,show (l.length+1 - k).min (l.length+1 - (k+1))=l.length - k from by show min _ _=_; omega]
 simp only [List.length_append,List.length_take,List.length_drop,List.length_singleton]
 omega
theorem ins_eq (l:LL) (x z:List AV) (hz:z.length=x.length) (hr:∀ r ∈ l,r.length=x.length) (k:Nat) (hk:k≤l.length):setEl (List.take (k+1) (l++[z])++List.take ((List.take (l.length+1 - k) (List.drop k (l++[z]))).length.min (l.length+1 - (k+1))) (List.take (l.length+1 - k) (List.drop k (l++[z])))++List.drop (k+1+(List.take (l.length+1 - k) (List.drop k (l++[z]))).length.min (l.length+1 - (k+1))) (l++[z])) k 0 x=l.take k++[x]++l.drop k:=by
 have e1:(List.take (l.length+1 - k) (List.drop k (l++[z]))).length=l.length+1 - k:=by rw [List.length_take,List.length_drop,List.length_append,List.length_singleton]; omega
 rw [e1,show (l.length+1 - k).min (l.length+1 - (k+1))=l.length - k from by show min _ _=_; omega]
 have e2:List.drop (k+1+(l.length - k)) (l++[z])=[]:=List.drop_eq_nil_of_le (by rw [List.length_append,List.length_singleton]; omega)
 have e3:List.take (l.length - k) (List.take (l.length+1 - k) (List.drop k (l++[z])))=List.drop k l:=by
  rw [List.take_take,Nat.min_eq_left (by omega),List.drop_append_of_le_length hk,List.take_append_of_le_length (by rw [List.length_drop]; omega),List.take_of_length_le (by rw [List.length_drop]; omega)]
 have hkl:k < (l++[z]).length:=by rw [List.length_append,List.length_singleton]; omega
 have e4:List.take (k+1) (l++[z])=List.take k l++[(l++[z])[k]]:=by
  rw [List.take_succ_eq_append_getElem hkl,List.take_append_of_le_length hk]
 have hy:((l++[z])[k]).length=x.length:=by
  have hm:=List.getElem_mem hkl
  rcases List.mem_append.1 hm with h | h
  ·exact hr _ h
  ·rw [List.mem_singleton] at h; rw [h]; exact hz
 rw [e2,e3,e4,List.append_nil]
 generalize (l++[z])[k]=y at hy
 have hlt:(List.take k l).length=k:=by rw [List.length_take]; omega
 unfold setEl
 have e5:(List.take k l++[y]++List.drop k l).getD k []=y:=by
  rw [List.append_assoc,List.getD_eq_getElem?_getD,List.getElem?_append_right (by omega),hlt,Nat.sub_self]; rfl
 rw [e5,List.append_assoc,List.set_append_right _ _ (by omega),hlt,Nat.sub_self]
 have e6:spl y 0 x=x:=by unfold spl; rw [List.take_zero,List.nil_append,Nat.zero_add,List.drop_eq_nil_of_le (by omega),List.append_nil]
 rw [e6,List.append_assoc]; rfl
def rins_s:SpH
 | [.rw 0 3 m,.agg [.int .i64 a,.int .i64 b,.int .i64 c]],[.row 162 3 l]=>some (InsP l m,.rw 0 3 (m+1),[.row 162 3 (inG l (row3 a b c))])
 | _,_=>none
abbrev rins_1 (l:LL):=(l++[[AV.int IntKind.i64 0,AV.int IntKind.i64 0,AV.int IntKind.i64 0]])
abbrev rins_2 (x2:Int) (l:LL):=(List.take ((0:Nat)+(x2+(1:Int)).toNat) (rins_1 l)++List.take ((List.take ((↑(rins_1 l).length:Int).toNat - x2.toNat) (List.drop ((0:Nat)+x2.toNat) (rins_1 l))).length.min ((↑(rins_1 l).length:Int).toNat - (x2+(1:Int)).toNat)) (List.take ((↑(rins_1 l).length:Int).toNat - x2.toNat) (List.drop ((0:Nat)+x2.toNat) (rins_1 l)))++List.drop ((0:Nat)+(x2+(1:Int)).toNat+(List.take ((↑(rins_1 l).length:Int).toNat - x2.toNat) (List.drop ((0:Nat)+x2.toNat) (rins_1 l))).length.min ((↑(rins_1 l).length:Int).toNat - (x2+(1:Int)).toNat)) (rins_1 l))
abbrev rins_3 (x1:Int) (l:LL):=(0≤x1 - (1:Int)∧x1 - (1:Int) < (↑l.length:Int))
abbrev rins_4 (l:LL) (x1:Int):=(l.length=l.length∧(x1 - (1:Int)).toNat < l.length)
abbrev rins_5 (x1:Int):=(rng IntKind.i64 (x1 - (1:Int)))
abbrev rins_6 (l:LL):=((0:Int)≤(↑(rins_1 l).length:Int)∧(↑(rins_1 l).length:Int)≤(↑(rins_1 l).length:Int))
def rins_T:Prop :=
 ∀ (gl:Glob) (m:Nat) (a b c:Int) (l:LL),InsP l m->True->(IR9 a)∧(IR9 b)∧(IR9 c)∧True->((∃ x,InS l (row3 a b c) x∧(m=l.length∧(0:Nat)=(0:Nat)∧True∧(↑m:Int)=x∧True)∧l=l∧(a=a∧b=b∧c=c∧True)∧True)∧∀ (x1:Int),InS l (row3 a b c) x1->bif decide (0 < x1) then bif decide (rins_5 x1) then bif decide (rins_3 x1 l) then bif decide (rins_4 l x1) then ∃ n,List.take [I6 n].length (List.drop 0 (l.getD (x1 - (1:Int)).toNat []))=[I6 n]∧bif decide (a < n) then bif decide (rins_5 x1) then ∃ y,InS l (row3 a b c) y∧(inI l a b c).m y < (inI l a b c).m x1∧(l.length=l.length∧(0:Nat)=(0:Nat)∧True∧x1 - (1:Int)=y∧True)∧l=l∧(a=a∧b=b∧c=c∧True)∧True else False else bif decide (rins_5 x1) then bif decide (rins_3 x1 l) then bif decide (rins_4 l x1) then ∃ n,List.take [I6 n].length (List.drop 0 (l.getD (x1 - (1:Int)).toNat []))=[I6 n]∧bif decide (a=n) then bif decide (rins_5 x1) then bif decide (rins_3 x1 l) then bif decide (rins_4 l x1) then ∃ n,List.take [I6 n].length (List.drop 1 (l.getD (x1 - (1:Int)).toNat []))=[I6 n]∧bif decide (b < n) then bif decide (rins_5 x1) then ∃ y,InS l (row3 a b c) y∧(inI l a b c).m y < (inI l a b c).m x1∧(l.length=l.length∧(0:Nat)=(0:Nat)∧True∧x1 - (1:Int)=y∧True)∧l=l∧(a=a∧b=b∧c=c∧True)∧True else False else bif decide (rins_5 x1) then bif decide (rins_3 x1 l) then bif decide (rins_4 l x1) then ∃ n,List.take [I6 n].length (List.drop 1 (l.getD (x1 - (1:Int)).toNat []))=[I6 n]∧bif decide (b=n) then bif decide (rins_5 x1) then bif decide (rins_3 x1 l) then bif decide (rins_4 l x1) then ∃ n,List.take [I6 n].length (List.drop 2 (l.getD (x1 - (1:Int)).toNat []))=[I6 n]∧bif decide (c < n) then bif decide (rins_5 x1) then ∃ y,InS l (row3 a b c) y∧(inI l a b c).m y < (inI l a b c).m x1∧(l.length=l.length∧(0:Nat)=(0:Nat)∧True∧x1 - (1:Int)=y∧True)∧l=l∧(a=a∧b=b∧c=c∧True)∧True else False else ∃ x_1,InE l (row3 a b c) x_1∧(l.length=l.length∧(0:Nat)=(0:Nat)∧True∧x1=x_1∧True)∧l=l∧(a=a∧b=b∧c=c∧True)∧True else False else False else False else ∃ x_1,InE l (row3 a b c) x_1∧(l.length=l.length∧(0:Nat)=(0:Nat)∧True∧x1=x_1∧True)∧l=l∧(a=a∧b=b∧c=c∧True)∧True else False else False else False else False else False else False else ∃ x_1,InE l (row3 a b c) x_1∧(l.length=l.length∧(0:Nat)=(0:Nat)∧True∧x1=x_1∧True)∧l=l∧(a=a∧b=b∧c=c∧True)∧True else False else False else False else False else False else False else ∃ x_1,InE l (row3 a b c) x_1∧(l.length=l.length∧(0:Nat)=(0:Nat)∧True∧x1=x_1∧True)∧l=l∧(a=a∧b=b∧c=c∧True)∧True)∧∀ (x2:Int),InE l (row3 a b c) x2->bif decide (l.length=l.length∧l.length+(1:Nat)≤(9223372036854775807:Nat)∧(l.length+(1:Nat))*(24:Nat)≤(140737488355328:Nat)) then bif decide (rng IntKind.i64 (x2+(1:Int))) then bif decide (rins_6 l) then bif decide (0≤x2+(1:Int)∧x2+(1:Int)≤(↑(rins_1 l).length:Int)) then bif decide (rins_6 l) then bif decide (0≤x2∧x2≤(↑(rins_1 l).length:Int)) then bif decide ((rins_1 l).length=(rins_1 l).length∧(0:Nat)+x2.toNat+((↑(rins_1 l).length:Int).toNat - x2.toNat)≤(rins_1 l).length) then bif decide ((rins_1 l).length=(rins_1 l).length∧(0:Nat)+(x2+(1:Int)).toNat+((↑(rins_1 l).length:Int).toNat - (x2+(1:Int)).toNat)≤(rins_1 l).length) then bif decide (0≤x2∧x2 < (↑(rins_1 l).length:Int)) then bif decide ((rins_1 l).length=(rins_2 x2 l).length∧x2.toNat < (rins_2 x2 l).length) then (rins_1 l).length=m+(1:Nat)∧setEl (rins_2 x2 l) x2.toNat 0 [I6 a,I6 b,I6 c]=inG l (row3 a b c)∧True else False else False else False else False else False else False else False else False else False else False
theorem rins_P:rins_T:=by
 unfold rins_T
 delta rins_1 rins_2 rins_3 rins_4 rins_5 rins_6 I6
 intro gl m a b c l hP
 intros
 have hl:=hP.ln
 have hm:=hP.eq
 subst hm
 have row:∀ i:Int,0≤i->i < l.length->l.getD i.toNat []=row3 (nI (l.getD i.toNat []) 0) (nI (l.getD i.toNat []) 1) (nI (l.getD i.toNat []) 2):=λ i i0 i1=>by
  refine hP.el _ ?_
  rw [List.getD_eq_getElem?_getD,List.getElem?_eq_getElem (by omega)]
  exact List.getElem_mem _
 refine ⟨⟨⟨(l.length:Int),⟨by omega,Int.le_refl _,by rw [Int.toNat_natCast]⟩,by repeat' first|exact trivial|exact rfl|assumption|apply And.intro⟩,?_⟩,?_⟩
 ·rintro x ⟨x0,xl,go⟩
  have fin:inK l (row3 a b c) x.toNat=x.toNat->InE l (row3 a b c) x:=λ e=>⟨x0,xl,by rw [← go,e]⟩
  refine csp (λ q=>?_) (λ q=>⟨x,fin (by rw [show x.toNat=0 by omega]; rfl),by repeat' first|exact trivial|exact rfl|assumption|apply And.intro⟩)
  obtain ⟨k,hk⟩:∃ k,x.toNat=k+1:=⟨x.toNat - 1,by omega⟩
  have hk':(x - 1).toNat=k:=by omega
  have er:=row (x - 1) (by omega) (by omega)
  rw [hk'] at er
  rw [hk']
  have e0:List.take 1 (List.drop 0 (l.getD k []))=[AV.int .i64 (nI (l.getD k []) 0)]:=congrArg (λ r=>List.take 1 (List.drop 0 r)) er
  have e1:List.take 1 (List.drop 1 (l.getD k []))=[AV.int .i64 (nI (l.getD k []) 1)]:=congrArg (λ r=>List.take 1 (List.drop 1 r)) er
  have e2:List.take 1 (List.drop 2 (l.getD k []))=[AV.int .i64 (nI (l.getD k []) 2)]:=congrArg (λ r=>List.take 1 (List.drop 2 r)) er
  have hK:inK l (row3 a b c) (k+1)=if ltC (row3 a b c) (l.getD k [])=true then inK l (row3 a b c) k else k+1:=rfl
  have hT:ltC (row3 a b c) (l.getD k [])=(decide (a < nI (l.getD k []) 0)||(decide (a=nI (l.getD k []) 0)&&(decide (b < nI (l.getD k []) 1)||(decide (b=nI (l.getD k []) 1)&&decide (c < nI (l.getD k []) 2))))):=rfl
  have on:ltC (row3 a b c) (l.getD k [])=true->InS l (row3 a b c) (x - 1):=λ e=>⟨by omega,by omega,by rw [hk',← go,hk,hK,if_pos e]⟩
  have off:ltC (row3 a b c) (l.getD k [])=false->InE l (row3 a b c) x:=λ e=>fin (by rw [hk,hK,if_neg (by rw [e]; decide)])
  generalize l.getD k []=r at *
  refine cdI (by omega) (cd1 (by omega) (cd1 (by omega) ⟨_,e0,csp (λ qa=>?_) (λ qa=>?_)⟩))
  ·exact cdI (by omega) ⟨x - 1,on (by rw [hT,decide_eq_true qa]; rfl),by simp only [inI]; omega,by repeat' first|exact trivial|exact rfl|assumption|apply And.intro⟩
  ·refine cdI (by omega) (cd1 (by omega) (cd1 (by omega) ⟨_,e0,csp (λ qb=>?_) (λ qb=>?_)⟩))
   ·refine cdI (by omega) (cd1 (by omega) (cd1 (by omega) ⟨_,e1,csp (λ qc=>?_) (λ qc=>?_)⟩))
    ·exact cdI (by omega) ⟨x - 1,on (by rw [hT,decide_eq_true qb,decide_eq_true qc]; simp),by simp only [inI]; omega,by repeat' first|exact trivial|exact rfl|assumption|apply And.intro⟩
    ·refine cdI (by omega) (cd1 (by omega) (cd1 (by omega) ⟨_,e1,csp (λ qd=>?_) (λ qd=>?_)⟩))
     ·refine cdI (by omega) (cd1 (by omega) (cd1 (by omega) ⟨_,e2,csp (λ qe=>?_) (λ qe=>?_)⟩))
      ·exact cdI (by omega) ⟨x - 1,on (by rw [hT,decide_eq_true qb,decide_eq_true qd,decide_eq_true qe]; simp),by simp only [inI]; omega,by repeat' first|exact trivial|exact rfl|assumption|apply And.intro⟩
      ·exact ⟨x,off (by rw [hT,decide_eq_false qa,decide_eq_false qc,decide_eq_false qe]; simp),by repeat' first|exact trivial|exact rfl|assumption|apply And.intro⟩
     ·exact ⟨x,off (by rw [hT,decide_eq_false qa,decide_eq_false qc,decide_eq_false qd]; simp),by repeat' first|exact trivial|exact rfl|assumption|apply And.intro⟩
   ·exact ⟨x,off (by rw [hT,decide_eq_false qa,decide_eq_false qb]; rfl),by repeat' first|exact trivial|exact rfl|assumption|apply And.intro⟩
 ·rintro x ⟨x0,xl,eq⟩
  obtain ⟨k,rfl⟩:∃ k:Nat,x=(k:Int):=⟨x.toNat,by omega⟩
  rw [Int.toNat_natCast] at eq
  have hk:k≤l.length:=by omega
  have hL:(l++[[AV.int .i64 0,.int .i64 0,.int .i64 0]]).length=l.length+1:=by rw [List.length_append]; rfl
  have hx1:((k:Int)+1).toNat=k+1:=by omega
  have ec:=ins_eq l [.int .i64 a,.int .i64 b,.int .i64 c] [.int .i64 0,.int .i64 0,.int .i64 0] rfl (λ r hr=>by rw [hP.el r hr]; rfl) k hk
  have el:=ins_len l [.int .i64 0,.int .i64 0,.int .i64 0] k hk
  rw [hL,hx1,Int.toNat_natCast,Int.toNat_natCast,Nat.zero_add,Nat.zero_add]
  refine cd1 ⟨rfl,by omega,by omega⟩ (cdI (by omega) (cd1 (by omega) (cd1 (by omega) (cd1 (by omega) (cd1 (by omega) (cd1 ⟨rfl,by omega⟩ (cd1 ⟨rfl,by omega⟩ (cd1 (by omega) ?_))))))))
  refine cd1 ⟨el.symm,by rw [el]; omega⟩ ⟨rfl,?_,trivial⟩
  rw [ec]
  unfold inG
  rw [eq]
  rfl
theorem rins_e:rins_T=(∀ (gl:Glob) (m:Nat) (a b c:Int) (l:LL),InsP l m->fnH Tryz.prog { glob:=gl,spec:=lk [],specH:=lk [],shape:=[18,28,38,48,58],nowf:=true } { nt:=84,drop:=drp [(1,192),(2,18446744073709551360),(3,110680464442257309696),(4,2213609288845146193920),(5,299870271662222471069696),(6,9066943647109718810296320),(7,9671406556917033397649408)],fr:=1000,kp:=[0],own:=true } (invs [(2,inI l a b c),(100004,inJ l a b c)]) 6 Tryz.f187 [.rw 0 3 m,.agg [.int .i64 a,.int .i64 b,.int .i64 c]] [.row 162 3 l] (.rw 0 3 (m+1)) [.row 162 3 (inG l (row3 a b c))]):=by kernel_rfl
def rins_v:=Eq.mp (rins_e ..) (rins_P)
theorem rins_ok (gl:Glob):HOK Tryz.prog gl 187 rins_s:=by
 refine ⟨fok Tryz.func187 (by kernel_rfl) (by kernel_rfl),?_⟩
 intro xs bs pre r bs2 h hp
 unfold rins_s at h
 split at h
 ·cases h
  exact fnH_sound tyNil (by exact specOK rfl rfl trivial trivial) (by kernel_rfl) Tryz.func187 (rins_v gl _ _ _ _ _ hp)
 ·cases h
theorem fbB_lo (l:LL) (p:List AV):∀ (k:Nat) (lo hi:Int),lo≤fbB l p k lo hi
 | 0,lo,hi=>Int.le_refl _
 | k+1,lo,hi=>by
  rw [fbB]
  split
  ·split
   ·have:=fbB_lo l p k ((lo+hi) / 2+1) hi; omega
   ·exact fbB_lo l p k lo _
  ·exact Int.le_refl _
theorem fbG_b (l:LL) (p:List AV):-1≤fbG l p∧(fbG l p:Int)≤l.length:=by
 have h0:=fbB_lo l p l.length 0 l.length
 unfold fbG
 split
 ·rename_i q; exact ⟨by unfold fbI; omega,by omega⟩
 ·omega
def rc1 (l:LL) (h f a b:Int):List AV:=rqE (atG l f (a+h) b) (atG l f a (b+h)) (atG l f a b)
def rc2 (l:LL) (h f a b:Int):List AV:=rqE (atG l f a (b+h)) (atG l f (a+h) b) (atG l f (a+h) (b+h))
def rcS (l:LL) (h f a b:Int) (s:LL):LL:=if a+b≤840 - 2*h then inG (inG s (rc1 l h f a b)) (rc2 l h f a b) else inG s (rc1 l h f a b)
def rcB (l:LL) (h f a b:Int) (s:LL):LL:=uptS (rcS l h f a) h b (840 - h - a) s
def rcA (l:LL) (h f a:Int) (s:LL):LL:=uptS (λ a s=>rcB l h f a 0 s) h a (840 - h) s
def rcF (l:LL) (h f:Int) (s:LL):LL:=upto (λ f s=>rcA l h f 0 s) f 20 s
def rcG (n:Int):LL:=rcF (rqG n) (hN n) 0 []
structure Ce3 (s:LL):Prop where
 el:∀ r ∈ s,r=row3 (nI r 0) (nI r 1) (nI r 2)
theorem Ce3.ins {s:LL} (h:Ce3 s) (a b c:Int):Ce3 (inG s (rqE a b c)):=⟨λ r hr=>by
 simp only [inG,List.mem_append,List.mem_singleton] at hr
 rcases hr with (hr | rfl) | hr
 ·exact h.el r (List.mem_of_mem_take hr)
 ·rfl
 ·exact h.el r (List.mem_of_mem_drop hr)⟩
theorem inK_le (l:LL) (x:List AV):∀ k,inK l x k≤k
 | 0=>Nat.le_refl _
 | k+1=>by
  rw [inK]
  split
  ·have:=inK_le l x k; omega
  ·exact Nat.le_refl _
theorem inG_len (l:LL) (x:List AV):(inG l x).length=l.length+1:=by
 have:=inK_le l x l.length
 simp only [inG,List.length_append,List.length_take,List.length_drop,List.length_singleton]; omega
structure RcX (l:LL) (h:Int) (fin:LL) (x:Int × LL):Prop where
 lo:0≤x.1
 hi:x.1≤20
 go:rcF l h x.1 x.2=fin
 sm:(x.2.length:Int)≤24*x.1
 ok:Ce3 x.2
structure RcY (l:LL) (h f:Int) (fin:LL) (x:Int × LL):Prop where
 fl:0≤f∧f < 20
 lo:0≤x.1
 hi:x.1≤840
 go:rcF l h (f+1) (rcA l h f x.1 x.2)=fin
 sm:(x.2.length:Int)≤24*f+6*(x.1 / 420)
 ok:Ce3 x.2
structure RcZ (l:LL) (h f a:Int) (fin:LL) (x:Int × LL):Prop where
 fl:0≤f∧f < 20
 al:0≤a∧a≤840 - h
 lo:0≤x.1
 hi:x.1≤840 - a
 go:rcF l h (f+1) (rcA l h f (a+h) (rcB l h f a x.1 x.2))=fin
 sm:(x.2.length:Int)≤24*f+6*(a / 420)+2*(x.1 / 420)
 ok:Ce3 x.2
def rc7 (n:Int):LInv:=⟨Int × LL,λ x=>⟨[(4,.sl 4 false (rqG n)),(6,.int .i64 (hN n)),(7,.rw 700 3 x.2.length),(8,.int .i64 x.1)],[(700,.row 162 3 x.2)]⟩,RcX (rqG n) (hN n) (rcG n),λ x=>(20 - x.1).toNat,none⟩
def rc10 (n f:Int):LInv:=⟨Int × LL,λ x=>⟨[(4,.sl 4 false (rqG n)),(6,.int .i64 (hN n)),(7,.rw 700 3 x.2.length),(8,.int .i64 f),(9,.int .i64 x.1)],[(700,.row 162 3 x.2)]⟩,RcY (rqG n) (hN n) f (rcG n),λ x=>(840 - x.1).toNat,none⟩
def rc13 (n f a:Int):LInv:=⟨Int × LL,λ x=>⟨[(4,.sl 4 false (rqG n)),(6,.int .i64 (hN n)),(7,.rw 700 3 x.2.length),(8,.int .i64 f),(9,.int .i64 a),(10,.int .i64 x.1)],[(700,.row 162 3 x.2)]⟩,RcZ (rqG n) (hN n) f a (rcG n),λ x=>(840 - a - x.1).toNat,none⟩
def rcells_s:Sp
 | [.int .i64 n]=>some ((1≤n∧n≤2)∧PlcP (rqG n),.tup [.sl 3 false (rcG n),.int .i64 0])
 | _=>none
def rcells_T (isN:Int->Int->Int->Int->Bool) (nrm:NrT) (vld:Int->Int->Int->Int->Bool) (fbG:LL->List AV->Int):Prop :=
 ∀ (gl:Glob) (n:Int),(1≤n∧n≤(2:Int))∧PlcP (rqG n)->IR9 n->(1≤n∧n≤(2:Int))∧bif decide ¬n=(0:Int) then bif decide (rng IntKind.i64 (Int.tdiv 840 n)) then (∃ x,RcX (rqG n) (hN n) (rcG n) x∧((True∧rqG n=rqG n)∧Int.tdiv 840 n=hN n∧(0:Nat)=List.length x.2∧(0:Int)=x.1∧True)∧[]=x.2∧True)∧∀ (x:Int × LL),RcX (rqG n) (hN n) (rcG n) x->bif decide (x.1 < (20:Int)) then (∃ x_1,RcY (rqG n) (hN n) x.1 (rcG n) x_1∧((True∧rqG n=rqG n)∧hN n=hN n∧List.length x.2=List.length x_1.2∧x.1=x.1∧(0:Int)=x_1.1∧True)∧x.2=x_1.2∧True)∧∀ (x_1:Int × LL),RcY (rqG n) (hN n) x.1 (rcG n) x_1->bif decide (rng IntKind.i64 ((840:Int) - hN n)) then bif decide (x_1.1≤(840:Int) - hN n) then (∃ x_2,RcZ (rqG n) (hN n) x.1 x_1.1 (rcG n) x_2∧((True∧rqG n=rqG n)∧hN n=hN n∧List.length x_1.2=List.length x_2.2∧x.1=x.1∧x_1.1=x_1.1∧(0:Int)=x_2.1∧True)∧x_1.2=x_2.2∧True)∧∀ (x_2:Int × LL),RcZ (rqG n) (hN n) x.1 x_1.1 (rcG n) x_2->bif decide (rng IntKind.i64 (x_1.1+x_2.1)) then bif decide (rng IntKind.i64 ((840:Int) - hN n)) then bif decide (x_1.1+x_2.1≤(840:Int) - hN n) then bif decide (rng IntKind.i64 (x_1.1+hN n)) then (PlcP (rqG n)∧(0≤x_1.1+hN n∧x_1.1+hN n≤(2000:Int))∧0≤x_2.1∧x_2.1≤(2000:Int))∧bif decide (rng IntKind.i64 (x_2.1+hN n)) then (PlcP (rqG n)∧(0≤x_1.1∧x_1.1≤(2000:Int))∧0≤x_2.1+hN n∧x_2.1+hN n≤(2000:Int))∧(PlcP (rqG n)∧(0≤x_1.1∧x_1.1≤(2000:Int))∧0≤x_2.1∧x_2.1≤(2000:Int))∧(((-1:Int)≤atG (rqG n) x.1 (x_1.1+hN n) x_2.1∧atG (rqG n) x.1 (x_1.1+hN n) x_2.1≤(2000:Int))∧((-1:Int)≤atG (rqG n) x.1 x_1.1 (x_2.1+hN n)∧atG (rqG n) x.1 x_1.1 (x_2.1+hN n)≤(2000:Int))∧(-1:Int)≤atG (rqG n) x.1 x_1.1 x_2.1∧atG (rqG n) x.1 x_1.1 x_2.1≤(2000:Int))∧InsP x_2.2 (List.length x_2.2)∧bif decide (rng IntKind.i64 (x_1.1+x_2.1)) then bif decide (rng IntKind.i64 ((2:Int)*hN n)) then bif decide (rng IntKind.i64 ((840:Int) - (2:Int)*hN n)) then bif decide (x_1.1+x_2.1≤(840:Int) - (2:Int)*hN n) then bif decide (rng IntKind.i64 (x_2.1+hN n)) then (PlcP (rqG n)∧(0≤x_1.1∧x_1.1≤(2000:Int))∧0≤x_2.1+hN n∧x_2.1+hN n≤(2000:Int))∧bif decide (rng IntKind.i64 (x_1.1+hN n)) then (PlcP (rqG n)∧(0≤x_1.1+hN n∧x_1.1+hN n≤(2000:Int))∧0≤x_2.1∧x_2.1≤(2000:Int))∧bif decide (rng IntKind.i64 (x_1.1+hN n)) then bif decide (rng IntKind.i64 (x_2.1+hN n)) then (PlcP (rqG n)∧(0≤x_1.1+hN n∧x_1.1+hN n≤(2000:Int))∧0≤x_2.1+hN n∧x_2.1+hN n≤(2000:Int))∧(((-1:Int)≤atG (rqG n) x.1 x_1.1 (x_2.1+hN n)∧atG (rqG n) x.1 x_1.1 (x_2.1+hN n)≤(2000:Int))∧((-1:Int)≤atG (rqG n) x.1 (x_1.1+hN n) x_2.1∧atG (rqG n) x.1 (x_1.1+hN n) x_2.1≤(2000:Int))∧(-1:Int)≤atG (rqG n) x.1 (x_1.1+hN n) (x_2.1+hN n)∧atG (rqG n) x.1 (x_1.1+hN n) (x_2.1+hN n)≤(2000:Int))∧InsP (inG x_2.2 (row3 (min (min (atG (rqG n) x.1 (x_1.1+hN n) x_2.1) (atG (rqG n) x.1 x_1.1 (x_2.1+hN n))) (atG (rqG n) x.1 x_1.1 x_2.1)) (atG (rqG n) x.1 (x_1.1+hN n) x_2.1+atG (rqG n) x.1 x_1.1 (x_2.1+hN n)+atG (rqG n) x.1 x_1.1 x_2.1 - min (min (atG (rqG n) x.1 (x_1.1+hN n) x_2.1) (atG (rqG n) x.1 x_1.1 (x_2.1+hN n))) (atG (rqG n) x.1 x_1.1 x_2.1) - max (max (atG (rqG n) x.1 (x_1.1+hN n) x_2.1) (atG (rqG n) x.1 x_1.1 (x_2.1+hN n))) (atG (rqG n) x.1 x_1.1 x_2.1)) (max (max (atG (rqG n) x.1 (x_1.1+hN n) x_2.1) (atG (rqG n) x.1 x_1.1 (x_2.1+hN n))) (atG (rqG n) x.1 x_1.1 x_2.1)))) (List.length x_2.2+(1:Nat))∧bif decide (rng IntKind.i64 (x_2.1+hN n)) then ∃ y,RcZ (rqG n) (hN n) x.1 x_1.1 (rcG n) y∧(rc13 n x.1 x_1.1).m y < (rc13 n x.1 x_1.1).m x_2∧((True∧rqG n=rqG n)∧hN n=hN n∧List.length x_2.2+(1:Nat)+(1:Nat)=List.length y.2∧x.1=x.1∧x_1.1=x_1.1∧x_2.1+hN n=y.1∧True)∧inG (inG x_2.2 (row3 (min (min (atG (rqG n) x.1 (x_1.1+hN n) x_2.1) (atG (rqG n) x.1 x_1.1 (x_2.1+hN n))) (atG (rqG n) x.1 x_1.1 x_2.1)) (atG (rqG n) x.1 (x_1.1+hN n) x_2.1+atG (rqG n) x.1 x_1.1 (x_2.1+hN n)+atG (rqG n) x.1 x_1.1 x_2.1 - min (min (atG (rqG n) x.1 (x_1.1+hN n) x_2.1) (atG (rqG n) x.1 x_1.1 (x_2.1+hN n))) (atG (rqG n) x.1 x_1.1 x_2.1) - max (max (atG (rqG n) x.1 (x_1.1+hN n) x_2.1) (atG (rqG n) x.1 x_1.1 (x_2.1+hN n))) (atG (rqG n) x.1 x_1.1 x_2.1)) (max (max (atG (rqG n) x.1 (x_1.1+hN n) x_2.1) (atG (rqG n) x.1 x_1.1 (x_2.1+hN n))) (atG (rqG n) x.1 x_1.1 x_2.1)))) (row3 (min (min (atG (rqG n) x.1 x_1.1 (x_2.1+hN n)) (atG (rqG n) x.1 (x_1.1+hN n) x_2.1)) (atG (rqG n) x.1 (x_1.1+hN n) (x_2.1+hN n))) (atG (rqG n) x.1 x_1.1 (x_2.1+hN n)+atG (rqG n) x.1 (x_1.1+hN n) x_2.1+atG (rqG n) x.1 (x_1.1+hN n) (x_2.1+hN n) - min (min (atG (rqG n) x.1 x_1.1 (x_2.1+hN n)) (atG (rqG n) x.1 (x_1.1+hN n) x_2.1)) (atG (rqG n) x.1 (x_1.1+hN n) (x_2.1+hN n)) - max (max (atG (rqG n) x.1 x_1.1 (x_2.1+hN n)) (atG (rqG n) x.1 (x_1.1+hN n) x_2.1)) (atG (rqG n) x.1 (x_1.1+hN n) (x_2.1+hN n))) (max (max (atG (rqG n) x.1 x_1.1 (x_2.1+hN n)) (atG (rqG n) x.1 (x_1.1+hN n) x_2.1)) (atG (rqG n) x.1 (x_1.1+hN n) (x_2.1+hN n))))=y.2∧True else False else False else False else False else False else bif decide (rng IntKind.i64 (x_2.1+hN n)) then ∃ y,RcZ (rqG n) (hN n) x.1 x_1.1 (rcG n) y∧(rc13 n x.1 x_1.1).m y < (rc13 n x.1 x_1.1).m x_2∧((True∧rqG n=rqG n)∧hN n=hN n∧List.length x_2.2+(1:Nat)=List.length y.2∧x.1=x.1∧x_1.1=x_1.1∧x_2.1+hN n=y.1∧True)∧inG x_2.2 (row3 (min (min (atG (rqG n) x.1 (x_1.1+hN n) x_2.1) (atG (rqG n) x.1 x_1.1 (x_2.1+hN n))) (atG (rqG n) x.1 x_1.1 x_2.1)) (atG (rqG n) x.1 (x_1.1+hN n) x_2.1+atG (rqG n) x.1 x_1.1 (x_2.1+hN n)+atG (rqG n) x.1 x_1.1 x_2.1 - min (min (atG (rqG n) x.1 (x_1.1+hN n) x_2.1) (atG (rqG n) x.1 x_1.1 (x_2.1+hN n))) (atG (rqG n) x.1 x_1.1 x_2.1) - max (max (atG (rqG n) x.1 (x_1.1+hN n) x_2.1) (atG (rqG n) x.1 x_1.1 (x_2.1+hN n))) (atG (rqG n) x.1 x_1.1 x_2.1)) (max (max (atG (rqG n) x.1 (x_1.1+hN n) x_2.1) (atG (rqG n) x.1 x_1.1 (x_2.1+hN n))) (atG (rqG n) x.1 x_1.1 x_2.1)))=y.2∧True else False else False else False else False else False else False else bif decide (rng IntKind.i64 (x_1.1+hN n)) then ∃ y,RcY (rqG n) (hN n) x.1 (rcG n) y∧(rc10 n x.1).m y < (rc10 n x.1).m x_1∧((True∧rqG n=rqG n)∧hN n=hN n∧List.length x_2.2=List.length y.2∧x.1=x.1∧x_1.1+hN n=y.1∧True)∧x_2.2=y.2∧True else False else False else False else bif decide (rng IntKind.i64 (x.1+(1:Int))) then ∃ y,RcX (rqG n) (hN n) (rcG n) y∧((λ x=>rc7 n) 0).m y < ((λ x=>rc7 n) 0).m x∧((True∧rqG n=rqG n)∧hN n=hN n∧List.length x_1.2=List.length y.2∧x.1+(1:Int)=y.1∧True)∧x_1.2=y.2∧True else False else False else bif decide (List.length x.2=List.length x.2) then (True∧x.2=rcG n)∧(0:Int)=(0:Int)∧True else False else False else False
theorem rcells_P:rcells_T isN nrm vld fbG:=by
 unfold rcells_T
 intro gl n ⟨⟨n1,n2⟩,hR⟩
 intros
 have hh:H12 (hN n):=by rcases (show n=1∨n=2 by omega) with rfl | rfl <;> exact ⟨by decide⟩
 have eh:Int.tdiv 840 n=hN n:=rfl
 have hb:=hh.eq
 have hl:=hR.ln
 have at_:∀ f a b,-1≤atG (rqG n) f a b∧atG (rqG n) f a b≤2000:=λ f a b=>by have:=fbG_b (rqG n) (rowP (nrm f a b (840 - a - b)).1 (nrm f a b (840 - a - b)).2.1 (nrm f a b (840 - a - b)).2.2.1 (nrm f a b (840 - a - b)).2.2.2); unfold atG; omega
 refine ⟨⟨n1,n2⟩,cd1 (by omega) (cdI (by rw [eh]; omega) ⟨⟨(0,[]),⟨by decide,by decide,rfl,by decide,⟨λ r hr=>by cases hr⟩⟩,by repeat' first|exact trivial|exact rfl|assumption|apply And.intro⟩,?_⟩)⟩
 rintro ⟨f,s⟩ ⟨f0,f20,fg,fs,fk⟩
 simp only at f0 f20 fg fs fk
 refine csp (λ q=>⟨⟨(0,s),⟨⟨f0,q⟩,Int.le_refl 0,by simp only; omega,(upto_lt q).symm.trans fg,by simp only; omega,fk⟩,by repeat' first|exact trivial|exact rfl|assumption|apply And.intro⟩,?_⟩) (λ q=>?_)
 ·clear fg fs fk
  simp only at q
  rintro ⟨a,s⟩ ⟨_,a0,a1,ag,as_,ak⟩
  simp only at a0 a1 ag as_ ak
  refine cdI (by omega) (csp (λ qA=>⟨⟨(0,s),⟨⟨f0,q⟩,⟨a0,qA⟩,Int.le_refl 0,by simp only at qA ⊢; omega,(show rcA (rqG n) (hN n) f a s=rcA (rqG n) (hN n) f (a+hN n) (rcB (rqG n) (hN n) f a 0 s) from uptS_lt hh qA) ▸ ag,by simp only; omega,ak⟩,by repeat' first|exact trivial|exact rfl|assumption|apply And.intro⟩,?_⟩) (λ qA=>?_))
  ·clear ag as_ ak
   simp only at qA
   rintro ⟨b,s⟩ ⟨_,_,b0,b1,bg,bs,bk⟩
   simp only at b0 b1 bg bs bk
   refine cdI (by simp only; omega) (cdI (by omega) (csp (λ qB=>?_) (λ qB=>?_)))
   ·simp only at qB
    rw [show rcB (rqG n) (hN n) f a b s=rcB (rqG n) (hN n) f a (b+hN n) (rcS (rqG n) (hN n) f a b s) from uptS_lt hh (by omega)] at bg
    have i1:InsP s s.length:=⟨bk.el,by omega,rfl⟩
    have k1:Ce3 (inG s (rc1 (rqG n) (hN n) f a b)):=bk.ins _ _ _
    have k2:Ce3 (inG (inG s (rc1 (rqG n) (hN n) f a b)) (rc2 (rqG n) (hN n) f a b)):=k1.ins _ _ _
    have l1:=inG_len s (rc1 (rqG n) (hN n) f a b)
    have l2:=inG_len (inG s (rc1 (rqG n) (hN n) f a b)) (rc2 (rqG n) (hN n) f a b)
    have i2:InsP (inG s (rc1 (rqG n) (hN n) f a b)) (s.length+1):=⟨k1.el,by omega,l1.symm⟩
    refine cdI (by simp only; omega) ⟨⟨hR,by simp only; omega,by simp only; omega⟩,cdI (by simp only; omega) ⟨⟨hR,by simp only; omega,by simp only; omega⟩,⟨hR,by simp only; omega,by simp only; omega⟩,⟨at_ _ _ _,at_ _ _ _,at_ _ _ _⟩,i1,cdI (by simp only; omega) (cdI (by omega) (cdI (by omega) (csp (λ qc=>?_) (λ qc=>?_))))⟩⟩
    ·rw [show rcS (rqG n) (hN n) f a b s=inG (inG s (rc1 (rqG n) (hN n) f a b)) (rc2 (rqG n) (hN n) f a b) from if_pos qc] at bg
     exact cdI (by simp only; omega) ⟨⟨hR,by simp only; omega,by simp only; omega⟩,cdI (by simp only; omega) ⟨⟨hR,by simp only; omega,by simp only; omega⟩,cdI (by simp only; omega) (cdI (by simp only; omega) ⟨⟨hR,by simp only; omega,by simp only; omega⟩,⟨at_ _ _ _,at_ _ _ _,at_ _ _ _⟩,i2,cdI (by simp only; omega) ⟨(b+hN n,inG (inG s (rc1 (rqG n) (hN n) f a b)) (rc2 (rqG n) (hN n) f a b)),⟨⟨f0,q⟩,⟨a0,qA⟩,by simp only; omega,by simp only; omega,bg,by simp only; omega,k2⟩,by simp only [rc13]; omega,⟨⟨trivial,rfl⟩,rfl,by simp only; omega,rfl,rfl,rfl,trivial⟩,rfl,trivial⟩⟩)⟩⟩
    ·rw [show rcS (rqG n) (hN n) f a b s=inG s (rc1 (rqG n) (hN n) f a b) from if_neg qc] at bg
     exact cdI (by simp only; omega) ⟨(b+hN n,inG s (rc1 (rqG n) (hN n) f a b)),⟨⟨f0,q⟩,⟨a0,qA⟩,by simp only; omega,by simp only; omega,bg,by simp only; omega,k1⟩,by simp only [rc13]; omega,⟨⟨trivial,rfl⟩,rfl,by simp only; omega,rfl,rfl,rfl,trivial⟩,rfl,trivial⟩
   ·simp only at qB
    rw [show rcB (rqG n) (hN n) f a b s=s from uptS_ge hh (by omega)] at bg
    exact cdI (by simp only; omega) ⟨(a+hN n,s),⟨⟨f0,q⟩,by simp only; omega,by simp only; omega,bg,by simp only; omega,bk⟩,by simp only [rc10]; omega,by repeat' first|exact trivial|exact rfl|assumption|apply And.intro⟩
  ·simp only at qA
   rw [show rcA (rqG n) (hN n) f a s=s from uptS_ge hh (by omega)] at ag
   exact cdI (by simp only; omega) ⟨(f+1,s),⟨by simp only; omega,by simp only; omega,ag,by simp only; omega,ak⟩,by simp only [rc7]; omega,by repeat' first|exact trivial|exact rfl|assumption|apply And.intro⟩
 ·simp only at q
  rw [show rcF (rqG n) (hN n) f s=s from upto_ge (by omega)] at fg
  subst fg
  exact cd1 rfl (by repeat' first|exact trivial|exact rfl|assumption|apply And.intro)
theorem rcells_e (isN:Int->Int->Int->Int->Bool) (nrm:NrT) (vld:Int->Int->Int->Int->Bool) (fbG:LL->List AV->Int):rcells_T isN nrm vld fbG=(∀ (gl:Glob) (n:Int),(1≤n∧n≤2)∧PlcP (rqG n)->fnK Tryz.prog { glob:=gl,spec:=lk [(186,(rnodes_s isN)),(189,(rat_s nrm vld fbG)),(188,rcell_s)],specH:=lk [(187,rins_s)],nowf:=true } { nt:=97,drop:=drp [(1,63488),(2,65536),(3,262144),(4,1572864),(7,2097152),(8,25165824),(10,234881024),(11,3758096384),(13,133143986176),(14,1924145348608),(15,9223369837831520256),(16,581072438321850875904),(17,79228161333672716876132646912),(18,79228162514264337593543950336)],emp:=λ id=>cond (Nat.beq id 6) [(7,700,162,3)] [] } (λ id st=>inv2 13 8 9 (rc13 n) id st (invsN [(7,8,λ _=>rc7 n),(10,8,rc10 n)] id st)) 6 Tryz.f144 [.int .i64 n] (.tup [.sl 3 false (rcG n),.int .i64 0])):=by kernel_rfl
def rcells_v:=Eq.mp (rcells_e ..) (rcells_P)
theorem rcells_ok (gl:Glob):SOK Tryz.prog gl 144 rcells_s:=by
 refine ⟨fok Tryz.func144 (by kernel_rfl) (by kernel_rfl),?_⟩
 intro xs pre r h hp
 unfold rcells_s at h
 split at h
 ·cases h
  exact fnK_sound tyNil (by exact specOK rfl rfl ⟨(rnodes_ok gl),(rat_ok gl),(rcell_ok gl),trivial⟩ ⟨(rins_ok gl),trivial⟩) (by kernel_rfl) Tryz.func144 rfl (rcells_v gl _ hp)
 ·cases h
def psR:List Int->Int->Nat
 | [],_=>0
 | a::r,v=>if a < v then psR r v+1 else 0
def inR (r:List Int) (v:Int):List Int:=r.take (psR r v)++[v]++r.drop (psR r v)
def hasR (r:List Int) (v:Int):Bool:=decide (psR r v < r.length)&&decide (r.getD (psR r v) 0=v)
def arS (R:List (List Int)) (p:Int × Int):List (List Int):=if hasR (R.getD p.1.toNat []) p.2=true then R else R.set p.1.toNat (inR (R.getD p.1.toNat []) p.2)
def arP (a b c:Int):List (Int × Int):=[(a,b),(a,c),(b,c),(b,a),(c,a),(c,b)]
def arK (R:List (List Int)) (ps:List (Int × Int)):Nat->List (List Int)
 | 0=>R
 | k+1=>arS (arK R ps k) (ps.getD k (0,0))
def arC (R:List (List Int)) (r:List AV):List (List Int):=arK R (arP (nI r 0) (nI r 1) (nI r 2)) 6
def arM (R:List (List Int)) (l:LL):Nat->List (List Int)
 | 0=>R
 | k+1=>arC (arM R l k) (l.getD k [])
def arZ (n:Int):List (List Int):=List.replicate (ndN n) []
def arG (n:Int):List (List Int):=arM (arZ n) (rcG n) (rcG n).length
def arE (R:List (List Int)):LL:=R.map λ r=>[.sl 1 false (intsL r)]
def arQ (ps:List (Int × Int)):LL:=ps.map λ p=>[.int .i64 p.1,.int .i64 p.2]
structure AroP (n:Int):Prop where
 lo:1≤n
 hi:n≤2
 pl:PlcP (rqG n)
 ln:(rcG n).length≤1000
 el:∀ r ∈ rcG n,r=row3 (nI r 0) (nI r 1) (nI r 2)∧(0≤nI r 0∧nI r 0 < ndN n)∧(0≤nI r 1∧nI r 1 < ndN n)∧0≤nI r 2∧nI r 2 < ndN n
structure Aro4 (n:Int) (x:Int):Prop where
 lo:0≤x
 hi:x≤(rcG n).length
structure Aro6 (r:List Int) (v k:Int):Prop where
 lo:0≤k
 hi:k≤r.length
 go:∀ j:Nat,j < k.toNat->r.getD j 0 < v
structure Aro7 (r:List Int) (v k:Int):Prop where
 lo:0≤k
 hi:k≤r.length
 go:psR r v=k.toNat
def arX (n y:Int):List (Int × Int):=arP (nI ((rcG n).getD y.toNat []) 0) (nI ((rcG n).getD y.toNat []) 1) (nI ((rcG n).getD y.toNat []) 2)
def arT (n y x:Int):List (List Int):=arK (arM (arZ n) (rcG n) y.toNat) (arX n y) x.toNat
def arV (n y x:Int):Int × Int:=(arX n y).getD x.toNat (0,0)
def arR (n y x:Int):List Int:=(arT n y x).getD (arV n y x).1.toNat []
def ar4 (n:Int):LInv:=⟨Int,λ x=>⟨[(5,.rw 19 1 (ndN n)),(20,.sl 3 false (rcG n)),(21,.int .i64 (rcG n).length),(22,.int .i64 x)],[(19,.row 22 1 (arE (arM (arZ n) (rcG n) x.toNat)))]⟩,Aro4 n,λ x=>((rcG n).length - x).toNat,none⟩
def ar7 (n y:Int):LInv:=⟨Int,λ x=>⟨[(5,.rw 19 1 (ndN n)),(20,.sl 3 false (rcG n)),(21,.int .i64 (rcG n).length),(22,.int .i64 y),(56,.rw 56 2 6),(57,.int .i64 6),(58,.int .i64 x)],[(19,.row 22 1 (arE (arT n y x))),(56,.row 217 2 (arQ (arX n y)))]⟩,LtP 6,λ x=>(6 - x).toNat,none⟩
def arU (n y x k:Int):St:=⟨[(5,.rw 19 1 (ndN n)),(20,.sl 3 false (rcG n)),(21,.int .i64 (rcG n).length),(22,.int .i64 y),(56,.rw 56 2 6),(57,.int .i64 6),(58,.int .i64 x),(9,.ptr 9 0),(10,.int .i64 k)],[(19,.row 22 1 (arE (arT n y x))),(56,.row 217 2 (arQ (arX n y))),(9,.cells [.int .i64 (arV n y x).1,.int .i64 (arV n y x).2])]⟩
def ar10 (n y x:Int):LInv:=⟨Int,λ k=>arU n y x k,Aro6 (arR n y x) (arV n y x).2,λ k=>((arR n y x).length - k).toNat,none⟩
def ar12 (n y x:Int):LInv:=⟨Int,λ k=>arU n y x k,Aro7 (arR n y x) (arV n y x).2,λ _=>0,none⟩
theorem arE_len (R:List (List Int)):(arE R).length=R.length:=by simp [arE]
theorem arE_at {R:List (List Int)} {i:Nat} (h:i < R.length):(arE R).getD i []=[.sl 1 false (intsL (R.getD i []))]:=by
 rw [List.getD_eq_getElem?_getD,List.getD_eq_getElem?_getD,arE,List.getElem?_map,List.getElem?_eq_getElem h]; rfl
theorem arQ_at {ps:List (Int × Int)} {i:Nat} (h:i < ps.length):(arQ ps).getD i []=[.int .i64 (ps.getD i (0,0)).1,.int .i64 (ps.getD i (0,0)).2]:=by
 rw [List.getD_eq_getElem?_getD,List.getD_eq_getElem?_getD,arQ,List.getElem?_map,List.getElem?_eq_getElem h]; rfl
theorem ints_at {r:List Int} {i:Nat} (h:i < r.length):(intsL r).getD i []=[.int .i64 (r.getD i 0)]:=by
 rw [List.getD_eq_getElem?_getD,List.getD_eq_getElem?_getD,intsL,List.getElem?_map,List.getElem?_eq_getElem h]; rfl
theorem ints_len (r:List Int):(intsL r).length=r.length:=by simp [intsL]
theorem psR_le:∀ (r:List Int) (v:Int),psR r v≤r.length
 | [],v=>Nat.le_refl _
 | a::r,v=>by
  unfold psR
  have:=psR_le r v
  split
  ·simp only [List.length_cons]; omega
  ·omega
theorem psR_eq:∀ (r:List Int) (v:Int) (k:Nat),k≤r.length->(∀ j,j < k->r.getD j 0 < v)->(k < r.length->v≤r.getD k 0)->psR r v=k
 | [],v,k,hk,_,_=>by simp at hk; subst hk; rfl
 | a::r,v,0,_,_,h2=>by
  have:=h2 (by simp)
  have:v≤a:=by simpa using this
  unfold psR
  rw [if_neg (by omega)]
 | a::r,v,k+1,hk,h1,h2=>by
  have h0:a < v:=by simpa using h1 0 (by omega)
  unfold psR
  rw [if_pos h0,psR_eq r v k (by simpa using hk) (λ j hj=>by simpa using h1 (j+1) (by omega)) (λ q=>by simpa using h2 (by simpa using q))]
theorem arS_len (R:List (List Int)) (p:Int × Int):(arS R p).length=R.length:=by
 unfold arS
 split <;> simp
theorem arK_len (R:List (List Int)) (ps:List (Int × Int)):∀ k,(arK R ps k).length=R.length
 | 0=>rfl
 | k+1=>by rw [arK,arS_len,arK_len R ps k]
theorem arM_len (R:List (List Int)) (l:LL):∀ k,(arM R l k).length=R.length
 | 0=>rfl
 | k+1=>by rw [arM,arC,arK_len,arM_len R l k]
theorem inR_len (r:List Int) (v:Int):(inR r v).length=r.length+1:=by
 have:=psR_le r v
 simp only [inR,List.length_append,List.length_take,List.length_drop,List.length_singleton]; omega
theorem arS_row (R:List (List Int)) (p:Int × Int) (B:Nat) (h:∀ i,(R.getD i []).length≤B):∀ i,((arS R p).getD i []).length≤B+1:=λ i=>by
 unfold arS
 split
 ·have:=h i; omega
 ·rw [List.getD_eq_getElem?_getD,List.getElem?_set]
  split
  ·split
   ·simp only [Option.getD_some,inR_len]; have:=h p.1.toNat; omega
   ·simp
  ·rw [← List.getD_eq_getElem?_getD]; have:=h i; omega
theorem arK_row (R:List (List Int)) (ps:List (Int × Int)) (B:Nat) (h:∀ i,(R.getD i []).length≤B):∀ k i,((arK R ps k).getD i []).length≤B+k
 | 0,i=>h i
 | k+1,i=>by rw [arK]; exact arS_row _ _ _ (arK_row R ps B h k) i
theorem arM_row (R:List (List Int)) (l:LL) (B:Nat) (h:∀ i,(R.getD i []).length≤B):∀ k i,((arM R l k).getD i []).length≤B+6*k
 | 0,i=>h i
 | k+1,i=>by rw [arM,arC]; exact arK_row _ _ _ (arM_row R l B h k) 6 i
theorem arZ_row (n:Int) (i:Nat):((arZ n).getD i []).length≤0:=by
 unfold arZ
 rw [List.getD_eq_getElem?_getD,List.getElem?_replicate]
 split <;> simp
theorem arE_nm (R:List (List Int)):NmIn [] (arE R):=λ j i x y hx hy k hk=>by
 have hm:=List.mem_of_getElem? hx
 simp only [arE,List.mem_map] at hm
 obtain ⟨r,_,rfl⟩:=hm
 cases i with
 | zero=>simp at hy; subst hy; simp [nn] at hk
 | succ i=>simp at hy
theorem store_eq {R:List (List Int)} {i k:Nat} {v:Int} (hi:i < R.length) (hk:psR (R.getD i []) v=k):mapLL (frsA 129 1 (List.drop 0 (List.take k (intsL (R.getD i [])))++([[AV.int .i64 v]]++List.drop k (List.take ((intsL (R.getD i [])).length:Int).toNat (intsL (R.getD i [])))))) (setEl (arE R) i 0 [.rw 129 1 (List.drop 0 (List.take k (intsL (R.getD i [])))++([[AV.int .i64 v]]++List.drop k (List.take ((intsL (R.getD i [])).length:Int).toNat (intsL (R.getD i []))))).length])=arE (R.set i (inR (R.getD i []) v)):=by
 have hz:List.drop 0 (List.take k (intsL (R.getD i [])))++([[AV.int .i64 v]]++List.drop k (List.take ((intsL (R.getD i [])).length:Int).toNat (intsL (R.getD i []))))=intsL (inR (R.getD i []) v):=by
  rw [Int.toNat_natCast,List.take_of_length_le (Nat.le_refl _)]
  simp only [inR,hk,intsL,List.map_append,List.map_take,List.map_drop,List.drop_zero,List.append_assoc]
  rfl
 rw [hz]
 generalize hzs:intsL (inR (R.getD i []) v)=zs
 have e1:setEl (arE R) i 0 [.rw 129 1 zs.length]=(arE R).set i [.rw 129 1 zs.length]:=by
  unfold setEl
  rw [arE_at hi]; rfl
 have e2:mapLL (frsA 129 1 zs) (arE R)=arE R:=by
  unfold mapLL arE
  rw [List.map_map]
  exact List.map_congr_left λ r _=>rfl
 have e3:[AV.rw 129 1 zs.length].map (frsA 129 1 zs)=[.sl 1 false zs]:=by
  simp [frsA]
 rw [e1]
 show List.map _ _=_
 rw [List.map_set,e3]
 have:List.map (λ x=>List.map (frsA 129 1 zs) x) (arE R)=arE R:=e2
 rw [this,← hzs]
 unfold arE
 rw [List.map_set]
theorem arS_set {R:List (List Int)} {p:Int × Int} (h:hasR (R.getD p.1.toNat []) p.2=false):arS R p=R.set p.1.toNat (inR (R.getD p.1.toNat []) p.2):=by
 unfold arS; rw [h]; rfl
theorem arS_same {R:List (List Int)} {p:Int × Int} (h:hasR (R.getD p.1.toNat []) p.2=true):arS R p=R:=by
 unfold arS; rw [h]; rfl
def raround_s:Sp
 | [.int .i64 n]=>some (AroP n,.sl 1 false (arE (arG n)))
 | _=>none
abbrev raround_1 (n:Int):=(↑(List.length (rcG n)):Int)
def raround_T:Prop :=
 ∀ (gl:Glob) (n:Int),AroP n->IR9 n->((1≤n∧n≤(2:Int))∧PlcP (rqG n))∧(1≤n∧n≤(2:Int))∧bif decide ((0:Int)≤(10:Int)*n*n+(2:Int)∧(10:Int)*n*n+(2:Int)≤(10:Int)*n*n+(2:Int)∧(24:Int)*((10:Int)*n*n+(2:Int))≤(281474976710656:Int)∧(10:Int)*n*n+(2:Int)≤(9223372036854775807:Int)) then (∃ x,Aro4 n x∧(((10:Int)*n*n+(2:Int)).toNat=ndN n∧(True∧rcG n=rcG n)∧(raround_1 n)=(raround_1 n)∧(0:Int)=x∧True)∧List.map (λ x=>List.map nzA x) (List.replicate ((10:Int)*n*n+(2:Int)).toNat [AV.nils])=arE (arM (arZ n) (rcG n) (Int.toNat x))∧True)∧∀ (x1:Int),Aro4 n x1->bif decide (x1 < (raround_1 n)) then bif decide (0≤x1∧x1 < (raround_1 n)) then ∃ n_1 n_2 n_3,List.take [I6 n_1,I6 n_2,I6 n_3].length (List.getD (rcG n) x1.toNat [])=[I6 n_1,I6 n_2,I6 n_3]∧(∃ x_1,LtP 6 x_1∧(ndN n=ndN n∧(True∧rcG n=rcG n)∧(raround_1 n)=(raround_1 n)∧x1=x1∧(6:Nat)=(6:Nat)∧(6:Int)=(6:Int)∧(0:Int)=x_1∧True)∧arE (arM (arZ n) (rcG n) x1.toNat)=arE (arT n x1 x_1)∧[[I6 n_1,I6 n_2],[I6 n_1,I6 n_3],[I6 n_2,I6 n_3],[I6 n_2,I6 n_1],[I6 n_3,I6 n_1],[I6 n_3,I6 n_2]]=arQ (arX n x1)∧True)∧∀ (x2:Int),LtP 6 x2->bif decide (x2 < (6:Int)) then bif decide (0≤x2∧x2 < (6:Int)) then bif decide ((6:Nat)=List.length (arQ (arX n x1))∧x2.toNat < List.length (arQ (arX n x1))) then ∃ n_4 n_5,List.take [I6 n_4,I6 n_5].length (List.drop 0 (List.getD (arQ (arX n x1)) x2.toNat []))=[I6 n_4,I6 n_5]∧((∃ x_2,Aro6 (arR n x1 x2) (arV n x1 x2).2 x_2∧(ndN n=ndN n∧(True∧rcG n=rcG n)∧(raround_1 n)=(raround_1 n)∧x1=x1∧(6:Nat)=(6:Nat)∧(6:Int)=(6:Int)∧x2=x2∧(0:Nat)=(0:Nat)∧(0:Int)=x_2∧True)∧arE (arT n x1 x2)=arE (arT n x1 x2)∧arQ (arX n x1)=arQ (arX n x1)∧(n_4=(arV n x1 x2).1∧n_5=(arV n x1 x2).2∧True)∧True)∧∀ (x3:Int),Aro6 (arR n x1 x2) (arV n x1 x2).2 x3->bif decide ((0:Int)≤(arV n x1 x2).1∧(arV n x1 x2).1 < (↑(ndN n):Int)) then bif decide (ndN n=List.length (arE (arT n x1 x2))∧(arV n x1 x2).1.toNat < List.length (arE (arT n x1 x2))) then ∃ xs,List.take [AV.sl 1 false xs].length (List.drop 0 (List.getD (arE (arT n x1 x2)) (arV n x1 x2).1.toNat []))=[AV.sl 1 false xs]∧bif decide (x3 < (↑xs.length:Int)) then bif decide ((0:Int)≤(arV n x1 x2).1∧(arV n x1 x2).1 < (↑(ndN n):Int)) then bif decide (ndN n=List.length (arE (arT n x1 x2))∧(arV n x1 x2).1.toNat < List.length (arE (arT n x1 x2))) then ∃ xs,List.take [AV.sl 1 false xs].length (List.drop 0 (List.getD (arE (arT n x1 x2)) (arV n x1 x2).1.toNat []))=[AV.sl 1 false xs]∧bif decide (0≤x3∧x3 < (↑xs.length:Int)) then ∃ n_6,List.take [I6 n_6].length (xs.getD x3.toNat [])=[I6 n_6]∧bif decide (n_6 < (arV n x1 x2).2) then bif decide (rng IntKind.i64 (x3+(1:Int))) then ∃ y,Aro6 (arR n x1 x2) (arV n x1 x2).2 y∧(ar10 n x1 x2).m y < (ar10 n x1 x2).m x3∧(ndN n=ndN n∧(True∧rcG n=rcG n)∧(raround_1 n)=(raround_1 n)∧x1=x1∧(6:Nat)=(6:Nat)∧(6:Int)=(6:Int)∧x2=x2∧(0:Nat)=(0:Nat)∧x3+(1:Int)=y∧True)∧arE (arT n x1 x2)=arE (arT n x1 x2)∧arQ (arX n x1)=arQ (arX n x1)∧((arV n x1 x2).1=(arV n x1 x2).1∧(arV n x1 x2).2=(arV n x1 x2).2∧True)∧True else False else ∃ x_3,Aro7 (arR n x1 x2) (arV n x1 x2).2 x_3∧(ndN n=ndN n∧(True∧rcG n=rcG n)∧(raround_1 n)=(raround_1 n)∧x1=x1∧(6:Nat)=(6:Nat)∧(6:Int)=(6:Int)∧x2=x2∧(0:Nat)=(0:Nat)∧x3=x_3∧True)∧arE (arT n x1 x2)=arE (arT n x1 x2)∧arQ (arX n x1)=arQ (arX n x1)∧((arV n x1 x2).1=(arV n x1 x2).1∧(arV n x1 x2).2=(arV n x1 x2).2∧True)∧True else False else False else False else ∃ x_3,Aro7 (arR n x1 x2) (arV n x1 x2).2 x_3∧(ndN n=ndN n∧(True∧rcG n=rcG n)∧(raround_1 n)=(raround_1 n)∧x1=x1∧(6:Nat)=(6:Nat)∧(6:Int)=(6:Int)∧x2=x2∧(0:Nat)=(0:Nat)∧x3=x_3∧True)∧arE (arT n x1 x2)=arE (arT n x1 x2)∧arQ (arX n x1)=arQ (arX n x1)∧((arV n x1 x2).1=(arV n x1 x2).1∧(arV n x1 x2).2=(arV n x1 x2).2∧True)∧True else False else False)∧∀ (x4:Int),Aro7 (arR n x1 x2) (arV n x1 x2).2 x4->bif decide ((0:Int)≤(arV n x1 x2).1∧(arV n x1 x2).1 < (↑(ndN n):Int)) then bif decide (ndN n=List.length (arE (arT n x1 x2))∧(arV n x1 x2).1.toNat < List.length (arE (arT n x1 x2))) then ∃ xs,List.take [AV.sl 1 false xs].length (List.drop 0 (List.getD (arE (arT n x1 x2)) (arV n x1 x2).1.toNat []))=[AV.sl 1 false xs]∧bif decide (x4 < (↑xs.length:Int)) then bif decide ((0:Int)≤(arV n x1 x2).1∧(arV n x1 x2).1 < (↑(ndN n):Int)) then bif decide (ndN n=List.length (arE (arT n x1 x2))∧(arV n x1 x2).1.toNat < List.length (arE (arT n x1 x2))) then ∃ xs,List.take [AV.sl 1 false xs].length (List.drop 0 (List.getD (arE (arT n x1 x2)) (arV n x1 x2).1.toNat []))=[AV.sl 1 false xs]∧bif decide (0≤x4∧x4 < (↑xs.length:Int)) then ∃ n_6,List.take [I6 n_6].length (xs.getD x4.toNat [])=[I6 n_6]∧bif decide (n_6=(arV n x1 x2).2) then bif decide (rng IntKind.i64 (x2+(1:Int))) then ∃ y,LtP 6 y∧(ar7 n x1).m y < (ar7 n x1).m x2∧(ndN n=ndN n∧(True∧rcG n=rcG n)∧(raround_1 n)=(raround_1 n)∧x1=x1∧(6:Nat)=(6:Nat)∧(6:Int)=(6:Int)∧x2+(1:Int)=y∧True)∧arE (arT n x1 x2)=arE (arT n x1 y)∧arQ (arX n x1)=arQ (arX n x1)∧True else False else bif decide ((0:Int)≤(arV n x1 x2).1∧(arV n x1 x2).1 < (↑(ndN n):Int)) then bif decide (ndN n=List.length (arE (arT n x1 x2))∧(arV n x1 x2).1.toNat < List.length (arE (arT n x1 x2))) then ∃ xs,List.take [AV.sl 1 false xs].length (List.drop 0 (List.getD (arE (arT n x1 x2)) (arV n x1 x2).1.toNat []))=[AV.sl 1 false xs]∧bif decide ((0:Int)≤(↑xs.length:Int)∧(↑xs.length:Int)≤(↑xs.length:Int)) then bif decide (0≤x4∧x4≤(↑xs.length:Int)) then bif decide ((1:Nat)=[[I6 (arV n x1 x2).2]].length∧[[I6 (arV n x1 x2).2]].length+(List.drop x4.toNat (List.take (↑xs.length:Int).toNat xs)).length≤(9223372036854775807:Nat)∧([[I6 (arV n x1 x2).2]].length+(List.drop x4.toNat (List.take (↑xs.length:Int).toNat xs)).length)*(8:Nat)≤(140737488355328:Nat)) then (∀ (j i:Nat) (x_3:List AV) (y:AV),(arE (arT n x1 x2))[j]?=some x_3->x_3[i]?=some y->∀ (k1:Nat),nn k1 y=false->inL k1 []=true)∧bif decide ((0:Int)≤(arV n x1 x2).1∧(arV n x1 x2).1 < (↑(ndN n):Int)) then bif decide (ndN n=List.length (arE (arT n x1 x2))∧(arV n x1 x2).1.toNat < List.length (arE (arT n x1 x2))) then ∃ xs_1,List.take [AV.sl 1 false xs_1].length (List.drop 0 (List.getD (arE (arT n x1 x2)) (arV n x1 x2).1.toNat []))=[AV.sl 1 false xs_1]∧bif decide (x4=x4) then bif decide (0≤x4∧x4≤(↑xs_1.length:Int)) then bif decide ((0:Int)≤(0:Int)∧0≤x4) then bif decide (([[I6 (arV n x1 x2).2]]++List.drop x4.toNat (List.take (↑xs.length:Int).toNat xs)).length=([[I6 (arV n x1 x2).2]]++List.drop x4.toNat (List.take (↑xs.length:Int).toNat xs)).length) then bif decide ((0:Nat) < ([[I6 (arV n x1 x2).2]]++List.drop x4.toNat (List.take (↑xs.length:Int).toNat xs)).length∧(List.drop 0 (List.take x4.toNat xs_1)).length+([[I6 (arV n x1 x2).2]]++List.drop x4.toNat (List.take (↑xs.length:Int).toNat xs)).length≤(9223372036854775807:Nat)∧((List.drop 0 (List.take x4.toNat xs_1)).length+([[I6 (arV n x1 x2).2]]++List.drop x4.toNat (List.take (↑xs.length:Int).toNat xs)).length)*(8:Nat)≤(140737488355328:Nat)) then bif decide ((0:Int)≤(arV n x1 x2).1∧(arV n x1 x2).1 < (↑(ndN n):Int)) then bif decide (ndN n=List.length (arE (arT n x1 x2))∧(arV n x1 x2).1.toNat < List.length (arE (arT n x1 x2))) then bif decide (rng IntKind.i64 (x2+(1:Int))) then ∃ y,LtP 6 y∧(ar7 n x1).m y < (ar7 n x1).m x2∧(ndN n=ndN n∧(True∧rcG n=rcG n)∧(raround_1 n)=(raround_1 n)∧x1=x1∧(6:Nat)=(6:Nat)∧(6:Int)=(6:Int)∧x2+(1:Int)=y∧True)∧mapLL (frsA 129 1 (List.drop 0 (List.take x4.toNat xs_1)++([[I6 (arV n x1 x2).2]]++List.drop x4.toNat (List.take (↑xs.length:Int).toNat xs)))) (setEl (arE (arT n x1 x2)) (arV n x1 x2).1.toNat 0 [AV.rw 129 1 (List.drop 0 (List.take x4.toNat xs_1)++([[I6 (arV n x1 x2).2]]++List.drop x4.toNat (List.take (↑xs.length:Int).toNat xs))).length])=arE (arT n x1 y)∧arQ (arX n x1)=arQ (arX n x1)∧True else False else False else False else False else False else False else False else False else False else False else False else False else False else False else False else False else False else False else bif decide ((0:Int)≤(arV n x1 x2).1∧(arV n x1 x2).1 < (↑(ndN n):Int)) then bif decide (ndN n=List.length (arE (arT n x1 x2))∧(arV n x1 x2).1.toNat < List.length (arE (arT n x1 x2))) then ∃ xs,List.take [AV.sl 1 false xs].length (List.drop 0 (List.getD (arE (arT n x1 x2)) (arV n x1 x2).1.toNat []))=[AV.sl 1 false xs]∧bif decide ((0:Int)≤(↑xs.length:Int)∧(↑xs.length:Int)≤(↑xs.length:Int)) then bif decide (0≤x4∧x4≤(↑xs.length:Int)) then bif decide ((1:Nat)=[[I6 (arV n x1 x2).2]].length∧[[I6 (arV n x1 x2).2]].length+(List.drop x4.toNat (List.take (↑xs.length:Int).toNat xs)).length≤(9223372036854775807:Nat)∧([[I6 (arV n x1 x2).2]].length+(List.drop x4.toNat (List.take (↑xs.length:Int).toNat xs)).length)*(8:Nat)≤(140737488355328:Nat)) then (∀ (j i:Nat) (x_3:List AV) (y:AV),(arE (arT n x1 x2))[j]?=some x_3->x_3[i]?=some y->∀ (k2:Nat),nn k2 y=false->inL k2 []=true)∧bif decide ((0:Int)≤(arV n x1 x2).1∧(arV n x1 x2).1 < (↑(ndN n):Int)) then bif decide (ndN n=List.length (arE (arT n x1 x2))∧(arV n x1 x2).1.toNat < List.length (arE (arT n x1 x2))) then ∃ xs_1,List.take [AV.sl 1 false xs_1].length (List.drop 0 (List.getD (arE (arT n x1 x2)) (arV n x1 x2).1.toNat []))=[AV.sl 1 false xs_1]∧bif decide (x4=x4) then bif decide (0≤x4∧x4≤(↑xs_1.length:Int)) then bif decide ((0:Int)≤(0:Int)∧0≤x4) then bif decide (([[I6 (arV n x1 x2).2]]++List.drop x4.toNat (List.take (↑xs.length:Int).toNat xs)).length=([[I6 (arV n x1 x2).2]]++List.drop x4.toNat (List.take (↑xs.length:Int).toNat xs)).length) then bif decide ((0:Nat) < ([[I6 (arV n x1 x2).2]]++List.drop x4.toNat (List.take (↑xs.length:Int).toNat xs)).length∧(List.drop 0 (List.take x4.toNat xs_1)).length+([[I6 (arV n x1 x2).2]]++List.drop x4.toNat (List.take (↑xs.length:Int).toNat xs)).length≤(9223372036854775807:Nat)∧((List.drop 0 (List.take x4.toNat xs_1)).length+([[I6 (arV n x1 x2).2]]++List.drop x4.toNat (List.take (↑xs.length:Int).toNat xs)).length)*(8:Nat)≤(140737488355328:Nat)) then bif decide ((0:Int)≤(arV n x1 x2).1∧(arV n x1 x2).1 < (↑(ndN n):Int)) then bif decide (ndN n=List.length (arE (arT n x1 x2))∧(arV n x1 x2).1.toNat < List.length (arE (arT n x1 x2))) then bif decide (rng IntKind.i64 (x2+(1:Int))) then ∃ y,LtP 6 y∧(ar7 n x1).m y < (ar7 n x1).m x2∧(ndN n=ndN n∧(True∧rcG n=rcG n)∧(raround_1 n)=(raround_1 n)∧x1=x1∧(6:Nat)=(6:Nat)∧(6:Int)=(6:Int)∧x2+(1:Int)=y∧True)∧mapLL (frsA 129 1 (List.drop 0 (List.take x4.toNat xs_1)++([[I6 (arV n x1 x2).2]]++List.drop x4.toNat (List.take (↑xs.length:Int).toNat xs)))) (setEl (arE (arT n x1 x2)) (arV n x1 x2).1.toNat 0 [AV.rw 129 1 (List.drop 0 (List.take x4.toNat xs_1)++([[I6 (arV n x1 x2).2]]++List.drop x4.toNat (List.take (↑xs.length:Int).toNat xs))).length])=arE (arT n x1 y)∧arQ (arX n x1)=arQ (arX n x1)∧True else False else False else False else False else False else False else False else False else False else False else False else False else False else False else False else False else False else False else False else bif decide (rng IntKind.i64 (x1+(1:Int))) then ∃ y,Aro4 n y∧((λ x1=>ar4 n) 0).m y < ((λ x1=>ar4 n) 0).m x1∧(ndN n=ndN n∧(True∧rcG n=rcG n)∧(raround_1 n)=(raround_1 n)∧x1+(1:Int)=y∧True)∧arE (arT n x1 x2)=arE (arM (arZ n) (rcG n) (Int.toNat y))∧True else False else False else bif decide (ndN n=List.length (arE (arM (arZ n) (rcG n) x1.toNat))) then True∧arE (arM (arZ n) (rcG n) x1.toNat)=arE (arG n) else False else False
theorem raround_P:raround_T:=by
 unfold raround_T
 delta raround_1 I6
 intro gl n hP hn
 have hN:(10*n*n+2:Int)=ndN n∧(ndN n:Int)≤42:=by rcases (show n=1∨n=2 by have:=hP.lo; have:=hP.hi; omega) with rfl | rfl <;> decide
 have h1:=hP.lo
 have h2:=hP.hi
 have hl:=hP.ln
 have hA0:(arZ n).length=ndN n:=by simp [arZ]
 refine ⟨⟨⟨h1,h2⟩,hP.pl⟩,⟨h1,h2⟩,cd1 (by omega) ⟨⟨0,⟨Int.le_refl _,by omega⟩,⟨rfl,by repeat' first|exact trivial|exact rfl|assumption|apply And.intro⟩,?_,trivial⟩,?_⟩⟩
 ·show _=arE (List.replicate (ndN n) [])
  unfold ndN arE
  rw [List.map_replicate,List.map_replicate]; rfl
 rintro x ⟨x0,x1⟩
 have hM:(arM (arZ n) (rcG n) x.toNat).length=ndN n:=by rw [arM_len,hA0]
 refine csp (λ q=>?_) (λ q=>?_)
 ·have hx:x.toNat < (rcG n).length:=by omega
  obtain ⟨c,hc⟩:∃ c,c=(rcG n).getD x.toNat []:=⟨_,rfl⟩
  have hel:=hP.el c (by rw [hc,List.getD_eq_getElem?_getD,List.getElem?_eq_getElem hx]; exact List.getElem_mem hx)
  obtain ⟨e3,b0,b1,b2⟩:=hel
  have hX:arX n x=arP (nI c 0) (nI c 1) (nI c 2):=by unfold arX; rw [hc]
  refine cd1 ⟨x0,q⟩ ⟨nI c 0,nI c 1,nI c 2,?_,⟨0,⟨Int.le_refl _,by decide⟩,by repeat' first|exact trivial|exact rfl|assumption|apply And.intro,?_,?_,trivial⟩,?_⟩
  ·rw [← hc]; exact (congrArg (List.take 3) e3).trans rfl
  ·rfl
  ·rw [hX]; rfl
  rintro y ⟨y0,y6⟩
  have hTl:(arT n x y).length=ndN n:=by unfold arT; rw [arK_len,hM]
  refine csp (λ qy=>?_) (λ qy=>?_)
  ·have hql:(arQ (arX n x)).length=6:=by rw [hX]; rfl
   have hxl:(arX n x).length=6:=by rw [hX]; rfl
   have hv:(0≤(arV n x y).1∧(arV n x y).1 < ndN n):=by
    unfold arV
    rw [hX]
    rcases (show y.toNat=0∨y.toNat=1∨y.toNat=2∨y.toNat=3∨y.toNat=4∨y.toNat=5 by omega) with e | e | e | e | e | e <;> rw [e] <;> assumption
   have hrow:(arR n x y).length≤7000:=by
    have:=arK_row (arM (arZ n) (rcG n) x.toNat) (arX n x) (0+6*x.toNat) (arM_row _ _ 0 (arZ_row n) _) y.toNat (arV n x y).1.toNat
    unfold arR arT
    omega
   have hiT:(arV n x y).1.toNat < (arT n x y).length:=by rw [hTl]; omega
   have hat:=arE_at hiT
   have ela:(arE (arT n x y)).length=ndN n:=by rw [arE_len,hTl]
   have hR:(arT n x y).getD (arV n x y).1.toNat []=arR n x y:=rfl
   have hil:=ints_len (arR n x y)
   have hnx:arT n x (y+1)=arS (arT n x y) (arV n x y):=by
    unfold arT arV
    rw [show (y+1).toNat=y.toNat+1 by omega]
    rfl
   rw [hR] at hat
   have c1:0≤(arV n x y).1∧(arV n x y).1 < (ndN n:Int):=hv
   have c2:ndN n=(arE (arT n x y)).length∧(arV n x y).1.toNat < (arE (arT n x y)).length:=by omega
   have ld:List.take [AV.sl 1 false (intsL (arR n x y))].length (List.drop 0 ((arE (arT n x y)).getD (arV n x y).1.toNat []))=[.sl 1 false (intsL (arR n x y))]:=by rw [hat]; rfl
   refine cd1 ⟨y0,qy⟩ (cd1 ⟨hql.symm,by omega⟩ ⟨(arV n x y).1,(arV n x y).2,?_,⟨⟨0,⟨Int.le_refl _,by omega,λ j hj=>by simp at hj⟩,by repeat' first|exact trivial|exact rfl|assumption|apply And.intro,rfl,rfl,by repeat' first|exact trivial|exact rfl|assumption|apply And.intro⟩,?_⟩,?_⟩)
   ·rw [arQ_at (by omega)]; rfl
   ·rintro k ⟨k0,kl,kg⟩
    refine cd1 c1 (cd1 c2 ⟨_,ld,csp (λ qk=>?_) (λ qk=>?_)⟩)
    ·have hk:k.toNat < (arR n x y).length:=by omega
     refine cd1 c1 (cd1 c2 ⟨_,ld,cd1 ⟨k0,qk⟩ ⟨(arR n x y).getD k.toNat 0,by rw [ints_at hk]; rfl,csp (λ qv=>?_) (λ qv=>?_)⟩⟩)
     ·refine cdI (by omega) ⟨k+1,⟨by omega,by omega,λ j hj=>?_⟩,by show (_:Nat) < _; simp only [ar10]; omega,by repeat' first|exact trivial|exact rfl|assumption|apply And.intro,rfl,rfl,by repeat' first|exact trivial|exact rfl|assumption|apply And.intro⟩
      by_cases e:j=k.toNat
      ·subst e; exact qv
      ·exact kg j (by omega)
     ·exact ⟨k,⟨k0,by omega,psR_eq _ _ _ (by omega) kg (λ _=>by omega)⟩,by repeat' first|exact trivial|exact rfl|assumption|apply And.intro,rfl,rfl,by repeat' first|exact trivial|exact rfl|assumption|apply And.intro⟩
    ·exact ⟨k,⟨k0,by omega,psR_eq _ _ _ (by omega) kg (λ q=>by omega)⟩,by repeat' first|exact trivial|exact rfl|assumption|apply And.intro,rfl,rfl,by repeat' first|exact trivial|exact rfl|assumption|apply And.intro⟩
   ·rintro k ⟨k0,kl,kg⟩
    have put:hasR (arR n x y) (arV n x y).2=false->arE (arT n x (y+1))=arE ((arT n x y).set (arV n x y).1.toNat (inR (arR n x y) (arV n x y).2)):=λ h=>by rw [hnx,arS_set h]; rfl
    have hst:=store_eq (v:=(arV n x y).2) hiT kg
    rw [hR] at hst
    have lens:([[AV.int .i64 (arV n x y).2]]:LL).length=1:=rfl
    have ldr:(List.drop k.toNat (List.take ((intsL (arR n x y)).length:Int).toNat (intsL (arR n x y)))).length≤7000:=by simp only [List.length_drop,List.length_take]; omega
    have ltk:(List.drop 0 (List.take k.toNat (intsL (arR n x y)))).length≤7000:=by simp only [List.length_drop,List.length_take]; omega
    have lap:([[AV.int .i64 (arV n x y).2]]++List.drop k.toNat (List.take ((intsL (arR n x y)).length:Int).toNat (intsL (arR n x y)))).length≤7001∧0 < ([[AV.int .i64 (arV n x y).2]]++List.drop k.toNat (List.take ((intsL (arR n x y)).length:Int).toNat (intsL (arR n x y)))).length:=by rw [List.length_append,lens]; omega
    refine cd1 c1 (cd1 c2 ⟨_,ld,csp (λ qk=>?_) (λ qk=>?_)⟩)
    ·have hk:k.toNat < (arR n x y).length:=by omega
     refine cd1 c1 (cd1 c2 ⟨_,ld,cd1 ⟨k0,qk⟩ ⟨(arR n x y).getD k.toNat 0,by rw [ints_at hk]; rfl,csp (λ qv=>?_) (λ qv=>?_)⟩⟩)
     ·have hh:hasR (arR n x y) (arV n x y).2=true:=by unfold hasR; rw [kg,decide_eq_true hk,decide_eq_true qv]; rfl
      refine cdI (by omega) ⟨y+1,⟨by omega,by omega⟩,by show (_:Nat) < _; simp only [ar7]; omega,by repeat' first|exact trivial|exact rfl|assumption|apply And.intro,?_,rfl,trivial⟩
      rw [hnx,arS_same hh]
     ·have hh:hasR (arR n x y) (arV n x y).2=false:=by unfold hasR; rw [kg,decide_eq_false qv,Bool.and_false]
      exact cd1 c1 (cd1 c2 ⟨_,ld,cd1 (by omega) (cd1 (by omega) (cd1 (by omega) ⟨arE_nm _,cd1 c1 (cd1 c2 ⟨_,ld,cd1 rfl (cd1 (by omega) (cd1 (by omega) (cd1 rfl (cd1 (by omega) (cd1 c1 (cd1 c2 (cdI (by omega) ⟨y+1,⟨by omega,by omega⟩,by show (_:Nat) < _; simp only [ar7]; omega,by repeat' first|exact trivial|exact rfl|assumption|apply And.intro,hst.trans (put hh).symm,rfl,trivial⟩)))))))⟩)⟩))⟩)
    ·have hh:hasR (arR n x y) (arV n x y).2=false:=by unfold hasR; rw [kg,decide_eq_false (by omega),Bool.false_and]
     exact cd1 c1 (cd1 c2 ⟨_,ld,cd1 (by omega) (cd1 (by omega) (cd1 (by omega) ⟨arE_nm _,cd1 c1 (cd1 c2 ⟨_,ld,cd1 rfl (cd1 (by omega) (cd1 (by omega) (cd1 rfl (cd1 (by omega) (cd1 c1 (cd1 c2 (cdI (by omega) ⟨y+1,⟨by omega,by omega⟩,by show (_:Nat) < _; simp only [ar7]; omega,by repeat' first|exact trivial|exact rfl|assumption|apply And.intro,hst.trans (put hh).symm,rfl,trivial⟩)))))))⟩)⟩))⟩)
  ·refine cdI (by omega) ⟨x+1,⟨by omega,by omega⟩,by show (_:Nat) < _; simp only [ar4]; omega,by repeat' first|exact trivial|exact rfl|assumption|apply And.intro,?_,trivial⟩
   rw [show (x+1).toNat=x.toNat+1 by omega,arM,arC,← hc,← hX]
   unfold arT
   rw [show y.toNat=6 by omega]
 ·refine cd1 (by rw [arE_len,hM]) ⟨trivial,?_⟩
  unfold arG
  rw [show x.toNat=(rcG n).length by omega]
theorem raround_e:raround_T=(∀ (gl:Glob) (n:Int),AroP n->fnK Tryz.prog { glob:=gl,spec:=lk [(144,rcells_s),(97,rcount_s)],specH:=lk [],shape:=[25,61,67,75,78,90,98,101,113,124],slz:=[(67,[1]),(75,[1]),(90,[1]),(98,[1]),(113,[1]),(124,[1])],nowf:=true } { nt:=134,drop:=drp [(1,126976),(2,917504),(5,50331648),(6,72057593970819072),(8,3458764513820540928),(10,4835698666772498271436800),(11,29014219670751100192948224),(12,40564780521677113179760911974400),(13,166072369834699877431280093529899008),(14,2722092781868034593222883883571610648576),(15,2722258935367507707706996859454145691648),(16,5444517870735015415413993718908291383296),(17,10889035741470030830827987437816582766592)],frz:=λ id=>cond (Nat.beq id 3) [9000019] [],act:=λ id=>cond (Nat.beq id 14) [.nop 19] (cond (Nat.beq id 15) [.frz 129,.cls 19] []) } (λ id st=>inv2 10 22 58 (ar10 n) id st (inv2 100012 22 58 (ar12 n) id st (invsN [(4,22,λ _=>ar4 n),(7,22,ar7 n)] id st))) 6 Tryz.f98 [.int .i64 n] (.sl 1 false (arE (arG n)))):=by kernel_rfl
def raround_v:=Eq.mp (raround_e ..) (raround_P)
theorem raround_ok (gl:Glob):SOK Tryz.prog gl 98 raround_s:=by
 refine ⟨fok Tryz.func98 (by kernel_rfl) (by kernel_rfl),?_⟩
 intro xs pre r h hp
 unfold raround_s at h
 split at h
 ·cases h
  exact fnK_sound tyNil (by exact specOK rfl rfl ⟨(rcells_ok gl),(rcount_ok gl),trivial⟩ trivial) (by kernel_rfl) Tryz.func98 rfl (raround_v gl _ hp)
 ·cases h
def isI:AV->Bool
 | .int .i64 _=>true
 | _=>false
def isRwN (n:Nat) (r:List AV):Bool:=Nat.beq r.length n&&r.all isI
theorem isI_e:∀ {x:AV},isI x=true->x=.int .i64 (aI x)
 | .int k v,h=>by cases k <;> first | rfl | (simp [isI] at h)
theorem isRow3 {r:List AV} (h:isRwN 3 r=true):r=row3 (nI r 0) (nI r 1) (nI r 2):=by
 simp only [isRwN,Bool.and_eq_true,List.all_eq_true] at h
 have hl:=Nat.eq_of_beq_eq_true h.1
 match r,hl,h.2 with
 | [a,b,c],_,h2 =>
  have ha:=isI_e (h2 a (by simp))
  have hb:=isI_e (h2 b (by simp))
  have hc:=isI_e (h2 c (by simp))
  rw [ha,hb,hc]; rfl
theorem isRow4 {r:List AV} (h:isRwN 4 r=true):r=rowP (nI r 0) (nI r 1) (nI r 2) (nI r 3):=by
 simp only [isRwN,Bool.and_eq_true,List.all_eq_true] at h
 have hl:=Nat.eq_of_beq_eq_true h.1
 match r,hl,h.2 with
 | [a,b,c,d],_,h2 =>
  have ha:=isI_e (h2 a (by simp))
  have hb:=isI_e (h2 b (by simp))
  have hc:=isI_e (h2 c (by simp))
  have hd:=isI_e (h2 d (by simp))
  rw [ha,hb,hc,hd]; rfl
def celB (N:Int) (r:List AV):Bool:=isRwN 3 r&&(decide (0≤nI r 0∧nI r 0 < N)&&(decide (0≤nI r 1∧nI r 1 < N)&&decide (0≤nI r 2∧nI r 2 < N)))
def aroB (n:Int):Bool:=(rqG n).all (isRwN 4)&&(Nat.ble (rqG n).length 1000&&(Nat.ble (rcG n).length 1000&&(rcG n).all (celB (ndN n))))
theorem aro_of {n:Int} (lo:1≤n) (hi:n≤2) (h:aroB n=true):AroP n:=by
 simp only [aroB,Bool.and_eq_true,List.all_eq_true] at h
 obtain ⟨h1,h2,h3,h4⟩:=h
 refine ⟨lo,hi,⟨λ r hr=>isRow4 (h1 r hr),Nat.le_of_ble_eq_true h2⟩,Nat.le_of_ble_eq_true h3,λ r hr=>?_⟩
 have:=h4 r hr
 simp only [celB,Bool.and_eq_true,decide_eq_true_eq] at this
 obtain ⟨q1,q2,q3,q4⟩:=this
 exact ⟨isRow3 q1,q2,q3,q4⟩
set_option maxRecDepth 100000
theorem aro1:AroP 1:=aro_of (by decide) (by decide) (by decide +kernel)
def rdJ (a:Int) (r:List Int):Nat->LL
 | 0=>[]
 | j+1=>if a < r.getD j 0 then rdJ a r j++[[.int .i64 a,.int .i64 (r.getD j 0)]] else rdJ a r j
def rdK (R:List (List Int)):Nat->LL
 | 0=>[]
 | k+1=>rdK R k++rdJ k (R.getD k []) (R.getD k []).length
def redL (n:Int):LL:=rdK (arG n) (arG n).length
theorem rdJ_len (a:Int) (r:List Int):∀ j,(rdJ a r j).length≤j
 | 0=>Nat.le_refl _
 | j+1=>by
  have:=rdJ_len a r j
  unfold rdJ
  split
  ·rw [List.length_append,List.length_singleton]; omega
  ·omega
theorem rdK_len (R:List (List Int)) (B:Nat) (h:∀ i,(R.getD i []).length≤B):∀ k,(rdK R k).length≤k*B
 | 0=>Nat.zero_le _
 | k+1=>by
  have h1:=rdK_len R B h k
  have h2:=rdJ_len k (R.getD k []) (R.getD k []).length
  have h3:=h k
  rw [rdK,List.length_append,Nat.succ_mul]; omega
structure Rd6 (n:Int) (x:Int):Prop where
 lo:0≤x
 hi:x≤ndN n
def rdI (n y j:Int):LL:=rdK (arG n) y.toNat++rdJ y ((arG n).getD y.toNat []) j.toNat
structure Rd9 (n y:Int) (j:Int):Prop where
 lo:0≤j
 hi:j≤((arG n).getD y.toNat []).length
def rd6 (n:Int):LInv:=⟨Int,λ x=>⟨[(4,.rw 400 2 (rdK (arG n) x.toNat).length),(5,.sl 1 false (arE (arG n))),(6,.int .i64 x)],[(400,.row 143 2 (rdK (arG n) x.toNat))]⟩,Rd6 n,λ x=>(ndN n - x).toNat,none⟩
def rd9 (n y:Int):LInv:=⟨Int,λ j=>⟨[(4,.rw 400 2 (rdI n y j).length),(5,.sl 1 false (arE (arG n))),(6,.int .i64 y),(23,.sl 1 false (intsL ((arG n).getD y.toNat []))),(24,.int .i64 ((arG n).getD y.toNat []).length),(25,.int .i64 j)],[(400,.row 143 2 (rdI n y j))]⟩,Rd9 n y,λ j=>(((arG n).getD y.toNat []).length - j).toNat,none⟩
def redges_s:Sp
 | [.int .i64 n]=>some (AroP n,.tup [.sl 2 false (redL n),.int .i64 0])
 | _=>none
def redges_T:Prop :=
 ∀ (gl:Glob) (n:Int),AroP n->IR9 n->(1≤n∧n≤(2:Int))∧bif decide ((10:Int)*n*n+(2:Int)=(0:Int)) then redL n=[]∧(1:Int)=(0:Int)∧True else AroP n∧(∃ x,Rd6 n x∧((0:Nat)=List.length (rdK (arG n) (Int.toNat x))∧(True∧arE (arG n)=arE (arG n))∧(0:Int)=x∧True)∧[]=rdK (arG n) (Int.toNat x)∧True)∧∀ (x1:Int),Rd6 n x1->bif decide (x1 < (↑(List.length (arE (arG n))):Int)) then bif decide (0≤x1∧x1 < (↑(List.length (arE (arG n))):Int)) then ∃ xs,List.take [AV.sl 1 false xs].length (List.getD (arE (arG n)) x1.toNat [])=[AV.sl 1 false xs]∧(∃ x_1,Rd9 n x1 x_1∧(List.length (rdK (arG n) x1.toNat)=List.length (rdI n x1 x_1)∧(True∧arE (arG n)=arE (arG n))∧x1=x1∧(True∧xs=intsL ((arG n).getD x1.toNat []))∧(↑xs.length:Int)=(↑((arG n).getD x1.toNat []).length:Int)∧(0:Int)=x_1∧True)∧rdK (arG n) x1.toNat=rdI n x1 x_1∧True)∧∀ (x2:Int),Rd9 n x1 x2->bif decide (x2 < (↑((arG n).getD x1.toNat []).length:Int)) then bif decide (0≤x2∧x2 < (↑(intsL ((arG n).getD x1.toNat [])).length:Int)) then ∃ n_1,List.take [I6 n_1].length ((intsL ((arG n).getD x1.toNat [])).getD x2.toNat [])=[I6 n_1]∧bif decide (x1 < n_1) then bif decide (List.length (rdI n x1 x2)=List.length (rdI n x1 x2)∧List.length (rdI n x1 x2)+[[I6 x1,I6 n_1]].length≤(9223372036854775807:Nat)∧(List.length (rdI n x1 x2)+[[I6 x1,I6 n_1]].length)*(16:Nat)≤(140737488355328:Nat)) then bif decide (rng IntKind.i64 (x2+(1:Int))) then ∃ y,Rd9 n x1 y∧(rd9 n x1).m y < (rd9 n x1).m x2∧((rdI n x1 x2++[[I6 x1,I6 n_1]]).length=List.length (rdI n x1 y)∧(True∧arE (arG n)=arE (arG n))∧x1=x1∧(True∧intsL ((arG n).getD x1.toNat [])=intsL ((arG n).getD x1.toNat []))∧(↑((arG n).getD x1.toNat []).length:Int)=(↑((arG n).getD x1.toNat []).length:Int)∧x2+(1:Int)=y∧True)∧rdI n x1 x2++[[I6 x1,I6 n_1]]=rdI n x1 y∧True else False else False else bif decide (rng IntKind.i64 (x2+(1:Int))) then ∃ y,Rd9 n x1 y∧(rd9 n x1).m y < (rd9 n x1).m x2∧(List.length (rdI n x1 x2)=List.length (rdI n x1 y)∧(True∧arE (arG n)=arE (arG n))∧x1=x1∧(True∧intsL ((arG n).getD x1.toNat [])=intsL ((arG n).getD x1.toNat []))∧(↑((arG n).getD x1.toNat []).length:Int)=(↑((arG n).getD x1.toNat []).length:Int)∧x2+(1:Int)=y∧True)∧rdI n x1 x2=rdI n x1 y∧True else False else False else bif decide (rng IntKind.i64 (x1+(1:Int))) then ∃ y,Rd6 n y∧((λ x1=>rd6 n) 0).m y < ((λ x1=>rd6 n) 0).m x1∧(List.length (rdI n x1 x2)=List.length (rdK (arG n) (Int.toNat y))∧(True∧arE (arG n)=arE (arG n))∧x1+(1:Int)=y∧True)∧rdI n x1 x2=rdK (arG n) (Int.toNat y)∧True else False else False else bif decide (List.length (rdK (arG n) x1.toNat)=List.length (rdK (arG n) x1.toNat)) then (True∧rdK (arG n) x1.toNat=redL n)∧(0:Int)=(0:Int)∧True else False
theorem redges_P:redges_T:=by
 unfold redges_T
 delta I6
 intro gl n hP hn
 have hN:(10*n*n+2:Int)=ndN n∧(ndN n:Int)≤42:=by rcases (show n=1∨n=2 by have:=hP.lo; have:=hP.hi; omega) with rfl | rfl <;> decide
 have h1:=hP.lo
 have h2:=hP.hi
 have hl:=hP.ln
 have hG:(arG n).length=ndN n:=by unfold arG; rw [arM_len]; simp [arZ]
 have hrow:∀ i,((arG n).getD i []).length≤6000:=λ i=>by
  have:=arM_row (arZ n) (rcG n) 0 (arZ_row n) (rcG n).length i
  unfold arG; omega
 have hE:(arE (arG n)).length=ndN n:=by rw [arE_len,hG]
 have hp:0 < 10*n*n+2:=by rcases (show n=1∨n=2 by omega) with rfl | rfl <;> decide
 refine ⟨⟨h1,h2⟩,cd0 (by omega) ⟨hP,⟨0,⟨Int.le_refl _,by omega⟩,by repeat' first|exact trivial|exact rfl|assumption|apply And.intro⟩,?_⟩⟩
 rintro x ⟨x0,x1⟩
 refine csp (λ q=>?_) (λ q=>?_)
 ·have hx:x.toNat < (arG n).length:=by omega
  refine cd1 ⟨x0,q⟩ ⟨intsL ((arG n).getD x.toNat []),by rw [arE_at hx]; rfl,⟨0,⟨Int.le_refl _,by omega⟩,?_,?_,trivial⟩,?_⟩
  ·exact ⟨by unfold rdI; simp [rdJ],⟨trivial,rfl⟩,rfl,⟨trivial,rfl⟩,by rw [ints_len],rfl,trivial⟩
  ·unfold rdI; simp [rdJ]
  rintro j ⟨j0,j1⟩
  have hr:=hrow x.toNat
  have hil:=ints_len ((arG n).getD x.toNat [])
  have hkl:=rdK_len (arG n) 6000 hrow x.toNat
  have hjl:=rdJ_len x ((arG n).getD x.toNat []) j.toNat
  have hxm:x.toNat*6000≤42*6000:=Nat.mul_le_mul_right _ (by omega)
  have hIl:(rdI n x j).length≤300000:=by unfold rdI; rw [List.length_append]; omega
  refine csp (λ qj=>?_) (λ qj=>?_)
  ·have hj:j.toNat < ((arG n).getD x.toNat []).length:=by omega
   have es:(j+1).toNat=j.toNat+1:=by omega
   refine cd1 ⟨j0,by omega⟩ ⟨_,by rw [ints_at hj]; rfl,csp (λ qa=>?_) (λ qa=>?_)⟩
   ·have e:rdI n x j++[[.int .i64 x,.int .i64 (((arG n).getD x.toNat []).getD j.toNat 0)]]=rdI n x (j+1):=by
     unfold rdI
     rw [es,rdJ,if_pos qa,List.append_assoc]
    have el:[[AV.int .i64 x,.int .i64 (((arG n).getD x.toNat []).getD j.toNat 0)]].length=1:=rfl
    exact cd1 (by rw [el]; omega) (cdI (by omega) ⟨j+1,⟨by omega,by omega⟩,by show (_:Nat) < _; simp only [rd9]; omega,⟨by rw [e],by repeat' first|exact trivial|exact rfl|assumption|apply And.intro⟩,e,trivial⟩)
   ·have e:rdI n x j=rdI n x (j+1):=by
     unfold rdI
     rw [es,rdJ,if_neg qa]
    exact cdI (by omega) ⟨j+1,⟨by omega,by omega⟩,by show (_:Nat) < _; simp only [rd9]; omega,⟨by rw [e],by repeat' first|exact trivial|exact rfl|assumption|apply And.intro⟩,e,trivial⟩
  ·have e:rdI n x j=rdK (arG n) (x+1).toNat:=by
    unfold rdI
    rw [show (x+1).toNat=x.toNat+1 by omega,rdK,show j.toNat=((arG n).getD x.toNat []).length by omega,Int.toNat_of_nonneg x0]
   exact cdI (by omega) ⟨x+1,⟨by omega,by omega⟩,by show (_:Nat) < _; simp only [rd6]; omega,⟨by rw [e],by repeat' first|exact trivial|exact rfl|assumption|apply And.intro⟩,e,trivial⟩
 ·have e:rdK (arG n) x.toNat=redL n:=by unfold redL; rw [hG,show x.toNat=ndN n by omega]
  exact cd1 rfl ⟨⟨trivial,e⟩,rfl,trivial⟩
theorem redges_e:redges_T=(∀ (gl:Glob) (n:Int),AroP n->fnK Tryz.prog { glob:=gl,spec:=lk [(97,rcount_s),(98,raround_s)],specH:=lk [],shape:=[23,28],slz:=[(23,[1])],nowf:=true } { nt:=40,drop:=drp [(1,1536),(4,12288),(6,114688),(7,786432),(8,7340032),(10,402653184),(11,1610612736),(12,270582939648),(13,274877906944),(14,549755813888)],emp:=λ id=>cond (Nat.beq id 5) [(4,400,143,2)] [] } (invsN [(6,6,λ _=>rd6 n),(9,6,rd9 n)]) 6 Tryz.f46 [.int .i64 n] (.tup [.sl 2 false (redL n),.int .i64 0])):=by kernel_rfl
def redges_v:=Eq.mp (redges_e ..) (redges_P)
theorem redges_ok (gl:Glob):SOK Tryz.prog gl 46 redges_s:=by
 refine ⟨fok Tryz.func46 (by kernel_rfl) (by kernel_rfl),?_⟩
 intro xs pre r h hp
 unfold redges_s at h
 split at h
 ·cases h
  exact fnK_sound tyNil (by exact specOK rfl rfl ⟨(rcount_ok gl),(raround_ok gl),trivial⟩ trivial) (by kernel_rfl) Tryz.func46 rfl (redges_v gl _ hp)
 ·cases h
set_option maxRecDepth 100000
theorem red30:(redL 1).length=30:=by decide +kernel
theorem dotN_addL (xs ys:List Int) (i:Nat) (x:Int):∀ k,dotN (addA xs i x) ys k=dotN xs ys k+if i < k∧i < xs.length then x*ys.getD i 0 else 0
 | 0=>by simp [dotN]
 | k+1=>by
  rw [dotN,dotN,dotN_addL xs ys i x k,addA_getD]
  by_cases q:i=k
  ·subst q
   by_cases q2:i < xs.length <;> simp only [q2,Nat.lt_irrefl,Nat.lt_succ_self,true_and,false_and,and_true,and_false,if_true,if_false,Int.add_mul,Int.add_zero] <;> omega
  ·by_cases q2:i < k <;> simp only [q,q2,show (i < k+1)=(i < k) from propext ⟨λ _=>by omega,λ _=>by omega⟩,true_and,false_and,if_false,Int.add_zero] <;> omega
theorem dotN_addR (xs ys:List Int) (i:Nat) (x:Int):∀ k,dotN xs (addA ys i x) k=dotN xs ys k+if i < k∧i < ys.length then xs.getD i 0*x else 0
 | 0=>by simp [dotN]
 | k+1=>by
  rw [dotN,dotN,dotN_addR xs ys i x k,addA_getD]
  by_cases q:i=k
  ·subst q
   by_cases q2:i < ys.length <;> simp only [q2,Nat.lt_irrefl,Nat.lt_succ_self,true_and,false_and,and_true,and_false,if_true,if_false,Int.mul_add,Int.add_zero] <;> omega
  ·by_cases q2:i < k <;> simp only [q,q2,show (i < k+1)=(i < k) from propext ⟨λ _=>by omega,λ _=>by omega⟩,true_and,false_and,if_false,Int.add_zero] <;> omega
theorem dot_addL {xs ys:List Int} {i:Nat} (x:Int) (h:i < xs.length):dotZ (addA xs i x) ys=dotZ xs ys+x*ys.getD i 0:=by
 unfold dotZ
 rw [addA_len,dotN_addL,if_pos ⟨h,h⟩]
theorem dot_addR {xs ys:List Int} {i:Nat} (x:Int) (h:i < xs.length) (h2:i < ys.length):dotZ xs (addA ys i x)=dotZ xs ys+xs.getD i 0*x:=by
 unfold dotZ
 rw [dotN_addR,if_pos ⟨h,h2⟩]
theorem mvS_add (es:LL) (ams:List Int) (k:Nat) (ds:List Int):mvS es ams k ds=addA (addA ds (nI (es.getD k []) 0).toNat (-ams.getD k 0)) (nI (es.getD k []) 1).toNat (ams.getD k 0):=by
 unfold mvS addA
 simp only [Int.sub_eq_add_neg]
set_option maxRecDepth 10000 in
theorem sch_dvd {a b c:Int} (h:schE a b c=0):scZ a b c - wan a (scZ a b c)=2 ^ min c.toNat 64*wan c (scZ a b c - wan a (scZ a b c))∧wan b (scZ a b c)=2 ^ min c.toNat 64*wan (b+c) (scZ a b c)∧(2:Int) ^ min c.toNat 64≠0:=by
 obtain ⟨ha,hb,hc⟩:=sch_b h
 rcases (show a=1∨a=2∨a=3∨a=4 by omega) with rfl | rfl | rfl | rfl <;> rcases (show b=1∨b=2∨b=3∨b=4 by omega) with rfl | rfl | rfl | rfl <;> rcases (show c=1∨c=2∨c=3∨c=4 by omega) with rfl | rfl | rfl | rfl <;> decide
theorem edge_id {es:LL} {a b c:Int} {dg bs gd gf ds fs:List Int} (hs:schE a b c=0) {k:Nat} (hb:-1≤bs.getD k 0∧bs.getD k 0≤1) {r0 r1:Int} (e0:r0=nI (es.getD k []) 0) (e1:r1=nI (es.getD k []) 1) :
    (alV b c (scZ a b c) (bs.getD k 0) r0 r1 k gd gf+alU (scZ a b c) (bs.getD k 0) r0 r1 dg gd)*ds.getD r0.toNat 0+-(alV b c (scZ a b c) (bs.getD k 0) r0 r1 k gd gf+alW (scZ a b c) (bs.getD k 0) r0 r1 dg gd)*ds.getD r1.toNat 0+alF a c (scZ a b c) (bs.getD k 0) r0 r1 k gd gf*fs.getD k 0
     =gd.getD r0.toNat 0*-taA es (scZ a b c) a b c dg bs ds fs k+gd.getD r1.toNat 0*taA es (scZ a b c) a b c dg bs ds fs k+gf.getD k 0*taF es (scZ a b c) a b ds fs k:=by
  obtain ⟨h1,h2,h3⟩:=sch_dvd hs
  unfold taA taF alV alU alW alF alQ
  rw [← e0,← e1,Int.toNat_natCast]
  generalize (scZ a b c).tdiv (dg.getD r0.toNat 0)=D0
  generalize (scZ a b c).tdiv (dg.getD r1.toNat 0)=D1
  generalize wan (b+c) (scZ a b c)=S' at *
  generalize wan c (scZ a b c - wan a (scZ a b c))=T' at *
  generalize scZ a b c - wan a (scZ a b c)=T at *
  generalize wan b (scZ a b c)=S at *
  generalize gd.getD r0.toNat 0=gA
  generalize gd.getD r1.toNat 0=gB
  generalize ds.getD r0.toNat 0=hA
  generalize ds.getD r1.toNat 0=hB
  generalize gf.getD k 0=g
  generalize fs.getD k 0=h
  rcases (show bs.getD k 0=0∨bs.getD k 0=1∨bs.getD k 0=-1 by omega) with q | q | q
  · rw [q]
    simp only [if_pos,show ¬ (0:Int)=1 by decide,show ¬ (0:Int)=-1 by decide,if_false]
    have ew:wan c (T*h+S*(hA - hB))=T'*h+S'*(hA - hB):=by
      unfold wan
      rw [show T*h+S*(hA - hB)=2 ^ min c.toNat 64*(T'*h+S'*(hA - hB)) by rw [h1,h2]; grind]
      exact Int.mul_ediv_cancel_left _ h3
    rw [ew]
    grind
  · rw [q]
    simp only [if_pos,show ¬ (1:Int)=0 by decide,show ¬ (1:Int)=-1 by decide,if_false]
    grind
  · rw [q]
    simp only [if_pos,show ¬ (-1:Int)=0 by decide,show ¬ (-1:Int)=1 by decide,if_false]
    grind
theorem dot_scale {Z:Int} {N:Nat} (xs ys:List Int):∀ k,k≤N->dotN (mk (taS Z xs) N) ys k=dotN xs (mk (taS Z ys) N) k
 | 0,_=>rfl
 | k+1,h=>by
  rw [dotN,dotN,dot_scale xs ys k (by omega),mk_getD _ (by omega),mk_getD _ (by omega)]
  unfold taS
  rw [Int.mul_comm Z,Int.mul_assoc]
structure TrP (n a b c:Int) (bs gd gf ds fs:List Int):Prop where
 hg:GrdP nrm n
 hs:schE a b c=0
 hb:∀ k,-1≤bs.getD k 0∧bs.getD k 0≤1
 lg:gd.length=ndN n
 ld:ds.length=ndN n
 lq:gf.length=(edgG nrm n).length
theorem transp_K {n a b c:Int} {bs gd gf ds fs:List Int} (h:TrP n a b c bs gd gf ds fs):∀ K,K≤(edgG nrm n).length->dotZ (ajK n a b c bs gd gf K) ds+dotN (ajG n a b c bs gd gf) fs K=dotZ gd (taK n a b c bs ds fs K)+dotN gf (taG n a b c ds fs) K
 | 0,_=>by
  show dotZ (mk (taS (scZ a b c) gd) (ndN n)) ds+0=dotZ gd (mk (taS (scZ a b c) ds) (ndN n))+0
  unfold dotZ
  rw [mk_len,h.lg,dot_scale gd ds _ (Nat.le_refl _)]
 | K+1,hK=>by
  have ih:=transp_K h K (by omega)
  obtain ⟨ea,eb⟩:=edg_at h.hg (k:=K) (by omega)
  have e1:ajK n a b c bs gd gf (K+1)=addA (addA (ajK n a b c bs gd gf K) (nI ((edgG nrm n).getD K []) 0).toNat (alV b c (scZ a b c) (bs.getD K 0) (nI ((edgG nrm n).getD K []) 0) (nI ((edgG nrm n).getD K []) 1) K gd gf+alU (scZ a b c) (bs.getD K 0) (nI ((edgG nrm n).getD K []) 0) (nI ((edgG nrm n).getD K []) 1) (degZ n) gd)) (nI ((edgG nrm n).getD K []) 1).toNat (-(alV b c (scZ a b c) (bs.getD K 0) (nI ((edgG nrm n).getD K []) 0) (nI ((edgG nrm n).getD K []) 1) K gd gf+alW (scZ a b c) (bs.getD K 0) (nI ((edgG nrm n).getD K []) 0) (nI ((edgG nrm n).getD K []) 1) (degZ n) gd)):=rfl
  have e2:taK n a b c bs ds fs (K+1)=addA (addA (taK n a b c bs ds fs K) (nI ((edgG nrm n).getD K []) 0).toNat (-taA (edgG nrm n) (scZ a b c) a b c (degZ n) bs ds fs K)) (nI ((edgG nrm n).getD K []) 1).toNat (taA (edgG nrm n) (scZ a b c) a b c (degZ n) bs ds fs K):=by
   have hk:K < (edgG nrm n).length:=by omega
   unfold taK
   rw [mvK,mvS_add,mk_getD _ hk]
  have lK:=ajK_len n a b c bs gd gf K
  have lT:=taK_len n a b c bs ds fs K
  have lg:=h.lg
  have ei:=edge_id (es:=edgG nrm n) (dg:=degZ n) (gd:=gd) (gf:=gf) (ds:=ds) (fs:=fs) h.hs (h.hb K) rfl rfl
  rw [e1,e2,dot_addL _ (by rw [addA_len]; omega),dot_addL _ (by omega),dot_addR _ (by omega) (by rw [addA_len]; omega),dot_addR _ (by omega) (by omega)]
  rw [dotN,dotN,show (ajG n a b c bs gd gf).getD K 0=alF a c (scZ a b c) (bs.getD K 0) (nI ((edgG nrm n).getD K []) 0) (nI ((edgG nrm n).getD K []) 1) K gd gf from mk_getD _ (by omega),show (taG n a b c ds fs).getD K 0=taF (edgG nrm n) (scZ a b c) a b ds fs K from mk_getD _ (by omega)]
  omega
theorem transp {n a b c:Int} {bs gd gf ds fs:List Int} (h:TrP n a b c bs gd gf ds fs):dotZ (ajD n a b c bs gd gf) ds+dotZ (ajG n a b c bs gd gf) fs=dotZ gd (taD n a b c bs ds fs)+dotZ gf (taG n a b c ds fs):=by
 have:=transp_K h _ (Nat.le_refl _)
 have e1:dotZ (ajG n a b c bs gd gf) fs=dotN (ajG n a b c bs gd gf) fs (edgG nrm n).length:=by unfold dotZ ajG; rw [mk_len]
 have e2:dotZ gf (taG n a b c ds fs)=dotN gf (taG n a b c ds fs) (edgG nrm n).length:=by unfold dotZ; rw [h.lq]
 rw [e1,e2]
 exact this
theorem rep_z (N k:Nat):(List.replicate N (0:Int)).getD k 0=0:=by
 rw [List.getD_eq_getElem?_getD,List.getElem?_replicate]
 split <;> rfl
theorem dotN_z (xs:List Int) (N:Nat):∀ k,dotN xs (List.replicate N 0) k=0
 | 0=>rfl
 | k+1=>by
  rw [dotN,dotN_z xs N k,rep_z,Int.mul_zero]; rfl
theorem dotN_zL (xs:List Int) (N:Nat):∀ k,dotN (List.replicate N 0) xs k=0
 | 0=>rfl
 | k+1=>by
  rw [dotN,dotN_zL xs N k,rep_z,Int.zero_mul]; rfl
theorem unV_add (n:Int) (k:Nat):unV n k=addA (List.replicate (ndN n) 0) k 1:=by
 unfold unV addA
 rw [List.getD_eq_getElem?_getD,List.getElem?_replicate]
 split <;> rfl
theorem dot_unR {n:Int} {xs:List Int} {j:Nat} (h:xs.length=ndN n) (hj:j < ndN n):dotZ xs (unV n j)=xs.getD j 0:=by
 rw [unV_add,dot_addR _ (by omega) (by rw [List.length_replicate]; exact hj)]
 unfold dotZ
 rw [dotN_z]; omega
theorem dot_unL {n:Int} {ys:List Int} {j:Nat} (hj:j < ndN n):dotZ (unV n j) ys=ys.getD j 0:=by
 rw [unV_add,dot_addL _ (by rw [List.length_replicate]; exact hj)]
 unfold dotZ
 rw [dotN_zL]; omega
theorem unV_len (n:Int) (k:Nat):(unV n k).length=ndN n:=by simp [unV]
theorem sens {n a b c:Int} {bs ds fs:List Int} (hg:GrdP nrm n) (hs:schE a b c=0) (hb:∀ k,-1≤bs.getD k 0∧bs.getD k 0≤1) (ld:ds.length=ndN n) {k:Nat} (hk:k < ndN n) :
  dotZ (ajD n a b c bs (unV n k) (zeV n)) ds+dotZ (ajG n a b c bs (unV n k) (zeV n)) fs=(taD n a b c bs ds fs).getD k 0:=by
 rw [transp ⟨hg,hs,hb,unV_len n k,ld,by simp [zeV]⟩,dot_unL hk]
 unfold dotZ zeV
 rw [dotN_zL]; omega
def sumF (f:Nat->Int):Nat->Int
 | 0=>0
 | k+1=>sumF f k+f k
theorem sumF_congr {f g:Nat->Int}:∀ {k},(∀ j,j < k->f j=g j)->sumF f k=sumF g k
 | 0,_=>rfl
 | k+1,h=>by rw [sumF,sumF,sumF_congr λ j hj=>h j (by omega),h k (by omega)]
theorem sumF_mul (Z:Int) (f:Nat->Int):∀ k,sumF (λ j=>Z*f j) k=Z*sumF f k
 | 0=>by simp [sumF]
 | k+1=>by rw [sumF,sumF,sumF_mul Z f k,Int.mul_add]
theorem sumF_add (l:List Int) (i:Nat) (x:Int):∀ k,sumF (λ j=>(addA l i x).getD j 0) k=sumF (λ j=>l.getD j 0) k+if i < k∧i < l.length then x else 0
 | 0=>by simp [sumF]
 | k+1=>by
  rw [sumF,sumF,sumF_add l i x k,addA_getD]
  by_cases q:i=k
  ·subst q
   by_cases q2:i < l.length <;> simp only [q2,Nat.lt_irrefl,Nat.lt_succ_self,true_and,false_and,and_true,and_false,if_true,if_false,Int.add_zero] <;> omega
  ·by_cases q2:i < k <;> simp only [q,q2,show (i < k+1)=(i < k) from propext ⟨λ _=>by omega,λ _=>by omega⟩,true_and,false_and,if_false,Int.add_zero] <;> omega
theorem sumF_z (N:Nat):∀ k,sumF (λ j=>(List.replicate N (0:Int)).getD j 0) k=0
 | 0=>rfl
 | k+1=>by
  rw [sumF,sumF_z N k,List.getD_eq_getElem?_getD,List.getElem?_replicate]
  split <;> rfl
theorem taK_sum {n a b c:Int} {bs ds fs:List Int} (hg:GrdP nrm n):∀ K,K≤(edgG nrm n).length->sumF (λ j=>(taK n a b c bs ds fs K).getD j 0) (ndN n)=scZ a b c*sumF (λ j=>ds.getD j 0) (ndN n)
 | 0,_=>by
  rw [← sumF_mul]
  exact sumF_congr λ j hj=>mk_getD _ hj
 | K+1,hK=>by
  obtain ⟨ea,eb⟩:=edg_at hg (k:=K) (by omega)
  have lT:=taK_len n a b c bs ds fs K
  have e2:taK n a b c bs ds fs (K+1)=addA (addA (taK n a b c bs ds fs K) (nI ((edgG nrm n).getD K []) 0).toNat (-taA (edgG nrm n) (scZ a b c) a b c (degZ n) bs ds fs K)) (nI ((edgG nrm n).getD K []) 1).toNat (taA (edgG nrm n) (scZ a b c) a b c (degZ n) bs ds fs K):=by
   have hk:K < (edgG nrm n).length:=by omega
   unfold taK
   rw [mvK,mvS_add,mk_getD _ hk]
  rw [e2,sumF_add,if_pos ⟨by omega,by rw [addA_len]; omega⟩,sumF_add,if_pos ⟨by omega,by omega⟩,taK_sum hg K (by omega)]
  omega
theorem ajD_un {n a b c:Int} {bs:List Int} (hg:GrdP nrm n) (hs:schE a b c=0) (hb:∀ k,-1≤bs.getD k 0∧bs.getD k 0≤1) {m j:Nat} (hm:m < ndN n) (hj:j < ndN n):(ajD n a b c bs (unV n m) (zeV n)).getD j 0=(taD n a b c bs (unV n j) (zeV n)).getD m 0:=by
 have:=sens (fs:=zeV n) hg hs hb (unV_len n j) hm
 rw [dot_unR (xs:=ajD n a b c bs (unV n m) (zeV n)) (ajK_len _ _ _ _ _ _ _ _) hj] at this
 unfold dotZ at this
 rw [show dotN (ajG n a b c bs (unV n m) (zeV n)) (zeV n) _=0 from dotN_z _ _ _] at this
 omega
theorem ajG_un {n a b c:Int} {bs:List Int} (hg:GrdP nrm n) (hs:schE a b c=0) (hb:∀ k,-1≤bs.getD k 0∧bs.getD k 0≤1) {m i:Nat} (hm:m < ndN n) (hi:i < (edgG nrm n).length):(ajG n a b c bs (unV n m) (zeV n)).getD i 0=(taD n a b c bs (List.replicate (ndN n) 0) (addA (zeV n) i 1)).getD m 0:=by
 have:=sens (fs:=addA (zeV n) i 1) hg hs hb (ds:=List.replicate (ndN n) 0) (by simp) hm
 rw [dot_addR _ (by unfold ajG; rw [mk_len]; exact hi) (by simp [zeV]; exact hi)] at this
 unfold dotZ at this
 rw [dotN_z,show dotN (ajG n a b c bs (unV n m) (zeV n)) (zeV n) _=0 from dotN_z _ _ _] at this
 omega
theorem sens_sum {n a b c:Int} {bs:List Int} (hg:GrdP nrm n) (hs:schE a b c=0) (hb:∀ k,-1≤bs.getD k 0∧bs.getD k 0≤1) {j:Nat} (hj:j < ndN n):sumF (λ m=>(ajD n a b c bs (unV n m) (zeV n)).getD j 0) (ndN n)=scZ a b c:=by
 rw [sumF_congr λ m hm=>ajD_un hg hs hb hm hj]
 unfold taD
 rw [taK_sum hg _ (Nat.le_refl _),unV_add,sumF_add,sumF_z,if_pos ⟨hj,by rw [List.length_replicate]; exact hj⟩]
 omega
theorem sens_zero {n a b c:Int} {bs:List Int} (hg:GrdP nrm n) (hs:schE a b c=0) (hb:∀ k,-1≤bs.getD k 0∧bs.getD k 0≤1) {i:Nat} (hi:i < (edgG nrm n).length):sumF (λ m=>(ajG n a b c bs (unV n m) (zeV n)).getD i 0) (ndN n)=0:=by
 rw [sumF_congr λ m hm=>ajG_un hg hs hb hm hi]
 unfold taD
 rw [taK_sum hg _ (Nat.le_refl _),sumF_z]
 omega
def ltE (x y:List AV):Prop:=nI x 0 < nI y 0∨(nI x 0=nI y 0∧nI x 1 < nI y 1)
theorem cmpB_str:∀ (l:LL) (p:List AV),(∀ r ∈ p::l,okR 2 r=true)->(p::l).Pairwise leE->(∀ r ∈ cmpB p l,ltE p r)∧(cmpB p l).Pairwise ltE
 | [],p,_,_=>by simp [cmpB]
 | x::l,p,ho,hs=>by
  have hp:=ho p List.mem_cons_self
  have hx:=ho x (List.mem_cons_of_mem _ List.mem_cons_self)
  rw [List.pairwise_cons] at hs
  have ih:=cmpB_str l x (λ r hr=>ho r (List.mem_cons_of_mem _ hr)) hs.2
  unfold cmpB
  split
  ·rename_i e
   have e:=(eqE_iff hx hp).1 e
   subst e
   exact ih
  ·rename_i e
   have hne:¬ x=p:=λ q=>e ((eqE_iff hx hp).2 q)
   have hle:=hs.1 x List.mem_cons_self
   have hlt:ltE p x:=by
    unfold leE at hle
    unfold ltE
    by_cases q0:nI p 0=nI x 0
    ·by_cases q1:nI p 1=nI x 1
     ·exfalso
      apply hne
      have e1:=(ok2 hx).1
      have e2:=(ok2 hp).1
      rw [← q0,← q1] at e1
      rw [e1]; exact e2.symm
     ·omega
    ·omega
   refine ⟨λ r hr=>?_,List.pairwise_cons.2 ⟨ih.1,ih.2⟩⟩
   rcases List.mem_cons.1 hr with rfl | hr
   ·exact hlt
   ·have:=ih.1 r hr
    unfold ltE at *
    omega
theorem cmpct_str:∀ (l:LL),(∀ r ∈ l,okR 2 r=true)->l.Pairwise leE->(cmpct l).Pairwise ltE
 | [],_,_=>by simp [cmpct]
 | x::l,ho,hs=>by
  have:=cmpB_str l x ho hs
  exact List.pairwise_cons.2 this
def cdE (r:List AV):Nat:=(nI r 0).toNat*1000+(nI r 1).toNat
def hsN (x:Nat):List Nat->Bool
 | []=>false
 | y::l=>Nat.beq x y||hsN x l
def ddp:List Nat->List Nat
 | []=>[]
 | x::l=>cond (hsN x l) (ddp l) (x::ddp l)
theorem hsN_iff {x:Nat}:∀ {l:List Nat},hsN x l=true↔x ∈ l
 | []=>by simp [hsN]
 | y::l=>by
  simp only [hsN,Bool.or_eq_true,List.mem_cons,hsN_iff (l:=l)]
  refine or_congr_left ⟨Nat.eq_of_beq_eq_true,λ e=>by subst e; exact Nat.beq_refl _⟩
theorem ddp_mem {x:Nat}:∀ {l:List Nat},x ∈ ddp l↔x ∈ l
 | []=>by simp [ddp]
 | y::l=>by
  unfold ddp
  cases h:hsN y l with
  | true =>
   rw [cond_true,ddp_mem (l:=l),List.mem_cons]
   have:=hsN_iff.1 h
   refine ⟨.inr,λ q=>?_⟩
   rcases q with rfl | q
   ·exact this
   ·exact q
  | false=>rw [cond_false,List.mem_cons,List.mem_cons,ddp_mem (l:=l)]
theorem ddp_nodup:∀ {l:List Nat},(ddp l).Nodup
 | []=>by simp [ddp]
 | y::l=>by
  unfold ddp
  cases h:hsN y l with
  | true=>rw [cond_true]; exact ddp_nodup
  | false =>
   rw [cond_false,List.nodup_cons]
   refine ⟨λ q=>?_,ddp_nodup⟩
   have:=hsN_iff.2 (ddp_mem.1 q)
   rw [h] at this; cases this
theorem ndp_le:∀ {l l':List Nat},l.Nodup->(∀ x ∈ l,x ∈ l')->l.length≤l'.length
 | [],_,_,_=>Nat.zero_le _
 | x::l,l',hn,hs=>by
  rw [List.nodup_cons] at hn
  have hx:=hs x List.mem_cons_self
  have h1:l.length≤(l'.erase x).length:=ndp_le hn.2 λ y hy=>(List.mem_erase_of_ne (λ e=>hn.1 (by subst e; exact hy))).2 (hs y (List.mem_cons_of_mem _ hy))
  rw [List.length_erase_of_mem hx] at h1
  have:=List.length_pos_of_mem hx
  simp only [List.length_cons]; omega
section
variable {nrm:NrT} {n:Int} (h:BldQ nrm n)
include h
theorem edg_iff (r:List AV):(r ∈ edgG nrm n↔r ∈ edL (clG nrm n)):=by
 have h3:=clG_in h.l2 h.rg
 have p3:=sortR_perm (cf:=cf3) swo3 (λ r hr=>(h3 r hr).ok)
 have h2:∀ q ∈ edL (celG nrm n),InR (ptG nrm n).1.length 2 q:=λ q hq=>by
  simp only [edL,List.mem_flatMap] at hq
  obtain ⟨r,hr,hq⟩:=hq
  exact edR_in h.l2 (h3 r (p3.mem_iff.1 hr)) q hq
 have p2:=sortR_perm (cf:=cf2) swo2 (λ r hr=>(h2 r hr).ok)
 rw [show edgG nrm n=cmpct (sortR 2 cf2 (edL (celG nrm n))) from rfl,cmpct_mem (λ r hr=>(h2 r (p2.mem_iff.1 hr)).ok)]
 show r ∈ sortR 2 cf2 (edL (celG nrm n))↔_
 rw [p2.mem_iff]
 simp only [edL,List.mem_flatMap]
 exact exists_congr λ c=>and_congr_left λ _=>p3.mem_iff
theorem edg_str:(edgG nrm n).Pairwise ltE:=by
 have h3:=clG_in h.l2 h.rg
 have p3:=sortR_perm (cf:=cf3) swo3 (λ r hr=>(h3 r hr).ok)
 have h2:∀ q ∈ edL (celG nrm n),InR (ptG nrm n).1.length 2 q:=λ q hq=>by
  simp only [edL,List.mem_flatMap] at hq
  obtain ⟨r,hr,hq⟩:=hq
  exact edR_in h.l2 (h3 r (p3.mem_iff.1 hr)) q hq
 have p2:=sortR_perm (cf:=cf2) swo2 (λ r hr=>(h2 r hr).ok)
 obtain ⟨d,e,hs⟩:=sortR_sorted (cf:=cf2) swo2 (edL (celG nrm n))
 have hs':(sortR 2 cf2 (edL (celG nrm n))).Pairwise leE:=by
  rw [e,List.pairwise_map]
  refine hs.imp λ {a b} h=>?_
  rw [cf2_iff] at h
  have:=of_decide_eq_false h
  unfold leE
  omega
 exact cmpct_str _ (λ r hr=>(h2 r (p2.mem_iff.1 hr)).ok) hs'
theorem edg_count {K:Nat} (hK:(ddp ((edL (clG' nrm n)).map cdE)).length=K):(edgG nrm n).length=K:=by
 rw [← clG_e] at hK
 have hin:=(edgG_in h).1
 have l2:=h.l2
 have hst:=edg_str h
 have hnd:((edgG nrm n).map cdE).Nodup:=by
  rw [List.nodup_iff_pairwise_ne,List.pairwise_map]
  refine (List.Pairwise.and_mem.1 hst).imp ?_
  rintro a b ⟨ha,hb,q⟩
  have a0:=(hin a ha).at_ 0 (by decide)
  have a1:=(hin a ha).at_ 1 (by decide)
  have b0:=(hin b hb).at_ 0 (by decide)
  have b1:=(hin b hb).at_ 1 (by decide)
  unfold ltE at q
  unfold cdE
  omega
 have hme:∀ x,x ∈ (edgG nrm n).map cdE↔x ∈ ddp ((edL (clG nrm n)).map cdE):=λ x=>by
  rw [ddp_mem,List.mem_map,List.mem_map]
  exact exists_congr λ r=>and_congr_left λ _=>edg_iff h r
 have h1:=ndp_le hnd λ x hx=>(hme x).1 hx
 have h2:=ndp_le ddp_nodup λ x hx=>(hme x).2 hx
 rw [List.length_map] at h1 h2
 omega
end
set_option maxRecDepth 100000
theorem edg30:(edgG nrm 1).length=30:=edg_count grd1.bq (by decide +kernel)
end Go.Proofs.YtgbbmadjdaphnaaGreatDoor
