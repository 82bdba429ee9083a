import Derived.Test.YtgbbmadjdaphnaaGreatDoorTTe
import Derived.Shelf.Abstract
import Derived.WalkKit
import Derived.OwnWalkIn
import Derived.TacticsInMore
set_option maxRecDepth 100000
set_option linter.defProp false
set_option linter.unusedVariables false
set_option linter.unusedSimpArgs false
namespace Go.Proofs.YtgbbmadjdaphnaaGreatDoor
open Go
def wan (s z:Int):Int:=z / 2 ^ min s.toNat 64
def amV (es:LL) (ds fs dg:List Int) (mv:Int) (k:Nat):Int × Int :=
 let a:=(nI (es.getD k []) 0).toNat
 let b:=(nI (es.getD k []) 1).toNat
 let l0:=(ds.getD a 0).tdiv (dg.getD a 0)
 let l1:=(ds.getD b 0).tdiv (dg.getD b 0)
 let w:=wan mv (fs.getD k 0)
 if l0 < w then (l0,1) else if w < -l1 then (-l1,-1) else (w,0)
def amK (es:LL) (ds fs dg:List Int) (mv:Int):Nat->List Int × List Int
 | 0=>([],[])
 | k+1=>((amK es ds fs dg mv k).1++[(amV es ds fs dg mv k).1],(amK es ds fs dg mv k).2++[(amV es ds fs dg mv k).2])
def amZ (n mv:Int) (ds fs:List Int):List Int × List Int:=amK (aS nrm n) ds fs (bR n) mv (aS nrm n).length
theorem aHG {nrm:NrT} {n:Int} (h:BldQ nrm n) (r:List AV):r ∈ aS nrm n↔r ∈ edL (clG nrm n):=by
 have h3:=rA h.l2 h.rg
 have p3:=bY (cf:=cf3) aLj (λ r hr=>(h3 r hr).ok)
 have h2:∀ q ∈ edL (dB nrm n),InR (ptG nrm n).1.length 2 q:=λ q hq=>by
  simp only [edL,List.mem_flatMap] at hq
  obtain ⟨r,hr,hq⟩:=hq
  exact qU h.l2 (h3 r (p3.mem_iff.1 hr)) q hq
 have p2:=bY (cf:=cf2) aIN (λ r hr=>(h2 r hr).ok)
 rw [show aS nrm n=cS (dC 2 cf2 (edL (dB nrm n))) from rfl,qZ (λ r hr=>(h2 r (p2.mem_iff.1 hr)).ok)]
 rw [p2.mem_iff]
 simp only [edL,List.mem_flatMap]
 exact exists_congr λ c=>and_congr_left λ _=>p3.mem_iff
theorem aSC {n:Int} (h:GrdP nrm n) {j:Nat} (hj:j < (ptG nrm n).1.length):∃ k:Nat,k < (ptG nrm n).1.length∧(k:Int) ∈ nb (pM nrm n) j:=by
 obtain ⟨rk,hc⟩:=h.cn
 have hN:2≤(ptG nrm n).1.length:=by
  have:=h.ln
  have h1:=h.bq.lo
  have h4:=h.bq.hi
  rcases n14 h1 h4 with rfl | rfl | rfl | rfl <;> omega
 rcases Nat.eq_zero_or_pos j with rfl | hp
 ·have key:∀ m k,rk k≤m->1≤k->k < (ptG nrm n).1.length->∃ q:Nat,q < (ptG nrm n).1.length∧((0:Nat):Int) ∈ nb (pM nrm n) q:=λ m=>by
   induction m with
   | zero =>
    intro k hm h1 hk
    obtain ⟨q,hq,hr,_⟩:=hc k h1 hk
    omega
   | succ m ih =>
    intro k hm h1 hk
    obtain ⟨q,hq,hr,hmm⟩:=hc k h1 hk
    rcases Nat.eq_zero_or_pos q with rfl | hq0
    ·exact ⟨k,hk,hmm⟩
    ·exact ih q (by omega) hq0 hq
  obtain ⟨q,hq,hm⟩:=key _ 1 (Nat.le_refl _) (Nat.le_refl _) (by omega)
  exact ⟨q,hq,(aLB h.bq (by omega) hq).2 hm⟩
 ·obtain ⟨k,hk,_,hm⟩:=hc j hp hj
  exact ⟨k,hk,hm⟩
theorem aCR {n:Int} (h:GrdP nrm n) {j:Nat} (hj:j < ndN n):∃ i:Nat,i < (aS nrm n).length∧((nI ((aS nrm n).getD i []) 0).toNat=j∨(nI ((aS nrm n).getD i []) 1).toNat=j):=by
 have hl:=h.ln
 have hj':j < (ptG nrm n).1.length:=by unfold ndN at hj; omega
 obtain ⟨k,hk,hm⟩:=aSC h hj'
 rcases (sV h.bq hj' k).1 hm with q | q
 ·obtain ⟨i,hi,e⟩:=List.getElem_of_mem ((aHG h.bq _).2 q)
  refine ⟨i,hi,.inl ?_⟩
  rw [aB,aD hi,Option.getD_some,e]; rfl
 ·obtain ⟨i,hi,e⟩:=List.getElem_of_mem ((aHG h.bq _).2 q)
  refine ⟨i,hi,.inr ?_⟩
  rw [aB,aD hi,Option.getD_some,e]; rfl
theorem aLp {l:List Int} {i j:Nat}:l.getD j 0≤(l.set i (l.getD i 0+1)).getD j 0∧(i=j->i < l.length->l.getD j 0+1≤(l.set i (l.getD i 0+1)).getD j 0):=by
 rw [aB (l:=l.set i (l.getD i 0+1)),List.getElem?_set]
 by_cases e:i=j
 ·subst e
  rw [if_pos rfl]
  by_cases h:i < l.length
  ·rw [if_pos h,Option.getD_some]; exact ⟨by omega,λ _ _=>by omega⟩
  ·rw [if_neg h,aB,List.getElem?_eq_none (by omega)]; exact ⟨Int.le_refl _,λ _ q=>absurd q h⟩
 ·rw [if_neg e,← aB]; exact ⟨Int.le_refl _,λ q=>absurd q e⟩
theorem aHK (ds:List Int) (r:List AV) (j:Nat):ds.getD j 0≤(aKU ds r).getD j 0∧((nI r 0).toNat=j∨(nI r 1).toNat=j->j < ds.length->ds.getD j 0+1≤(aKU ds r).getD j 0):=by
 have a:=aLp (l:=ds) (i:=(nI r 0).toNat) (j:=j)
 have b:=aLp (l:=ds.set (nI r 0).toNat (ds.getD (nI r 0).toNat 0+1)) (i:=(nI r 1).toNat) (j:=j)
 rw [List.length_set] at b
 show _≤List.getD (List.set _ _ _) j 0∧(_->_->_≤List.getD (List.set _ _ _) j 0)
 refine ⟨Int.le_trans a.1 b.1,λ h hl=>?_⟩
 rcases h with h | h
 ·exact Int.le_trans (a.2 h (by omega)) b.1
 ·have:=b.2 h (by omega); omega
theorem aHM (es:LL) (N:Nat) (j:Nat):∀ m k,(nZ es N k).getD j 0≤(nZ es N (k+m)).getD j 0
 | 0,k=>Int.le_refl _
 | m+1,k=>Int.le_trans (aHM es N j m k) (aHK _ _ _).1
theorem eO {n:Int} (h:GrdP nrm n) {j:Nat} (hj:j < ndN n):1≤(bR n).getD j 0:=by
 obtain ⟨i,hi,he⟩:=aCR h hj
 have h1:=(aHK (nZ (aS nrm n) (ndN n) i) ((aS nrm n).getD i []) j).2 he (by rw [lZ]; exact hj)
 have h0:=(wQ (aS nrm n) (ndN n) i j).1
 have h2:=aHM (aS nrm n) (ndN n) j ((aS nrm n).length - (i+1)) (i+1)
 rw [show i+1+((aS nrm n).length - (i+1))=(aS nrm n).length by omega] at h2
 have e:nZ (aS nrm n) (ndN n) (i+1)=aKU (nZ (aS nrm n) (ndN n) i) ((aS nrm n).getD i []):=rfl
 rw [e] at h2
 unfold bR
 omega
theorem wP (n:Int):(bR n).length=ndN n:=lZ _ _ _
theorem xC (es:LL) (ds fs dg:List Int) (mv:Int):∀ k,(amK es ds fs dg mv k).1.length=k∧(amK es ds fs dg mv k).2.length=k
 | 0=>⟨rfl,rfl⟩
 | k+1=>by
  have:=xC es ds fs dg mv k
  simp only [amK,aG,aH]
  omega
theorem mK {a b c:Int} (h:bU a b c=0):(1≤a∧a≤4)∧(1≤b∧b≤4)∧1≤c∧c≤4:=by
 unfold bU at h
 split at h
 ·cases h
 ·rename_i q
  have q:outB 1 4 [a,b,c]=false:=by simpa using q
  have:=aAP q
  exact ⟨this a (by simp),this b (by simp),this c (by simp)⟩
theorem aCa {x y:Int} (h0:0≤x) (h:x≤16777216) (hy:1≤y):0≤x.tdiv y∧x.tdiv y≤16777216:=by
 rw [Int.tdiv_eq_ediv_of_nonneg h0]
 refine ⟨Int.ediv_nonneg h0 (by omega),Int.le_trans (Int.ediv_le_self y h0) h⟩
theorem aL3 {s z:Int} (hs:1≤s∧s≤4) (hz:-16777216≤z∧z≤16777216):-16777216≤wan s z∧wan s z≤16777216:=by
 unfold wan
 rcases (by omega:s=1∨s=2∨s=3∨s=4) with rfl | rfl | rfl | rfl
 ·rw [show ((2:Int) ^ min (Int.toNat 1) 64)=2 from rfl]; omega
 ·rw [show ((2:Int) ^ min (Int.toNat 2) 64)=4 from rfl]; omega
 ·rw [show ((2:Int) ^ min (Int.toNat 3) 64)=8 from rfl]; omega
 ·rw [show ((2:Int) ^ min (Int.toNat 4) 64)=16 from rfl]; omega
structure AmoP (n a b c:Int) (ds fs:LL):Prop where
 v:VStP n ds fs
 sc:bU a b c=0
def amL (n a b c:Int) (g h:Bool) (ds fs:LL):RL:=RLe n [(2,.ptr 2 0),(3,.ptr 3 0),(9,.ptr 9 0),(11,.ptr 11 0),(12,.ptr 12 0)] (λ k=>[(2,.cells [.int .i64 a,.int .i64 b,.int .i64 c]),(3,.cells [.int .i64 n,.sl 1 g ds,.sl 1 h fs]),(9,.cells [.sl 1 false (aP (bR n))]),(11,.cells [.rw 1100 1 (amK (aS nrm n) (aQ ds) (aQ fs) (bR n) c k).1.length]),(12,.cells [.rw 1200 1 (amK (aS nrm n) (aQ ds) (aQ fs) (bR n) c k).2.length]),(1100,.row 3 1 (aP (amK (aS nrm n) (aQ ds) (aQ fs) (bR n) c k).1)),(1200,.row 3 1 (aP (amK (aS nrm n) (aQ ds) (aQ fs) (bR n) c k).2))]) 38 [2,3,9,11,12]
def aHA:Sp
 | [.agg [.int .i64 a,.int .i64 b,.int .i64 c],.agg [.int .i64 n,.sl 1 g ds,.sl 1 h fs]]=>some (AmoP n a b c ds fs,.tup [.sl 1 false (aP (amZ n c (aQ ds) (aQ fs)).1),.sl 1 false (aP (amZ n c (aQ ds) (aQ fs)).2),.int .i64 0])
 | _=>none
abbrev cJ (n:Int) (ds:LL) (fs:LL) (c:Int) (k7:Nat):=(amK (aS YtgbbmadjdaphnaaGreatDoor.nrm n) (aQ ds) (aQ fs) (bR n) c k7)
abbrev dI (n:Int):=(aS YtgbbmadjdaphnaaGreatDoor.nrm n)
abbrev gP (n:Int) (ds:LL) (fs:LL) (c:Int) (k7:Nat):=(amK (dI n) (aQ ds) (aQ fs) (bR n) c (k7+(1:Nat)))
abbrev aC4 (n:Int) (ds:LL) (fs:LL) (c:Int) (k7:Nat):=((cJ n ds fs c k7).2.length=(aP (cJ n ds fs c k7).2).length∧(aP (cJ n ds fs c k7).2).length+(1:Nat)≤(9223372036854775807:Nat)∧((aP (cJ n ds fs c k7).2).length+(1:Nat))*(8:Nat)≤(140737488355328:Nat))
abbrev zA (n:Int) (g:Bool) (ds:LL) (h:Bool) (fs:LL):=(n=n∧((bif g then g=true else True)∧ds=ds)∧((bif h then h=true else True)∧fs=fs)∧True)
abbrev qS (n:Int) (ds:LL) (fs:LL) (c:Int) (a:Int) (b:Int) (g:Bool) (h:Bool):=(amK (dI n) (aQ ds) (aQ fs) (bR n) c (amL n a b c g h ds fs).N)
abbrev yZ (n:Int):=((True∧aP (bR n)=aP (bR n))∧True)
def aHB (outB:Int->Int->List Int->Bool) (bU:Int->Int->Int->Int) (nrm:NrT) (dF:Int->List Int->List Int->Int):Prop :=
 ∀ (n a b c:Int) (g h:Bool) (ds fs:LL),AmoP n a b c ds fs->True∧bif decide ¬bU a b c=(0:Int) then aP (amZ n c (aQ ds) (aQ fs)).1=[]∧aP (amZ n c (aQ ds) (aQ fs)).2=[]∧bU a b c=(0:Int)∧True else StaP n ds fs∧bif decide ¬dF n (aQ ds) (aQ fs)=(0:Int) then aP (amZ n c (aQ ds) (aQ fs)).1=[]∧aP (amZ n c (aQ ds) (aQ fs)).2=[]∧dF n (aQ ds) (aQ fs)=(0:Int)∧True else GrdP YtgbbmadjdaphnaaGreatDoor.nrm n∧True∧ItOK (amL n a b c g h ds fs).gf (amL n a b c g h ds fs).c (amL n a b c g h ds fs).N (amL n a b c g h ds fs).x0 (amL n a b c g h ds fs).x1∧((((0:Nat)=(0:Nat)∧True)∧(0:Nat)=(0:Nat)∧(0:Nat)=(0:Nat)∧(0:Nat)=(0:Nat)∧(0:Nat)=(0:Nat)∧(0:Nat)=(0:Nat)∧True)∧(n=n∧True)∧(a=a∧b=b∧c=c∧True)∧(zA n g ds h fs)∧(yZ n)∧((0:Nat)=(amK (dI n) (aQ ds) (aQ fs) (bR n) c 0).1.length∧True)∧((0:Nat)=(amK (dI n) (aQ ds) (aQ fs) (bR n) c 0).2.length∧True)∧[]=aP (amK (dI n) (aQ ds) (aQ fs) (bR n) c 0).1∧[]=aP (amK (dI n) (aQ ds) (aQ fs) (bR n) c 0).2∧True)∧((∀ (k1:Nat),nn k1 (AV.ptr 2 0)=false->inL k1 (amL n a b c g h ds fs).kp=true)∧(∀ (k2:Nat),nn k2 (AV.ptr 3 0)=false->inL k2 (amL n a b c g h ds fs).kp=true)∧(∀ (k3:Nat),nn k3 (AV.ptr 9 0)=false->inL k3 (amL n a b c g h ds fs).kp=true)∧(∀ (k4:Nat),nn k4 (AV.ptr 11 0)=false->inL k4 (amL n a b c g h ds fs).kp=true)∧(∀ (k5:Nat),nn k5 (AV.ptr 12 0)=false->inL k5 (amL n a b c g h ds fs).kp=true)∧True)∧(∀ (k6:Nat),lM ((amL n a b c g h ds fs).H k6)=true)∧(∀ (k7:Nat),k7 < (amL n a b c g h ds fs).N->bif decide (0≤nI ((dI n).getD k7 []) 0∧nI ((dI n).getD k7 []) 0 < (↑ds.length:Int)) then ∃ n_1,List.take [I6 n_1].length (ds.getD (nI ((dI n).getD k7 []) 0).toNat [])=[I6 n_1]∧bif decide (0≤nI ((dI n).getD k7 []) 0∧nI ((dI n).getD k7 []) 0 < (↑(aP (bR n)).length:Int)) then ∃ n_2,List.take [I6 n_2].length ((aP (bR n)).getD (nI ((dI n).getD k7 []) 0).toNat [])=[I6 n_2]∧bif decide ¬n_2=(0:Int) then bif decide (rng IntKind.i64 (n_1.tdiv n_2)) then bif decide (0≤nI ((dI n).getD k7 []) 1∧nI ((dI n).getD k7 []) 1 < (↑ds.length:Int)) then ∃ n_3,List.take [I6 n_3].length (ds.getD (nI ((dI n).getD k7 []) 1).toNat [])=[I6 n_3]∧bif decide (0≤nI ((dI n).getD k7 []) 1∧nI ((dI n).getD k7 []) 1 < (↑(aP (bR n)).length:Int)) then ∃ n_4,List.take [I6 n_4].length ((aP (bR n)).getD (nI ((dI n).getD k7 []) 1).toNat [])=[I6 n_4]∧bif decide ¬n_4=(0:Int) then bif decide (rng IntKind.i64 (n_3.tdiv n_4)) then bif decide ((0:Int)≤(↑k7:Int)∧(↑k7:Int) < (↑fs.length:Int)) then ∃ n_5,List.take [I6 n_5].length (fs.getD (↑k7:Int).toNat [])=[I6 n_5]∧bif decide (0≤c) then bif decide (n_1.tdiv n_2 < n_5 / (2:Int) ^ min c.toNat 64) then bif decide ((cJ n ds fs c k7).1.length=(aP (cJ n ds fs c k7).1).length∧(aP (cJ n ds fs c k7).1).length+[[I6 (n_1.tdiv n_2)]].length≤(9223372036854775807:Nat)∧((aP (cJ n ds fs c k7).1).length+[[I6 (n_1.tdiv n_2)]].length)*(8:Nat)≤(140737488355328:Nat)) then bif decide (aC4 n ds fs c k7) then True∧(a=a∧b=b∧c=c∧True)∧(zA n g ds h fs)∧(yZ n)∧((aP (cJ n ds fs c k7).1++[[I6 (n_1.tdiv n_2)]]).length=(gP n ds fs c k7).1.length∧True)∧((aP (cJ n ds fs c k7).2++[[I6 1]]).length=(gP n ds fs c k7).2.length∧True)∧aP (cJ n ds fs c k7).1++[[I6 (n_1.tdiv n_2)]]=aP (gP n ds fs c k7).1∧aP (cJ n ds fs c k7).2++[[I6 1]]=aP (gP n ds fs c k7).2∧True else False else False else bif decide (rng IntKind.i64 ((0:Int) - n_3.tdiv n_4)) then bif decide (n_5 / (2:Int) ^ min c.toNat 64 < (0:Int) - n_3.tdiv n_4) then bif decide (rng IntKind.i64 ((0:Int) - n_3.tdiv n_4)) then bif decide ((cJ n ds fs c k7).1.length=(aP (cJ n ds fs c k7).1).length∧(aP (cJ n ds fs c k7).1).length+[[I6 ((0:Int) - n_3.tdiv n_4)]].length≤(9223372036854775807:Nat)∧((aP (cJ n ds fs c k7).1).length+[[I6 ((0:Int) - n_3.tdiv n_4)]].length)*(8:Nat)≤(140737488355328:Nat)) then bif decide (aC4 n ds fs c k7) then True∧(a=a∧b=b∧c=c∧True)∧(zA n g ds h fs)∧(yZ n)∧((aP (cJ n ds fs c k7).1++[[I6 ((0:Int) - n_3.tdiv n_4)]]).length=(gP n ds fs c k7).1.length∧True)∧((aP (cJ n ds fs c k7).2++[[I6 (-1:Int)]]).length=(gP n ds fs c k7).2.length∧True)∧aP (cJ n ds fs c k7).1++[[I6 ((0:Int) - n_3.tdiv n_4)]]=aP (gP n ds fs c k7).1∧aP (cJ n ds fs c k7).2++[[I6 (-1:Int)]]=aP (gP n ds fs c k7).2∧True else False else False else False else bif decide ((cJ n ds fs c k7).1.length=(aP (cJ n ds fs c k7).1).length∧(aP (cJ n ds fs c k7).1).length+[[I6 (n_5 / (2:Int) ^ min c.toNat 64)]].length≤(9223372036854775807:Nat)∧((aP (cJ n ds fs c k7).1).length+[[I6 (n_5 / (2:Int) ^ min c.toNat 64)]].length)*(8:Nat)≤(140737488355328:Nat)) then bif decide (aC4 n ds fs c k7) then True∧(a=a∧b=b∧c=c∧True)∧(zA n g ds h fs)∧(yZ n)∧((aP (cJ n ds fs c k7).1++[[I6 (n_5 / (2:Int) ^ min c.toNat 64)]]).length=(gP n ds fs c k7).1.length∧True)∧((aP (cJ n ds fs c k7).2++[[I6 0]]).length=(gP n ds fs c k7).2.length∧True)∧aP (cJ n ds fs c k7).1++[[I6 (n_5 / (2:Int) ^ min c.toNat 64)]]=aP (gP n ds fs c k7).1∧aP (cJ n ds fs c k7).2++[[I6 0]]=aP (gP n ds fs c k7).2∧True else False else False else False else False else False else False else False else False else False else False else False else False else False)∧bif decide ((qS n ds fs c a b g h).1.length=(aP (qS n ds fs c a b g h).1).length) then bif decide ((qS n ds fs c a b g h).2.length=(aP (qS n ds fs c a b g h).2).length) then (True∧aP (qS n ds fs c a b g h).1=aP (amZ n c (aQ ds) (aQ fs)).1)∧(True∧aP (qS n ds fs c a b g h).2=aP (amZ n c (aQ ds) (aQ fs)).2)∧(0:Int)=(0:Int)∧True else False else False
theorem aTj:aHB outB bU nrm dF:=by
 unfold aHB
 delta cJ dI gP aC4 zA qS yZ I6
 intro n a b c g h ds fs hP
 have hv:=hP.v
 have hsc:=hP.sc
 obtain ⟨ld,lf,bd,bf⟩:=hv.facts
 have hg:=hv.gp
 have hs:dF n (aQ ds) (aQ fs)=0:=by unfold dF; rw [hv.ok]; rfl
 have hsp:=hv.sp
 have de:=hv.de
 have fe:=hv.fe
 have hE:=(cB hg.bq).2
 have g1:cond g (g=true) True:=gg g
 have g2:cond h (h=true) True:=gg h
 obtain ⟨_,_,hc⟩:=mK hsc
 refine ⟨trivial,cd0 (λ q=>q hsc) ⟨hsp,cd0 (λ q=>q hs) ⟨hg,trivial,itE hg.bq,by repeat' first|exact trivial|exact rfl|assumption|apply And.intro,?_,λ k=>rfl,?_,?_⟩⟩⟩
 ·refine ⟨λ k q=>by rw [fC q]; rfl,λ k q=>by rw [fC q]; rfl,λ k q=>by rw [fC q]; rfl,λ k q=>by rw [fC q]; rfl,λ k q=>by rw [fC q]; rfl,trivial⟩
 ·clear hsp hs
  intro k hk
  have hk:k < (aS nrm n).length:=hk
  obtain ⟨zd,hzd⟩:∃ z,z=aQ ds:=⟨_,rfl⟩
  obtain ⟨zf,hzf⟩:∃ z,z=aQ fs:=⟨_,rfl⟩
  rw [← hzd] at de ld bd ⊢
  rw [← hzf] at fe lf bf ⊢
  clear hzd hzf
  obtain ⟨ea,eb⟩:=iE hg hk
  obtain ⟨l1,l2⟩:=xC (aS nrm n) zd zf (bR n) c k
  have es:amK (aS nrm n) zd zf (bR n) c (k+1)=((amK (aS nrm n) zd zf (bR n) c k).1++[(amV (aS nrm n) zd zf (bR n) c k).1],(amK (aS nrm n) zd zf (bR n) c k).2++[(amV (aS nrm n) zd zf (bR n) c k).2]):=rfl
  rw [es]
  generalize amK (aS nrm n) zd zf (bR n) c k=A at l1 l2 ⊢
  clear es
  have pa:1≤(bR n).getD (nI ((aS nrm n).getD k []) 0).toNat 0:=eO hg (by omega)
  have pb:1≤(bR n).getD (nI ((aS nrm n).getD k []) 1).toNat 0:=eO hg (by omega)
  have hdl:=wP n
  have ev:amV (aS nrm n) zd zf (bR n) c k=if (zd.getD (nI ((aS nrm n).getD k []) 0).toNat 0).tdiv ((bR n).getD (nI ((aS nrm n).getD k []) 0).toNat 0) < wan c (zf.getD k 0) then ((zd.getD (nI ((aS nrm n).getD k []) 0).toNat 0).tdiv ((bR n).getD (nI ((aS nrm n).getD k []) 0).toNat 0),1) else if wan c (zf.getD k 0) < -(zd.getD (nI ((aS nrm n).getD k []) 1).toNat 0).tdiv ((bR n).getD (nI ((aS nrm n).getD k []) 1).toNat 0) then (-(zd.getD (nI ((aS nrm n).getD k []) 1).toNat 0).tdiv ((bR n).getD (nI ((aS nrm n).getD k []) 1).toNat 0),-1) else (wan c (zf.getD k 0),0):=rfl
  generalize amV (aS nrm n) zd zf (bR n) c k=V at ev ⊢
  generalize (aS nrm n).getD k []=r at ea eb pa pb ev ⊢
  have e1:zd[(nI r 0).toNat]?=some (zd.getD (nI r 0).toNat 0):=bH (by omega)
  have e2:(bR n)[(nI r 0).toNat]?=some ((bR n).getD (nI r 0).toNat 0):=bH (by omega)
  have e3:zd[(nI r 1).toNat]?=some (zd.getD (nI r 1).toNat 0):=bH (by omega)
  have e4:(bR n)[(nI r 1).toNat]?=some ((bR n).getD (nI r 1).toNat 0):=bH (by omega)
  have e5:zf[k]?=some (zf.getD k 0):=bH (by omega)
  have b1:=bd _ (aL e1)
  have b3:=bd _ (aL e3)
  have b5:=bf _ (aL e5)
  have t1:=aCa b1.1 b1.2 pa
  have t3:=aCa b3.1 b3.2 pb
  have hds:ds.length=ndN n:=by rw [de,aR,ld]
  have hfs:fs.length=(aS nrm n).length:=by rw [fe,aR,lf]
  refine cd1 (by omega) ⟨zd.getD (nI r 0).toNat 0,by rw [de,bB e1]; rfl,cd1 (by rw [aR]; omega) ⟨(bR n).getD (nI r 0).toNat 0,by rw [bB e2]; rfl,cd1 (by omega) (cdI (by omega) (cd1 (by omega) ⟨zd.getD (nI r 1).toNat 0,by rw [de,bB e3]; rfl,cd1 (by rw [aR]; omega) ⟨(bR n).getD (nI r 1).toNat 0,by rw [bB e4]; rfl,cd1 (by omega) (cdI (by omega) (cd1 (by omega) ⟨zf.getD k 0,by rw [fe,show ((k:Int).toNat)=k from Int.toNat_natCast k,bB e5]; rfl,cd1 (by omega) ?_⟩))⟩⟩))⟩⟩
  show cond (decide ((zd.getD (nI r 0).toNat 0).tdiv ((bR n).getD (nI r 0).toNat 0) < wan c (zf.getD k 0))) _ _
  generalize (zd.getD (nI r 0).toNat 0).tdiv ((bR n).getD (nI r 0).toNat 0)=x at t1 ev ⊢
  generalize (zd.getD (nI r 1).toNat 0).tdiv ((bR n).getD (nI r 1).toNat 0)=y at t3 ev ⊢
  refine csp (λ q=>?_) (λ q=>cdI (by omega) (csp (λ q2=>cdI (by omega) ?_) (λ q2=>?_)))
  ·rw [if_pos q] at ev
   subst ev
   rw [← cN,← cN]
   refine cd1 ⟨by rw [aR],by rw [aR,aH]; omega,by rw [aR,aH]; omega⟩ (cd1 ⟨by rw [aR],by rw [aR]; omega,by rw [aR]; omega⟩ ?_)
   simp only [aG,aR,aH]
   (repeat' (first | exact trivial | exact rfl | assumption | apply And.intro))
  ·have q2:wan c (zf.getD k 0) < -y:=by have q2:wan c (zf.getD k 0) < 0 - y:=q2; omega
   rw [if_neg q,if_pos q2] at ev
   subst ev
   rw [Int.zero_sub]
   rw [← cN,← cN]
   refine cd1 ⟨by rw [aR],by rw [aR,aH]; omega,by rw [aR,aH]; omega⟩ (cd1 ⟨by rw [aR],by rw [aR]; omega,by rw [aR]; omega⟩ ?_)
   simp only [aG,aR,aH]
   (repeat' (first | exact trivial | exact rfl | assumption | apply And.intro))
  ·have q2:¬ wan c (zf.getD k 0) < -y:=λ q3=>q2 (show wan c (zf.getD k 0) < 0 - y by omega)
   rw [if_neg q,if_neg q2] at ev
   subst ev
   rw [← cN,← cN]
   refine cd1 ⟨by rw [aR],by rw [aR,aH]; omega,by rw [aR,aH]; omega⟩ (cd1 ⟨by rw [aR],by rw [aR]; omega,by rw [aR]; omega⟩ ?_)
   simp only [aG,aR,aH]
   (repeat' (first | exact trivial | exact rfl | assumption | apply And.intro))
 ·exact cd1 (by rw [aR]) (cd1 (by rw [aR]) (by repeat' first|exact trivial|exact rfl|assumption|apply And.intro))
theorem aTi (outB:Int->Int->List Int->Bool) (bU:Int->Int->Int->Int) (nrm:NrT) (dF:Int->List Int->List Int->Int):aHB outB bU nrm dF=(∀ (n a b c:Int) (g h:Bool) (ds fs:LL),AmoP n a b c ds fs->fnR Tryz.prog { glob:=glb,spec:=lk [(65,(tC outB bU)),(70,(qQ nrm dF)),(72,yX)],specH:=lk [(119,lY)],shape:=[46,51,58,63,70],nowf:=true } { nt:=111,drop:=drp [(1,393216),(2,524288),(3,2097152),(4,12582912),(5,16777216),(6,67108864),(7,8455716864),(8,8589934592),(9,34359738368),(12,206158430208),(15,73786974095814950912),(16,18815678955183742648320),(17,2398962173297779768557568),(18,72535549176877750482370560),(19,19729669376110748131204792320),(20,1228036518971097232699931230208),(21,647769456716625224164815337947136),(22,1947111321950560360698936123457536)],emp:=λ id=>cond (Nat.beq id 12) [(1001100,1100,3,1),(1001200,1200,3,1)] [] } (λ _ _=>none) 6 (λ _=>some (amL n a b c g h ds fs)) Tryz.f104 [.agg [.int .i64 a,.int .i64 b,.int .i64 c],.agg [.int .i64 n,.sl 1 g ds,.sl 1 h fs]] (.tup [.sl 1 false (aP (amZ n c (aQ ds) (aQ fs)).1),.sl 1 false (aP (amZ n c (aQ ds) (aQ fs)).2),.int .i64 0])):=by kernel_rfl
def aTh:=Eq.mp (aTi ..) (aTj)
theorem aOJ:SOK Tryz.prog glb 104 aHA:=by
 refine ⟨fok Tryz.func104 (by kernel_rfl) (by kernel_rfl),?_⟩
 intro xs pre r h hp
 unfold aHA at h
 split at h
 ·cases h
  exact lX bD (by exact aV rfl rfl ⟨(vW glb),(qR),(aBy),trivial⟩ ⟨(qO glb),trivial⟩) rfl Tryz.func104 rfl (aTh  _ _ _ _ _ _ _ _ hp)
 ·cases h
def aGP:SpH
 | [.sl 1 g ys],[]=>some (1≤ys.length∧ys.length≤1000000,.rw 0 1 ys.length,[.row 3 1 ys])
 | _,_=>none
def aGQ:Prop :=
 ∀ (gl:aX) (g:Bool) (ys:LL),1≤ys.length∧ys.length≤(1000000:Nat)->True->(ys=[]->False∧False)∧bif decide ((0:Nat)=(0:Nat)∧(0:Nat)+ys.length≤(9223372036854775807:Nat)∧((0:Nat)+ys.length)*(8:Nat)≤(140737488355328:Nat)) then ([]++ys).length=ys.length∧[]++ys=ys∧True else False
theorem aSx:aGQ:=by
 unfold aGQ
 intro gl g ys ⟨h1,h2⟩
 intros
 exact ⟨λ e=>by subst e; simp at h1,cd1 ⟨rfl,by omega,by omega⟩ (by repeat' first|exact trivial|exact rfl|assumption|apply And.intro)⟩
theorem aSw:aGQ=(∀ (gl:aX) (g:Bool) (ys:LL),1≤ys.length∧ys.length≤1000000->fnH Tryz.prog { glob:=gl,spec:=lk [],specH:=lk [],nowf:=true,nq:=true } { nt:=8,drop:=drp [(1,8),(3,224)],fr:=1000,kp:=[],own:=true } (λ _ _=>none) 6 Tryz.f60 [.sl 1 g ys] [] (.rw 0 1 ys.length) [.row 3 1 ys]):=by kernel_rfl
def aSv:=Eq.mp (aSw ..) (aSx)
theorem aOf (gl:aX):HOK Tryz.prog gl 60 aGP:=by
 refine ⟨fok Tryz.func60 (by kernel_rfl) (by kernel_rfl),?_⟩
 intro xs bs pre r bs2 h hp
 unfold aGP at h
 split at h
 ·cases h
  exact bC bD (by exact aV rfl rfl trivial trivial) (by kernel_rfl) Tryz.func60 (aSv gl _ _ hp)
 ·cases h
def mvS (es:LL) (ams:List Int) (k:Nat) (ds:List Int):List Int :=
 let a:=(nI (es.getD k []) 0).toNat
 let b:=(nI (es.getD k []) 1).toNat
 let d1:=ds.set a (ds.getD a 0 - ams.getD k 0)
 d1.set b (d1.getD b 0+ams.getD k 0)
def mvK (es:LL) (ams ds:List Int):Nat->List Int
 | 0=>ds
 | k+1=>mvS es ams k (mvK es ams ds k)
theorem aNk (es:LL) (ams:List Int) (k:Nat) (ds:List Int):(mvS es ams k ds).length=ds.length:=by simp [mvS]
theorem vB (es:LL) (ams ds:List Int):∀ k,(mvK es ams ds k).length=ds.length
 | 0=>rfl
 | k+1=>by rw [mvK,aNk,vB es ams ds k]
theorem iP {l:List Int} {B C x:Int} (h:∀ j,-B≤l.getD j 0∧l.getD j 0≤B) (hx:-C≤x∧x≤C) {i:Nat} (hC:0≤C):∀ j,-(B+C)≤(l.set i (l.getD i 0+x)).getD j 0∧(l.set i (l.getD i 0+x)).getD j 0≤B+C:=λ j=>by
 have hi:=h i
 have hj:=h j
 rw [aB,List.getElem?_set]
 split
 ·split
  ·simp only [Option.getD_some]; omega
  ·simp only [Option.getD_none]; omega
 ·rw [← aB]; omega
theorem aLD {es:LL} {ams ds:List Int} (hd:∀ z ∈ ds,0≤z∧z≤16777216) (ha:∀ z ∈ ams,-16777216≤z∧z≤16777216):∀ (k j:Nat),-((2*k+1)*16777216:Int)≤(mvK es ams ds k).getD j 0∧(mvK es ams ds k).getD j 0≤(2*k+1)*16777216
 | 0,j=>by
  have:=jB (B:=16777216) (by decide) (λ z hz=>by have:=hd z hz; omega) (l:=ds) j
  simp only [mvK]; omega
 | k+1,j=>by
  have hz:=jB (B:=16777216) (by decide) ha k
  have h1:=iP (l:=mvK es ams ds k) (λ j=>aLD hd ha k j) (x:=-ams.getD k 0) (C:=16777216) (by omega) (i:=(nI (es.getD k []) 0).toNat) (by decide)
  have h2:=iP h1 (x:=ams.getD k 0) (C:=16777216) hz (i:=(nI (es.getD k []) 1).toNat) (by decide) j
  rw [mvK]
  unfold mvS
  simp only [Int.sub_eq_add_neg] at h2 ⊢
  omega
theorem lN {n:Int} (h:GrdP nrm n):12≤ndN n∧ndN n≤200:=by
 have h1:=h.bq.lo
 have h4:=h.bq.hi
 unfold ndN
 rcases n14 h1 h4 with rfl | rfl | rfl | rfl <;> decide
def mvZ (n:Int) (ams ds:List Int):List Int:=mvK (aS nrm n) ams ds (aS nrm n).length
def mvB (n:Int) (ams ds:List Int):Bool:=outB 0 16777216 (mvZ n ams ds)
def mvE (n:Int) (ams ds:List Int):Int:=if mvB n ams ds=true then 7 else 0
def mvN (n:Int) (ams ds:List Int):Int:=if mvB n ams ds=true then 0 else n
def mvD (n:Int) (ams ds:List Int):LL:=if mvB n ams ds=true then [] else aP (mvZ n ams ds)
def mvF (n:Int) (ams ds:List Int) (fs:LL):LL:=if mvB n ams ds=true then [] else fs
structure MovP (n:Int) (ds fs ams:LL):Prop where
 v:VStP n ds fs
 ae:ams=aP (aQ ams)
 al:(aQ ams).length=(aS nrm n).length
 ab:∀ z ∈ aQ ams,-16777216≤z∧z≤16777216
def mvL (n:Int) (g h i:Bool) (ds fs ams:LL):RL:=RLe n [(2,.ptr 2 0),(3,.ptr 3 0),(4,.ptr 4 0),(5,.int .i64 0),(7,.ptr 7 0)] (λ k=>[(2,.cells [.int .i64 n,.sl 1 g ds,.sl 1 h fs]),(3,.cells [.sl 1 i ams]),(4,.cells [.int .i64 0,.nils,.nils]),(7,.cells [.int .i64 n,.rw 31 1 (ndN n),.rw 34 1 (aS nrm n).length]),(31,.row 3 1 (aP (mvK (aS nrm n) (aQ ams) (aQ ds) k))),(34,.row 3 1 fs)]) 38 [2,3,4,7]
def aBr:Sp
 | [.agg [.int .i64 n,.sl 1 g ds,.sl 1 h fs],.sl 1 i ams]=>some (MovP n ds fs ams,.tup [.agg [.int .i64 (mvN n (aQ ams) (aQ ds)),.sl 1 false (mvD n (aQ ams) (aQ ds)),.sl 1 false (mvF n (aQ ams) (aQ ds) fs)],.int .i64 (mvE n (aQ ams) (aQ ds))])
 | _=>none
abbrev cH (n:Int):=(aS YtgbbmadjdaphnaaGreatDoor.nrm n)
abbrev eM (n:Int) (ams:LL) (ds:LL) (k7:Nat):=(aP (mvK (cH n) (aQ ams) (aQ ds) k7))
abbrev qK (n:Int) (ams:LL) (ds:LL) (fs:LL):=((0:Int)=mvN n (aQ ams) (aQ ds)∧mvD n (aQ ams) (aQ ds)=[]∧mvF n (aQ ams) (aQ ds) fs=[]∧True)
abbrev jE (n:Int) (ams:LL) (ds:LL) (g:Bool) (h:Bool) (i:Bool) (fs:LL):=(mvK (cH n) (aQ ams) (aQ ds) (mvL n g h i ds fs ams).N)
abbrev fY (n:Int) (k7:Nat):=(nI ((cH n).getD k7 []) 0)
def aBs (nrm:NrT) (dF:Int->List Int->List Int->Int):Prop :=
 ∀ (n:Int) (g h i:Bool) (ds fs ams:LL),MovP n ds fs ams->StaP n ds fs∧bif decide ¬dF n (aQ ds) (aQ fs)=(0:Int) then (qK n ams ds fs)∧dF n (aQ ds) (aQ fs)=mvE n (aQ ams) (aQ ds)∧True else bif decide ¬(↑ams.length:Int)=(↑fs.length:Int) then (qK n ams ds fs)∧(1:Int)=mvE n (aQ ams) (aQ ds)∧True else (ams=aP (aQ ams)∧ams.length≤(1000000:Nat))∧bif outB (-16777216:Int) 16777216 (aQ ams) then (qK n ams ds fs)∧(1:Int)=mvE n (aQ ams) (aQ ds)∧True else (1≤ds.length∧ds.length≤(1000000:Nat))∧(1≤fs.length∧fs.length≤(1000000:Nat))∧True∧ItOK (mvL n g h i ds fs ams).gf (mvL n g h i ds fs ams).c (mvL n g h i ds fs ams).N (mvL n g h i ds fs ams).x0 (mvL n g h i ds fs ams).x1∧((((0:Nat)=(0:Nat)∧True)∧(0:Nat)=(0:Nat)∧(0:Nat)=(0:Nat)∧(0:Nat)=(0:Nat)∧(0:Int)=(0:Int)∧(0:Nat)=(0:Nat)∧True)∧(n=n∧True)∧(n=n∧((bif g then g=true else True)∧ds=ds)∧((bif h then h=true else True)∧fs=fs)∧True)∧(((bif i then i=true else True)∧ams=ams)∧True)∧((0:Int)=(0:Int)∧True∧True∧True)∧(n=n∧ds.length=ndN n∧fs.length=(cH n).length∧True)∧ds=aP (mvK (cH n) (aQ ams) (aQ ds) 0)∧fs=fs∧True)∧((∀ (k1:Nat),nn k1 (AV.ptr 2 0)=false->inL k1 (mvL n g h i ds fs ams).kp=true)∧(∀ (k2:Nat),nn k2 (AV.ptr 3 0)=false->inL k2 (mvL n g h i ds fs ams).kp=true)∧(∀ (k3:Nat),nn k3 (AV.ptr 4 0)=false->inL k3 (mvL n g h i ds fs ams).kp=true)∧(∀ (k4:Nat),nn k4 (I6 0)=false->inL k4 (mvL n g h i ds fs ams).kp=true)∧(∀ (k5:Nat),nn k5 (AV.ptr 7 0)=false->inL k5 (mvL n g h i ds fs ams).kp=true)∧True)∧(∀ (k6:Nat),lM ((mvL n g h i ds fs ams).H k6)=true)∧(∀ (k7:Nat),k7 < (mvL n g h i ds fs ams).N->bif decide (0≤nI ((cH n).getD k7 []) 0∧nI ((cH n).getD k7 []) 0 < (↑(ndN n):Int)) then bif decide (ndN n=(eM n ams ds k7).length∧(fY n k7).toNat < (eM n ams ds k7).length) then ∃ n_1,List.take [I6 n_1].length (List.drop 0 ((eM n ams ds k7).getD (fY n k7).toNat []))=[I6 n_1]∧bif decide ((0:Int)≤(↑k7:Int)∧(↑k7:Int) < (↑ams.length:Int)) then ∃ n_2,List.take [I6 n_2].length (ams.getD (↑k7:Int).toNat [])=[I6 n_2]∧bif decide (rng IntKind.i64 (n_1 - n_2)) then bif decide (0≤nI ((cH n).getD k7 []) 0∧nI ((cH n).getD k7 []) 0 < (↑(ndN n):Int)) then bif decide (ndN n=(eM n ams ds k7).length∧(fY n k7).toNat < (eM n ams ds k7).length) then bif decide (0≤nI ((cH n).getD k7 []) 1∧nI ((cH n).getD k7 []) 1 < (↑(ndN n):Int)) then bif decide (ndN n=(setEl (eM n ams ds k7) (fY n k7).toNat 0 [I6 (n_1 - n_2)]).length∧(nI ((cH n).getD k7 []) 1).toNat < (setEl (eM n ams ds k7) (fY n k7).toNat 0 [I6 (n_1 - n_2)]).length) then ∃ n_3,List.take [I6 n_3].length (List.drop 0 ((setEl (eM n ams ds k7) (fY n k7).toNat 0 [I6 (n_1 - n_2)]).getD (nI ((cH n).getD k7 []) 1).toNat []))=[I6 n_3]∧bif decide ((0:Int)≤(↑k7:Int)∧(↑k7:Int) < (↑ams.length:Int)) then ∃ n_4,List.take [I6 n_4].length (ams.getD (↑k7:Int).toNat [])=[I6 n_4]∧bif decide (rng IntKind.i64 (n_3+n_4)) then bif decide (0≤nI ((cH n).getD k7 []) 1∧nI ((cH n).getD k7 []) 1 < (↑(ndN n):Int)) then bif decide (ndN n=(setEl (eM n ams ds k7) (fY n k7).toNat 0 [I6 (n_1 - n_2)]).length∧(nI ((cH n).getD k7 []) 1).toNat < (setEl (eM n ams ds k7) (fY n k7).toNat 0 [I6 (n_1 - n_2)]).length) then True∧(n=n∧((bif g then g=true else True)∧ds=ds)∧((bif h then h=true else True)∧fs=fs)∧True)∧(((bif i then i=true else True)∧ams=ams)∧True)∧((0:Int)=(0:Int)∧True∧True∧True)∧(n=n∧ndN n=ndN n∧(cH n).length=(cH n).length∧True)∧setEl (setEl (eM n ams ds k7) (fY n k7).toNat 0 [I6 (n_1 - n_2)]) (nI ((cH n).getD k7 []) 1).toNat 0 [I6 (n_3+n_4)]=aP (mvK (cH n) (aQ ams) (aQ ds) (k7+(1:Nat)))∧fs=fs∧True else False else False else False else False else False else False else False else False else False else False else False else False)∧bif decide (ndN n=(aP (jE n ams ds g h i fs)).length) then (aP (jE n ams ds g h i fs)=aP (aQ (aP (jE n ams ds g h i fs)))∧(aP (jE n ams ds g h i fs)).length≤(1000000:Nat))∧bif outB 0 16777216 (aQ (aP (jE n ams ds g h i fs))) then (qK n ams ds fs)∧(7:Int)=mvE n (aQ ams) (aQ ds)∧True else bif decide (ndN n=(aP (jE n ams ds g h i fs)).length) then bif decide ((cH n).length=fs.length) then (n=mvN n (aQ ams) (aQ ds)∧(True∧aP (jE n ams ds g h i fs)=mvD n (aQ ams) (aQ ds))∧(True∧fs=mvF n (aQ ams) (aQ ds) fs)∧True)∧(0:Int)=mvE n (aQ ams) (aQ ds)∧True else False else False else False
theorem aOw:aBs nrm dF:=by
 unfold aBs
 delta cH eM qK jE fY I6
 intro n g h i ds fs ams hP
 have hv:=hP.v
 obtain ⟨ld,lf,bd,bf⟩:=hv.facts
 have hg:=hv.gp
 have hs:dF n (aQ ds) (aQ fs)=0:=by unfold dF; rw [hv.ok]; rfl
 have hsp:=hv.sp
 have de:=hv.de
 have fe:=hv.fe
 have ae:=hP.ae
 have al:=hP.al
 have ab:=hP.ab
 have hE:=(cB hg.bq).2
 have hN:=lN hg
 have g1:cond g (g=true) True:=gg g
 have g2:cond h (h=true) True:=gg h
 have g3:cond i (i=true) True:=gg i
 have hfs:fs.length=(aS nrm n).length:=by rw [← bP,lf]
 have hds:ds.length=ndN n:=by rw [← bP,ld]
 have hams:ams.length=(aS nrm n).length:=by rw [← bP,al]
 have hE1:1≤(aS nrm n).length:=by
  obtain ⟨q,hq,_⟩:=aCR hg (j:=0) (by omega)
  omega
 have hout:outB (-16777216) 16777216 (aQ ams)=false:=mX ab
 rw [hout]
 refine ⟨hsp,cd0 (λ q=>q hs) (cd0 (λ q=>q (by rw [hams,hfs])) ⟨⟨ae,by omega⟩,⟨by omega,by omega⟩,⟨by omega,by omega⟩,trivial,itE hg.bq,by repeat' first|exact trivial|exact rfl|assumption|apply And.intro,?_,λ k=>rfl,?_,?_⟩)⟩
 ·refine ⟨λ k q=>by rw [fC q]; rfl,λ k q=>by rw [fC q]; rfl,λ k q=>by rw [fC q]; rfl,λ k q=>by simp [nn] at q,λ k q=>by rw [fC q]; rfl,trivial⟩
 ·clear hsp hs
  intro k hk
  have hk:k < (aS nrm n).length:=hk
  obtain ⟨ea,eb⟩:=iE hg hk
  obtain ⟨za,hza⟩:∃ z,z=aQ ams:=⟨_,rfl⟩
  obtain ⟨zd,hzd⟩:∃ z,z=aQ ds:=⟨_,rfl⟩
  rw [← hza] at ae al ab ⊢
  rw [← hzd] at ld bd ⊢
  have hl:(mvK (aS nrm n) za zd k).length=ndN n:=by rw [vB,ld]
  have hb:=aLD (es:=aS nrm n) bd ab k
  have es:mvK (aS nrm n) za zd (k+1)=((mvK (aS nrm n) za zd k).set (nI ((aS nrm n).getD k []) 0).toNat ((mvK (aS nrm n) za zd k).getD (nI ((aS nrm n).getD k []) 0).toNat 0 - za.getD k 0)).set (nI ((aS nrm n).getD k []) 1).toNat (((mvK (aS nrm n) za zd k).set (nI ((aS nrm n).getD k []) 0).toNat ((mvK (aS nrm n) za zd k).getD (nI ((aS nrm n).getD k []) 0).toNat 0 - za.getD k 0)).getD (nI ((aS nrm n).getD k []) 1).toNat 0+za.getD k 0):=rfl
  rw [es]
  generalize mvK (aS nrm n) za zd k=d at hl hb ⊢
  generalize (aS nrm n).getD k []=r at ea eb ⊢
  have e1:d[(nI r 0).toNat]?=some (d.getD (nI r 0).toNat 0):=bH (by omega)
  have e2:za[k]?=some (za.getD k 0):=bH (by omega)
  have ba:=ab _ (aL e2)
  have b1:=hb (nI r 0).toNat
  have et:∀ q,List.take [AV.int .i64 q].length (ams.getD ((k:Int).toNat) [])=[AV.int .i64 q]↔q=za.getD k 0:=λ q=>by
   rw [Int.toNat_natCast,ae,bB e2]
   exact ⟨λ h=>by injection h with h _; injection h with _ h; exact h.symm,λ h=>by rw [h]; rfl⟩
  refine cd1 ea (cd1 ⟨by rw [aR,hl],by rw [aR]; omega⟩ ⟨d.getD (nI r 0).toNat 0,by rw [List.drop_zero,bB e1]; rfl,cd1 (by omega) ⟨za.getD k 0,(et _).2 rfl,cdI (by omega) ?_⟩⟩)
  rw [cM (by omega)]
  have hl2:(d.set (nI r 0).toNat (d.getD (nI r 0).toNat 0 - za.getD k 0)).length=ndN n:=by rw [List.length_set,hl]
  have hb2:=iP hb (x:=-za.getD k 0) (C:=16777216) (by omega) (i:=(nI r 0).toNat) (by decide)
  rw [← Int.sub_eq_add_neg] at hb2
  generalize d.set (nI r 0).toNat (d.getD (nI r 0).toNat 0 - za.getD k 0)=d2 at hl2 hb2 ⊢
  have e3:d2[(nI r 1).toNat]?=some (d2.getD (nI r 1).toNat 0):=bH (by omega)
  have b3:=hb2 (nI r 1).toNat
  refine cd1 ea (cd1 ⟨by rw [aR,hl],by rw [aR]; omega⟩ (cd1 eb (cd1 ⟨by rw [aR,hl2],by rw [aR]; omega⟩ ⟨d2.getD (nI r 1).toNat 0,by rw [List.drop_zero,bB e3]; rfl,cd1 (by omega) ⟨za.getD k 0,(et _).2 rfl,cdI (by omega) (cd1 eb (cd1 ⟨by rw [aR,hl2],by rw [aR]; omega⟩ ?_))⟩⟩)))
  rw [cM (by omega)]
  (repeat' (first | exact trivial | exact rfl | assumption | apply And.intro))
 ·rw [show (mvL n g h i ds fs ams).N=(aS nrm n).length from rfl]
  have hl:(mvK (aS nrm n) (aQ ams) (aQ ds) (aS nrm n).length).length=ndN n:=by rw [vB,ld]
  refine cd1 (by rw [aR,hl]) ⟨⟨by rw [aU],by rw [aR,hl]; omega⟩,?_⟩
  rw [aU]
  unfold mvN mvD mvF mvE
  refine dJ (λ q=>?_) (λ q=>?_)
  ·have q:mvB n (aQ ams) (aQ ds)=true:=q
   rw [q]
   exact ⟨⟨rfl,rfl,rfl,trivial⟩,rfl,trivial⟩
  ·have q:mvB n (aQ ams) (aQ ds)=false:=q
   rw [q]
   exact cd1 (by rw [aR,hl]) (cd1 hfs.symm ⟨⟨rfl,⟨trivial,rfl⟩,⟨trivial,rfl⟩,trivial⟩,rfl,trivial⟩)
theorem aOv (nrm:NrT) (dF:Int->List Int->List Int->Int):aBs nrm dF=(∀ (n:Int) (g h i:Bool) (ds fs ams:LL),MovP n ds fs ams->fnR Tryz.prog { glob:=glb,spec:=lk [(70,(qQ nrm dF)),(112,yS)],specH:=lk [(60,aGP),(119,lY)],shape:=[46,50,58,62],nowf:=true } { nt:=70,drop:=drp [(1,3072),(2,4096),(3,49152),(4,33488896),(5,67108864),(6,68585259008),(7,206158430208),(10,9005000231485440),(11,36884480948164362240),(12,110680464442257309696),(13,295147905179352825856),(14,590295810358705651712)] } (λ _ _=>none) 6 (λ _=>some (mvL n g h i ds fs ams)) Tryz.f105 [.agg [.int .i64 n,.sl 1 g ds,.sl 1 h fs],.sl 1 i ams] (.tup [.agg [.int .i64 (mvN n (aQ ams) (aQ ds)),.sl 1 false (mvD n (aQ ams) (aQ ds)),.sl 1 false (mvF n (aQ ams) (aQ ds) fs)],.int .i64 (mvE n (aQ ams) (aQ ds))])):=by kernel_rfl
def aOu:=Eq.mp (aOv ..) (aOw)
theorem aKK:SOK Tryz.prog glb 105 aBr:=by
 refine ⟨fok Tryz.func105 (by kernel_rfl) (by kernel_rfl),?_⟩
 intro xs pre r h hp
 unfold aBr at h
 split at h
 ·cases h
  exact lX bD (by exact aV rfl rfl ⟨(qR),(aBn glb),trivial⟩ ⟨(aOf glb),(qO glb),trivial⟩) rfl Tryz.func105 rfl (aOu  _ _ _ _ _ _ _ hp)
 ·cases h
def acV (a b:Int) (fs sl:List Int) (k:Nat):Int:=min (max (fs.getD k 0+(wan b (sl.getD k 0) - wan a (fs.getD k 0))) (-16777216)) 16777216
def acK (a b:Int) (fs sl:List Int):Nat->List Int
 | 0=>[]
 | k+1=>acK a b fs sl k++[acV a b fs sl k]
def acZ (n a b:Int) (ds fs:List Int):List Int:=acK a b fs (rP n ds) (aS nrm n).length
structure AccP (n a b:Int) (ds fs:List Int) (x:Int × List Int):Prop where
 lo:0≤x.1
 hi:x.1≤(aS nrm n).length
 eq:x.2=acK a b fs (rP n ds) x.1.toNat
def acL (n a b c:Int) (g h:Bool) (ds fs:List Int):LInv:=⟨Int × List Int,λ x=>⟨[(2,.ptr 2 0),(4,.ptr 4 0),(5,.int .i64 0),(7,.sl 1 false (aP (rP n ds))),(9,.ptr 9 0),(34,.sl 1 h (aP fs)),(35,.int .i64 fs.length),(36,.int .i64 x.1)],[(2,.cells [.int .i64 a,.int .i64 b,.int .i64 c]),(4,.cells [.int .i64 0,.nils,.nils]),(9,.cells [.int .i64 n,.sl 1 false (aP ds),.rw 900 1 x.2.length]),(900,.row 3 1 (aP x.2))]⟩,AccP n a b ds fs,λ x=>((aS nrm n).length - x.1).toNat,none⟩
theorem aEV (es:LL) (ds:List Int):∀ (m k:Nat),k < m->(aEW es ds m)[k]?=some (ds.getD (nI (es.getD k []) 0).toNat 0 - ds.getD (nI (es.getD k []) 1).toNat 0)
 | 0,k,h=>by omega
 | m+1,k,h=>by
  rw [aEW]
  by_cases q:k < m
  ·rw [List.getElem?_append_left (by rw [jN]; exact q)]; exact aEV es ds m k q
  ·obtain rfl:k=m:=by omega
   rw [List.getElem?_append_right (by rw [jN]; omega),jN,Nat.sub_self]; rfl
theorem aB0 (a b:Int) (fs sl:List Int):∀ k,(acK a b fs sl k).length=k
 | 0=>rfl
 | k+1=>by rw [acK,aG,aB0 a b fs sl k]; rfl
theorem aLR (a b:Int) (fs sl:List Int):∀ k,∀ z ∈ acK a b fs sl k,-16777216≤z∧z≤16777216
 | 0,z,h=>by simp [acK] at h
 | k+1,z,h=>by
  rw [acK] at h
  rcases List.mem_append.1 h with h | h
  ·exact aLR a b fs sl k z h
  ·rw [List.mem_singleton] at h; subst h; unfold acV; omega
theorem VStP.acc {n a b:Int} {ds fs:LL} (h:VStP n ds fs):VStP n ds (aP (acZ n a b (aQ ds) (aQ fs))):=by
 obtain ⟨ld,lf,bd,bf⟩:=h.facts
 refine ⟨h.gp,h.de,by rw [aU],?_⟩
 have e:=(sU h.gp).1
 unfold aCe
 rw [aU,decide_eq_true (by omega),decide_eq_true (by unfold acZ; rw [aB0]),mX bd,show outB (-16777216) 16777216 (acZ n a b (aQ ds) (aQ fs))=false from mX (aLR _ _ _ _ _)]; rfl
theorem aT4 {n c:Int} {ds fs:LL} (h:VStP n ds fs) (hc:1≤c∧c≤4) {k:Nat} (hk:k < (aS nrm n).length):(-16777216≤(amV (aS nrm n) (aQ ds) (aQ fs) (bR n) c k).1∧(amV (aS nrm n) (aQ ds) (aQ fs) (bR n) c k).1≤16777216)∧-1≤(amV (aS nrm n) (aQ ds) (aQ fs) (bR n) c k).2∧(amV (aS nrm n) (aQ ds) (aQ fs) (bR n) c k).2≤1:=by
 obtain ⟨ld,lf,bd,bf⟩:=h.facts
 obtain ⟨ea,eb⟩:=iE h.gp hk
 have pa:1≤(bR n).getD (nI ((aS nrm n).getD k []) 0).toNat 0:=eO h.gp (by omega)
 have pb:1≤(bR n).getD (nI ((aS nrm n).getD k []) 1).toNat 0:=eO h.gp (by omega)
 have b1:=bd _ (dZ (d:=0) (i:=(nI ((aS nrm n).getD k []) 0).toNat) (by omega))
 have b3:=bd _ (dZ (d:=0) (i:=(nI ((aS nrm n).getD k []) 1).toNat) (by omega))
 have b5:=bf _ (dZ (d:=0) (i:=k) (by omega))
 have t1:=aCa b1.1 b1.2 pa
 have t3:=aCa b3.1 b3.2 pb
 have tw:=aL3 hc b5
 unfold amV
 simp only
 generalize ((aQ ds).getD (nI ((aS nrm n).getD k []) 0).toNat 0).tdiv ((bR n).getD (nI ((aS nrm n).getD k []) 0).toNat 0)=x at *
 generalize ((aQ ds).getD (nI ((aS nrm n).getD k []) 1).toNat 0).tdiv ((bR n).getD (nI ((aS nrm n).getD k []) 1).toNat 0)=y at *
 generalize wan c ((aQ fs).getD k 0)=z at *
 by_cases q:x < z
 ·rw [if_pos q]; simp only; omega
 ·rw [if_neg q]
  by_cases q2:z < -y
  ·rw [if_pos q2]; simp only; omega
  ·rw [if_neg q2]; simp only; omega
theorem aIg {n c:Int} {ds fs:LL} (h:VStP n ds fs) (hc:1≤c∧c≤4):∀ k,k≤(aS nrm n).length->(∀ z ∈ (amK (aS nrm n) (aQ ds) (aQ fs) (bR n) c k).1,-16777216≤z∧z≤16777216)∧∀ z ∈ (amK (aS nrm n) (aQ ds) (aQ fs) (bR n) c k).2,-1≤z∧z≤1
 | 0,_=>by simp [amK]
 | k+1,hk=>by
  obtain ⟨h1,h2⟩:=aIg h hc k (by omega)
  obtain ⟨v1,v2⟩:=aT4 h hc (k:=k) (by omega)
  refine ⟨λ z hz=>?_,λ z hz=>?_⟩
  ·rcases List.mem_append.1 hz with hz | hz
   ·exact h1 z hz
   ·rw [List.mem_singleton] at hz; subst hz; exact v1
  ·rcases List.mem_append.1 hz with hz | hz
   ·exact h2 z hz
   ·rw [List.mem_singleton] at hz; subst hz; exact v2
theorem AmoP.mov {n a b c:Int} {ds fs:LL} (h:AmoP n a b c ds fs):MovP n ds fs (aP (amZ n c (aQ ds) (aQ fs)).1):=by
 obtain ⟨_,_,hc⟩:=mK h.sc
 refine ⟨h.v,by rw [aU],?_,?_⟩
 ·rw [aU]; exact (xC _ _ _ _ _ _).1
 ·rw [aU]; exact (aIg h.v hc _ (Nat.le_refl _)).1
def aGs:Sp
 | [.agg [.int .i64 a,.int .i64 b,.int .i64 c],.agg [.int .i64 n,.sl 1 g ds,.sl 1 h fs]]=>some (AmoP n a b c ds fs,.tup [.agg [.int .i64 n,.sl 1 false ds,.sl 1 false (aP (acZ n a b (aQ ds) (aQ fs)))],.int .i64 0])
 | _=>none
def aGt (outB:Int->Int->List Int->Bool) (bU:Int->Int->Int->Int):Prop :=
 ∀ (n a b c:Int) (g h:Bool) (ds fs:LL),AmoP n a b c ds fs->(IR9 a)∧(IR9 b)∧(IR9 c)∧True->(IR9 n)∧True∧True∧True->True∧bif decide ¬bU a b c=(0:Int) then ((0:Int)=n∧ds=[]∧aP (acZ n a b (aQ ds) (aQ fs))=[]∧True)∧bU a b c=(0:Int)∧True else VStP n ds fs∧ds.length≤(1000000:Nat)∧(∃ x,AccP n a b (aQ ds) (aQ fs) x∧((0:Nat)=(0:Nat)∧(0:Nat)=(0:Nat)∧(0:Int)=(0:Int)∧(True∧aP (rP n (aQ ds))=aP (rP n (aQ ds)))∧(0:Nat)=(0:Nat)∧((bif h then h=true else True)∧fs=aP (aQ fs))∧(↑fs.length:Int)=(↑(aQ fs).length:Int)∧(0:Int)=x.1∧True)∧(a=a∧b=b∧c=c∧True)∧((0:Int)=(0:Int)∧True∧True∧True)∧(n=n∧(True∧ds=aP (aQ ds))∧(0:Nat)=x.2.length∧True)∧[]=aP x.2∧True)∧∀ (x1:Int × List Int),AccP n a b (aQ ds) (aQ fs) x1->bif decide (x1.1 < (↑(aQ fs).length:Int)) then bif decide (0≤x1.1∧x1.1 < (↑(aP (aQ fs)).length:Int)) then ∃ n_1,List.take [I6 n_1].length ((aP (aQ fs)).getD x1.1.toNat [])=[I6 n_1]∧bif decide (0≤x1.1∧x1.1 < (↑(aP (rP n (aQ ds))).length:Int)) then ∃ n_2,List.take [I6 n_2].length ((aP (rP n (aQ ds))).getD x1.1.toNat [])=[I6 n_2]∧bif decide (0≤b) then bif decide (0≤a) then bif decide (rng IntKind.i64 (n_2 / (2:Int) ^ min b.toNat 64 - n_1 / (2:Int) ^ min a.toNat 64)) then bif decide (rng IntKind.i64 (n_1+(n_2 / (2:Int) ^ min b.toNat 64 - n_1 / (2:Int) ^ min a.toNat 64))) then bif decide (x1.2.length=(aP x1.2).length∧(aP x1.2).length+[[I6 (min (max (n_1+(n_2 / (2:Int) ^ min b.toNat 64 - n_1 / (2:Int) ^ min a.toNat 64)) (-16777216:Int)) 16777216)]].length≤(9223372036854775807:Nat)∧((aP x1.2).length+[[I6 (min (max (n_1+(n_2 / (2:Int) ^ min b.toNat 64 - n_1 / (2:Int) ^ min a.toNat 64)) (-16777216:Int)) 16777216)]].length)*(8:Nat)≤(140737488355328:Nat)) then bif decide (rng IntKind.i64 (x1.1+(1:Int))) then ∃ y,AccP n a b (aQ ds) (aQ fs) y∧(acL n a b c g h (aQ ds) (aQ fs)).m y < (acL n a b c g h (aQ ds) (aQ fs)).m x1∧((0:Nat)=(0:Nat)∧(0:Nat)=(0:Nat)∧(0:Int)=(0:Int)∧(True∧aP (rP n (aQ ds))=aP (rP n (aQ ds)))∧(0:Nat)=(0:Nat)∧((bif h then h=true else True)∧aP (aQ fs)=aP (aQ fs))∧(↑(aQ fs).length:Int)=(↑(aQ fs).length:Int)∧x1.1+(1:Int)=y.1∧True)∧(a=a∧b=b∧c=c∧True)∧((0:Int)=(0:Int)∧True∧True∧True)∧(n=n∧(True∧aP (aQ ds)=aP (aQ ds))∧(aP x1.2++[[I6 (min (max (n_1+(n_2 / (2:Int) ^ min b.toNat 64 - n_1 / (2:Int) ^ min a.toNat 64)) (-16777216:Int)) 16777216)]]).length=y.2.length∧True)∧aP x1.2++[[I6 (min (max (n_1+(n_2 / (2:Int) ^ min b.toNat 64 - n_1 / (2:Int) ^ min a.toNat 64)) (-16777216:Int)) 16777216)]]=aP y.2∧True else False else False else False else False else False else False else False else False else bif decide (x1.2.length=(aP x1.2).length) then (n=n∧(True∧aP (aQ ds)=ds)∧(True∧aP x1.2=aP (acZ n a b (aQ ds) (aQ fs)))∧True)∧(0:Int)=(0:Int)∧True else False
theorem aSj:aGt outB bU:=by
 unfold aGt
 delta I6
 intro n a b c g h ds fs hP
 intros
 have hv:=hP.v
 have hsc:=hP.sc
 obtain ⟨ld,lf,bd,bf⟩:=hv.facts
 have hg:=hv.gp
 have de:=hv.de
 have fe:=hv.fe
 have hE:=(cB hg.bq).2
 have hN:=lN hg
 have g1:cond g (g=true) True:=gg g
 have g2:cond h (h=true) True:=gg h
 obtain ⟨ha,hb,hc⟩:=mK hsc
 refine ⟨trivial,cd0 (λ q=>q hsc) ⟨hv,by rw [de,aR]; omega,⟨(0,[]),⟨Int.le_refl 0,by simp only; omega,rfl⟩,by rw [bP]; (repeat' (first | exact trivial | exact rfl | assumption | apply And.intro))⟩,?_⟩⟩
 clear hP hv
 obtain ⟨zd,hzd⟩:∃ z,z=aQ ds:=⟨_,rfl⟩
 obtain ⟨zf,hzf⟩:∃ z,z=aQ fs:=⟨_,rfl⟩
 rw [← hzd] at de ld bd ⊢
 rw [← hzf] at fe lf bf ⊢
 clear hzd hzf
 rintro ⟨i,os⟩ ⟨i0,il,ie⟩
 simp only at i0 il ie
 have hol:os.length=i.toNat:=by rw [ie,aB0]
 rw [aR]
 refine csp (λ q=>?_) (λ q=>?_)
 ·simp only at q
  have hk:i.toNat < (aS nrm n).length:=by omega
  obtain ⟨ea,eb⟩:=iE hg hk
  have e1:zf[i.toNat]?=some (zf.getD i.toNat 0):=bH (by omega)
  have e2:(rP n zd)[i.toNat]?=some (zd.getD (nI ((aS nrm n).getD i.toNat []) 0).toNat 0 - zd.getD (nI ((aS nrm n).getD i.toNat []) 1).toNat 0):=aEV (aS nrm n) zd (aS nrm n).length i.toNat hk
  have b1:=bf _ (aL e1)
  have ba:=bd _ (dZ (d:=0) (i:=(nI ((aS nrm n).getD i.toNat []) 0).toNat) (by omega))
  have bb:=bd _ (dZ (d:=0) (i:=(nI ((aS nrm n).getD i.toNat []) 1).toNat) (by omega))
  have es:acK a b zf (rP n zd) (i+1).toNat=os++[acV a b zf (rP n zd) i.toNat]:=by rw [show (i+1).toNat=i.toNat+1 by omega,acK,ie]
  have ev:acV a b zf (rP n zd) i.toNat=min (max (zf.getD i.toNat 0+(wan b (zd.getD (nI ((aS nrm n).getD i.toNat []) 0).toNat 0 - zd.getD (nI ((aS nrm n).getD i.toNat []) 1).toNat 0) - wan a (zf.getD i.toNat 0))) (-16777216)) 16777216:=by
   unfold acV
   rw [show (rP n zd).getD i.toNat 0=zd.getD (nI ((aS nrm n).getD i.toNat []) 0).toNat 0 - zd.getD (nI ((aS nrm n).getD i.toNat []) 1).toNat 0 from aGS e2]
  rw [ev] at es
  have bx:-16777216≤zd.getD (nI ((aS nrm n).getD i.toNat []) 0).toNat 0 - zd.getD (nI ((aS nrm n).getD i.toNat []) 1).toNat 0∧zd.getD (nI ((aS nrm n).getD i.toNat []) 0).toNat 0 - zd.getD (nI ((aS nrm n).getD i.toNat []) 1).toNat 0≤16777216:=by omega
  clear ev
  generalize zd.getD (nI ((aS nrm n).getD i.toNat []) 0).toNat 0 - zd.getD (nI ((aS nrm n).getD i.toNat []) 1).toNat 0=x at *
  have w1:=aL3 ha b1
  have w2:-16777216≤wan b x∧wan b x≤16777216:=aL3 hb bx
  have hsl:(rP n zd).length=(aS nrm n).length:=jN _ _ _
  refine cd1 ⟨i0,by omega⟩ ⟨zf.getD i.toNat 0,by rw [bB e1]; rfl,cd1 ⟨i0,by rw [aR]; omega⟩ ⟨x,by rw [bB e2]; rfl,cd1 (by omega) (cd1 (by omega) ?_)⟩⟩
  show cond (decide (rng .i64 (wan b x - wan a (zf.getD i.toNat 0)))) _ _
  refine cdI (by omega) (cdI (show _∧_ by show _≤zf.getD i.toNat 0+(wan b x - wan a (zf.getD i.toNat 0))∧zf.getD i.toNat 0+(wan b x - wan a (zf.getD i.toNat 0))≤_; omega) (cd1 ⟨by rw [aR],by rw [aR,aH]; simp only; omega,by rw [aR,aH]; simp only; omega⟩ (cdI (by simp only; omega) ⟨(i+1,os++[min (max (zf.getD i.toNat 0+(wan b x - wan a (zf.getD i.toNat 0))) (-16777216)) 16777216]),⟨by simp only; omega,by simp only; omega,es.symm⟩,by simp only [acL]; omega,?_⟩)))
  simp only [← cN,aG,aR,aH]
  (repeat' (first | exact trivial | exact rfl | assumption | apply And.intro))
 ·simp only at q
  have e:os=acZ n a b zd zf:=by rw [ie,show i.toNat=(aS nrm n).length by omega]; rfl
  subst e
  have de':=de.symm
  exact cd1 (by rw [aR]) (by repeat' first|exact trivial|exact rfl|assumption|apply And.intro)
theorem aSi (outB:Int->Int->List Int->Bool) (bU:Int->Int->Int->Int):aGt outB bU=(∀ (n a b c:Int) (g h:Bool) (ds fs:LL),AmoP n a b c ds fs->fnK Tryz.prog { glob:=glb,spec:=lk [(65,(tC outB bU)),(145,aF3),(60,pW)],specH:=lk [],shape:=[40,45],nowf:=true } { nt:=65,drop:=drp [(1,12288),(2,16384),(3,196608),(4,8126464),(5,8388608),(6,100663296),(7,8455716864),(8,8589934592),(10,1924145348608),(11,36026597995708416),(12,9187343239835811840),(13,9223372036854775808),(14,18446744073709551616)],emp:=λ id=>cond (Nat.beq id 8) [(1000902,900,3,1)] [] } (xH [(9,acL n a b c g h (aQ ds) (aQ fs))]) 6 Tryz.f102 [.agg [.int .i64 a,.int .i64 b,.int .i64 c],.agg [.int .i64 n,.sl 1 g ds,.sl 1 h fs]] (.tup [.agg [.int .i64 n,.sl 1 false ds,.sl 1 false (aP (acZ n a b (aQ ds) (aQ fs)))],.int .i64 0])):=by kernel_rfl
def aSh:=Eq.mp (aSi ..) (aSj)
theorem aNR:SOK Tryz.prog glb 102 aGs:=by
 refine ⟨fok Tryz.func102 (by kernel_rfl) (by kernel_rfl),?_⟩
 intro xs pre r h hp
 unfold aGs at h
 split at h
 ·cases h
  exact aT bD (by exact aV rfl rfl ⟨(vW glb),(aNt),(pX glb),trivial⟩ trivial) (by kernel_rfl) Tryz.func102 rfl (aSh  _ _ _ _ _ _ _ _ hp)
 ·cases h
def aGq:SpH
 | [.agg [.int .i64 a,.int .i64 b,.int .i64 c]],[]=>some (True,.fn 101 [.ptr 0 0],[.cells [.int .i64 a,.int .i64 b,.int .i64 c]])
 | _,_=>none
def aGr:Prop :=
 ∀ (gl:aX) (a b c:Int),(IR9 a)∧(IR9 b)∧(IR9 c)∧True->((0:Nat)=(0:Nat)∧True)∧(a=a∧b=b∧c=c∧True)∧True
theorem aSg:aGr:=by
 unfold aGr
 intro gl a b c
 intros
 (repeat' (first | exact trivial | exact rfl | assumption | apply And.intro))
theorem aSf:aGr=(∀ (gl:aX) (a b c:Int),fnH Tryz.prog { glob:=gl,spec:=lk [],specH:=lk [] } { nt:=4,drop:=drp [(1,8)],fr:=1000,kp:=[] } (λ _ _=>none) 6 Tryz.f51 [.agg [.int .i64 a,.int .i64 b,.int .i64 c]] [] (.fn 101 [.ptr 0 0]) [.cells [.int .i64 a,.int .i64 b,.int .i64 c]]):=by kernel_rfl
def aSe:=Eq.mp (aSf ..) (aSg)
theorem aNQ (gl:aX):HOK Tryz.prog gl 51 aGq:=by
 refine ⟨fok Tryz.func51 (by kernel_rfl) (by kernel_rfl),?_⟩
 intro xs bs pre r bs2 h hp
 unfold aGq at h
 split at h
 ·cases h
  exact bC bD (by exact aV rfl rfl trivial trivial) (by kernel_rfl) Tryz.func51 (aSe gl _ _ _)
 ·cases h
def aGa:SpH
 | [.agg [.int .i64 a,.int .i64 b,.int .i64 c]],[]=>some (True,.fn 103 [.ptr 0 0],[.cells [.int .i64 a,.int .i64 b,.int .i64 c]])
 | _,_=>none
def aGb:Prop :=
 ∀ (gl:aX) (a b c:Int),(IR9 a)∧(IR9 b)∧(IR9 c)∧True->((0:Nat)=(0:Nat)∧True)∧(a=a∧b=b∧c=c∧True)∧True
theorem aR0:aGb:=by
 unfold aGb
 intro gl a b c
 intros
 (repeat' (first | exact trivial | exact rfl | assumption | apply And.intro))
theorem aRZ:aGb=(∀ (gl:aX) (a b c:Int),fnH Tryz.prog { glob:=gl,spec:=lk [],specH:=lk [] } { nt:=4,drop:=drp [(1,8)],fr:=1000,kp:=[] } (λ _ _=>none) 6 Tryz.f52 [.agg [.int .i64 a,.int .i64 b,.int .i64 c]] [] (.fn 103 [.ptr 0 0]) [.cells [.int .i64 a,.int .i64 b,.int .i64 c]]):=by kernel_rfl
def aRY:=Eq.mp (aRZ ..) (aR0)
theorem aNy (gl:aX):HOK Tryz.prog gl 52 aGa:=by
 refine ⟨fok Tryz.func52 (by kernel_rfl) (by kernel_rfl),?_⟩
 intro xs bs pre r bs2 h hp
 unfold aGa at h
 split at h
 ·cases h
  exact bC bD (by exact aV rfl rfl trivial trivial) (by kernel_rfl) Tryz.func52 (aRY gl _ _ _)
 ·cases h
def aGu:SpH
 | [.agg [.int .i64 n,.sl 1 g ds,.sl 1 h fs,.nils],.ptr 0 0],[.cells [.int .i64 a,.int .i64 b,.int .i64 c]]=>some (AmoP n a b c ds fs,.tup [.agg [.int .i64 n,.sl 1 false ds,.sl 1 false (aP (acZ n a b (aQ ds) (aQ fs))),.nils],.int .i64 0],[.cells [.int .i64 a,.int .i64 b,.int .i64 c]])
 | _,_=>none
def aGv:Prop :=
 ∀ (n a b c:Int) (g h:Bool) (ds fs:LL),AmoP n a b c ds fs->(IR9 n)∧True∧True∧True∧True->True->IR9 a->IR9 b->IR9 c->AmoP n a b c ds fs∧((n=n∧(True∧ds=ds)∧(True∧aP (acZ n a b (aQ ds) (aQ fs))=aP (acZ n a b (aQ ds) (aQ fs)))∧True∧True)∧(0:Int)=(0:Int)∧True)∧(a=a∧b=b∧c=c∧True)∧True
theorem aSm:aGv:=by
 unfold aGv
 intro n a b c g h ds fs hP
 intros
 exact ⟨hP,by repeat' first|exact trivial|exact rfl|assumption|apply And.intro⟩
theorem aSl:aGv=(∀ (n a b c:Int) (g h:Bool) (ds fs:LL),AmoP n a b c ds fs->fnH Tryz.prog { glob:=glb,spec:=lk [(102,aGs)],specH:=lk [],nowf:=true } { nt:=19,drop:=drp [(1,16256),(2,507904)],fr:=1000,kp:=[0] } (λ _ _=>none) 6 Tryz.f101 [.agg [.int .i64 n,.sl 1 g ds,.sl 1 h fs,.nils],.ptr 0 0] [.cells [.int .i64 a,.int .i64 b,.int .i64 c]] (.tup [.agg [.int .i64 n,.sl 1 false ds,.sl 1 false (aP (acZ n a b (aQ ds) (aQ fs))),.nils],.int .i64 0]) [.cells [.int .i64 a,.int .i64 b,.int .i64 c]]):=by kernel_rfl
def aSk:=Eq.mp (aSl ..) (aSm)
theorem aNS:HOK Tryz.prog glb 101 aGu:=by
 refine ⟨fok Tryz.func101 (by kernel_rfl) (by kernel_rfl),?_⟩
 intro xs bs pre r bs2 h hp
 unfold aGu at h
 split at h
 ·cases h
  exact bC bD (by exact aV rfl rfl ⟨(aNR),trivial⟩ trivial) (by kernel_rfl) Tryz.func101 (aSk  _ _ _ _ _ _ _ _ hp)
 ·cases h
def am1 (n c:Int) (ds fs:List Int):List Int:=(amZ n c ds fs).1
def aGc:SpH
 | [.agg [.int .i64 n,.sl 1 g ds,.sl 1 h fs,.nils],.ptr 0 0],[.cells [.int .i64 a,.int .i64 b,.int .i64 c]]=>some (AmoP n a b c ds fs,.tup [.agg [.int .i64 (mvN n (am1 n c (aQ ds) (aQ fs)) (aQ ds)),.sl 1 false (mvD n (am1 n c (aQ ds) (aQ fs)) (aQ ds)),.sl 1 false (mvF n (am1 n c (aQ ds) (aQ fs)) (aQ ds) fs),.sl 1 false (aP (amZ n c (aQ ds) (aQ fs)).2)],.int .i64 (mvE n (am1 n c (aQ ds) (aQ fs)) (aQ ds))],[.cells [.int .i64 a,.int .i64 b,.int .i64 c]])
 | _,_=>none
def aGd:Prop :=
 ∀ (n a b c:Int) (g h:Bool) (ds fs:LL),AmoP n a b c ds fs->(IR9 n)∧True∧True∧True∧True->True->IR9 a->IR9 b->IR9 c->AmoP n a b c ds fs∧MovP n ds fs (aP (amZ n c (aQ ds) (aQ fs)).1)∧((mvN n (aQ (aP (amZ n c (aQ ds) (aQ fs)).1)) (aQ ds)=mvN n (am1 n c (aQ ds) (aQ fs)) (aQ ds)∧(True∧mvD n (aQ (aP (amZ n c (aQ ds) (aQ fs)).1)) (aQ ds)=mvD n (am1 n c (aQ ds) (aQ fs)) (aQ ds))∧(True∧mvF n (aQ (aP (amZ n c (aQ ds) (aQ fs)).1)) (aQ ds) fs=mvF n (am1 n c (aQ ds) (aQ fs)) (aQ ds) fs)∧(True∧aP (amZ n c (aQ ds) (aQ fs)).2=aP (amZ n c (aQ ds) (aQ fs)).2)∧True)∧mvE n (aQ (aP (amZ n c (aQ ds) (aQ fs)).1)) (aQ ds)=mvE n (am1 n c (aQ ds) (aQ fs)) (aQ ds)∧True)∧(a=a∧b=b∧c=c∧True)∧True
theorem aR3:aGd:=by
 unfold aGd
 intro n a b c g h ds fs hP
 intros
 rw [aU]
 exact ⟨hP,hP.mov,by repeat' first|exact trivial|exact rfl|assumption|apply And.intro⟩
theorem aR2:aGd=(∀ (n a b c:Int) (g h:Bool) (ds fs:LL),AmoP n a b c ds fs->fnH Tryz.prog { glob:=glb,spec:=lk [(104,aHA),(105,aBr)],specH:=lk [],nowf:=true } { nt:=32,drop:=drp [(1,130560),(2,131072),(3,1572864),(4,266338304),(5,4026531840)],fr:=1000,kp:=[0] } (λ _ _=>none) 6 Tryz.f103 [.agg [.int .i64 n,.sl 1 g ds,.sl 1 h fs,.nils],.ptr 0 0] [.cells [.int .i64 a,.int .i64 b,.int .i64 c]] (.tup [.agg [.int .i64 (mvN n (am1 n c (aQ ds) (aQ fs)) (aQ ds)),.sl 1 false (mvD n (am1 n c (aQ ds) (aQ fs)) (aQ ds)),.sl 1 false (mvF n (am1 n c (aQ ds) (aQ fs)) (aQ ds) fs),.sl 1 false (aP (amZ n c (aQ ds) (aQ fs)).2)],.int .i64 (mvE n (am1 n c (aQ ds) (aQ fs)) (aQ ds))]) [.cells [.int .i64 a,.int .i64 b,.int .i64 c]]):=by kernel_rfl
def aR1:=Eq.mp (aR2 ..) (aR3)
theorem aNz:HOK Tryz.prog glb 103 aGc:=by
 refine ⟨fok Tryz.func103 (by kernel_rfl) (by kernel_rfl),?_⟩
 intro xs bs pre r bs2 h hp
 unfold aGc at h
 split at h
 ·cases h
  exact bC bD (by exact aV rfl rfl ⟨(aOJ),(aKK),trivial⟩ trivial) (by kernel_rfl) Tryz.func103 (aR1  _ _ _ _ _ _ _ _ hp)
 ·cases h
def sAm (n a b c:Int) (ds fs:List Int):List Int:=am1 n c ds (acZ n a b ds fs)
def sE (n a b c:Int) (ds fs:List Int):Int:=mvE n (sAm n a b c ds fs) ds
def sN (n a b c:Int) (ds fs:List Int):Int:=mvN n (sAm n a b c ds fs) ds
def sD (n a b c:Int) (ds fs:List Int):LL:=mvD n (sAm n a b c ds fs) ds
def sF (n a b c:Int) (ds fs:List Int):LL:=mvF n (sAm n a b c ds fs) ds (aP (acZ n a b ds fs))
def sB (n a b c:Int) (ds fs:List Int):LL:=if mvB n (sAm n a b c ds fs) ds=true then [] else aP (amZ n c ds (acZ n a b ds fs)).2
def aNF:SpH
 | [.rw 0 1 2,.agg [.int .i64 n,.sl 1 g ds,.sl 1 h fs,.nils]],[.row 2000117 1 [[.fn 101 [.ptr 1 0]],[.fn 103 [.ptr 2 0]]],.cells [.int .i64 a,.int .i64 b,.int .i64 c],.cells [.int .i64 p,.int .i64 q,.int .i64 r]]=>some (AmoP n a b c ds fs∧p=a∧q=b∧r=c,.tup [.agg [.int .i64 (sN n a b c (aQ ds) (aQ fs)),.sl 1 false (sD n a b c (aQ ds) (aQ fs)),.sl 1 false (sF n a b c (aQ ds) (aQ fs)),.sl 1 false (sB n a b c (aQ ds) (aQ fs))],.int .i64 (sE n a b c (aQ ds) (aQ fs))],[.row 2000117 1 [[.fn 101 [.ptr 1 0]],[.fn 103 [.ptr 2 0]]],.cells [.int .i64 a,.int .i64 b,.int .i64 c],.cells [.int .i64 p,.int .i64 q,.int .i64 r]])
 | _,_=>none
abbrev aDP (n:Int) (r:Int) (ds:LL) (a:Int) (b:Int) (fs:LL):=(am1 n r (aQ ds) (aQ (aP (acZ n a b (aQ ds) (aQ fs)))))
def aNG:Prop :=
 ∀ (n a b c p q r:Int) (g h:Bool) (ds fs:LL),AmoP n a b c ds fs∧p=a∧q=b∧r=c->True->(IR9 n)∧True∧True∧True∧True->IR9 a->IR9 b->IR9 c->IR9 p->IR9 q->IR9 r->AmoP n a b c ds fs∧AmoP n p q r ds (aP (acZ n a b (aQ ds) (aQ fs)))∧bif decide ¬mvE n (aDP n r ds a b fs) (aQ ds)=(0:Int) then (((0:Int)=sN n a b c (aQ ds) (aQ fs)∧sD n a b c (aQ ds) (aQ fs)=[]∧sF n a b c (aQ ds) (aQ fs)=[]∧sB n a b c (aQ ds) (aQ fs)=[]∧True)∧mvE n (aDP n r ds a b fs) (aQ ds)=sE n a b c (aQ ds) (aQ fs)∧True)∧[[AV.fn (101:FuncId) [AV.ptr 1 0]],[AV.fn (103:FuncId) [AV.ptr 2 0]]]=[[AV.fn (101:FuncId) [AV.ptr 1 0]],[AV.fn (103:FuncId) [AV.ptr 2 0]]]∧(a=a∧b=b∧c=c∧True)∧(p=p∧q=q∧r=r∧True)∧True else ((mvN n (aDP n r ds a b fs) (aQ ds)=sN n a b c (aQ ds) (aQ fs)∧(True∧mvD n (aDP n r ds a b fs) (aQ ds)=sD n a b c (aQ ds) (aQ fs))∧(True∧mvF n (aDP n r ds a b fs) (aQ ds) (aP (acZ n a b (aQ ds) (aQ fs)))=sF n a b c (aQ ds) (aQ fs))∧(True∧aP (amZ n r (aQ ds) (aQ (aP (acZ n a b (aQ ds) (aQ fs))))).2=sB n a b c (aQ ds) (aQ fs))∧True)∧(0:Int)=sE n a b c (aQ ds) (aQ fs)∧True)∧[[AV.fn (101:FuncId) [AV.ptr 1 0]],[AV.fn (103:FuncId) [AV.ptr 2 0]]]=[[AV.fn (101:FuncId) [AV.ptr 1 0]],[AV.fn (103:FuncId) [AV.ptr 2 0]]]∧(a=a∧b=b∧c=c∧True)∧(p=p∧q=q∧r=r∧True)∧True
theorem aWc:aNG:=by
 unfold aNG
 delta aDP
 intro n a b c p q0 r g h ds fs ⟨hP,e1,e2,e3⟩
 intros
 subst e1 e2 e3
 rw [aU]
 refine ⟨hP,⟨hP.v.acc,hP.sc⟩,?_⟩
 unfold sN sD sF sB sE mvN mvD mvF mvE sAm
 refine csp (λ q=>?_) (λ q=>?_)
 ·have q1:=Classical.byContradiction λ e=>q (if_neg e)
  rw [if_pos q1,if_pos q1,if_pos q1,if_pos q1,if_pos q1]
  (repeat' (first | exact trivial | exact rfl | assumption | apply And.intro))
 ·have q1:¬ mvB n (am1 n r (aQ ds) (acZ n p q0 (aQ ds) (aQ fs))) (aQ ds)=true:=λ e=>q (by rw [if_pos e]; decide)
  rw [if_neg q1,if_neg q1,if_neg q1,if_neg q1,if_neg q1]
  (repeat' (first | exact trivial | exact rfl | assumption | apply And.intro))
theorem aWb:aNG=(∀ (n a b c p q r:Int) (g h:Bool) (ds fs:LL),AmoP n a b c ds fs∧p=a∧q=b∧r=c->fnH Tryz.prog { glob:=glb,spec:=lk [],specH:=lk [(101,aGu),(103,aGc)],nowf:=true } { nt:=28,drop:=drp [(3,49152),(5,4128768),(6,4194304),(8,50331648),(9,67108864),(10,134217728)],fr:=1000,kp:=[0,1,2] } (λ _ _=>none) 6 Tryz.f53 [.rw 0 1 2,.agg [.int .i64 n,.sl 1 g ds,.sl 1 h fs,.nils]] [.row 2000117 1 [[.fn 101 [.ptr 1 0]],[.fn 103 [.ptr 2 0]]],.cells [.int .i64 a,.int .i64 b,.int .i64 c],.cells [.int .i64 p,.int .i64 q,.int .i64 r]] (.tup [.agg [.int .i64 (sN n a b c (aQ ds) (aQ fs)),.sl 1 false (sD n a b c (aQ ds) (aQ fs)),.sl 1 false (sF n a b c (aQ ds) (aQ fs)),.sl 1 false (sB n a b c (aQ ds) (aQ fs))],.int .i64 (sE n a b c (aQ ds) (aQ fs))]) [.row 2000117 1 [[.fn 101 [.ptr 1 0]],[.fn 103 [.ptr 2 0]]],.cells [.int .i64 a,.int .i64 b,.int .i64 c],.cells [.int .i64 p,.int .i64 q,.int .i64 r]]):=by kernel_rfl
def aWa:=Eq.mp (aWb ..) (aWc)
theorem aR7:HOK Tryz.prog glb 53 aNF:=by
 refine ⟨fok Tryz.func53 (by kernel_rfl) (by kernel_rfl),?_⟩
 intro xs bs pre r bs2 h hp
 unfold aNF at h
 split at h
 ·cases h
  exact bC bD (by exact aV rfl rfl trivial ⟨(aNS),(aNz),trivial⟩) (by kernel_rfl) Tryz.func53 (aWa  _ _ _ _ _ _ _ _ _ _ _ hp)
 ·cases h
def vD:Sp
 | [.agg [.int .i64 a,.int .i64 b,.int .i64 c],.agg [.int .i64 n,.sl 1 g ds,.sl 1 h fs]]=>some (AmoP n a b c ds fs,.tup [.agg [.int .i64 (sN n a b c (aQ ds) (aQ fs)),.sl 1 false (sD n a b c (aQ ds) (aQ fs)),.sl 1 false (sF n a b c (aQ ds) (aQ fs))],.sl 1 false (sB n a b c (aQ ds) (aQ fs)),.int .i64 (sE n a b c (aQ ds) (aQ fs))])
 | _=>none
def aAW:Prop :=
 ∀ (n a b c:Int) (g h:Bool) (ds fs:LL),AmoP n a b c ds fs->(IR9 a)∧(IR9 b)∧(IR9 c)∧True->(IR9 n)∧True∧True∧True->True∧True∧(AmoP n a b c ds fs∧a=a∧b=b∧c=c)∧(sN n a b c (aQ ds) (aQ fs)=sN n a b c (aQ ds) (aQ fs)∧(True∧sD n a b c (aQ ds) (aQ fs)=sD n a b c (aQ ds) (aQ fs))∧(True∧sF n a b c (aQ ds) (aQ fs)=sF n a b c (aQ ds) (aQ fs))∧True)∧(True∧sB n a b c (aQ ds) (aQ fs)=sB n a b c (aQ ds) (aQ fs))∧sE n a b c (aQ ds) (aQ fs)=sE n a b c (aQ ds) (aQ fs)∧True
theorem aNs:aAW:=by
 unfold aAW
 intro n a b c g h ds fs hP
 intros
 exact ⟨trivial,trivial,⟨hP,rfl,rfl,rfl⟩,by repeat' first|exact trivial|exact rfl|assumption|apply And.intro⟩
theorem aNr:aAW=(∀ (n a b c:Int) (g h:Bool) (ds fs:LL),AmoP n a b c ds fs->fnK Tryz.prog { glob:=glb,spec:=lk [],specH:=lk [(51,aGq),(52,aGa),(53,aNF)],nowf:=true } { nt:=25,drop:=drp [(1,1048064),(2,32505856)] } (λ _ _=>none) 6 Tryz.f20 [.agg [.int .i64 a,.int .i64 b,.int .i64 c],.agg [.int .i64 n,.sl 1 g ds,.sl 1 h fs]] (.tup [.agg [.int .i64 (sN n a b c (aQ ds) (aQ fs)),.sl 1 false (sD n a b c (aQ ds) (aQ fs)),.sl 1 false (sF n a b c (aQ ds) (aQ fs))],.sl 1 false (sB n a b c (aQ ds) (aQ fs)),.int .i64 (sE n a b c (aQ ds) (aQ fs))])):=by kernel_rfl
def aNq:=Eq.mp (aNr ..) (aNs)
theorem aCB:SOK Tryz.prog glb 20 vD:=by
 refine ⟨fok Tryz.func20 (by kernel_rfl) (by kernel_rfl),?_⟩
 intro xs pre r h hp
 unfold vD at h
 split at h
 ·cases h
  exact aT bD (by exact aV rfl rfl trivial ⟨(aNQ glb),(aNy glb),(aR7),trivial⟩) (by kernel_rfl) Tryz.func20 rfl (aNq  _ _ _ _ _ _ _ _ hp)
 ·cases h
def scZ (a b c:Int):Int:=30*2 ^ min (max a b+c).toNat 64
theorem p2c {t:Int} (h:0≤t∧t≤8):(2:Int) ^ min t.toNat 64=1∨(2:Int) ^ min t.toNat 64=2∨(2:Int) ^ min t.toNat 64=4∨(2:Int) ^ min t.toNat 64=8∨(2:Int) ^ min t.toNat 64=16∨(2:Int) ^ min t.toNat 64=32∨(2:Int) ^ min t.toNat 64=64∨(2:Int) ^ min t.toNat 64=128∨(2:Int) ^ min t.toNat 64=256:=by
 rcases (show t=0∨t=1∨t=2∨t=3∨t=4∨t=5∨t=6∨t=7∨t=8 by omega) with rfl | rfl | rfl | rfl | rfl | rfl | rfl | rfl | rfl <;> decide
theorem rQ {a b c:Int} (h:bU a b c=0):30≤scZ a b c∧scZ a b c≤7680:=by
 obtain ⟨ha,hb,hc⟩:=mK h
 have:=p2c (t:=max a b+c) (by omega)
 unfold scZ
 omega
def sA:Sp
 | [.agg [.int .i64 a,.int .i64 b,.int .i64 c]]=>some (bU a b c=0,.tup [.int .i64 (scZ a b c),.int .i64 0])
 | _=>none
def aEu (outB:Int->Int->List Int->Bool) (bU:Int->Int->Int->Int):Prop :=
 ∀ (gl:aX) (a b c:Int),bU a b c=(0:Int)->(IR9 a)∧(IR9 b)∧(IR9 c)∧True->True∧bif decide ¬bU a b c=(0:Int) then (0:Int)=scZ a b c∧bU a b c=(0:Int)∧True else bif decide (rng IntKind.i64 (max a b+c)) then bif decide (0≤max a b+c) then bif decide (rng IntKind.i64 ((30:Int)*(2:Int) ^ min (max a b+c).toNat 64)) then (30:Int)*(2:Int) ^ min (max a b+c).toNat 64=scZ a b c∧(0:Int)=(0:Int)∧True else False else False else False
theorem aP3:aEu outB bU:=by
 unfold aEu
 intro gl a b c h
 intros
 obtain ⟨ha,hb,hc⟩:=mK h
 refine ⟨trivial,cd0 (λ q=>q h) (cd1 ?_ (cd1 (by omega) (cd1 ?_ ⟨rfl,rfl,trivial⟩)))⟩
 ·show _∧_; omega
 ·have:=rQ h
  show _∧_
  unfold scZ at this
  omega
theorem aP2 (outB:Int->Int->List Int->Bool) (bU:Int->Int->Int->Int):aEu outB bU=(∀ (gl:aX) (a b c:Int),bU a b c=0->fnK Tryz.prog { glob:=gl,spec:=lk [(65,(tC outB bU))],specH:=lk [],nowf:=true } { nt:=19,drop:=drp [(1,96),(2,128),(3,512),(4,523264)] } (λ _ _=>none) 6 Tryz.f26 [.agg [.int .i64 a,.int .i64 b,.int .i64 c]] (.tup [.int .i64 (scZ a b c),.int .i64 0])):=by kernel_rfl
def aP1:=Eq.mp (aP2 ..) (aP3)
theorem tZ (gl:aX):SOK Tryz.prog gl 26 sA:=by
 refine ⟨fok Tryz.func26 (by kernel_rfl) (by kernel_rfl),?_⟩
 intro xs pre r h hp
 unfold sA at h
 split at h
 ·cases h
  exact aT bD (by exact aV rfl rfl ⟨(vW gl),trivial⟩ trivial) (by kernel_rfl) Tryz.func26 rfl (aP1 gl _ _ _ hp)
 ·cases h
structure ChP (n B:Int) (ds fs:LL):Prop where
 gp:GrdP nrm n
 de:ds=aP (aQ ds)
 fe:fs=aP (aQ fs)
 ld:(aQ ds).length=ndN n
 lf:(aQ fs).length=(aS nrm n).length
 bd:∀ z ∈ aQ ds,-B≤z∧z≤B
 bf:∀ z ∈ aQ fs,-B≤z∧z≤B
structure BrP (n:Int) (bs:LL):Prop where
 be:bs=aP (aQ bs)
 lb:(aQ bs).length=(aS nrm n).length
 bb:∀ z ∈ aQ bs,-1≤z∧z≤1
def aCb:Sp
 | [.int .i64 n,.sl 1 i bs,.agg [.sl 1 g ds,.sl 1 h fs]]=>some (ChP n 1099511627776 ds fs∧BrP n bs,.int .i64 0)
 | _=>none
def aEH (nrm:NrT):Prop :=
 ∀ (n:Int) (i g h:Bool) (bs ds fs:LL),ChP n 1099511627776 ds fs∧BrP n bs->IR9 n->True->True∧True∧True->BldQ nrm n∧(1≤n∧n≤(4:Int))∧bif decide ¬(↑ds.length:Int)=(10:Int)*n*n+(2:Int) then (1:Int)=(0:Int) else bif decide ¬(↑fs.length:Int)=(↑(aS nrm n).length:Int) then (1:Int)=(0:Int) else bif decide ¬(↑bs.length:Int)=(↑(aS nrm n).length:Int) then (1:Int)=(0:Int) else ((bs=aP (aQ bs)∧bs.length≤(1000000:Nat))∧(-9000000000000000000:Int)≤(1:Int)∧(1:Int)≤(9000000000000000000:Int))∧bif outB (-1:Int) 1 (aQ bs) then (1:Int)=(0:Int) else ((ds=aP (aQ ds)∧ds.length≤(1000000:Nat))∧(-9000000000000000000:Int)≤(1099511627776:Int)∧(1099511627776:Int)≤(9000000000000000000:Int))∧bif outB (-1099511627776:Int) 1099511627776 (aQ ds) then (1:Int)=(0:Int) else ((fs=aP (aQ fs)∧fs.length≤(1000000:Nat))∧(-9000000000000000000:Int)≤(1099511627776:Int)∧(1099511627776:Int)≤(9000000000000000000:Int))∧bif outB (-1099511627776:Int) 1099511627776 (aQ fs) then (1:Int)=(0:Int) else (0:Int)=(0:Int)
theorem aQp:aEH nrm:=by
 unfold aEH
 intro n i g h bs ds fs ⟨hP,hB⟩
 intros
 have hg:=hP.gp
 have ld:=hP.ld
 have lf:=hP.lf
 have lb:=hB.lb
 rw [bP] at ld lf lb
 have e:=(sU hg).1
 have hN:=lN hg
 have hE:=(cB hg.bq).2
 refine ⟨hg.bq,⟨hg.bq.lo,hg.bq.hi⟩,cd0 (by omega) (cd0 (by omega) (cd0 (by omega) ⟨⟨⟨hB.be,by omega⟩,by omega⟩,?_⟩))⟩
 rw [mX hB.bb]
 refine ⟨⟨⟨hP.de,by omega⟩,by omega⟩,?_⟩
 rw [mX hP.bd]
 refine ⟨⟨⟨hP.fe,by omega⟩,by omega⟩,?_⟩
 rw [mX hP.bf]
 rfl
theorem aQo (nrm:NrT):aEH nrm=(∀ (n:Int) (i g h:Bool) (bs ds fs:LL),ChP n 1099511627776 ds fs∧BrP n bs->fnK Tryz.prog { glob:=glb,spec:=lk [(58,(eT nrm)),(59,hU),(68,aEv)],specH:=lk [],nowf:=true } { nt:=53,drop:=drp [(1,15872),(2,4503599627354112)] } (λ _ _=>none) 6 Tryz.f71 [.int .i64 n,.sl 1 i bs,.agg [.sl 1 g ds,.sl 1 h fs]] (.int .i64 0)):=by kernel_rfl
def aQn:=Eq.mp (aQo ..) (aQp)
theorem aEG:SOK Tryz.prog glb 71 aCb:=by
 refine ⟨fok Tryz.func71 (by kernel_rfl) (by kernel_rfl),?_⟩
 intro xs pre r h hp
 unfold aCb at h
 split at h
 ·cases h
  exact aT bD (by exact aV rfl rfl ⟨(eK),(jC glb),(aMc glb),trivial⟩ trivial) (by kernel_rfl) Tryz.func71 rfl (aQn  _ _ _ _ _ _ _ hp)
 ·cases h
def mk (f:Nat->Int) (k:Nat):List Int:=(List.range k).map f
theorem pQ (f:Nat->Int) (k:Nat):mk f (k+1)=mk f k++[f k]:=by unfold mk; rw [List.range_succ,List.map_append]; rfl
theorem bZ (f:Nat->Int) (k:Nat):(mk f k).length=k:=by simp [mk]
theorem aV9 (f:Nat->Int) {k n:Nat} (h:k < n):(mk f n)[k]?=some (f k):=by simp [mk,h]
theorem fV (f:Nat->Int) {k n:Nat} (h:k < n):(mk f n).getD k 0=f k:=aGS (aV9 f h)
def taF (es:LL) (Z a b:Int) (ds fs:List Int) (k:Nat):Int:=(Z - wan a Z)*fs.getD k 0+wan b Z*(ds.getD (nI (es.getD k []) 0).toNat 0 - ds.getD (nI (es.getD k []) 1).toNat 0)
def taA (es:LL) (Z a b c:Int) (dg bs ds fs:List Int) (k:Nat):Int :=
 if bs.getD k 0=1 then Z.tdiv (dg.getD (nI (es.getD k []) 0).toNat 0)*ds.getD (nI (es.getD k []) 0).toNat 0
 else if bs.getD k 0=-1 then -(Z.tdiv (dg.getD (nI (es.getD k []) 1).toNat 0)*ds.getD (nI (es.getD k []) 1).toNat 0)
 else wan c (taF es Z a b ds fs k)
def taS (Z:Int) (ds:List Int) (k:Nat):Int:=Z*ds.getD k 0
def taK (n a b c:Int) (bs ds fs:List Int) (k:Nat):List Int:=mvK (aS nrm n) (mk (taA (aS nrm n) (scZ a b c) a b c (bR n) bs ds fs) (aS nrm n).length) (mk (taS (scZ a b c) ds) (ndN n)) k
def taD (n a b c:Int) (bs ds fs:List Int):List Int:=taK n a b c bs ds fs (aS nrm n).length
def taG (n a b:Int) (c:Int) (ds fs:List Int):List Int:=mk (taF (aS nrm n) (scZ a b c) a b ds fs) (aS nrm n).length
structure OneP (x:Unit):Prop where
 t:True
theorem fU {Z K x B:Int} (hz:0≤Z∧Z≤K) (hx:-B≤x∧x≤B):-(K*B)≤Z*x∧Z*x≤K*B:=by
 have h1:Z*B≤K*B:=Int.mul_le_mul_of_nonneg_right hz.2 (by omega)
 have h2:Z*x≤Z*B:=Int.mul_le_mul_of_nonneg_left hx.2 hz.1
 have h3:Z*-B≤Z*x:=Int.mul_le_mul_of_nonneg_left hx.1 hz.1
 rw [Int.mul_neg] at h3
 omega
theorem nH {x y K:Int} (h0:0≤x∧x≤K) (hy:1≤y):0≤x.tdiv y∧x.tdiv y≤K:=by
 rw [Int.tdiv_eq_ediv_of_nonneg h0.1]
 exact ⟨Int.ediv_nonneg h0.1 (by omega),Int.le_trans (Int.ediv_le_self y h0.1) h0.2⟩
theorem aVk {s z X:Int} (hs:0≤s∧s≤8) (hz:-X≤z∧z≤X):-X≤wan s z∧wan s z≤X:=by
 unfold wan
 rcases p2c hs with e | e | e | e | e | e | e | e | e <;> rw [e] <;> omega
theorem mI {s z:Int} (hs:0≤s∧s≤8) (hz:0≤z):0≤wan s z∧wan s z≤z:=by
 unfold wan
 rcases p2c hs with e | e | e | e | e | e | e | e | e <;> rw [e] <;> omega
theorem aQu {a b c B:Int} {es:LL} {ds fs:List Int} (hs:bU a b c=0) (hd:∀ j,-B≤ds.getD j 0∧ds.getD j 0≤B) (hf:∀ j,-B≤fs.getD j 0∧fs.getD j 0≤B) (k:Nat):-(23040*B)≤taF es (scZ a b c) a b ds fs k∧taF es (scZ a b c) a b ds fs k≤23040*B:=by
 obtain ⟨ha,hb,hc⟩:=mK hs
 have hZ:=rQ hs
 have w1:=mI (s:=a) (z:=scZ a b c) (by omega) (by omega)
 have w2:=mI (s:=b) (z:=scZ a b c) (by omega) (by omega)
 have p1:=fU (Z:=scZ a b c - wan a (scZ a b c)) (K:=7680) (by omega) (hf k)
 have d1:=hd (nI (es.getD k []) 0).toNat
 have d2:=hd (nI (es.getD k []) 1).toNat
 have p2:=fU (Z:=wan b (scZ a b c)) (K:=7680) (x:=ds.getD (nI (es.getD k []) 0).toNat 0 - ds.getD (nI (es.getD k []) 1).toNat 0) (B:=2*B) (by omega) (by omega)
 unfold taF
 omega
theorem aQv {a b c B:Int} {es:LL} {dg bs ds fs:List Int} (hs:bU a b c=0) (hd:∀ j,-B≤ds.getD j 0∧ds.getD j 0≤B) (hf:∀ j,-B≤fs.getD j 0∧fs.getD j 0≤B) {k:Nat} (ga:1≤dg.getD (nI (es.getD k []) 0).toNat 0) (gb:1≤dg.getD (nI (es.getD k []) 1).toNat 0):-(23040*B)≤taA es (scZ a b c) a b c dg bs ds fs k∧taA es (scZ a b c) a b c dg bs ds fs k≤23040*B:=by
 obtain ⟨ha,hb,hc⟩:=mK hs
 have hZ:=rQ hs
 have d1:=hd (nI (es.getD k []) 0).toNat
 have d2:=hd (nI (es.getD k []) 1).toNat
 have p1:=fU (nH (x:=scZ a b c) (K:=7680) (by omega) ga) d1
 have p2:=fU (nH (x:=scZ a b c) (K:=7680) (by omega) gb) d2
 have p3:=aVk (s:=c) (by omega) (aQu (es:=es) hs hd hf k)
 unfold taA
 split
 ·omega
 ·split <;> omega
theorem aFZ {es:LL} {ams ds:List Int} {C:Int} (hC:0≤C) (hd:∀ j,-C≤ds.getD j 0∧ds.getD j 0≤C) (ha:∀ j,-C≤ams.getD j 0∧ams.getD j 0≤C):∀ (k j:Nat),-((2*(k:Int)+1)*C)≤(mvK es ams ds k).getD j 0∧(mvK es ams ds k).getD j 0≤(2*(k:Int)+1)*C
 | 0,j=>by
  have:=hd j
  simp only [mvK]; omega
 | k+1,j=>by
  have hz:=ha k
  have h1:=iP (l:=mvK es ams ds k) (λ j=>aFZ hC hd ha k j) (x:=-ams.getD k 0) (C:=C) (by omega) (i:=(nI (es.getD k []) 0).toNat) hC
  have h2:=iP h1 (x:=ams.getD k 0) (C:=C) hz (i:=(nI (es.getD k []) 1).toNat) hC j
  rw [show (2*((k+1:Nat):Int)+1)=(2*(k:Int)+1)+1+1 by omega,Int.add_mul,Int.add_mul,Int.one_mul]
  rw [mvK]
  unfold mvS
  simp only [Int.sub_eq_add_neg] at h2 ⊢
  omega
theorem aCU {l:List Int} {B:Int} (hB:0≤B) (h:∀ z ∈ l,-B≤z∧z≤B):∀ j,-B≤l.getD j 0∧l.getD j 0≤B:=λ j=>jB hB h j
theorem aUS {f:Nat->Int} {n:Nat} {C:Int} (hC:0≤C) (h:∀ k,k < n->-C≤f k∧f k≤C):∀ j,-C≤(mk f n).getD j 0∧(mk f n).getD j 0≤C:=aCU hC λ z hz=>by
 simp only [mk,List.mem_map,List.mem_range] at hz
 obtain ⟨k,hk,rfl⟩:=hz
 exact h k hk
theorem aI9 {a b c B:Int} {ds:List Int} (hs:bU a b c=0) (hd:∀ j,-B≤ds.getD j 0∧ds.getD j 0≤B) (k:Nat):-(7680*B)≤taS (scZ a b c) ds k∧taS (scZ a b c) ds k≤7680*B:=by
 have hZ:=rQ hs
 exact fU (by omega) (hd k)
theorem aQt {n a b c B:Int} {bs ds fs:List Int} (hg:GrdP nrm n) (hB:0≤B) (hs:bU a b c=0) (hd:∀ j,-B≤ds.getD j 0∧ds.getD j 0≤B) (hf:∀ j,-B≤fs.getD j 0∧fs.getD j 0≤B) (k j:Nat):-((2*(k:Int)+1)*(23040*B))≤(taK n a b c bs ds fs k).getD j 0∧(taK n a b c bs ds fs k).getD j 0≤(2*(k:Int)+1)*(23040*B) :=
 aFZ (by omega) (aUS (by omega) λ k _=>by have:=aI9 hs hd k; omega) (aUS (by omega) λ k hk=>by
  obtain ⟨ea,eb⟩:=iE hg hk
  exact aQv hs hd hf (eO hg (by omega)) (eO hg (by omega))) k j
theorem pB (n a b c:Int) (bs ds fs:List Int) (k:Nat):(taK n a b c bs ds fs k).length=ndN n:=by unfold taK; rw [vB,bZ]
theorem ChP.mono {n B C:Int} {ds fs:LL} (h:ChP n B ds fs) (q:B≤C):ChP n C ds fs :=
 ⟨h.gp,h.de,h.fe,h.ld,h.lf,λ z hz=>by have:=h.bd z hz; omega,λ z hz=>by have:=h.bf z hz; omega⟩
structure LtP (m:Nat) (i:Int):Prop where
 lo:0≤i
 hi:i≤m
def ta1 (n a b c:Int) (i g h:Bool) (bs ds fs:LL):LInv:=⟨Int,λ x=>⟨[(2,.sl 1 i bs),(4,.ptr 4 0),(7,.ptr 7 0),(8,.ptr 8 0),(9,.int .i64 0),(10,.int .i64 (scZ a b c)),(13,.sl 1 false (aP (bR n))),(14,.sl 2 false (aS nrm n)),(15,.ptr 15 0),(58,.sl 1 g ds),(59,.int .i64 ds.length),(60,.int .i64 x)],[(4,.cells [.int .i64 a,.int .i64 b,.int .i64 c]),(7,.cells [.sl 1 g ds,.sl 1 h fs]),(8,.cells [.nils,.nils]),(15,.cells [.rw 1500 1 x.toNat,.rw 1510 1 0]),(1500,.row 3 1 (aP (mk (taS (scZ a b c) (aQ ds)) x.toNat))),(1510,.row 3 1 [])]⟩,LtP ds.length,λ x=>(ds.length - x).toNat,none⟩
def ta2 (n a b c:Int) (i g h:Bool) (bs ds fs:LL):LInv:=⟨Int,λ x=>⟨[(2,.sl 1 i bs),(4,.ptr 4 0),(7,.ptr 7 0),(8,.ptr 8 0),(9,.int .i64 0),(10,.int .i64 (scZ a b c)),(13,.sl 1 false (aP (bR n))),(15,.ptr 15 0),(73,.sl 2 false (aS nrm n)),(74,.int .i64 (aS nrm n).length),(75,.int .i64 x)],[(4,.cells [.int .i64 a,.int .i64 b,.int .i64 c]),(7,.cells [.sl 1 g ds,.sl 1 h fs]),(8,.cells [.nils,.nils]),(15,.cells [.rw 1500 1 (ndN n),.rw 1510 1 x.toNat]),(1500,.row 3 1 (aP (taK n a b c (aQ bs) (aQ ds) (aQ fs) x.toNat))),(1510,.row 3 1 (aP (mk (taF (aS nrm n) (scZ a b c) a b (aQ ds) (aQ fs)) x.toNat)))]⟩,LtP (aS nrm n).length,λ x=>((aS nrm n).length - x).toNat,none⟩
def ta3 (n a b c:Int) (i g h:Bool) (bs ds fs:LL) (x:Int):LInv:=⟨Unit,λ _=>⟨[(2,.sl 1 i bs),(4,.ptr 4 0),(7,.ptr 7 0),(8,.ptr 8 0),(9,.int .i64 0),(10,.int .i64 (scZ a b c)),(13,.sl 1 false (aP (bR n))),(15,.ptr 15 0),(19,.ptr 19 0),(20,.int .i64 (taF (aS nrm n) (scZ a b c) a b (aQ ds) (aQ fs) x.toNat)),(21,.int .i64 (taA (aS nrm n) (scZ a b c) a b c (bR n) (aQ bs) (aQ ds) (aQ fs) x.toNat)),(73,.sl 2 false (aS nrm n)),(74,.int .i64 (aS nrm n).length),(75,.int .i64 x)],[(4,.cells [.int .i64 a,.int .i64 b,.int .i64 c]),(7,.cells [.sl 1 g ds,.sl 1 h fs]),(8,.cells [.nils,.nils]),(15,.cells [.rw 1500 1 (ndN n),.rw 1510 1 x.toNat]),(19,.cells [.int .i64 (nI ((aS nrm n).getD x.toNat []) 0),.int .i64 (nI ((aS nrm n).getD x.toNat []) 1)]),(1500,.row 3 1 (aP (taK n a b c (aQ bs) (aQ ds) (aQ fs) x.toNat))),(1510,.row 3 1 (aP (mk (taF (aS nrm n) (scZ a b c) a b (aQ ds) (aQ fs)) x.toNat)))]⟩,OneP,λ _=>0,none⟩
def aEI:Sp
 | [.agg [.int .i64 a,.int .i64 b,.int .i64 c],.int .i64 n,.sl 1 i bs,.agg [.sl 1 g ds,.sl 1 h fs]]=>some (bU a b c=0∧ChP n 10000000000 ds fs∧BrP n bs,.tup [.agg [.sl 1 false (aP (taD n a b c (aQ bs) (aQ ds) (aQ fs))),.sl 1 false (aP (taG n a b c (aQ ds) (aQ fs)))],.int .i64 0])
 | _=>none
abbrev bE (n:Int):=(aS YtgbbmadjdaphnaaGreatDoor.nrm n)
abbrev nM (g:Bool) (ds:LL) (h:Bool) (fs:LL):=(((bif g then g=true else True)∧ds=ds)∧((bif h then h=true else True)∧fs=fs)∧True)
abbrev eP (n:Int) (a:Int) (b:Int) (c:Int) (ds:LL) (fs:LL):=(taF (bE n) (scZ a b c) a b (aQ ds) (aQ fs))
abbrev oZ (n:Int):=(True∧aS YtgbbmadjdaphnaaGreatDoor.nrm n=aS YtgbbmadjdaphnaaGreatDoor.nrm n)
abbrev nL (a:Int) (b:Int) (c:Int):=(scZ a b c - scZ a b c / (2:Int) ^ min a.toNat 64)
abbrev nK (n:Int):=(True∧aP (bR n)=aP (bR n))
abbrev nJ (i:Bool) (bs:LL):=((bif i then i=true else True)∧bs=bs)
def aEJ (nrm:NrT):Prop :=
 ∀ (n a b c:Int) (i g h:Bool) (bs ds fs:LL),bU a b c=(0:Int)∧ChP n 10000000000 ds fs∧BrP n bs->(IR9 a)∧(IR9 b)∧(IR9 c)∧True->IR9 n->True->True∧True∧True->bU a b c=(0:Int)∧(ChP n 1099511627776 ds fs∧BrP n bs)∧GrdP YtgbbmadjdaphnaaGreatDoor.nrm n∧BldQ nrm n∧(∃ x,LtP ds.length x∧((nJ i bs)∧(0:Nat)=(0:Nat)∧(0:Nat)=(0:Nat)∧(0:Nat)=(0:Nat)∧(0:Int)=(0:Int)∧scZ a b c=scZ a b c∧(nK n)∧(True∧aS nrm n=aS YtgbbmadjdaphnaaGreatDoor.nrm n)∧(0:Nat)=(0:Nat)∧((bif g then g=true else True)∧ds=ds)∧(↑ds.length:Int)=(↑ds.length:Int)∧(0:Int)=x∧True)∧(a=a∧b=b∧c=c∧True)∧(nM g ds h fs)∧(True∧True∧True)∧((0:Nat)=Int.toNat x∧(0:Nat)=(0:Nat)∧True)∧[]=aP (mk (taS (scZ a b c) (aQ ds)) (Int.toNat x))∧([]:LL)=[]∧True)∧∀ (x1:Int),LtP ds.length x1->bif decide (x1 < (↑ds.length:Int)) then bif decide (0≤x1∧x1 < (↑ds.length:Int)) then ∃ n_1,List.take [I6 n_1].length (ds.getD x1.toNat [])=[I6 n_1]∧bif decide (rng IntKind.i64 (scZ a b c*n_1)) then bif decide (x1.toNat=(aP (mk (taS (scZ a b c) (aQ ds)) x1.toNat)).length∧(aP (mk (taS (scZ a b c) (aQ ds)) x1.toNat)).length+[[I6 (scZ a b c*n_1)]].length≤(9223372036854775807:Nat)∧((aP (mk (taS (scZ a b c) (aQ ds)) x1.toNat)).length+[[I6 (scZ a b c*n_1)]].length)*(8:Nat)≤(140737488355328:Nat)) then bif decide (rng IntKind.i64 (x1+(1:Int))) then ∃ y,LtP ds.length y∧((λ x1=>ta1 n a b c i g h bs ds fs) 0).m y < ((λ x1=>ta1 n a b c i g h bs ds fs) 0).m x1∧((nJ i bs)∧(0:Nat)=(0:Nat)∧(0:Nat)=(0:Nat)∧(0:Nat)=(0:Nat)∧(0:Int)=(0:Int)∧scZ a b c=scZ a b c∧(nK n)∧(oZ n)∧(0:Nat)=(0:Nat)∧((bif g then g=true else True)∧ds=ds)∧(↑ds.length:Int)=(↑ds.length:Int)∧x1+(1:Int)=y∧True)∧(a=a∧b=b∧c=c∧True)∧(nM g ds h fs)∧(True∧True∧True)∧((aP (mk (taS (scZ a b c) (aQ ds)) x1.toNat)++[[I6 (scZ a b c*n_1)]]).length=Int.toNat y∧(0:Nat)=(0:Nat)∧True)∧aP (mk (taS (scZ a b c) (aQ ds)) x1.toNat)++[[I6 (scZ a b c*n_1)]]=aP (mk (taS (scZ a b c) (aQ ds)) (Int.toNat y))∧([]:LL)=[]∧True else False else False else False else False else (∃ x_1,LtP (bE n).length x_1∧((nJ i bs)∧(0:Nat)=(0:Nat)∧(0:Nat)=(0:Nat)∧(0:Nat)=(0:Nat)∧(0:Int)=(0:Int)∧scZ a b c=scZ a b c∧(nK n)∧(0:Nat)=(0:Nat)∧(oZ n)∧(↑(bE n).length:Int)=(↑(bE n).length:Int)∧(0:Int)=x_1∧True)∧(a=a∧b=b∧c=c∧True)∧(nM g ds h fs)∧(True∧True∧True)∧(x1.toNat=ndN n∧(0:Nat)=Int.toNat x_1∧True)∧aP (mk (taS (scZ a b c) (aQ ds)) x1.toNat)=aP (taK n a b c (aQ bs) (aQ ds) (aQ fs) (Int.toNat x_1))∧[]=aP (mk (eP n a b c ds fs) (Int.toNat x_1))∧True)∧∀ (x2:Int),LtP (bE n).length x2->bif decide (x2 < (↑(bE n).length:Int)) then bif decide (0≤x2∧x2 < (↑(bE n).length:Int)) then ∃ n_1 n_2,List.take [I6 n_1,I6 n_2].length ((bE n).getD x2.toNat [])=[I6 n_1,I6 n_2]∧bif decide (0≤a) then bif decide (rng IntKind.i64 (nL a b c)) then bif decide (0≤x2∧x2 < (↑fs.length:Int)) then ∃ n_3,List.take [I6 n_3].length (fs.getD x2.toNat [])=[I6 n_3]∧bif decide (rng IntKind.i64 ((nL a b c)*n_3)) then bif decide (0≤b) then bif decide (0≤n_1∧n_1 < (↑ds.length:Int)) then ∃ n_4,List.take [I6 n_4].length (ds.getD n_1.toNat [])=[I6 n_4]∧bif decide (0≤n_2∧n_2 < (↑ds.length:Int)) then ∃ n_5,List.take [I6 n_5].length (ds.getD n_2.toNat [])=[I6 n_5]∧bif decide (rng IntKind.i64 (n_4 - n_5)) then bif decide (rng IntKind.i64 (scZ a b c / (2:Int) ^ min b.toNat 64*(n_4 - n_5))) then bif decide (rng IntKind.i64 ((nL a b c)*n_3+scZ a b c / (2:Int) ^ min b.toNat 64*(n_4 - n_5))) then bif decide (0≤c) then (bif decide (0≤x2∧x2 < (↑bs.length:Int)) then ∃ n_6,List.take [I6 n_6].length (bs.getD x2.toNat [])=[I6 n_6]∧bif decide (n_6=(1:Int)) then bif decide (0≤n_1∧n_1 < (↑(aP (bR n)).length:Int)) then ∃ n_7,List.take [I6 n_7].length ((aP (bR n)).getD n_1.toNat [])=[I6 n_7]∧bif decide ¬n_7=(0:Int) then bif decide (rng IntKind.i64 ((scZ a b c).tdiv n_7)) then bif decide (0≤n_1∧n_1 < (↑ds.length:Int)) then ∃ n_8,List.take [I6 n_8].length (ds.getD n_1.toNat [])=[I6 n_8]∧bif decide (rng IntKind.i64 ((scZ a b c).tdiv n_7*n_8)) then ∃ x_1,OneP x_1∧((nJ i bs)∧(0:Nat)=(0:Nat)∧(0:Nat)=(0:Nat)∧(0:Nat)=(0:Nat)∧(0:Int)=(0:Int)∧scZ a b c=scZ a b c∧(nK n)∧(0:Nat)=(0:Nat)∧(0:Nat)=(0:Nat)∧(nL a b c)*n_3+scZ a b c / (2:Int) ^ min b.toNat 64*(n_4 - n_5)=taF (bE n) (scZ a b c) a b (aQ ds) (aQ fs) x2.toNat∧(scZ a b c).tdiv n_7*n_8=taA (bE n) (scZ a b c) a b c (bR n) (aQ bs) (aQ ds) (aQ fs) x2.toNat∧(oZ n)∧(↑(bE n).length:Int)=(↑(bE n).length:Int)∧x2=x2∧True)∧(a=a∧b=b∧c=c∧True)∧(nM g ds h fs)∧(True∧True∧True)∧(ndN n=ndN n∧x2.toNat=x2.toNat∧True)∧(n_1=nI ((bE n).getD x2.toNat []) 0∧n_2=nI ((bE n).getD x2.toNat []) 1∧True)∧aP (taK n a b c (aQ bs) (aQ ds) (aQ fs) x2.toNat)=aP (taK n a b c (aQ bs) (aQ ds) (aQ fs) x2.toNat)∧aP (mk (eP n a b c ds fs) x2.toNat)=aP (mk (eP n a b c ds fs) x2.toNat)∧True else False else False else False else False else False else bif decide (n_6=(-1:Int)) then bif decide (0≤n_2∧n_2 < (↑(aP (bR n)).length:Int)) then ∃ n_7,List.take [I6 n_7].length ((aP (bR n)).getD n_2.toNat [])=[I6 n_7]∧bif decide ¬n_7=(0:Int) then bif decide (rng IntKind.i64 ((scZ a b c).tdiv n_7)) then bif decide (0≤n_2∧n_2 < (↑ds.length:Int)) then ∃ n_8,List.take [I6 n_8].length (ds.getD n_2.toNat [])=[I6 n_8]∧bif decide (rng IntKind.i64 ((scZ a b c).tdiv n_7*n_8)) then bif decide (rng IntKind.i64 ((0:Int) - (scZ a b c).tdiv n_7*n_8)) then ∃ x_1,OneP x_1∧((nJ i bs)∧(0:Nat)=(0:Nat)∧(0:Nat)=(0:Nat)∧(0:Nat)=(0:Nat)∧(0:Int)=(0:Int)∧scZ a b c=scZ a b c∧(nK n)∧(0:Nat)=(0:Nat)∧(0:Nat)=(0:Nat)∧(nL a b c)*n_3+scZ a b c / (2:Int) ^ min b.toNat 64*(n_4 - n_5)=taF (bE n) (scZ a b c) a b (aQ ds) (aQ fs) x2.toNat∧(0:Int) - (scZ a b c).tdiv n_7*n_8=taA (bE n) (scZ a b c) a b c (bR n) (aQ bs) (aQ ds) (aQ fs) x2.toNat∧(oZ n)∧(↑(bE n).length:Int)=(↑(bE n).length:Int)∧x2=x2∧True)∧(a=a∧b=b∧c=c∧True)∧(nM g ds h fs)∧(True∧True∧True)∧(ndN n=ndN n∧x2.toNat=x2.toNat∧True)∧(n_1=nI ((bE n).getD x2.toNat []) 0∧n_2=nI ((bE n).getD x2.toNat []) 1∧True)∧aP (taK n a b c (aQ bs) (aQ ds) (aQ fs) x2.toNat)=aP (taK n a b c (aQ bs) (aQ ds) (aQ fs) x2.toNat)∧aP (mk (eP n a b c ds fs) x2.toNat)=aP (mk (eP n a b c ds fs) x2.toNat)∧True else False else False else False else False else False else False else ∃ x_1,OneP x_1∧((nJ i bs)∧(0:Nat)=(0:Nat)∧(0:Nat)=(0:Nat)∧(0:Nat)=(0:Nat)∧(0:Int)=(0:Int)∧scZ a b c=scZ a b c∧(nK n)∧(0:Nat)=(0:Nat)∧(0:Nat)=(0:Nat)∧(nL a b c)*n_3+scZ a b c / (2:Int) ^ min b.toNat 64*(n_4 - n_5)=taF (bE n) (scZ a b c) a b (aQ ds) (aQ fs) x2.toNat∧((nL a b c)*n_3+scZ a b c / (2:Int) ^ min b.toNat 64*(n_4 - n_5)) / (2:Int) ^ min c.toNat 64=taA (bE n) (scZ a b c) a b c (bR n) (aQ bs) (aQ ds) (aQ fs) x2.toNat∧(oZ n)∧(↑(bE n).length:Int)=(↑(bE n).length:Int)∧x2=x2∧True)∧(a=a∧b=b∧c=c∧True)∧(nM g ds h fs)∧(True∧True∧True)∧(ndN n=ndN n∧x2.toNat=x2.toNat∧True)∧(n_1=nI ((bE n).getD x2.toNat []) 0∧n_2=nI ((bE n).getD x2.toNat []) 1∧True)∧aP (taK n a b c (aQ bs) (aQ ds) (aQ fs) x2.toNat)=aP (taK n a b c (aQ bs) (aQ ds) (aQ fs) x2.toNat)∧aP (mk (eP n a b c ds fs) x2.toNat)=aP (mk (eP n a b c ds fs) x2.toNat)∧True else False)∧∀ (x3:PUnit),OneP x3->bif decide (x2.toNat=(aP (mk (eP n a b c ds fs) x2.toNat)).length∧(aP (mk (eP n a b c ds fs) x2.toNat)).length+[[I6 (taF (bE n) (scZ a b c) a b (aQ ds) (aQ fs) x2.toNat)]].length≤(9223372036854775807:Nat)∧((aP (mk (eP n a b c ds fs) x2.toNat)).length+[[I6 (taF (bE n) (scZ a b c) a b (aQ ds) (aQ fs) x2.toNat)]].length)*(8:Nat)≤(140737488355328:Nat)) then bif decide (0≤nI ((bE n).getD x2.toNat []) 0∧nI ((bE n).getD x2.toNat []) 0 < (↑(ndN n):Int)) then bif decide (ndN n=(aP (taK n a b c (aQ bs) (aQ ds) (aQ fs) x2.toNat)).length∧(nI ((bE n).getD x2.toNat []) 0).toNat < (aP (taK n a b c (aQ bs) (aQ ds) (aQ fs) x2.toNat)).length) then ∃ n_6,List.take [I6 n_6].length (List.drop 0 ((aP (taK n a b c (aQ bs) (aQ ds) (aQ fs) x2.toNat)).getD (nI ((bE n).getD x2.toNat []) 0).toNat []))=[I6 n_6]∧bif decide (rng IntKind.i64 (n_6 - taA (bE n) (scZ a b c) a b c (bR n) (aQ bs) (aQ ds) (aQ fs) x2.toNat)) then bif decide (0≤nI ((bE n).getD x2.toNat []) 0∧nI ((bE n).getD x2.toNat []) 0 < (↑(ndN n):Int)) then bif decide (ndN n=(aP (taK n a b c (aQ bs) (aQ ds) (aQ fs) x2.toNat)).length∧(nI ((bE n).getD x2.toNat []) 0).toNat < (aP (taK n a b c (aQ bs) (aQ ds) (aQ fs) x2.toNat)).length) then bif decide (0≤nI ((bE n).getD x2.toNat []) 1∧nI ((bE n).getD x2.toNat []) 1 < (↑(ndN n):Int)) then bif decide (ndN n=(setEl (aP (taK n a b c (aQ bs) (aQ ds) (aQ fs) x2.toNat)) (nI ((bE n).getD x2.toNat []) 0).toNat 0 [I6 (n_6 - taA (bE n) (scZ a b c) a b c (bR n) (aQ bs) (aQ ds) (aQ fs) x2.toNat)]).length∧(nI ((bE n).getD x2.toNat []) 1).toNat < (setEl (aP (taK n a b c (aQ bs) (aQ ds) (aQ fs) x2.toNat)) (nI ((bE n).getD x2.toNat []) 0).toNat 0 [I6 (n_6 - taA (bE n) (scZ a b c) a b c (bR n) (aQ bs) (aQ ds) (aQ fs) x2.toNat)]).length) then ∃ n_7,List.take [I6 n_7].length (List.drop 0 ((setEl (aP (taK n a b c (aQ bs) (aQ ds) (aQ fs) x2.toNat)) (nI ((bE n).getD x2.toNat []) 0).toNat 0 [I6 (n_6 - taA (bE n) (scZ a b c) a b c (bR n) (aQ bs) (aQ ds) (aQ fs) x2.toNat)]).getD (nI ((bE n).getD x2.toNat []) 1).toNat []))=[I6 n_7]∧bif decide (rng IntKind.i64 (n_7+taA (bE n) (scZ a b c) a b c (bR n) (aQ bs) (aQ ds) (aQ fs) x2.toNat)) then bif decide (0≤nI ((bE n).getD x2.toNat []) 1∧nI ((bE n).getD x2.toNat []) 1 < (↑(ndN n):Int)) then bif decide (ndN n=(setEl (aP (taK n a b c (aQ bs) (aQ ds) (aQ fs) x2.toNat)) (nI ((bE n).getD x2.toNat []) 0).toNat 0 [I6 (n_6 - taA (bE n) (scZ a b c) a b c (bR n) (aQ bs) (aQ ds) (aQ fs) x2.toNat)]).length∧(nI ((bE n).getD x2.toNat []) 1).toNat < (setEl (aP (taK n a b c (aQ bs) (aQ ds) (aQ fs) x2.toNat)) (nI ((bE n).getD x2.toNat []) 0).toNat 0 [I6 (n_6 - taA (bE n) (scZ a b c) a b c (bR n) (aQ bs) (aQ ds) (aQ fs) x2.toNat)]).length) then bif decide (rng IntKind.i64 (x2+(1:Int))) then ∃ y,LtP (bE n).length y∧((λ x2=>ta2 n a b c i g h bs ds fs) 0).m y < ((λ x2=>ta2 n a b c i g h bs ds fs) 0).m x2∧((nJ i bs)∧(0:Nat)=(0:Nat)∧(0:Nat)=(0:Nat)∧(0:Nat)=(0:Nat)∧(0:Int)=(0:Int)∧scZ a b c=scZ a b c∧(nK n)∧(0:Nat)=(0:Nat)∧(oZ n)∧(↑(bE n).length:Int)=(↑(bE n).length:Int)∧x2+(1:Int)=y∧True)∧(a=a∧b=b∧c=c∧True)∧(nM g ds h fs)∧(True∧True∧True)∧(ndN n=ndN n∧(aP (mk (eP n a b c ds fs) x2.toNat)++[[I6 (taF (bE n) (scZ a b c) a b (aQ ds) (aQ fs) x2.toNat)]]).length=Int.toNat y∧True)∧setEl (setEl (aP (taK n a b c (aQ bs) (aQ ds) (aQ fs) x2.toNat)) (nI ((bE n).getD x2.toNat []) 0).toNat 0 [I6 (n_6 - taA (bE n) (scZ a b c) a b c (bR n) (aQ bs) (aQ ds) (aQ fs) x2.toNat)]) (nI ((bE n).getD x2.toNat []) 1).toNat 0 [I6 (n_7+taA (bE n) (scZ a b c) a b c (bR n) (aQ bs) (aQ ds) (aQ fs) x2.toNat)]=aP (taK n a b c (aQ bs) (aQ ds) (aQ fs) (Int.toNat y))∧aP (mk (eP n a b c ds fs) x2.toNat)++[[I6 (taF (bE n) (scZ a b c) a b (aQ ds) (aQ fs) x2.toNat)]]=aP (mk (eP n a b c ds fs) (Int.toNat y))∧True else False else False else False else False else False else False else False else False else False else False else False else False else False else False else False else False else False else False else False else False else False else False else False else False else bif decide (ndN n=(aP (taK n a b c (aQ bs) (aQ ds) (aQ fs) x2.toNat)).length) then bif decide (x2.toNat=(aP (mk (eP n a b c ds fs) x2.toNat)).length) then ((True∧aP (taK n a b c (aQ bs) (aQ ds) (aQ fs) x2.toNat)=aP (taD n a b c (aQ bs) (aQ ds) (aQ fs)))∧(True∧aP (mk (eP n a b c ds fs) x2.toNat)=aP (taG n a b c (aQ ds) (aQ fs)))∧True)∧(0:Int)=(0:Int)∧True else False else False
theorem aQs:aEJ nrm:=by
 unfold aEJ
 delta bE nM eP oZ nL nK nJ I6
 intro n a b c i g h bs ds fs ⟨hs,hP,hB⟩
 intros
 have hg:=hP.gp
 obtain ⟨ha,hb,hc⟩:=mK hs
 have hZ:=rQ hs
 have g1:cond g (g=true) True:=gg g
 have g2:cond h (h=true) True:=gg h
 have g3:cond i (i=true) True:=gg i
 have hN:=lN hg
 have hE:=(cB hg.bq).2
 have de:=hP.de
 have fe:=hP.fe
 have ld:=hP.ld
 have lf:=hP.lf
 have be:=hB.be
 have lb:=hB.lb
 have hds:ds.length=ndN n:=by rw [← bP,ld]
 have hfs:fs.length=(aS nrm n).length:=by rw [← bP,lf]
 have hbs:bs.length=(aS nrm n).length:=by rw [← bP,lb]
 have bd:=aCU (by decide) hP.bd
 have bf:=aCU (by decide) hP.bf
 refine ⟨hs,⟨hP.mono (by decide),hB⟩,hg,hg.bq,⟨0,⟨Int.le_refl 0,by omega⟩,by repeat' first|exact trivial|exact rfl|assumption|apply And.intro⟩,?_⟩
 clear hP hB
 obtain ⟨zd,hzd⟩:∃ z,z=aQ ds:=⟨_,rfl⟩
 obtain ⟨zf,hzf⟩:∃ z,z=aQ fs:=⟨_,rfl⟩
 obtain ⟨zb,hzb⟩:∃ z,z=aQ bs:=⟨_,rfl⟩
 rw [← hzd] at de ld bd ⊢
 rw [← hzf] at fe lf bf ⊢
 rw [← hzb] at be lb ⊢
 intro x ⟨x0,xl⟩
 refine csp (λ q=>?_) (λ q=>?_)
 ·have e1:zd[x.toNat]?=some (zd.getD x.toNat 0):=bH (by omega)
  have t1:=aI9 hs bd x.toNat
  have es:mk (taS (scZ a b c) zd) (x+1).toNat=mk (taS (scZ a b c) zd) x.toNat++[scZ a b c*zd.getD x.toNat 0]:=by rw [show (x+1).toNat=x.toNat+1 by omega,pQ]; rfl
  have t1:-(7680*10000000000)≤scZ a b c*zd.getD x.toNat 0∧scZ a b c*zd.getD x.toNat 0≤7680*10000000000:=t1
  refine cd1 ⟨x0,q⟩ ⟨zd.getD x.toNat 0,by rw [de,bB e1]; rfl,cdI (by omega) (cd1 ⟨by rw [aR,bZ],by rw [aR,bZ,aH]; omega,by rw [aR,bZ,aH]; omega⟩ (cdI (by omega) ⟨x+1,⟨by omega,by omega⟩,by simp only [ta1]; omega,?_⟩))⟩
  rw [es,← cN,aG,aR,bZ,aH,show (x+1).toNat=x.toNat+1 by omega]
  (repeat' (first | exact trivial | exact rfl | assumption | apply And.intro))
 ·have ex:x.toNat=ndN n:=by omega
  rw [ex]
  refine ⟨⟨0,⟨Int.le_refl 0,by omega⟩,by repeat' first|exact trivial|exact rfl|assumption|apply And.intro⟩,?_⟩
  clear q x0 xl ex x
  intro x ⟨x0,xl⟩
  refine csp (λ q=>?_) (λ q=>?_)
  ·have hk:x.toNat < (aS nrm n).length:=by omega
   obtain ⟨ea,eb⟩:=iE hg hk
   have er:=aBB hg hk
   have pa:=eO hg (j:=(nI ((aS nrm n).getD x.toNat []) 0).toNat) (by omega)
   have pb:=eO hg (j:=(nI ((aS nrm n).getD x.toNat []) 1).toNat) (by omega)
   have hF:taF (aS nrm n) (scZ a b c) a b zd zf x.toNat=(scZ a b c - scZ a b c / 2 ^ min a.toNat 64)*zf.getD x.toNat 0+scZ a b c / 2 ^ min b.toNat 64*(zd.getD (nI ((aS nrm n).getD x.toNat []) 0).toNat 0 - zd.getD (nI ((aS nrm n).getD x.toNat []) 1).toNat 0):=rfl
   have hA:taA (aS nrm n) (scZ a b c) a b c (bR n) zb zd zf x.toNat=if zb.getD x.toNat 0=1 then (scZ a b c).tdiv ((bR n).getD (nI ((aS nrm n).getD x.toNat []) 0).toNat 0)*zd.getD (nI ((aS nrm n).getD x.toNat []) 0).toNat 0 else if zb.getD x.toNat 0=-1 then -((scZ a b c).tdiv ((bR n).getD (nI ((aS nrm n).getD x.toNat []) 1).toNat 0)*zd.getD (nI ((aS nrm n).getD x.toNat []) 1).toNat 0) else taF (aS nrm n) (scZ a b c) a b zd zf x.toNat / 2 ^ min c.toNat 64:=rfl
   have hK:taK n a b c zb zd zf (x.toNat+1)=((taK n a b c zb zd zf x.toNat).set (nI ((aS nrm n).getD x.toNat []) 0).toNat ((taK n a b c zb zd zf x.toNat).getD (nI ((aS nrm n).getD x.toNat []) 0).toNat 0 - taA (aS nrm n) (scZ a b c) a b c (bR n) zb zd zf x.toNat)).set (nI ((aS nrm n).getD x.toNat []) 1).toNat (((taK n a b c zb zd zf x.toNat).set (nI ((aS nrm n).getD x.toNat []) 0).toNat ((taK n a b c zb zd zf x.toNat).getD (nI ((aS nrm n).getD x.toNat []) 0).toNat 0 - taA (aS nrm n) (scZ a b c) a b c (bR n) zb zd zf x.toNat)).getD (nI ((aS nrm n).getD x.toNat []) 1).toNat 0+taA (aS nrm n) (scZ a b c) a b c (bR n) zb zd zf x.toNat):=by
    unfold taK
    rw [mvK,mvS]
    simp only [fV _ hk]
   have lK:=pB n a b c zb zd zf x.toNat
   have bK:=aQt hg (by decide) hs bd bf (bs:=zb) x.toNat
   have bF:=aQu (es:=aS nrm n) hs bd bf x.toNat
   have bA:=aQv (es:=aS nrm n) (bs:=zb) hs bd bf pa pb
   have w1:=mI (s:=a) (z:=scZ a b c) (by omega) (by omega)
   have w2:=mI (s:=b) (z:=scZ a b c) (by omega) (by omega)
   unfold wan at w1 w2
   have hdl:=wP n
   generalize taK n a b c zb zd zf x.toNat=K at hK lK bK ⊢
   generalize taA (aS nrm n) (scZ a b c) a b c (bR n) zb zd zf x.toNat=A at hA hK bA ⊢
   generalize hV:taF (aS nrm n) (scZ a b c) a b zd zf x.toNat=V at hA hF bF ⊢
   have e2:zf[x.toNat]?=some (zf.getD x.toNat 0):=bH (by omega)
   have e6:zb[x.toNat]?=some (zb.getD x.toNat 0):=bH (by omega)
   have p1:=fU (K:=7680) ⟨by omega,by omega⟩ (bf x.toNat) (Z:=scZ a b c - scZ a b c / 2 ^ min a.toNat 64)
   generalize (aS nrm n).getD x.toNat []=r at ea eb er pa pb hF hA hK ⊢
   have e3:zd[(nI r 0).toNat]?=some (zd.getD (nI r 0).toNat 0):=bH (by omega)
   have e4:zd[(nI r 1).toNat]?=some (zd.getD (nI r 1).toNat 0):=bH (by omega)
   have e7:(bR n)[(nI r 0).toNat]?=some ((bR n).getD (nI r 0).toNat 0):=bH (by omega)
   have e8:(bR n)[(nI r 1).toNat]?=some ((bR n).getD (nI r 1).toNat 0):=bH (by omega)
   have b3:=bd (nI r 0).toNat
   have b4:=bd (nI r 1).toNat
   have p2:=fU (K:=7680) ⟨by omega,by omega⟩ (show -20000000000≤zd.getD (nI r 0).toNat 0 - zd.getD (nI r 1).toNat 0∧zd.getD (nI r 0).toNat 0 - zd.getD (nI r 1).toNat 0≤20000000000 by omega) (Z:=scZ a b c / 2 ^ min b.toNat 64)
   have t1:=nH (x:=scZ a b c) (K:=7680) (by omega) pa
   have t2:=nH (x:=scZ a b c) (K:=7680) (by omega) pb
   have p3:=fU t1 b3
   have p4:=fU t2 b4
   have hF':=hF.symm
   refine cd1 ⟨x0,q⟩ ⟨nI r 0,nI r 1,(congrArg (List.take 2) er).trans rfl,cd1 (by omega) (cdI (by omega) (cd1 (by omega) ⟨zf.getD x.toNat 0,by rw [fe,bB e2]; rfl,cdI (by omega) (cd1 (by omega) (cd1 (by omega) ⟨zd.getD (nI r 0).toNat 0,by rw [de,bB e3]; rfl,cd1 (by omega) ⟨zd.getD (nI r 1).toNat 0,by rw [de,bB e4]; rfl,cdI (by omega) (cdI (by omega) (cdI (by rw [hF']; omega) (cd1 (by omega) ⟨cd1 (by omega) ⟨zb.getD x.toNat 0,by rw [be,bB e6]; rfl,csp (λ q1=>?_) (λ q1=>csp (λ q2=>?_) (λ q2=>?_))⟩,λ _ _=>?_⟩)))⟩⟩))⟩))⟩
   ·rw [if_pos q1] at hA
    have hA':=hA.symm
    exact cd1 (by rw [aR]; omega) ⟨(bR n).getD (nI r 0).toNat 0,by rw [bB e7]; rfl,cd1 (by omega) (cdI (by omega) (cd1 (by omega) ⟨zd.getD (nI r 0).toNat 0,by rw [de,bB e3]; rfl,cdI (by omega) ⟨(),⟨trivial⟩,by repeat' first|exact trivial|exact rfl|assumption|apply And.intro⟩⟩))⟩
   ·rw [if_neg q1,if_pos q2] at hA
    have hA':0 - (scZ a b c).tdiv ((bR n).getD (nI r 1).toNat 0)*zd.getD (nI r 1).toNat 0=A:=by omega
    exact cd1 (by rw [aR]; omega) ⟨(bR n).getD (nI r 1).toNat 0,by rw [bB e8]; rfl,cd1 (by omega) (cdI (by omega) (cd1 (by omega) ⟨zd.getD (nI r 1).toNat 0,by rw [de,bB e4]; rfl,cdI (by omega) (cdI (by omega) ⟨(),⟨trivial⟩,by repeat' first|exact trivial|exact rfl|assumption|apply And.intro⟩)⟩))⟩
   ·rw [if_neg q1,if_neg q2] at hA
    rw [hF']
    have hA':=hA.symm
    exact ⟨(),⟨trivial⟩,by repeat' first|exact trivial|exact rfl|assumption|apply And.intro⟩
   ·clear hA p1 p2 p3 p4 t1 t2 w1 w2 b3 b4 e2 e6 e7 e8
    have k1:K[(nI r 0).toNat]?=some (K.getD (nI r 0).toNat 0):=bH (by omega)
    have b1:=bK (nI r 0).toNat
    refine cd1 ⟨by rw [aR,bZ],by rw [aR,bZ,aH]; omega,by rw [aR,bZ,aH]; omega⟩ (cd1 ea (cd1 ⟨by rw [aR,lK],by rw [aR]; omega⟩ ⟨K.getD (nI r 0).toNat 0,by rw [List.drop_zero,bB k1]; rfl,cdI (by omega) ?_⟩))
    rw [cM (by omega)]
    have hl2:(K.set (nI r 0).toNat (K.getD (nI r 0).toNat 0 - A)).length=ndN n:=by rw [List.length_set,lK]
    have hb2:=iP bK (x:=-A) (C:=230400000000000) (by omega) (i:=(nI r 0).toNat) (by decide)
    rw [← Int.sub_eq_add_neg] at hb2
    generalize K.set (nI r 0).toNat (K.getD (nI r 0).toNat 0 - A)=d2 at hK hl2 hb2 ⊢
    have k2:d2[(nI r 1).toNat]?=some (d2.getD (nI r 1).toNat 0):=bH (by omega)
    have b2:=hb2 (nI r 1).toNat
    refine cd1 ea (cd1 ⟨by rw [aR,lK],by rw [aR]; omega⟩ (cd1 eb (cd1 ⟨by rw [aR,hl2],by rw [aR]; omega⟩ ⟨d2.getD (nI r 1).toNat 0,by rw [List.drop_zero,bB k2]; rfl,cdI (by omega) (cd1 eb (cd1 ⟨by rw [aR,hl2],by rw [aR]; omega⟩ (cdI (by omega) ⟨x+1,⟨by omega,by omega⟩,by simp only [ta2]; omega,?_⟩)))⟩)))
    rw [cM (by omega),show (x+1).toNat=x.toNat+1 by omega,hK,pQ,hV,← cN,aG,aR,bZ,aH]
    (repeat' (first | exact trivial | exact rfl | assumption | apply And.intro))
  ·have ex:x.toNat=(aS nrm n).length:=by omega
   rw [ex]
   exact cd1 (by rw [aR,pB]) (cd1 (by rw [aR,bZ]) (by repeat' first|exact trivial|exact rfl|assumption|apply And.intro))
theorem aQr (nrm:NrT):aEJ nrm=(∀ (n a b c:Int) (i g h:Bool) (bs ds fs:LL),bU a b c=0∧ChP n 10000000000 ds fs∧BrP n bs->fnK Tryz.prog { glob:=glb,spec:=lk [(26,sA),(71,aCb),(72,yX),(58,(eT nrm))],specH:=lk [],shape:=[63,79,90,101,107,118,126,133,142,149,163,172],nowf:=true } { nt:=178,drop:=drp [(1,130023424),(2,134217728),(3,1610612736),(4,32212254720),(5,34359738368),(6,412316860416),(7,17042430230528),(8,17592186044416),(9,211106232532992),(10,8725724278030336),(11,9007199254740992),(12,108086391056891904),(14,144115188075855872),(16,13835058055282163712),(17,4703919738795935662080),(18,4722366482869645213696),(21,1057810092162800527867904),(22,2596148428058487994650618989903872),(23,38942226439011207213978722469150720),(24,290768624077950347197707794436325376),(25,1329227995784915872903807060280344576),(26,43553484509888553491566142137145770377216),(27,87112285931760246646623899502532662132736),(28,5708816546251976003739850629998975480206721024),(29,359666418561901890026688064301272774368452149248),(30,186706834169022847800520737379505155761045382365184),(31,95593899094539698073866617538306639749655235770974208),(32,95780971304118053647396689196894323976171195136475136),(33,191561942608236107294793378393788647952342390272950272)],emp:=λ id=>cond (Nat.beq id 14) [(1001500,1500,3,1),(1001501,1510,3,1)] [] } (vQ [(15,60,λ _=>ta1 n a b c i g h bs ds fs),(20,75,λ _=>ta2 n a b c i g h bs ds fs),(100029,75,ta3 n a b c i g h bs ds fs)]) 6 Tryz.f30 [.agg [.int .i64 a,.int .i64 b,.int .i64 c],.int .i64 n,.sl 1 i bs,.agg [.sl 1 g ds,.sl 1 h fs]] (.tup [.agg [.sl 1 false (aP (taD n a b c (aQ bs) (aQ ds) (aQ fs))),.sl 1 false (aP (taG n a b c (aQ ds) (aQ fs)))],.int .i64 0])):=by kernel_rfl
def aQq:=Eq.mp (aQr ..) (aQs)
theorem aMl:SOK Tryz.prog glb 30 aEI:=by
 refine ⟨fok Tryz.func30 (by kernel_rfl) (by kernel_rfl),?_⟩
 intro xs pre r h hp
 unfold aEI at h
 split at h
 ·cases h
  exact aT bD (by exact aV rfl rfl ⟨(tZ glb),(aEG),(aBy),(eK),trivial⟩ trivial) (by kernel_rfl) Tryz.func30 rfl (aQq  _ _ _ _ _ _ _ _ _ _ hp)
 ·cases h
def aEE:SpH
 | [.agg [.sl 1 g ds,.sl 1 h fs],.sl 1 i bs,.ptr 0 0,.ptr 1 0],[.cells [.int .i64 a,.int .i64 b,.int .i64 c],.cells [.int .i64 n]]=>some (bU a b c=0∧ChP n 10000000000 ds fs∧BrP n bs,.tup [.agg [.sl 1 false (aP (taD n a b c (aQ bs) (aQ ds) (aQ fs))),.sl 1 false (aP (taG n a b c (aQ ds) (aQ fs)))],.int .i64 0],[.cells [.int .i64 a,.int .i64 b,.int .i64 c],.cells [.int .i64 n]])
 | _,_=>none
def aEF:Prop :=
 ∀ (n a b c:Int) (i g h:Bool) (bs ds fs:LL),bU a b c=(0:Int)∧ChP n 10000000000 ds fs∧BrP n bs->True∧True∧True->True->True->True->IR9 a->IR9 b->IR9 c->IR9 n->(bU a b c=(0:Int)∧ChP n 10000000000 ds fs∧BrP n bs)∧(((True∧aP (taD n a b c (aQ bs) (aQ ds) (aQ fs))=aP (taD n a b c (aQ bs) (aQ ds) (aQ fs)))∧(True∧aP (taG n a b c (aQ ds) (aQ fs))=aP (taG n a b c (aQ ds) (aQ fs)))∧True)∧(0:Int)=(0:Int)∧True)∧(a=a∧b=b∧c=c∧True)∧(n=n∧True)∧True
theorem aQm:aEF:=by
 unfold aEF
 intro n a b c i g h bs ds fs hP
 intros
 exact ⟨hP,by repeat' first|exact trivial|exact rfl|assumption|apply And.intro⟩
theorem aQl:aEF=(∀ (n a b c:Int) (i g h:Bool) (bs ds fs:LL),bU a b c=0∧ChP n 10000000000 ds fs∧BrP n bs->fnH Tryz.prog { glob:=glb,spec:=lk [(30,aEI)],specH:=lk [],nowf:=true } { nt:=15,drop:=drp [(1,32512)],fr:=1000,kp:=[0,1] } (λ _ _=>none) 6 Tryz.f62 [.agg [.sl 1 g ds,.sl 1 h fs],.sl 1 i bs,.ptr 0 0,.ptr 1 0] [.cells [.int .i64 a,.int .i64 b,.int .i64 c],.cells [.int .i64 n]] (.tup [.agg [.sl 1 false (aP (taD n a b c (aQ bs) (aQ ds) (aQ fs))),.sl 1 false (aP (taG n a b c (aQ ds) (aQ fs)))],.int .i64 0]) [.cells [.int .i64 a,.int .i64 b,.int .i64 c],.cells [.int .i64 n]]):=by kernel_rfl
def aQk:=Eq.mp (aQl ..) (aQm)
theorem aMk:HOK Tryz.prog glb 62 aEE:=by
 refine ⟨fok Tryz.func62 (by kernel_rfl) (by kernel_rfl),?_⟩
 intro xs bs pre r bs2 h hp
 unfold aEE at h
 split at h
 ·cases h
  exact bC bD (by exact aV rfl rfl ⟨(aMl),trivial⟩ trivial) (by kernel_rfl) Tryz.func62 (aQk  _ _ _ _ _ _ _ _ _ _ hp)
 ·cases h
def aEy:SpH
 | [.sl 1 j [[.sl 1 i bs]],.agg [.sl 1 g ds,.sl 1 h fs],.fn 62 [.ptr 0 0,.ptr 1 0]],[.cells [.int .i64 a,.int .i64 b,.int .i64 c],.cells [.int .i64 n]]=>some (bU a b c=0∧ChP n 10000000000 ds fs∧BrP n bs,.tup [.agg [.sl 1 false (aP (taD n a b c (aQ bs) (aQ ds) (aQ fs))),.sl 1 false (aP (taG n a b c (aQ ds) (aQ fs)))],.int .i64 0],[.cells [.int .i64 a,.int .i64 b,.int .i64 c],.cells [.int .i64 n]])
 | _,_=>none
def aEz:Prop :=
 ∀ (n a b c:Int) (j i g h:Bool) (bs ds fs:LL),bU a b c=(0:Int)∧ChP n 10000000000 ds fs∧BrP n bs->True->True∧True∧True->True->IR9 a->IR9 b->IR9 c->IR9 n->(bU a b c=(0:Int)∧ChP n 10000000000 ds fs∧BrP n bs)∧(((True∧aP (taD n a b c (aQ bs) (aQ ds) (aQ fs))=aP (taD n a b c (aQ bs) (aQ ds) (aQ fs)))∧(True∧aP (taG n a b c (aQ ds) (aQ fs))=aP (taG n a b c (aQ ds) (aQ fs)))∧True)∧(0:Int)=(0:Int)∧True)∧(a=a∧b=b∧c=c∧True)∧(n=n∧True)∧True
theorem aQd:aEz:=by
 unfold aEz
 intro n a b c j i g h bs ds fs hP
 intros
 exact ⟨hP,by repeat' first|exact trivial|exact rfl|assumption|apply And.intro⟩
theorem aQc:aEz=(∀ (n a b c:Int) (j i g h:Bool) (bs ds fs:LL),bU a b c=0∧ChP n 10000000000 ds fs∧BrP n bs->fnH Tryz.prog { glob:=glb,spec:=lk [],specH:=lk [(62,aEE)],nowf:=true } { nt:=31,drop:=drp [(3,196608),(5,33292288),(6,33554432),(8,402653184),(9,536870912),(10,1073741824)],fr:=1000,kp:=[0,1] } (λ _ _=>none) 6 Tryz.f61 [.sl 1 j [[.sl 1 i bs]],.agg [.sl 1 g ds,.sl 1 h fs],.fn 62 [.ptr 0 0,.ptr 1 0]] [.cells [.int .i64 a,.int .i64 b,.int .i64 c],.cells [.int .i64 n]] (.tup [.agg [.sl 1 false (aP (taD n a b c (aQ bs) (aQ ds) (aQ fs))),.sl 1 false (aP (taG n a b c (aQ ds) (aQ fs)))],.int .i64 0]) [.cells [.int .i64 a,.int .i64 b,.int .i64 c],.cells [.int .i64 n]]):=by kernel_rfl
def aQb:=Eq.mp (aQc ..) (aQd)
theorem aMh:HOK Tryz.prog glb 61 aEy:=by
 refine ⟨fok Tryz.func61 (by kernel_rfl) (by kernel_rfl),?_⟩
 intro xs bs pre r bs2 h hp
 unfold aEy at h
 split at h
 ·cases h
  exact bC bD (by exact aV rfl rfl trivial ⟨(aMk),trivial⟩) (by kernel_rfl) Tryz.func61 (aQb  _ _ _ _ _ _ _ _ _ _ _ hp)
 ·cases h
def aEC:Sp
 | [.agg [.int .i64 a,.int .i64 b,.int .i64 c],.int .i64 n,.sl 1 j [[.sl 1 i bs]],.agg [.sl 1 g ds,.sl 1 h fs]]=>some (bU a b c=0∧ChP n 10000000000 ds fs∧BrP n bs,.tup [.agg [.sl 1 false (aP (taD n a b c (aQ bs) (aQ ds) (aQ fs))),.sl 1 false (aP (taG n a b c (aQ ds) (aQ fs)))],.int .i64 0])
 | _=>none
def aED:Prop :=
 ∀ (n a b c:Int) (j i g h:Bool) (bs ds fs:LL),bU a b c=(0:Int)∧ChP n 10000000000 ds fs∧BrP n bs->(IR9 a)∧(IR9 b)∧(IR9 c)∧True->IR9 n->True->True∧True∧True->ds.length≤(1000000:Nat)∧fs.length≤(1000000:Nat)∧(bU a b c=(0:Int)∧ChP n 10000000000 ds fs∧BrP n bs)∧((True∧aP (taD n a b c (aQ bs) (aQ ds) (aQ fs))=aP (taD n a b c (aQ bs) (aQ ds) (aQ fs)))∧(True∧aP (taG n a b c (aQ ds) (aQ fs))=aP (taG n a b c (aQ ds) (aQ fs)))∧True)∧(0:Int)=(0:Int)∧True
theorem aQj:aED:=by
 unfold aED
 intro n a b c j i g h bs ds fs hP
 intros
 have hC:=hP.2.1
 have ld:=hC.ld
 have lf:=hC.lf
 rw [bP] at ld lf
 have hN:=lN hC.gp
 have hE:=(cB hC.gp.bq).2
 exact ⟨by omega,by omega,hP,by repeat' first|exact trivial|exact rfl|assumption|apply And.intro⟩
theorem aQi:aED=(∀ (n a b c:Int) (j i g h:Bool) (bs ds fs:LL),bU a b c=0∧ChP n 10000000000 ds fs∧BrP n bs->fnK Tryz.prog { glob:=glb,spec:=lk [(60,pW)],specH:=lk [(61,aEy)],nowf:=true } { nt:=24,drop:=drp [(1,260096),(2,16515072)] } (λ _ _=>none) 6 Tryz.f24 [.agg [.int .i64 a,.int .i64 b,.int .i64 c],.int .i64 n,.sl 1 j [[.sl 1 i bs]],.agg [.sl 1 g ds,.sl 1 h fs]] (.tup [.agg [.sl 1 false (aP (taD n a b c (aQ bs) (aQ ds) (aQ fs))),.sl 1 false (aP (taG n a b c (aQ ds) (aQ fs)))],.int .i64 0])):=by kernel_rfl
def aQh:=Eq.mp (aQi ..) (aQj)
theorem aMj:SOK Tryz.prog glb 24 aEC:=by
 refine ⟨fok Tryz.func24 (by kernel_rfl) (by kernel_rfl),?_⟩
 intro xs pre r h hp
 unfold aEC at h
 split at h
 ·cases h
  exact aT bD (by exact aV rfl rfl ⟨(pX glb),trivial⟩ ⟨(aMh),trivial⟩) (by kernel_rfl) Tryz.func24 rfl (aQh  _ _ _ _ _ _ _ _ _ _ _ hp)
 ·cases h
def aEA (wH:Int->Int) (wL:Int->Int) (adZ:Int->Int->Int->Int->Int):Sp
 | [.agg [.sl 1 g ds,.sl 1 h fs],.agg [.sl 1 g' ds',.sl 1 h' fs']]=>some (DotP ds ds'∧DotP fs fs',.tup [.agg [.int .i64 (wH (cX (aQ ds) (aQ ds')+cX (aQ fs) (aQ fs'))),.int .u64 (wL (cX (aQ ds) (aQ ds')+cX (aQ fs) (aQ fs')))],.int .i64 0])
 | _=>none
def aEB (wH:Int->Int) (wL:Int->Int) (adZ:Int->Int->Int->Int->Int):Prop :=
 ∀ (gl:aX) (g h g' h':Bool) (ds fs ds' fs':LL),DotP ds ds'∧DotP fs fs'->True∧True∧True->True∧True∧True->DotP ds ds'∧DotP fs fs'∧AdP (wH (cX (aQ ds) (aQ ds'))) (wH (cX (aQ fs) (aQ fs')))∧(wH (adZ (wH (cX (aQ ds) (aQ ds'))) (wL (cX (aQ ds) (aQ ds'))) (wH (cX (aQ fs) (aQ fs'))) (wL (cX (aQ fs) (aQ fs'))))=wH (cX (aQ ds) (aQ ds')+cX (aQ fs) (aQ fs'))∧wL (adZ (wH (cX (aQ ds) (aQ ds'))) (wL (cX (aQ ds) (aQ ds'))) (wH (cX (aQ fs) (aQ fs'))) (wL (cX (aQ fs) (aQ fs'))))=wL (cX (aQ ds) (aQ ds')+cX (aQ fs) (aQ fs'))∧True)∧(0:Int)=(0:Int)∧True
theorem aQg:aEB wH wL adZ:=by
 unfold aEB
 intro gl g h g' h' ds fs ds' fs' ⟨h1,h2⟩
 intros
 have b1:=aC7 h1.xb h1.yb (aQ ds).length
 have b2:=aC7 h2.xb h2.yb (aQ fs).length
 have l1:=h1.ll
 have l2:=h2.ll
 have e1:=aVl (cX (aQ ds) (aQ ds'))
 have e2:=aVl (cX (aQ fs) (aQ fs'))
 rw [bP] at b1 b2
 have b1:-(ds.length*5192296858534827628530496329220096:Int)≤cX (aQ ds) (aQ ds')∧cX (aQ ds) (aQ ds')≤ds.length*5192296858534827628530496329220096:=by unfold cX; rw [bP]; exact b1
 have b2:-(fs.length*5192296858534827628530496329220096:Int)≤cX (aQ fs) (aQ fs')∧cX (aQ fs) (aQ fs')≤fs.length*5192296858534827628530496329220096:=by unfold cX; rw [bP]; exact b2
 generalize cX (aQ ds) (aQ ds')=x at *
 generalize cX (aQ fs) (aQ fs')=y at *
 have e3:adZ (wH x) (wL x) (wH y) (wL y)=x+y:=by unfold adZ; omega
 rw [e3]
 refine ⟨h1,h2,⟨?_,?_,?_,?_⟩,by repeat' first|exact trivial|exact rfl|assumption|apply And.intro⟩ <;> unfold wH <;> omega
theorem aQf (wH:Int->Int) (wL:Int->Int) (adZ:Int->Int->Int->Int->Int):aEB wH wL adZ=(∀ (gl:aX) (g h g' h':Bool) (ds fs ds' fs':LL),DotP ds ds'∧DotP fs fs'->fnK Tryz.prog { glob:=gl,spec:=lk [(63,(aFx wH wL)),(64,(aCp wH wL adZ))],specH:=lk [],nowf:=true } { nt:=36,drop:=drp [(1,130560),(2,131072),(3,1572864),(4,534773760),(5,536870912),(6,6442450944),(7,60129542144)] } (λ _ _=>none) 6 Tryz.f25 [.agg [.sl 1 g ds,.sl 1 h fs],.agg [.sl 1 g' ds',.sl 1 h' fs']] (.tup [.agg [.int .i64 (wH (cX (aQ ds) (aQ ds')+cX (aQ fs) (aQ fs'))),.int .u64 (wL (cX (aQ ds) (aQ ds')+cX (aQ fs) (aQ fs')))],.int .i64 0])):=by kernel_rfl
def aQe:=Eq.mp (aQf ..) (aQg)
theorem aMi (gl:aX):SOK Tryz.prog gl 25 (aEA wH wL adZ):=by
 refine ⟨fok Tryz.func25 (by kernel_rfl) (by kernel_rfl),?_⟩
 intro xs pre r h hp
 unfold aEA at h
 split at h
 ·cases h
  exact aT bD (by exact aV rfl rfl ⟨(aNa gl),(aFz gl),trivial⟩ trivial) (by kernel_rfl) Tryz.func25 rfl (aQe gl _ _ _ _ _ _ _ _ hp)
 ·cases h
def mH (l:List Int) (i:Nat) (x:Int):List Int:=l.set i (l.getD i 0+x)
theorem eD (l:List Int) (i:Nat) (x:Int):(mH l i x).length=l.length:=by simp [mH]
theorem gR (l:List Int) (i:Nat) (x:Int) (j:Nat):(mH l i x).getD j 0=l.getD j 0+if i=j∧j < l.length then x else 0:=by
 unfold mH
 rw [aB,List.getElem?_set]
 by_cases q:i=j
 ·subst q
  by_cases q2:i < l.length
  ·rw [if_pos rfl,if_pos q2,if_pos ⟨rfl,q2⟩]; rfl
  ·rw [if_pos rfl,if_neg q2,if_neg (λ e=>q2 e.2),aB,List.getElem?_eq_none (by omega)]; rfl
 ·rw [if_neg q,if_neg (λ e=>q e.1),aB]; omega
theorem aKQ {l m:List Int} (h:l.length=m.length) (k:∀ j,l.getD j 0=m.getD j 0):l=m:=by
 apply List.ext_getElem?
 intro j
 have:=k j
 by_cases q:j < l.length
 ·rw [aB,aB,aD q,aD (by omega)] at this
  rw [aD q,aD (by omega)]
  exact congrArg some this
 ·rw [List.getElem?_eq_none (by omega),List.getElem?_eq_none (by omega)]
structure LkP (a b c Z r0 r1 i:Int) (dg ds fs:LL):Prop where
 ha:1≤a∧a≤4
 hb:1≤b∧b≤4
 hc:1≤c∧c≤4
 hZ:0≤Z∧Z≤7680
 h0:0≤r0∧r0 < ds.length
 h1:0≤r1∧r1 < ds.length
 hi:0≤i∧i < fs.length
 dl:dg.length=ds.length
 ge:dg=aP (aQ dg)
 de:ds=aP (aQ ds)
 fe:fs=aP (aQ fs)
 p0:1≤(aQ dg).getD r0.toNat 0
 p1:1≤(aQ dg).getD r1.toNat 0
 bd:∀ j,-10000000000≤(aQ ds).getD j 0∧(aQ ds).getD j 0≤10000000000
 bf:∀ j,-10000000000≤(aQ fs).getD j 0∧(aQ fs).getD j 0≤10000000000
structure AmtP (r0 r1:Int) (ds:LL):Prop where
 h0:0≤r0∧r0 < ds.length
 h1:0≤r1∧r1 < ds.length
 de:ds=aP (aQ ds)
 bd:∀ j,-10000000000≤(aQ ds).getD j 0∧(aQ ds).getD j 0≤10000000000
theorem LkP.amt {a b c Z r0 r1 i:Int} {dg ds fs:LL} (h:LkP a b c Z r0 r1 i dg ds fs):AmtP r0 r1 ds:=⟨h.h0,h.h1,h.de,h.bd⟩
def alQ (r0 r1:Int) (ds:List Int):Int:=ds.getD r1.toNat 0 - ds.getD r0.toNat 0
def alF (a c Z br r0 r1 i:Int) (ds fs:List Int):Int:=(Z - wan a Z)*fs.getD i.toNat 0+if br=0 then wan c (Z - wan a Z)*alQ r0 r1 ds else 0
def alV (b c Z br r0 r1 i:Int) (ds fs:List Int):Int:=wan b Z*fs.getD i.toNat 0+if br=0 then wan (b+c) Z*alQ r0 r1 ds else 0
def alX (Z br r0 r1:Int) (dg ds os:List Int):List Int:=if br=1 then mH os r0.toNat (Z.tdiv (dg.getD r0.toNat 0)*alQ r0 r1 ds) else if br=-1 then mH os r1.toNat (-(Z.tdiv (dg.getD r1.toNat 0)*alQ r0 r1 ds)) else os
def alU (Z br r0 r1:Int) (dg ds:List Int):Int:=if br=1 then Z.tdiv (dg.getD r0.toNat 0)*alQ r0 r1 ds else 0
def alW (Z br r0 r1:Int) (dg ds:List Int):Int:=if br=-1 then Z.tdiv (dg.getD r1.toNat 0)*alQ r0 r1 ds else 0
def alD (b c Z br r0 r1 i:Int) (dg ds fs os:List Int):List Int:=mH (mH os r0.toNat (alV b c Z br r0 r1 i ds fs+alU Z br r0 r1 dg ds)) r1.toNat (-(alV b c Z br r0 r1 i ds fs+alW Z br r0 r1 dg ds))
theorem aW1 (b c Z br r0 r1 i:Int) (dg ds fs os:List Int):mH (mH (alX Z br r0 r1 dg ds os) r0.toNat (alV b c Z br r0 r1 i ds fs)) r1.toNat (-alV b c Z br r0 r1 i ds fs)=alD b c Z br r0 r1 i dg ds fs os:=by
 have l0:(alX Z br r0 r1 dg ds os).length=os.length:=by
  unfold alX
  split
  ·exact eD _ _ _
  ·split
   ·exact eD _ _ _
   ·rfl
 refine aKQ (by unfold alD; simp only [eD,l0]) λ j=>?_
 unfold alD
 simp only [gR,eD,l0]
 have:(alX Z br r0 r1 dg ds os).getD j 0=os.getD j 0+(if r0.toNat=j∧j < os.length then alU Z br r0 r1 dg ds else 0) - if r1.toNat=j∧j < os.length then alW Z br r0 r1 dg ds else 0:=by
  unfold alX alU alW
  by_cases q:br=1
  ·rw [if_pos q,if_pos q,if_neg (show ¬ br=-1 by omega),gR]; split <;> split <;> omega
  ·rw [if_neg q,if_neg q]
   by_cases q2:br=-1
   ·rw [if_pos q2,if_pos q2,gR]; split <;> split <;> omega
   ·rw [if_neg q2,if_neg q2]; split <;> split <;> omega
 rw [this]
 split <;> split <;> omega
def aIh (wan:Int->Int->Int):Sp
 | [.agg [.int .i64 r0,.int .i64 r1,.int .i64 a,.int .i64 b,.int .i64 c,.int .i64 Z,.int .i64 br,.sl 1 f dg]]=>some ((1≤a∧a≤4)∧0≤Z∧Z≤7680,.int .i64 (Z - wan a Z))
 | _=>none
def aIi (wan:Int->Int->Int):Prop :=
 ∀ (gl:aX) (a b c Z r0 r1 br:Int) (f:Bool) (dg:LL),(1≤a∧a≤(4:Int))∧0≤Z∧Z≤(7680:Int)->(IR9 r0)∧(IR9 r1)∧(IR9 a)∧(IR9 b)∧(IR9 c)∧(IR9 Z)∧(IR9 br)∧True∧True->bif decide (0≤a) then bif decide (rng IntKind.i64 (Z - Z / (2:Int) ^ min a.toNat 64)) then Z - Z / (2:Int) ^ min a.toNat 64=Z - wan a Z else False else False
theorem aT8:aIi wan:=by
 unfold aIi
 intro gl a b c Z r0 r1 br f dg ⟨ha,hZ⟩
 intros
 have w:=mI (s:=a) (z:=Z) (by omega) hZ.1
 unfold wan at w
 exact cd1 (by omega) (cdI (by omega) rfl)
theorem aT7 (wan:Int->Int->Int):aIi wan=(∀ (gl:aX) (a b c Z r0 r1 br:Int) (f:Bool) (dg:LL),(1≤a∧a≤4)∧0≤Z∧Z≤7680->fnK Tryz.prog { glob:=gl,spec:=lk [],specH:=lk [],nowf:=true } { nt:=12,drop:=drp [(1,4088)] } (λ _ _=>none) 6 Tryz.f151 [.agg [.int .i64 r0,.int .i64 r1,.int .i64 a,.int .i64 b,.int .i64 c,.int .i64 Z,.int .i64 br,.sl 1 f dg]] (.int .i64 (Z - wan a Z))):=by kernel_rfl
def aT6:=Eq.mp (aT7 ..) (aT8)
theorem aPo (gl:aX):SOK Tryz.prog gl 151 (aIh wan):=by
 refine ⟨fok Tryz.func151 (by kernel_rfl) (by kernel_rfl),?_⟩
 intro xs pre r h hp
 unfold aIh at h
 split at h
 ·cases h
  exact aT bD (by exact aV rfl rfl trivial trivial) (by kernel_rfl) Tryz.func151 rfl (aT6 gl _ _ _ _ _ _ _ _ _ hp)
 ·cases h
def aDs (alQ:Int->Int->List Int->Int):Sp
 | [.agg [.int .i64 r0,.int .i64 r1,.int .i64 a,.int .i64 b,.int .i64 c,.int .i64 Z,.int .i64 br,.sl 1 f dg],.agg [.sl 1 g ds,.sl 1 h fs]]=>some (AmtP r0 r1 ds,.int .i64 (alQ r0 r1 (aQ ds)))
 | _=>none
def aIJ (alQ:Int->Int->List Int->Int):Prop :=
 ∀ (gl:aX) (a b c Z r0 r1 br:Int) (f g h:Bool) (dg ds fs:LL),AmtP r0 r1 ds->(IR9 r0)∧(IR9 r1)∧(IR9 a)∧(IR9 b)∧(IR9 c)∧(IR9 Z)∧(IR9 br)∧True∧True->True∧True∧True->bif decide (0≤r1∧r1 < (↑ds.length:Int)) then ∃ n,List.take [AV.int IntKind.i64 n].length (ds.getD r1.toNat [])=[AV.int IntKind.i64 n]∧bif decide (0≤r0∧r0 < (↑ds.length:Int)) then ∃ n_1,List.take [AV.int IntKind.i64 n_1].length (ds.getD r0.toNat [])=[AV.int IntKind.i64 n_1]∧bif decide (rng IntKind.i64 (n - n_1)) then n - n_1=alQ r0 r1 (aQ ds) else False else False else False
theorem aUr:aIJ alQ:=by
 unfold aIJ
 intro gl a b c Z r0 r1 br f g h dg ds fs hP
 intros
 have h0:=hP.h0
 have h1:=hP.h1
 have de:=hP.de
 have bd:=hP.bd
 have hl:=bP ds
 obtain ⟨zd,hzd⟩:∃ z,z=aQ ds:=⟨_,rfl⟩
 rw [← hzd] at de bd hl ⊢
 have e0:zd[r0.toNat]?=some (zd.getD r0.toNat 0):=bH (by omega)
 have e1:zd[r1.toNat]?=some (zd.getD r1.toNat 0):=bH (by omega)
 have b0:=bd r0.toNat
 have b1:=bd r1.toNat
 exact cd1 h1 ⟨zd.getD r1.toNat 0,by rw [de,bB e1]; rfl,cd1 h0 ⟨zd.getD r0.toNat 0,by rw [de,bB e0]; rfl,cdI (by omega) rfl⟩⟩
theorem aUq (alQ:Int->Int->List Int->Int):aIJ alQ=(∀ (gl:aX) (a b c Z r0 r1 br:Int) (f g h:Bool) (dg ds fs:LL),AmtP r0 r1 ds->fnK Tryz.prog { glob:=gl,spec:=lk [],specH:=lk [],shape:=[11,18],nowf:=true } { nt:=20,drop:=drp [(1,1048544)] } (λ _ _=>none) 6 Tryz.f152 [.agg [.int .i64 r0,.int .i64 r1,.int .i64 a,.int .i64 b,.int .i64 c,.int .i64 Z,.int .i64 br,.sl 1 f dg],.agg [.sl 1 g ds,.sl 1 h fs]] (.int .i64 (alQ r0 r1 (aQ ds)))):=by kernel_rfl
def aUp:=Eq.mp (aUq ..) (aUr)
theorem aII (gl:aX):SOK Tryz.prog gl 152 (aDs alQ):=by
 refine ⟨fok Tryz.func152 (by kernel_rfl) (by kernel_rfl),?_⟩
 intro xs pre r h hp
 unfold aDs at h
 split at h
 ·cases h
  exact aT bD (by exact aV rfl rfl trivial trivial) (by kernel_rfl) Tryz.func152 rfl (aUp gl _ _ _ _ _ _ _ _ _ _ _ _ _ hp)
 ·cases h
def aIm (wan:Int->Int->Int) (alQ:Int->Int->List Int->Int):Sp
 | [.agg [.int .i64 r0,.int .i64 r1,.int .i64 a,.int .i64 b,.int .i64 c,.int .i64 Z,.int .i64 br,.sl 1 f dg],.agg [.sl 1 g ds,.sl 1 h fs],.int .i64 i]=>some (LkP a b c Z r0 r1 i dg ds fs,.int .i64 (alF a c Z br r0 r1 i (aQ ds) (aQ fs)))
 | _=>none
def aIn (wan:Int->Int->Int) (alQ:Int->Int->List Int->Int):Prop :=
 ∀ (gl:aX) (a b c Z r0 r1 br i:Int) (f g h:Bool) (dg ds fs:LL),LkP a b c Z r0 r1 i dg ds fs->(IR9 r0)∧(IR9 r1)∧(IR9 a)∧(IR9 b)∧(IR9 c)∧(IR9 Z)∧(IR9 br)∧True∧True->True∧True∧True->IR9 i->((1≤a∧a≤(4:Int))∧0≤Z∧Z≤(7680:Int))∧bif decide (0≤i∧i < (↑fs.length:Int)) then ∃ n,List.take [I6 n].length (fs.getD i.toNat [])=[I6 n]∧bif decide (rng IntKind.i64 ((Z - wan a Z)*n)) then bif decide (br=(0:Int)) then ((1≤a∧a≤(4:Int))∧0≤Z∧Z≤(7680:Int))∧bif decide (0≤c) then AmtP r0 r1 ds∧bif decide (rng IntKind.i64 ((Z - wan a Z) / (2:Int) ^ min c.toNat 64*alQ r0 r1 (aQ ds))) then bif decide (rng IntKind.i64 ((Z - wan a Z)*n+(Z - wan a Z) / (2:Int) ^ min c.toNat 64*alQ r0 r1 (aQ ds))) then (Z - wan a Z)*n+(Z - wan a Z) / (2:Int) ^ min c.toNat 64*alQ r0 r1 (aQ ds)=alF a c Z br r0 r1 i (aQ ds) (aQ fs) else False else False else False else (Z - wan a Z)*n=alF a c Z br r0 r1 i (aQ ds) (aQ fs) else False else False
theorem aUe:aIn wan alQ:=by
 unfold aIn
 delta I6
 intro gl a b c Z r0 r1 br i f g h dg ds fs hP
 intros
 have hA:=hP.amt
 have ha:=hP.ha
 have hc:=hP.hc
 have hZ:=hP.hZ
 have hi:=hP.hi
 have fe:=hP.fe
 have bf:=hP.bf i.toNat
 have hl:=bP fs
 have d0:=hP.bd r0.toNat
 have d1:=hP.bd r1.toNat
 have w:=mI (s:=a) (z:=Z) (by omega) hZ.1
 have w2:=mI (s:=c) (z:=Z - wan a Z) (by omega) (by omega)
 have bq:-20000000000≤alQ r0 r1 (aQ ds)∧alQ r0 r1 (aQ ds)≤20000000000:=by unfold alQ; omega
 have p1:=fU (K:=7680) ⟨show 0≤Z - wan a Z by omega,by omega⟩ bf
 have p2:=fU (K:=7680) ⟨w2.1,by omega⟩ bq
 have e0:(aQ fs)[i.toNat]?=some ((aQ fs).getD i.toNat 0):=bH (by omega)
 unfold alF
 rw [show wan c (Z - wan a Z)=(Z - wan a Z) / 2 ^ min c.toNat 64 from rfl] at p2 ⊢
 refine ⟨⟨ha,hZ⟩,cd1 hi ⟨(aQ fs).getD i.toNat 0,by rw [fe,aU,bB e0]; rfl,cdI (by omega) (csp (λ q=>⟨⟨ha,hZ⟩,cd1 (by omega) ⟨hA,cdI (by omega) (cdI (by omega) ?_)⟩⟩) (λ q=>?_))⟩⟩
 ·rw [if_pos q]
 ·rw [if_neg q]; omega
theorem aUd (wan:Int->Int->Int) (alQ:Int->Int->List Int->Int):aIn wan alQ=(∀ (gl:aX) (a b c Z r0 r1 br i:Int) (f g h:Bool) (dg ds fs:LL),LkP a b c Z r0 r1 i dg ds fs->fnK Tryz.prog { glob:=gl,spec:=lk [(151,(aIh wan)),(152,(aDs alQ))],specH:=lk [],shape:=[14],nowf:=true } { nt:=32,drop:=drp [(1,65280),(2,196608),(3,2146959360),(4,2147483648)] } (λ _ _=>none) 6 Tryz.f114 [.agg [.int .i64 r0,.int .i64 r1,.int .i64 a,.int .i64 b,.int .i64 c,.int .i64 Z,.int .i64 br,.sl 1 f dg],.agg [.sl 1 g ds,.sl 1 h fs],.int .i64 i] (.int .i64 (alF a c Z br r0 r1 i (aQ ds) (aQ fs)))):=by kernel_rfl
def aUc:=Eq.mp (aUd ..) (aUe)
theorem aPv (gl:aX):SOK Tryz.prog gl 114 (aIm wan alQ):=by
 refine ⟨fok Tryz.func114 (by kernel_rfl) (by kernel_rfl),?_⟩
 intro xs pre r h hp
 unfold aIm at h
 split at h
 ·cases h
  exact aT bD (by exact aV rfl rfl ⟨(aPo gl),(aII gl),trivial⟩ trivial) (by kernel_rfl) Tryz.func114 rfl (aUc gl _ _ _ _ _ _ _ _ _ _ _ _ _ _ hp)
 ·cases h
structure DpP (N m:Nat) (zs:LL):Prop where
 ze:zs=aP (aQ zs)
 zl:zs.length=N
 zm:m=N
 zb:∀ j,-8000000000000000000≤(aQ zs).getD j 0∧(aQ zs).getD j 0≤8000000000000000000
def adC (m:Nat) (a b c Z r0 r1 br i:Int) (f g h:Bool) (dg ds fs zs:LL):LInv:=⟨Unit,λ _=>⟨[(1,.rw 0 1 m),(4,.ptr 1004 0),(9,.int .i64 (alV b c Z br r0 r1 i (aQ ds) (aQ fs)))],[(0,.row 3 1 (aP (alX Z br r0 r1 (aQ dg) (aQ ds) (aQ zs)))),(1004,.cells [.int .i64 r0,.int .i64 r1,.int .i64 a,.int .i64 b,.int .i64 c,.int .i64 Z,.int .i64 br,.sl 1 f dg])]⟩,OneP,λ _=>0,none⟩
def aIs:SpH
 | [.agg [.int .i64 r0,.int .i64 r1,.int .i64 a,.int .i64 b,.int .i64 c,.int .i64 Z,.int .i64 br,.sl 1 f dg],.rw 0 1 m,.agg [.sl 1 g ds,.sl 1 h fs],.int .i64 i],[.row 3 1 zs]=>some (LkP a b c Z r0 r1 i dg ds fs∧DpP ds.length m zs,.tup [],[.row 3 1 (aP (alD b c Z br r0 r1 i (aQ dg) (aQ ds) (aQ fs) (aQ zs)))])
 | _,_=>none
abbrev iG (Z:Int) (br:Int) (r0:Int) (r1:Int) (dg:LL) (ds:LL) (zs:LL):=(aP (alX Z br r0 r1 (aQ dg) (aQ ds) (aQ zs)))
abbrev zP (r0:Int) (r1:Int) (a:Int) (b:Int) (c:Int) (Z:Int) (br:Int) (f:Bool) (dg:LL):=(r0=r0∧r1=r1∧a=a∧b=b∧c=c∧Z=Z∧br=br∧((bif f then f=true else True)∧dg=dg)∧True)
def aIt (alQ:Int->Int->List Int->Int):Prop :=
 ∀ (gl:aX) (a b c Z r0 r1 br i:Int) (m:Nat) (f g h:Bool) (dg ds fs zs:LL),LkP a b c Z r0 r1 i dg ds fs∧DpP ds.length m zs->(IR9 r0)∧(IR9 r1)∧(IR9 a)∧(IR9 b)∧(IR9 c)∧(IR9 Z)∧(IR9 br)∧True∧True->True->True∧True∧True->IR9 i->AmtP r0 r1 ds∧bif decide (0≤b) then bif decide (0≤i∧i < (↑fs.length:Int)) then ∃ n,List.take [I6 n].length (fs.getD i.toNat [])=[I6 n]∧bif decide (rng IntKind.i64 (Z / (2:Int) ^ min b.toNat 64*n)) then (bif decide (br=(0:Int)) then bif decide (rng IntKind.i64 (b+c)) then bif decide (0≤b+c) then bif decide (rng IntKind.i64 (Z / (2:Int) ^ min (b+c).toNat 64*alQ r0 r1 (aQ ds))) then bif decide (rng IntKind.i64 (Z / (2:Int) ^ min b.toNat 64*n+Z / (2:Int) ^ min (b+c).toNat 64*alQ r0 r1 (aQ ds))) then ∃ x,OneP x∧(m=m∧(0:Nat)=(0:Nat)∧Z / (2:Int) ^ min b.toNat 64*n+Z / (2:Int) ^ min (b+c).toNat 64*alQ r0 r1 (aQ ds)=alV b c Z br r0 r1 i (aQ ds) (aQ fs)∧True)∧zs=aP (alX Z br r0 r1 (aQ dg) (aQ ds) (aQ zs))∧(zP r0 r1 a b c Z br f dg)∧True else False else False else False else False else bif decide (br=(1:Int)) then bif decide (0≤r0∧r0 < (↑m:Int)) then bif decide (m=zs.length∧r0.toNat < zs.length) then ∃ n_1,List.take [I6 n_1].length (List.drop 0 (zs.getD r0.toNat []))=[I6 n_1]∧bif decide (0≤r0∧r0 < (↑dg.length:Int)) then ∃ n_2,List.take [I6 n_2].length (dg.getD r0.toNat [])=[I6 n_2]∧bif decide ¬n_2=(0:Int) then bif decide (rng IntKind.i64 (Z.tdiv n_2)) then bif decide (rng IntKind.i64 (Z.tdiv n_2*alQ r0 r1 (aQ ds))) then bif decide (rng IntKind.i64 (n_1+Z.tdiv n_2*alQ r0 r1 (aQ ds))) then bif decide (0≤r0∧r0 < (↑m:Int)) then bif decide (m=zs.length∧r0.toNat < zs.length) then ∃ x,OneP x∧(m=m∧(0:Nat)=(0:Nat)∧Z / (2:Int) ^ min b.toNat 64*n=alV b c Z br r0 r1 i (aQ ds) (aQ fs)∧True)∧setEl zs r0.toNat 0 [I6 (n_1+Z.tdiv n_2*alQ r0 r1 (aQ ds))]=aP (alX Z br r0 r1 (aQ dg) (aQ ds) (aQ zs))∧(zP r0 r1 a b c Z br f dg)∧True else False else False else False else False else False else False else False else False else False else bif decide (br=(-1:Int)) then bif decide (0≤r1∧r1 < (↑m:Int)) then bif decide (m=zs.length∧r1.toNat < zs.length) then ∃ n_1,List.take [I6 n_1].length (List.drop 0 (zs.getD r1.toNat []))=[I6 n_1]∧bif decide (0≤r1∧r1 < (↑dg.length:Int)) then ∃ n_2,List.take [I6 n_2].length (dg.getD r1.toNat [])=[I6 n_2]∧bif decide ¬n_2=(0:Int) then bif decide (rng IntKind.i64 (Z.tdiv n_2)) then bif decide (rng IntKind.i64 (Z.tdiv n_2*alQ r0 r1 (aQ ds))) then bif decide (rng IntKind.i64 (n_1 - Z.tdiv n_2*alQ r0 r1 (aQ ds))) then bif decide (0≤r1∧r1 < (↑m:Int)) then bif decide (m=zs.length∧r1.toNat < zs.length) then ∃ x,OneP x∧(m=m∧(0:Nat)=(0:Nat)∧Z / (2:Int) ^ min b.toNat 64*n=alV b c Z br r0 r1 i (aQ ds) (aQ fs)∧True)∧setEl zs r1.toNat 0 [I6 (n_1 - Z.tdiv n_2*alQ r0 r1 (aQ ds))]=aP (alX Z br r0 r1 (aQ dg) (aQ ds) (aQ zs))∧(zP r0 r1 a b c Z br f dg)∧True else False else False else False else False else False else False else False else False else False else ∃ x,OneP x∧(m=m∧(0:Nat)=(0:Nat)∧Z / (2:Int) ^ min b.toNat 64*n=alV b c Z br r0 r1 i (aQ ds) (aQ fs)∧True)∧zs=aP (alX Z br r0 r1 (aQ dg) (aQ ds) (aQ zs))∧(zP r0 r1 a b c Z br f dg)∧True)∧∀ (x1:PUnit),OneP x1->bif decide (0≤r0∧r0 < (↑m:Int)) then bif decide (m=(iG Z br r0 r1 dg ds zs).length∧r0.toNat < (iG Z br r0 r1 dg ds zs).length) then ∃ n,List.take [I6 n].length (List.drop 0 ((iG Z br r0 r1 dg ds zs).getD r0.toNat []))=[I6 n]∧bif decide (rng IntKind.i64 (n+alV b c Z br r0 r1 i (aQ ds) (aQ fs))) then bif decide (0≤r0∧r0 < (↑m:Int)) then bif decide (m=(iG Z br r0 r1 dg ds zs).length∧r0.toNat < (iG Z br r0 r1 dg ds zs).length) then bif decide (0≤r1∧r1 < (↑m:Int)) then bif decide (m=(setEl (iG Z br r0 r1 dg ds zs) r0.toNat 0 [I6 (n+alV b c Z br r0 r1 i (aQ ds) (aQ fs))]).length∧r1.toNat < (setEl (iG Z br r0 r1 dg ds zs) r0.toNat 0 [I6 (n+alV b c Z br r0 r1 i (aQ ds) (aQ fs))]).length) then ∃ n_1,List.take [I6 n_1].length (List.drop 0 ((setEl (iG Z br r0 r1 dg ds zs) r0.toNat 0 [I6 (n+alV b c Z br r0 r1 i (aQ ds) (aQ fs))]).getD r1.toNat []))=[I6 n_1]∧bif decide (rng IntKind.i64 (n_1 - alV b c Z br r0 r1 i (aQ ds) (aQ fs))) then bif decide (0≤r1∧r1 < (↑m:Int)) then bif decide (m=(setEl (iG Z br r0 r1 dg ds zs) r0.toNat 0 [I6 (n+alV b c Z br r0 r1 i (aQ ds) (aQ fs))]).length∧r1.toNat < (setEl (iG Z br r0 r1 dg ds zs) r0.toNat 0 [I6 (n+alV b c Z br r0 r1 i (aQ ds) (aQ fs))]).length) then True∧setEl (setEl (iG Z br r0 r1 dg ds zs) r0.toNat 0 [I6 (n+alV b c Z br r0 r1 i (aQ ds) (aQ fs))]) r1.toNat 0 [I6 (n_1 - alV b c Z br r0 r1 i (aQ ds) (aQ fs))]=aP (alD b c Z br r0 r1 i (aQ dg) (aQ ds) (aQ fs) (aQ zs))∧True else False else False else False else False else False else False else False else False else False else False else False else False else False
theorem aUh:aIt alQ:=by
 unfold aIt
 delta iG zP I6
 intro gl a b c Z r0 r1 br i m f g h dg ds fs zs ⟨hP,hD⟩
 intros
 have hA:=hP.amt
 have hb:=hP.hb
 have hc:=hP.hc
 have hZ:=hP.hZ
 have hi:=hP.hi
 have h0:=hP.h0
 have h1:=hP.h1
 have fe:=hP.fe
 have ge:=hP.ge
 have dl:=hP.dl
 have p0:=hP.p0
 have p1:=hP.p1
 have bf:=hP.bf i.toNat
 have d0:=hP.bd r0.toNat
 have d1:=hP.bd r1.toNat
 obtain ⟨ze,zl,zm,zb⟩:=hD
 have lf:=bP fs
 have lg:=bP dg
 have lz:=bP zs
 have gf:cond f (f=true) True:=gg f
 clear hP
 have bq:-20000000000≤alQ r0 r1 (aQ ds)∧alQ r0 r1 (aQ ds)≤20000000000:=by unfold alQ; omega
 obtain ⟨zd,hzd⟩:∃ z,z=aQ ds:=⟨_,rfl⟩
 obtain ⟨zf,hzf⟩:∃ z,z=aQ fs:=⟨_,rfl⟩
 obtain ⟨zg,hzg⟩:∃ z,z=aQ dg:=⟨_,rfl⟩
 obtain ⟨zo,hzo⟩:∃ z,z=aQ zs:=⟨_,rfl⟩
 rw [← hzd] at bq d0 d1 ⊢
 rw [← hzf] at fe bf lf ⊢
 rw [← hzg] at ge p0 p1 lg ⊢
 rw [← hzo] at ze zb lz ⊢
 clear hzd hzf hzg hzo
 have hX:=aW1 b c Z br r0 r1 i zg zd zf zo
 have hV:alV b c Z br r0 r1 i zd zf=Z / 2 ^ min b.toNat 64*zf.getD i.toNat 0+if br=0 then Z / 2 ^ min (b+c).toNat 64*alQ r0 r1 zd else 0:=rfl
 have hXe:alX Z br r0 r1 zg zd zo=if br=1 then zo.set r0.toNat (zo.getD r0.toNat 0+Z.tdiv (zg.getD r0.toNat 0)*alQ r0 r1 zd) else if br=-1 then zo.set r1.toNat (zo.getD r1.toNat 0+-(Z.tdiv (zg.getD r1.toNat 0)*alQ r0 r1 zd)) else zo:=rfl
 have w1:=mI (s:=b) (z:=Z) (by omega) hZ.1
 have w2:=mI (s:=b+c) (z:=Z) (by omega) hZ.1
 unfold wan at w1 w2
 have q1:=fU (K:=7680) ⟨w1.1,by omega⟩ bf
 have q2:=fU (K:=7680) ⟨w2.1,by omega⟩ bq
 have t0:=nH hZ p0
 have t1:=nH hZ p1
 have m0:=fU t0 bq
 have m1:=fU t1 bq
 generalize alQ r0 r1 zd=Q at *
 generalize alD b c Z br r0 r1 i zg zd zf zo=D at *
 have vb:-230400000000000≤alV b c Z br r0 r1 i zd zf∧alV b c Z br r0 r1 i zd zf≤230400000000000:=by rw [hV]; split <;> omega
 have xl:(alX Z br r0 r1 zg zd zo).length=zs.length:=by
  rw [hXe]
  split
  ·rw [List.length_set,lz]
  ·split
   ·rw [List.length_set,lz]
   ·exact lz
 have xb:∀ j,-(8000000000000000000+153600000000000)≤(alX Z br r0 r1 zg zd zo).getD j 0∧(alX Z br r0 r1 zg zd zo).getD j 0≤8000000000000000000+153600000000000:=by
  rw [hXe]
  split
  ·exact iP zb (by omega) (by decide)
  ·split
   ·exact iP zb (by omega) (by decide)
   ·intro j; have:=zb j; omega
 generalize alV b c Z br r0 r1 i zd zf=V at *
 generalize alX Z br r0 r1 zg zd zo=X at *
 have e0:zf[i.toNat]?=some (zf.getD i.toNat 0):=bH (by omega)
 refine ⟨hA,cd1 (by omega) (cd1 hi ⟨zf.getD i.toNat 0,by rw [fe,bB e0]; rfl,cdI (by omega) ⟨csp (λ q=>?_) (λ qa=>csp (λ q=>?_) (λ qb=>csp (λ q=>?_) (λ q=>?_))),λ _ _=>?_⟩⟩)⟩
 ·rw [if_neg (show ¬ br=1 by omega),if_neg (show ¬ br=-1 by omega)] at hXe
  rw [if_pos q] at hV
  have hV':=hV.symm
  rw [hXe,← ze]
  exact cdI (by omega) (cd1 (by omega) (cdI (by omega) (cdI (by omega) ⟨(),⟨trivial⟩,by repeat' first|exact trivial|exact rfl|assumption|apply And.intro⟩)))
 ·rw [if_pos q] at hXe
  rw [if_neg qa,Int.add_zero] at hV
  have hV':=hV.symm
  have k0:zo[r0.toNat]?=some (zo.getD r0.toNat 0):=bH (by omega)
  have k1:zg[r0.toNat]?=some (zg.getD r0.toNat 0):=bH (by omega)
  have z0:=zb r0.toNat
  refine cd1 (by omega) (cd1 (by omega) ⟨zo.getD r0.toNat 0,by rw [ze,List.drop_zero,bB k0]; rfl,cd1 (by omega) ⟨zg.getD r0.toNat 0,by rw [ge,bB k1]; rfl,cd1 (by omega) (cdI (by omega) (cdI (by omega) (cdI (by omega) (cd1 (by omega) (cd1 (by omega) ⟨(),⟨trivial⟩,?_⟩)))))⟩⟩)
  have hx:setEl zs r0.toNat 0 [.int .i64 (zo.getD r0.toNat 0+Z.tdiv (zg.getD r0.toNat 0)*Q)]=aP X:=by rw [ze,cM (by omega),hXe]
  (repeat' (first | exact trivial | exact rfl | assumption | apply And.intro))
 ·rw [if_neg qb,if_pos q] at hXe
  rw [if_neg qa,Int.add_zero] at hV
  have hV':=hV.symm
  have k0:zo[r1.toNat]?=some (zo.getD r1.toNat 0):=bH (by omega)
  have k1:zg[r1.toNat]?=some (zg.getD r1.toNat 0):=bH (by omega)
  have z0:=zb r1.toNat
  refine cd1 (by omega) (cd1 (by omega) ⟨zo.getD r1.toNat 0,by rw [ze,List.drop_zero,bB k0]; rfl,cd1 (by omega) ⟨zg.getD r1.toNat 0,by rw [ge,bB k1]; rfl,cd1 (by omega) (cdI (by omega) (cdI (by omega) (cdI (by omega) (cd1 (by omega) (cd1 (by omega) ⟨(),⟨trivial⟩,?_⟩)))))⟩⟩)
  have hx:setEl zs r1.toNat 0 [.int .i64 (zo.getD r1.toNat 0 - Z.tdiv (zg.getD r1.toNat 0)*Q)]=aP X:=by rw [ze,cM (by omega),hXe,Int.sub_eq_add_neg]
  (repeat' (first | exact trivial | exact rfl | assumption | apply And.intro))
 ·rw [if_neg qb,if_neg q] at hXe
  rw [if_neg qa,Int.add_zero] at hV
  have hV':=hV.symm
  rw [hXe,← ze]
  exact ⟨(),⟨trivial⟩,by repeat' first|exact trivial|exact rfl|assumption|apply And.intro⟩
 ·have k0:X[r0.toNat]?=some (X.getD r0.toNat 0):=bH (by omega)
  have x0:=xb r0.toNat
  refine cd1 (by omega) (cd1 ⟨by rw [aR]; omega,by rw [aR]; omega⟩ ⟨X.getD r0.toNat 0,by rw [List.drop_zero,bB k0]; rfl,cdI (by omega) (cd1 (by omega) (cd1 ⟨by rw [aR]; omega,by rw [aR]; omega⟩ ?_))⟩)
  rw [cM (by omega)]
  have l2:(X.set r0.toNat (X.getD r0.toNat 0+V)).length=zs.length:=by rw [List.length_set,xl]
  have hX:(X.set r0.toNat (X.getD r0.toNat 0+V)).set r1.toNat ((X.set r0.toNat (X.getD r0.toNat 0+V)).getD r1.toNat 0+-V)=D:=hX
  have b2:=iP xb (x:=V) (C:=230400000000000) vb (i:=r0.toNat) (by decide) r1.toNat
  generalize X.set r0.toNat (X.getD r0.toNat 0+V)=Y at hX l2 b2 ⊢
  have k1:Y[r1.toNat]?=some (Y.getD r1.toNat 0):=bH (by omega)
  refine cd1 (by omega) (cd1 ⟨by rw [aR]; omega,by rw [aR]; omega⟩ ⟨Y.getD r1.toNat 0,by rw [List.drop_zero,bB k1]; rfl,cdI (by omega) (cd1 (by omega) (cd1 ⟨by rw [aR]; omega,by rw [aR]; omega⟩ ?_))⟩)
  rw [cM (by omega),Int.sub_eq_add_neg,hX]
  (repeat' (first | exact trivial | exact rfl | assumption | apply And.intro))
theorem aUg (alQ:Int->Int->List Int->Int):aIt alQ=(∀ (gl:aX) (a b c Z r0 r1 br i:Int) (m:Nat) (f g h:Bool) (dg ds fs zs:LL),LkP a b c Z r0 r1 i dg ds fs∧DpP ds.length m zs->fnH Tryz.prog { glob:=gl,spec:=lk [(152,(aDs alQ))],specH:=lk [],shape:=[23,50,59,72,81,92,101],nowf:=true } { nt:=105,drop:=drp [(1,7168),(2,33546240),(3,33554432),(4,268435456),(5,8795556151296),(6,17592186044416),(7,36893452963047014400),(8,73786976294838206464),(9,154742357336719944685977600),(10,79073420009353665059181559808),(11,40485591044789076510300958621696)],fr:=1000,kp:=[0] } (xH [(100010,adC m a b c Z r0 r1 br i f g h dg ds fs zs)]) 6 Tryz.f115 [.agg [.int .i64 r0,.int .i64 r1,.int .i64 a,.int .i64 b,.int .i64 c,.int .i64 Z,.int .i64 br,.sl 1 f dg],.rw 0 1 m,.agg [.sl 1 g ds,.sl 1 h fs],.int .i64 i] [.row 3 1 zs] (.tup []) [.row 3 1 (aP (alD b c Z br r0 r1 i (aQ dg) (aQ ds) (aQ fs) (aQ zs)))]):=by kernel_rfl
def aUf:=Eq.mp (aUg ..) (aUh)
theorem aPy (gl:aX):HOK Tryz.prog gl 115 aIs:=by
 refine ⟨fok Tryz.func115 (by kernel_rfl) (by kernel_rfl),?_⟩
 intro xs bs pre r bs2 h hp
 unfold aIs at h
 split at h
 ·cases h
  exact bC bD (by exact aV rfl rfl ⟨(aII gl),trivial⟩ trivial) (by kernel_rfl) Tryz.func115 (aUf gl _ _ _ _ _ _ _ _ _ _ _ _ _ _ _ _ hp)
 ·cases h
def ajF (es:LL) (Z a c:Int) (bs ds fs:List Int) (k:Nat):Int:=alF a c Z (bs.getD k 0) (nI (es.getD k []) 0) (nI (es.getD k []) 1) k ds fs
def ajS (es:LL) (Z b c:Int) (dg bs ds fs:List Int) (k:Nat) (os:List Int):List Int:=alD b c Z (bs.getD k 0) (nI (es.getD k []) 0) (nI (es.getD k []) 1) k dg ds fs os
def ajR (es:LL) (Z b c:Int) (dg bs ds fs os:List Int):Nat->List Int
 | 0=>os
 | k+1=>ajS es Z b c dg bs ds fs k (ajR es Z b c dg bs ds fs os k)
def ajK (n a b c:Int) (bs ds fs:List Int) (k:Nat):List Int:=ajR (aS nrm n) (scZ a b c) b c (bR n) bs ds fs (mk (taS (scZ a b c) ds) (ndN n)) k
def ajD (n a b c:Int) (bs ds fs:List Int):List Int:=ajK n a b c bs ds fs (aS nrm n).length
def ajG (n a b c:Int) (bs ds fs:List Int):List Int:=mk (ajF (aS nrm n) (scZ a b c) a c bs ds fs) (aS nrm n).length
theorem aK9 {B:Int} {r0 r1:Int} {ds:List Int} (hd:∀ j,-B≤ds.getD j 0∧ds.getD j 0≤B):-(2*B)≤alQ r0 r1 ds∧alQ r0 r1 ds≤2*B:=by
 have h0:=hd r0.toNat
 have h1:=hd r1.toNat
 unfold alQ
 omega
theorem aW5 {a b c B br r0 r1 i:Int} {ds fs:List Int} (hs:bU a b c=0) (hd:∀ j,-B≤ds.getD j 0∧ds.getD j 0≤B) (hf:∀ j,-B≤fs.getD j 0∧fs.getD j 0≤B):-(23040*B)≤alF a c (scZ a b c) br r0 r1 i ds fs∧alF a c (scZ a b c) br r0 r1 i ds fs≤23040*B:=by
 obtain ⟨ha,hb,hc⟩:=mK hs
 have hZ:=rQ hs
 have w1:=mI (s:=a) (z:=scZ a b c) (by omega) (by omega)
 have w2:=mI (s:=c) (z:=scZ a b c - wan a (scZ a b c)) (by omega) (by omega)
 have p1:=fU (Z:=scZ a b c - wan a (scZ a b c)) (K:=7680) (by omega) (hf i.toNat)
 have p2:=fU (Z:=wan c (scZ a b c - wan a (scZ a b c))) (K:=7680) (by omega) (aK9 (r0:=r0) (r1:=r1) hd)
 have hB:=hd 0
 unfold alF
 split <;> omega
theorem aW3 {a b c B br r0 r1 i:Int} {ds fs:List Int} (hs:bU a b c=0) (hd:∀ j,-B≤ds.getD j 0∧ds.getD j 0≤B) (hf:∀ j,-B≤fs.getD j 0∧fs.getD j 0≤B):-(23040*B)≤alV b c (scZ a b c) br r0 r1 i ds fs∧alV b c (scZ a b c) br r0 r1 i ds fs≤23040*B:=by
 obtain ⟨ha,hb,hc⟩:=mK hs
 have hZ:=rQ hs
 have w1:=mI (s:=b) (z:=scZ a b c) (by omega) (by omega)
 have w2:=mI (s:=b+c) (z:=scZ a b c) (by omega) (by omega)
 have p1:=fU (Z:=wan b (scZ a b c)) (K:=7680) (by omega) (hf i.toNat)
 have p2:=fU (Z:=wan (b+c) (scZ a b c)) (K:=7680) (by omega) (aK9 (r0:=r0) (r1:=r1) hd)
 have hB:=hd 0
 unfold alV
 split <;> omega
theorem aW4 {a b c B br r0 r1:Int} {dg ds:List Int} (hs:bU a b c=0) (hd:∀ j,-B≤ds.getD j 0∧ds.getD j 0≤B) (ga:1≤dg.getD r0.toNat 0):-(15360*B)≤alU (scZ a b c) br r0 r1 dg ds∧alU (scZ a b c) br r0 r1 dg ds≤15360*B:=by
 have hZ:=rQ hs
 have p1:=fU (nH (x:=scZ a b c) (K:=7680) (by omega) ga) (aK9 (r0:=r0) (r1:=r1) hd)
 have hB:=hd 0
 unfold alU
 split <;> omega
theorem aW2 {a b c B br r0 r1:Int} {dg ds:List Int} (hs:bU a b c=0) (hd:∀ j,-B≤ds.getD j 0∧ds.getD j 0≤B) (ga:1≤dg.getD r1.toNat 0):-(15360*B)≤alW (scZ a b c) br r0 r1 dg ds∧alW (scZ a b c) br r0 r1 dg ds≤15360*B:=by
 have hZ:=rQ hs
 have p1:=fU (nH (x:=scZ a b c) (K:=7680) (by omega) ga) (aK9 (r0:=r0) (r1:=r1) hd)
 have hB:=hd 0
 unfold alW
 split <;> omega
theorem aPr (b c Z br r0 r1 i:Int) (dg ds fs os:List Int):(alD b c Z br r0 r1 i dg ds fs os).length=os.length:=by unfold alD; rw [eD,eD]
theorem nE (n a b c:Int) (bs ds fs:List Int):∀ k,(ajK n a b c bs ds fs k).length=ndN n
 | 0=>bZ _ _
 | k+1=>(aPr _ _ _ _ _ _ _ _ _ _ _).trans (nE n a b c bs ds fs k)
theorem aPt {n a b c B:Int} {bs ds fs:List Int} (hg:GrdP nrm n) (hB:0≤B) (hs:bU a b c=0) (hd:∀ j,-B≤ds.getD j 0∧ds.getD j 0≤B) (hf:∀ j,-B≤fs.getD j 0∧fs.getD j 0≤B):∀ (k:Nat),k≤(aS nrm n).length->∀ (j:Nat),-((2*(k:Int)+1)*(38400*B))≤(ajK n a b c bs ds fs k).getD j 0∧(ajK n a b c bs ds fs k).getD j 0≤(2*(k:Int)+1)*(38400*B)
 | 0,_,j=>by
  have:=aUS (C:=7680*B) (n:=ndN n) (by omega) (λ k _=>aI9 hs hd k) j
  show _≤(mk (taS (scZ a b c) ds) (ndN n)).getD j 0∧(mk (taS (scZ a b c) ds) (ndN n)).getD j 0≤_
  omega
 | k+1,hk,j=>by
  obtain ⟨ea,eb⟩:=iE hg (k:=k) (by omega)
  have v:=aW3 (br:=bs.getD k 0) (r0:=nI ((aS nrm n).getD k []) 0) (r1:=nI ((aS nrm n).getD k []) 1) (i:=k) hs hd hf
  have u:=aW4 (br:=bs.getD k 0) (r0:=nI ((aS nrm n).getD k []) 0) (r1:=nI ((aS nrm n).getD k []) 1) hs hd (eO hg (by omega))
  have w:=aW2 (br:=bs.getD k 0) (r0:=nI ((aS nrm n).getD k []) 0) (r1:=nI ((aS nrm n).getD k []) 1) hs hd (eO hg (by omega))
  have h1:=iP (l:=ajK n a b c bs ds fs k) (λ j=>aPt hg hB hs hd hf k (by omega) j) (x:=alV b c (scZ a b c) (bs.getD k 0) (nI ((aS nrm n).getD k []) 0) (nI ((aS nrm n).getD k []) 1) k ds fs+alU (scZ a b c) (bs.getD k 0) (nI ((aS nrm n).getD k []) 0) (nI ((aS nrm n).getD k []) 1) (bR n) ds) (C:=38400*B) (by omega) (i:=(nI ((aS nrm n).getD k []) 0).toNat) (by omega)
  have h2:=iP h1 (x:=-(alV b c (scZ a b c) (bs.getD k 0) (nI ((aS nrm n).getD k []) 0) (nI ((aS nrm n).getD k []) 1) k ds fs+alW (scZ a b c) (bs.getD k 0) (nI ((aS nrm n).getD k []) 0) (nI ((aS nrm n).getD k []) 1) (bR n) ds)) (C:=38400*B) (by omega) (i:=(nI ((aS nrm n).getD k []) 1).toNat) (by omega) j
  rw [show (2*((k+1:Nat):Int)+1)=(2*(k:Int)+1)+1+1 by omega,Int.add_mul,Int.add_mul,Int.one_mul]
  exact h2
def aj1 (n a b c:Int) (i g h:Bool) (bs ds fs:LL):LInv:=⟨Int,λ x=>⟨[(2,.sl 1 i bs),(4,.ptr 4 0),(7,.ptr 7 0),(8,.ptr 8 0),(9,.int .i64 0),(10,.int .i64 (scZ a b c)),(13,.sl 1 false (aP (bR n))),(14,.sl 2 false (aS nrm n)),(15,.ptr 15 0),(57,.sl 1 g ds),(58,.int .i64 ds.length),(59,.int .i64 x)],[(4,.cells [.int .i64 a,.int .i64 b,.int .i64 c]),(7,.cells [.sl 1 g ds,.sl 1 h fs]),(8,.cells [.nils,.nils]),(15,.cells [.rw 1500 1 x.toNat,.rw 1510 1 0]),(1500,.row 3 1 (aP (mk (taS (scZ a b c) (aQ ds)) x.toNat))),(1510,.row 3 1 [])]⟩,LtP ds.length,λ x=>(ds.length - x).toNat,none⟩
def aj2 (n a b c:Int) (i g h:Bool) (bs ds fs:LL):LInv:=⟨Int,λ x=>⟨[(2,.sl 1 i bs),(4,.ptr 4 0),(7,.ptr 7 0),(8,.ptr 8 0),(9,.int .i64 0),(10,.int .i64 (scZ a b c)),(13,.sl 1 false (aP (bR n))),(15,.ptr 15 0),(72,.sl 2 false (aS nrm n)),(73,.int .i64 (aS nrm n).length),(74,.int .i64 x)],[(4,.cells [.int .i64 a,.int .i64 b,.int .i64 c]),(7,.cells [.sl 1 g ds,.sl 1 h fs]),(8,.cells [.nils,.nils]),(15,.cells [.rw 1500 1 (ndN n),.rw 1510 1 x.toNat]),(1500,.row 3 1 (aP (ajK n a b c (aQ bs) (aQ ds) (aQ fs) x.toNat))),(1510,.row 3 1 (aP (mk (ajF (aS nrm n) (scZ a b c) a c (aQ bs) (aQ ds) (aQ fs)) x.toNat)))]⟩,LtP (aS nrm n).length,λ x=>((aS nrm n).length - x).toNat,none⟩
def aIG:Sp
 | [.agg [.int .i64 a,.int .i64 b,.int .i64 c],.int .i64 n,.sl 1 i bs,.agg [.sl 1 g ds,.sl 1 h fs]]=>some (bU a b c=0∧ChP n 10000000000 ds fs∧BrP n bs,.tup [.agg [.sl 1 false (aP (ajD n a b c (aQ bs) (aQ ds) (aQ fs))),.sl 1 false (aP (ajG n a b c (aQ bs) (aQ ds) (aQ fs)))],.int .i64 0])
 | _=>none
abbrev iH (n:Int):=(aS YtgbbmadjdaphnaaGreatDoor.nrm n)
abbrev kJ (n:Int) (a:Int) (b:Int) (c:Int) (bs:LL) (ds:LL) (fs:LL):=(ajF (iH n) (scZ a b c) a c (aQ bs) (aQ ds) (aQ fs))
abbrev zY (g:Bool) (ds:LL) (h:Bool) (fs:LL):=(((bif g then g=true else True)∧ds=ds)∧((bif h then h=true else True)∧fs=fs)∧True)
abbrev aDr (n:Int):=(True∧aS YtgbbmadjdaphnaaGreatDoor.nrm n=aS YtgbbmadjdaphnaaGreatDoor.nrm n)
abbrev zX (n:Int):=(True∧aP (bR n)=aP (bR n))
def aIH (nrm:NrT) (wan:Int->Int->Int) (alQ:Int->Int->List Int->Int):Prop :=
 ∀ (n a b c:Int) (i g h:Bool) (bs ds fs:LL),bU a b c=(0:Int)∧ChP n 10000000000 ds fs∧BrP n bs->(IR9 a)∧(IR9 b)∧(IR9 c)∧True->IR9 n->True->True∧True∧True->bU a b c=(0:Int)∧(ChP n 1099511627776 ds fs∧BrP n bs)∧GrdP YtgbbmadjdaphnaaGreatDoor.nrm n∧BldQ nrm n∧(∃ x,LtP ds.length x∧(((bif i then i=true else True)∧bs=bs)∧(0:Nat)=(0:Nat)∧(0:Nat)=(0:Nat)∧(0:Nat)=(0:Nat)∧(0:Int)=(0:Int)∧scZ a b c=scZ a b c∧(zX n)∧(True∧aS nrm n=aS YtgbbmadjdaphnaaGreatDoor.nrm n)∧(0:Nat)=(0:Nat)∧((bif g then g=true else True)∧ds=ds)∧(↑ds.length:Int)=(↑ds.length:Int)∧(0:Int)=x∧True)∧(a=a∧b=b∧c=c∧True)∧(zY g ds h fs)∧(True∧True∧True)∧((0:Nat)=Int.toNat x∧(0:Nat)=(0:Nat)∧True)∧[]=aP (mk (taS (scZ a b c) (aQ ds)) (Int.toNat x))∧([]:LL)=[]∧True)∧∀ (x1:Int),LtP ds.length x1->bif decide (x1 < (↑ds.length:Int)) then bif decide (0≤x1∧x1 < (↑ds.length:Int)) then ∃ n_1,List.take [I6 n_1].length (ds.getD x1.toNat [])=[I6 n_1]∧bif decide (rng IntKind.i64 (scZ a b c*n_1)) then bif decide (x1.toNat=(aP (mk (taS (scZ a b c) (aQ ds)) x1.toNat)).length∧(aP (mk (taS (scZ a b c) (aQ ds)) x1.toNat)).length+[[I6 (scZ a b c*n_1)]].length≤(9223372036854775807:Nat)∧((aP (mk (taS (scZ a b c) (aQ ds)) x1.toNat)).length+[[I6 (scZ a b c*n_1)]].length)*(8:Nat)≤(140737488355328:Nat)) then bif decide (rng IntKind.i64 (x1+(1:Int))) then ∃ y,LtP ds.length y∧(aj1 n a b c i g h bs ds fs).m y < (aj1 n a b c i g h bs ds fs).m x1∧(((bif i then i=true else True)∧bs=bs)∧(0:Nat)=(0:Nat)∧(0:Nat)=(0:Nat)∧(0:Nat)=(0:Nat)∧(0:Int)=(0:Int)∧scZ a b c=scZ a b c∧(zX n)∧(aDr n)∧(0:Nat)=(0:Nat)∧((bif g then g=true else True)∧ds=ds)∧(↑ds.length:Int)=(↑ds.length:Int)∧x1+(1:Int)=y∧True)∧(a=a∧b=b∧c=c∧True)∧(zY g ds h fs)∧(True∧True∧True)∧((aP (mk (taS (scZ a b c) (aQ ds)) x1.toNat)++[[I6 (scZ a b c*n_1)]]).length=Int.toNat y∧(0:Nat)=(0:Nat)∧True)∧aP (mk (taS (scZ a b c) (aQ ds)) x1.toNat)++[[I6 (scZ a b c*n_1)]]=aP (mk (taS (scZ a b c) (aQ ds)) (Int.toNat y))∧([]:LL)=[]∧True else False else False else False else False else (∃ x_1,LtP (iH n).length x_1∧(((bif i then i=true else True)∧bs=bs)∧(0:Nat)=(0:Nat)∧(0:Nat)=(0:Nat)∧(0:Nat)=(0:Nat)∧(0:Int)=(0:Int)∧scZ a b c=scZ a b c∧(zX n)∧(0:Nat)=(0:Nat)∧(aDr n)∧(↑(iH n).length:Int)=(↑(iH n).length:Int)∧(0:Int)=x_1∧True)∧(a=a∧b=b∧c=c∧True)∧(zY g ds h fs)∧(True∧True∧True)∧(x1.toNat=ndN n∧(0:Nat)=Int.toNat x_1∧True)∧aP (mk (taS (scZ a b c) (aQ ds)) x1.toNat)=aP (ajK n a b c (aQ bs) (aQ ds) (aQ fs) (Int.toNat x_1))∧[]=aP (mk (kJ n a b c bs ds fs) (Int.toNat x_1))∧True)∧∀ (x2:Int),LtP (iH n).length x2->bif decide (x2 < (↑(iH n).length:Int)) then bif decide (0≤x2∧x2 < (↑(iH n).length:Int)) then ∃ n_1 n_2,List.take [I6 n_1,I6 n_2].length ((iH n).getD x2.toNat [])=[I6 n_1,I6 n_2]∧bif decide (0≤x2∧x2 < (↑bs.length:Int)) then ∃ n_3,List.take [I6 n_3].length (bs.getD x2.toNat [])=[I6 n_3]∧LkP a b c (scZ a b c) n_1 n_2 x2 (aP (bR n)) ds fs∧bif decide (x2.toNat=(aP (mk (kJ n a b c bs ds fs) x2.toNat)).length∧(aP (mk (kJ n a b c bs ds fs) x2.toNat)).length+[[I6 (alF a c (scZ a b c) n_3 n_1 n_2 x2 (aQ ds) (aQ fs))]].length≤(9223372036854775807:Nat)∧((aP (mk (kJ n a b c bs ds fs) x2.toNat)).length+[[I6 (alF a c (scZ a b c) n_3 n_1 n_2 x2 (aQ ds) (aQ fs))]].length)*(8:Nat)≤(140737488355328:Nat)) then (LkP a b c (scZ a b c) n_1 n_2 x2 (aP (bR n)) ds fs∧DpP ds.length (ndN n) (aP (ajK n a b c (aQ bs) (aQ ds) (aQ fs) x2.toNat)))∧bif decide (rng IntKind.i64 (x2+(1:Int))) then ∃ y,LtP (iH n).length y∧(aj2 n a b c i g h bs ds fs).m y < (aj2 n a b c i g h bs ds fs).m x2∧(((bif i then i=true else True)∧bs=bs)∧(0:Nat)=(0:Nat)∧(0:Nat)=(0:Nat)∧(0:Nat)=(0:Nat)∧(0:Int)=(0:Int)∧scZ a b c=scZ a b c∧(zX n)∧(0:Nat)=(0:Nat)∧(aDr n)∧(↑(iH n).length:Int)=(↑(iH n).length:Int)∧x2+(1:Int)=y∧True)∧(a=a∧b=b∧c=c∧True)∧(zY g ds h fs)∧(True∧True∧True)∧(ndN n=ndN n∧(aP (mk (kJ n a b c bs ds fs) x2.toNat)++[[I6 (alF a c (scZ a b c) n_3 n_1 n_2 x2 (aQ ds) (aQ fs))]]).length=Int.toNat y∧True)∧aP (alD b c (scZ a b c) n_3 n_1 n_2 x2 (aQ (aP (bR n))) (aQ ds) (aQ fs) (aQ (aP (ajK n a b c (aQ bs) (aQ ds) (aQ fs) x2.toNat))))=aP (ajK n a b c (aQ bs) (aQ ds) (aQ fs) (Int.toNat y))∧aP (mk (kJ n a b c bs ds fs) x2.toNat)++[[I6 (alF a c (scZ a b c) n_3 n_1 n_2 x2 (aQ ds) (aQ fs))]]=aP (mk (kJ n a b c bs ds fs) (Int.toNat y))∧True else False else False else False else False else bif decide (ndN n=(aP (ajK n a b c (aQ bs) (aQ ds) (aQ fs) x2.toNat)).length) then bif decide (x2.toNat=(aP (mk (kJ n a b c bs ds fs) x2.toNat)).length) then ((True∧aP (ajK n a b c (aQ bs) (aQ ds) (aQ fs) x2.toNat)=aP (ajD n a b c (aQ bs) (aQ ds) (aQ fs)))∧(True∧aP (mk (kJ n a b c bs ds fs) x2.toNat)=aP (ajG n a b c (aQ bs) (aQ ds) (aQ fs)))∧True)∧(0:Int)=(0:Int)∧True else False else False
theorem aUo:aIH nrm wan alQ:=by
 unfold aIH
 delta iH kJ zY aDr zX I6
 intro n a b c i g h bs ds fs ⟨hs,hP,hB⟩
 intros
 have hg:=hP.gp
 obtain ⟨ha,hb,hc⟩:=mK hs
 have hZ:=rQ hs
 have g1:cond g (g=true) True:=gg g
 have g2:cond h (h=true) True:=gg h
 have g3:cond i (i=true) True:=gg i
 have hN:=lN hg
 have hE:=(cB hg.bq).2
 have de:=hP.de
 have fe:=hP.fe
 have ld:=hP.ld
 have lf:=hP.lf
 have be:=hB.be
 have lb:=hB.lb
 have hds:ds.length=ndN n:=by rw [← bP,ld]
 have hfs:fs.length=(aS nrm n).length:=by rw [← bP,lf]
 have hbs:bs.length=(aS nrm n).length:=by rw [← bP,lb]
 have bd:=aCU (by decide) hP.bd
 have bf:=aCU (by decide) hP.bf
 refine ⟨hs,⟨hP.mono (by decide),hB⟩,hg,hg.bq,⟨0,⟨Int.le_refl 0,by omega⟩,by repeat' first|exact trivial|exact rfl|assumption|apply And.intro⟩,?_⟩
 clear hP hB
 intro x ⟨x0,xl⟩
 refine csp (λ q=>?_) (λ q=>?_)
 ·have e1:(aQ ds)[x.toNat]?=some ((aQ ds).getD x.toNat 0):=bH (by omega)
  have t1:=aI9 hs bd x.toNat
  have es:mk (taS (scZ a b c) (aQ ds)) (x+1).toNat=mk (taS (scZ a b c) (aQ ds)) x.toNat++[scZ a b c*(aQ ds).getD x.toNat 0]:=by rw [show (x+1).toNat=x.toNat+1 by omega,pQ]; rfl
  have t1:-(7680*10000000000)≤scZ a b c*(aQ ds).getD x.toNat 0∧scZ a b c*(aQ ds).getD x.toNat 0≤7680*10000000000:=t1
  have e2:=bB e1
  rw [← de] at e2
  refine cd1 ⟨x0,q⟩ ⟨(aQ ds).getD x.toNat 0,by rw [e2]; rfl,cdI (by omega) (cd1 ⟨by rw [aR,bZ],by rw [aR,bZ,aH]; omega,by rw [aR,bZ,aH]; omega⟩ (cdI (by omega) ⟨x+1,⟨by omega,by omega⟩,by simp only [aj1]; omega,?_⟩))⟩
  rw [es,← cN,aG,aR,bZ,aH,show (x+1).toNat=x.toNat+1 by omega]
  (repeat' (first | exact trivial | exact rfl | assumption | apply And.intro))
 ·have ex:x.toNat=ndN n:=by omega
  rw [ex]
  refine ⟨⟨0,⟨Int.le_refl 0,by omega⟩,by repeat' first|exact trivial|exact rfl|assumption|apply And.intro⟩,?_⟩
  clear q x0 xl ex x
  intro x ⟨x0,xl⟩
  refine csp (λ q=>?_) (λ q=>?_)
  ·have hk:x.toNat < (aS nrm n).length:=by omega
   obtain ⟨ea,eb⟩:=iE hg hk
   have er:=aBB hg hk
   have hdl:=wP n
   have pa:=eO hg (j:=(nI ((aS nrm n).getD x.toNat []) 0).toNat) (by omega)
   have pb:=eO hg (j:=(nI ((aS nrm n).getD x.toNat []) 1).toNat) (by omega)
   have hx:((x.toNat:Nat):Int)=x:=by omega
   have hK:ajK n a b c (aQ bs) (aQ ds) (aQ fs) (x.toNat+1)=alD b c (scZ a b c) ((aQ bs).getD x.toNat 0) (nI ((aS nrm n).getD x.toNat []) 0) (nI ((aS nrm n).getD x.toNat []) 1) ((x.toNat:Nat):Int) (bR n) (aQ ds) (aQ fs) (ajK n a b c (aQ bs) (aQ ds) (aQ fs) x.toNat):=rfl
   have hF:ajF (aS nrm n) (scZ a b c) a c (aQ bs) (aQ ds) (aQ fs) x.toNat=alF a c (scZ a b c) ((aQ bs).getD x.toNat 0) (nI ((aS nrm n).getD x.toNat []) 0) (nI ((aS nrm n).getD x.toNat []) 1) ((x.toNat:Nat):Int) (aQ ds) (aQ fs):=rfl
   rw [hx] at hK hF
   have lK:=nE n a b c (aQ bs) (aQ ds) (aQ fs) x.toNat
   have bK:=aPt hg (by decide) hs bd bf (bs:=aQ bs) x.toNat (by omega)
   have e6:(aQ bs)[x.toNat]?=some ((aQ bs).getD x.toNat 0):=bH (by omega)
   have e7:=bB e6
   rw [← be] at e7
   generalize (aS nrm n).getD x.toNat []=r at ea eb er pa pb hF hK ⊢
   have hL:LkP a b c (scZ a b c) (nI r 0) (nI r 1) x (aP (bR n)) ds fs:=⟨ha,hb,hc,by omega,by omega,by omega,by omega,by rw [aR]; omega,by rw [aU],de,fe,by rw [aU]; exact pa,by rw [aU]; exact pb,bd,bf⟩
   have hD:DpP ds.length (ndN n) (aP (ajK n a b c (aQ bs) (aQ ds) (aQ fs) x.toNat)):=⟨by rw [aU],by rw [aR]; omega,by omega,λ j=>by rw [aU]; have:=bK j; omega⟩
   refine cd1 ⟨x0,q⟩ ⟨nI r 0,nI r 1,(congrArg (List.take 2) er).trans rfl,cd1 ⟨x0,by omega⟩ ⟨(aQ bs).getD x.toNat 0,by rw [e7]; rfl,hL,cd1 ⟨by rw [aR,bZ],by rw [aR,bZ,aH]; omega,by rw [aR,bZ,aH]; omega⟩ ⟨⟨hL,hD⟩,cdI (by omega) ⟨x+1,⟨by omega,by omega⟩,by simp only [aj2]; omega,?_⟩⟩⟩⟩
   rw [aU,aU,show (x+1).toNat=x.toNat+1 by omega,hK,pQ,hF,← cN,aG,aR,bZ,aH]
   (repeat' (first | exact trivial | exact rfl | assumption | apply And.intro))
  ·have ex:x.toNat=(aS nrm n).length:=by omega
   rw [ex]
   exact cd1 (by rw [aR,nE]) (cd1 (by rw [aR,bZ]) (by repeat' first|exact trivial|exact rfl|assumption|apply And.intro))
theorem aUn (nrm:NrT) (wan:Int->Int->Int) (alQ:Int->Int->List Int->Int):aIH nrm wan alQ=(∀ (n a b c:Int) (i g h:Bool) (bs ds fs:LL),bU a b c=0∧ChP n 10000000000 ds fs∧BrP n bs->fnK Tryz.prog { glob:=glb,spec:=lk [(26,sA),(71,aCb),(72,yX),(58,(eT nrm)),(114,(aIm wan alQ))],specH:=lk [(115,aIs)],shape:=[62,78,85],nowf:=true } { nt:=105,drop:=drp [(1,65011712),(2,67108864),(3,805306368),(4,16106127360),(5,17179869184),(6,206158430208),(7,8521215115264),(8,8796093022208),(9,105553116266496),(10,4362862139015168),(11,4503599627370496),(12,54043195528445952),(14,72057594037927936),(16,6917529027641081856),(17,2351959869397967831040),(18,2361183241434822606848),(21,528905046081400263933952),(22,308880546911537754137427968),(23,158146840018707330118363119616),(24,4912146075884388930799724920832),(25,10141204801825835211973625643008),(26,20282409603651670423947251286016)],emp:=λ id=>cond (Nat.beq id 14) [(1001500,1500,3,1),(1001501,1510,3,1)] [] } (xH [(15,aj1 n a b c i g h bs ds fs),(20,aj2 n a b c i g h bs ds fs)]) 6 Tryz.f67 [.agg [.int .i64 a,.int .i64 b,.int .i64 c],.int .i64 n,.sl 1 i bs,.agg [.sl 1 g ds,.sl 1 h fs]] (.tup [.agg [.sl 1 false (aP (ajD n a b c (aQ bs) (aQ ds) (aQ fs))),.sl 1 false (aP (ajG n a b c (aQ bs) (aQ ds) (aQ fs)))],.int .i64 0])):=by kernel_rfl
def aUm:=Eq.mp (aUn ..) (aUo)
theorem aPE:SOK Tryz.prog glb 67 aIG:=by
 refine ⟨fok Tryz.func67 (by kernel_rfl) (by kernel_rfl),?_⟩
 intro xs pre r h hp
 unfold aIG at h
 split at h
 ·cases h
  exact aT bD (by exact aV rfl rfl ⟨(tZ glb),(aEG),(aBy),(eK),(aPv glb),trivial⟩ ⟨(aPy glb),trivial⟩) (by kernel_rfl) Tryz.func67 rfl (aUm  _ _ _ _ _ _ _ _ _ _ hp)
 ·cases h
end Go.Proofs.YtgbbmadjdaphnaaGreatDoor
namespace Go.Proofs.YtgbbmadjdaphnaaGreatDoor
open Go Go.RowKit
attribute [local go_sem] Oper.semAt_some
def aXu (N:Nat) (k:Nat):AV:=.int .i64 ((N:Int) - 1 - k)
def aWR (bl:LL) (k:Nat):AV:=(bl.getD (bl.length - 1 - k) []).getD 0 .undef
def bkV (S:Pin) (A:Option Addr) (N k:Nat):Value:=match A with
 | some a=>(S a.block (a.off+(N - 1 - k))).getD undef
 | none=>undef
set_option maxHeartbeats 4000000 in
theorem aK7 {bl:LL} {A:Option Addr} {c:Nat} (hcl:bl.length≤c) (hcm:c≤maxLen) (hA:A=none->c=0) {S1:Pin} (hE:∀ a,A=some a->(c≠0->a.spot=none)∧CE S1 bl 1 a.block a.off) {l b0 n:Nat} {J:Nat->Pin->World->Prop} (hJ:JOK J)
  (hY:∀ k S W,J k S W->k < bl.length->YieldAt Fence.wide (n - 1) Tryz.prog l #[.int .i64 ((bl.length:Int) - 1 - k),bkV S1 A bl.length k] W λ e W'=>e=.returned (.bool true)∧∃ S',Ext S S'∧J (k+1) S' W')
  {S0:Pin} {W:World} (hg:GOKg glb S0) (hx:Ext S1 S0) (h0:J 0 S0 W) (hc:S0 b0 0=some (.slice A bl.length c)) :
  CallsIn Fence.wide n Tryz.prog 113 #[.func (.yield l) #[] #[],.pointer (some ⟨b0,0,none⟩)] W λ e W'=>(∃ v,e=.returned v)∧∃ S',Ext S0 S'∧J bl.length S' W':=by
 have hcc:=hJ.ag _ _ _ h0 b0 0 _ hc
 have hcell:=hcc.1
 have hml:c≤9223372036854775807:=hcm
 refine callsIn_of_wp Tryz.func113 rfl trivial ?_ rfl
 simp only [Tryz.ntmps113,List.size_toArray,List.length_cons,List.length_nil,Nat.reduceAdd,Nat.reduceSub,Array.replicate_succ,Array.replicate_zero,List.push_toArray,List.append_toArray,List.nil_append,List.cons_append]
 gi_wp2
 gi_loopw [3] (λ i wr=>∃ (k:Nat) (S:Pin),k≤bl.length∧i=.int .i64 ((bl.length:Int) - 1 - k)∧J k S wr∧Ext S0 S) (λ i _=>(intOf i+1).toNat)
 case atStart=>exact ⟨0,S0,Nat.zero_le _,by simp,h0,Ext.refl _⟩
 case round =>
  obtain ⟨k,S,hk,rfl,hJs,hex⟩:=hrel
  by_cases hlt:k < bl.length
  ·cases A with
   | none=>have:=hA rfl; omega
   | some ad =>
    obtain ⟨b,off,sp⟩:=ad
    obtain ⟨h1,h2⟩:=hE _ rfl
    obtain rfl:sp=none:=h1 (by omega)
    obtain ⟨j,hj⟩:∃ j,j+k+1=bl.length:=⟨bl.length - 1 - k,by omega⟩
    have er:bl[j]?=some (bl.getD j []):=by rw [aB,aD (by omega)]; rfl
    obtain ⟨hl1,hcc⟩:=h2.get er
    obtain ⟨y,hy⟩:=List.length_eq_one_iff.1 hl1
    rw [hy] at hcc
    obtain ⟨u,q0,v0⟩:=hcc.get (j:=0) rfl
    rw [Nat.add_zero,Nat.mul_one] at q0
    have c0:=hJ.ag _ _ _ hJs _ _ _ (hex _ _ _ (hx _ _ _ q0))
    have hR:=hY k S wr hJs hlt
    have eV:bkV S1 (some ⟨b,off,none⟩) bl.length k=u:=by
     show (S1 b (off+(bl.length - 1 - k))).getD undef=u
     rw [show bl.length - 1 - k=j by omega,q0]; rfl
    rw [eV] at hR
    obtain ⟨fn,tmps,assign,body,hy2,hR⟩:=hR
    have hji:(bl.length:Int) - 1 - k=(j:Int):=by omega
    rw [hji] at hy2 ⊢
    have hcell1:=(hJ.ag _ _ _ hJs _ _ _ (hex _ _ _ hc)).1
    have hw:wrap64 ((j:Int) - 1)=(j:Int) - 1:=by unfold wrap64; omega
    have c00:=c0.1
    have c01:=c0.2
    gi_wp2
    refine ⟨λ q=>(by cases q),hR.mono ?_⟩
    rintro e W3 ⟨rfl,S3,hS3,hJ3⟩
    gi_wp2
    go_roundw
    case rel=>exact ⟨k+1,S3,by omega,by congr 1; omega,hJ3,hex.trans hS3⟩
    case measure=>simp only [intOf]; omega
  ·obtain rfl:k=bl.length:=by omega
   gi_wp2
   go_end0
   exact ⟨⟨_,rfl⟩,S,hex,hJs⟩
theorem itB (f:Bool) (bl:LL):ItOK 113 (.sl 1 f bl) bl.length (aXu bl.length) (aWR bl):=by
 refine ⟨rfl,λ k=>rfl,λ S m v h=>?_,enters_of Tryz.func113 (by kernel_rfl) rfl,λ S m g v hp hc=>?_⟩
 ·simp only [CV] at h; obtain ⟨A,c,rfl,_⟩:=h; rfl
 simp only [CV] at hc
 obtain ⟨A,c,rfl,hcl,hcm,_,hA,hE⟩:=hc
 have hml:c≤9223372036854775807:=hcm
 refine ⟨λ k=>.int .i64 ((bl.length:Int) - 1 - k),λ k=>bkV S A bl.length k,?_,?_⟩
 ·intro k hlt S' hS' m'
  refine ⟨?_,?_⟩
  ·simp only [aXu,CV]
   exact ⟨trivial,by unfold rng; omega⟩
  ·cases A with
   | none=>have:=hA rfl; omega
   | some ad =>
    obtain ⟨b,off,sp⟩:=ad
    obtain ⟨h1,h2⟩:=hE _ rfl
    obtain rfl:sp=none:=h1 (by omega)
    obtain ⟨j,hj⟩:∃ j,j+k+1=bl.length:=⟨bl.length - 1 - k,by omega⟩
    have er:bl[j]?=some (bl.getD j []):=by rw [aB,aD (by omega)]; rfl
    obtain ⟨hl1,hcc⟩:=h2.get er
    obtain ⟨y,hy⟩:=List.length_eq_one_iff.1 hl1
    rw [hy] at hcc
    obtain ⟨u,q0,v0⟩:=hcc.get (j:=0) rfl
    rw [Nat.add_zero,Nat.mul_one] at q0
    have eV:bkV S (some ⟨b,off,none⟩) bl.length k=u:=by
     show (S b (off+(bl.length - 1 - k))).getD undef=u
     rw [show bl.length - 1 - k=j by omega,q0]; rfl
    have eX:aWR bl k=y:=by
     unfold aWR
     rw [show bl.length - 1 - k=j by omega,hy]; rfl
    rw [eX]
    show CV S' y m' (bkV S (some ⟨b,off,none⟩) bl.length k)
    rw [eV]
    exact CV.mono hS' y dE m' u (λ k u _ e=>by cases e) v0
 ·intro n l J hJ hY S0 W hg hX h0
  exact aK7 hcl hcm hA hE hJ hY hg hX h0 (hX _ _ _ hp)
end Go.Proofs.YtgbbmadjdaphnaaGreatDoor
namespace Go.Proofs.YtgbbmadjdaphnaaGreatDoor
open Go
def aE1:SpH
 | [.sl 1 f bl],[]=>some (True,.fn 113 [.ptr 0 0],[.cells [.sl 1 f bl]])
 | _,_=>none
def aE2:Prop :=
 ∀ (gl:aX) (f:Bool) (bl:LL),True->((0:Nat)=(0:Nat)∧True)∧(((bif f then f=true else True)∧bl=bl)∧True)∧True
theorem aQN:aE2:=by
 unfold aE2
 intro gl f bl
 intros
 have g1:cond f (f=true) True:=gg f
 (repeat' (first | exact trivial | exact rfl | assumption | apply And.intro))
theorem aQM:aE2=(∀ (gl:aX) (f:Bool) (bl:LL),fnH Tryz.prog { glob:=gl,spec:=lk [],specH:=lk [] } { nt:=4,drop:=drp [(1,8)],fr:=1000,kp:=[] } (λ _ _=>none) 6 Tryz.f66 [.sl 1 f bl] [] (.fn 113 [.ptr 0 0]) [.cells [.sl 1 f bl]]):=by kernel_rfl
def aQL:=Eq.mp (aQM ..) (aQN)
theorem aMz (gl:aX):HOK Tryz.prog gl 66 aE1:=by
 refine ⟨fok Tryz.func66 (by kernel_rfl) (by kernel_rfl),?_⟩
 intro xs bs pre r bs2 h hp
 unfold aE1 at h
 split at h
 ·cases h
  exact bC bD (by exact aV rfl rfl trivial trivial) (by kernel_rfl) Tryz.func66 (aQL gl _ _)
 ·cases h
theorem aXR (f i:Bool) (bs:LL):ItOK 113 (.sl 1 f [[.sl 1 i bs]]) 1 (λ k=>.int .i64 ((1:Int) - 1 - k)) (λ _=>.sl 1 i bs):=by
 obtain ⟨h0,h1,h2,h3,h4⟩:=itB f [[.sl 1 i bs]]
 refine ⟨h0,h1,h2,h3,λ S m g v hp hc=>?_⟩
 obtain ⟨v0,v1,k1,k2⟩:=h4 S m g v hp hc
 refine ⟨v0,v1,λ k hk S' hS m'=>?_,k2⟩
 obtain rfl:k=0:=by omega
 exact k1 0 hk S' hS m'
def cmD (n a b c:Int) (bs ds fs:LL):Nat->LL
 | 0=>ds
 | _+1=>aP (ajD n a b c (aQ bs) (aQ ds) (aQ fs))
def cmF (n a b c:Int) (bs ds fs:LL):Nat->LL
 | 0=>fs
 | _+1=>aP (ajG n a b c (aQ bs) (aQ ds) (aQ fs))
def cmL (n a b c:Int) (f i:Bool) (bs ds fs:LL):RL:=⟨113,.sl 1 f [[.sl 1 i bs]],1,λ k=>.int .i64 ((1:Int) - 1 - k),λ _=>.sl 1 i bs,[(4,.ptr 4 0),(5,.ptr 5 0),(8,.ptr 8 0),(9,.ptr 9 0),(10,.ptr 10 0)],λ k=>[(4,.cells [.int .i64 a,.int .i64 b,.int .i64 c]),(5,.cells [.int .i64 n]),(8,.cells [.nils,.nils]),(9,.cells [.int .i64 0]),(10,.cells [.sl 1 false (cmD n a b c bs ds fs k),.sl 1 false (cmF n a b c bs ds fs k)])],22,[4,5,8,9,10]⟩
def aIy:Sp
 | [.agg [.int .i64 a,.int .i64 b,.int .i64 c],.int .i64 n,.sl 1 f [[.sl 1 i bs]],.agg [.sl 1 g ds,.sl 1 h fs]]=>some (bU a b c=0∧ChP n 10000000000 ds fs∧BrP n bs,.tup [.agg [.sl 1 false (aP (ajD n a b c (aQ bs) (aQ ds) (aQ fs))),.sl 1 false (aP (ajG n a b c (aQ bs) (aQ ds) (aQ fs)))],.int .i64 0])
 | _=>none
def aIz:Prop :=
 ∀ (n a b c:Int) (f i g h:Bool) (bs ds fs:LL),bU a b c=(0:Int)∧ChP n 10000000000 ds fs∧BrP n bs->ds.length≤(1000000:Nat)∧fs.length≤(1000000:Nat)∧True∧ItOK (cmL n a b c f i bs ds fs).gf (cmL n a b c f i bs ds fs).c (cmL n a b c f i bs ds fs).N (cmL n a b c f i bs ds fs).x0 (cmL n a b c f i bs ds fs).x1∧((((0:Nat)=(0:Nat)∧True)∧(0:Nat)=(0:Nat)∧(0:Nat)=(0:Nat)∧(0:Nat)=(0:Nat)∧(0:Nat)=(0:Nat)∧(0:Nat)=(0:Nat)∧True)∧(((bif f then f=true else True)∧[[AV.sl 1 i bs]]=[[AV.sl 1 i bs]])∧True)∧(a=a∧b=b∧c=c∧True)∧(n=n∧True)∧(True∧True∧True)∧((0:Int)=(0:Int)∧True)∧((True∧ds=cmD n a b c bs ds fs 0)∧(True∧fs=cmF n a b c bs ds fs 0)∧True)∧True)∧((∀ (k:Nat),nn k (AV.ptr 4 0)=false->inL k (cmL n a b c f i bs ds fs).kp=true)∧(∀ (k:Nat),nn k (AV.ptr 5 0)=false->inL k (cmL n a b c f i bs ds fs).kp=true)∧(∀ (k:Nat),nn k (AV.ptr 8 0)=false->inL k (cmL n a b c f i bs ds fs).kp=true)∧(∀ (k:Nat),nn k (AV.ptr 9 0)=false->inL k (cmL n a b c f i bs ds fs).kp=true)∧(∀ (k:Nat),nn k (AV.ptr 10 0)=false->inL k (cmL n a b c f i bs ds fs).kp=true)∧True)∧(∀ (k:Nat),lM ((cmL n a b c f i bs ds fs).H k)=true)∧(∀ (k:Nat),k < (cmL n a b c f i bs ds fs).N->(bU a b c=(0:Int)∧ChP n 10000000000 (cmD n a b c bs ds fs k) (cmF n a b c bs ds fs k)∧BrP n bs)∧True∧(a=a∧b=b∧c=c∧True)∧(n=n∧True)∧(True∧True∧True)∧((0:Int)=(0:Int)∧True)∧((True∧aP (ajD n a b c (aQ bs) (aQ (cmD n a b c bs ds fs k)) (aQ (cmF n a b c bs ds fs k)))=cmD n a b c bs ds fs (k+(1:Nat)))∧(True∧aP (ajG n a b c (aQ bs) (aQ (cmD n a b c bs ds fs k)) (aQ (cmF n a b c bs ds fs k)))=cmF n a b c bs ds fs (k+(1:Nat)))∧True)∧True)∧((True∧cmD n a b c bs ds fs (cmL n a b c f i bs ds fs).N=aP (ajD n a b c (aQ bs) (aQ ds) (aQ fs)))∧(True∧cmF n a b c bs ds fs (cmL n a b c f i bs ds fs).N=aP (ajG n a b c (aQ bs) (aQ ds) (aQ fs)))∧True)∧(0:Int)=(0:Int)∧True
theorem aUk:aIz:=by
 unfold aIz
 intro n a b c f i g h bs ds fs hQ
 have hP:=hQ.2.1
 have ld:=hP.ld
 have lf:=hP.lf
 rw [bP] at ld lf
 have hN:=lN hP.gp
 have hE:=(cB hP.gp.bq).2
 have g1:cond f (f=true) True:=gg f
 refine ⟨by omega,by omega,trivial,aXR f i bs,by repeat' first|exact trivial|exact rfl|assumption|apply And.intro,⟨λ k q=>by rw [fC q]; rfl,λ k q=>by rw [fC q]; rfl,λ k q=>by rw [fC q]; rfl,λ k q=>by rw [fC q]; rfl,λ k q=>by rw [fC q]; rfl,trivial⟩,λ k=>rfl,λ k hk=>?_,by repeat' first|exact trivial|exact rfl|assumption|apply And.intro⟩
 have hk:k < 1:=hk
 obtain rfl:k=0:=by omega
 exact ⟨hQ,by repeat' first|exact trivial|exact rfl|assumption|apply And.intro⟩
theorem aUj:aIz=(∀ (n a b c:Int) (f i g h:Bool) (bs ds fs:LL),bU a b c=0∧ChP n 10000000000 ds fs∧BrP n bs->fnR Tryz.prog { glob:=glb,spec:=lk [(60,pW),(67,aIG)],specH:=lk [(66,aE1)],nowf:=true } { nt:=38,drop:=drp [(1,2080768),(2,2097152),(5,8556380160),(6,8589934592),(7,103079215104),(8,137438953472)] } (λ _ _=>none) 6 (λ _=>some (cmL n a b c f i bs ds fs)) Tryz.f28 [.agg [.int .i64 a,.int .i64 b,.int .i64 c],.int .i64 n,.sl 1 f [[.sl 1 i bs]],.agg [.sl 1 g ds,.sl 1 h fs]] (.tup [.agg [.sl 1 false (aP (ajD n a b c (aQ bs) (aQ ds) (aQ fs))),.sl 1 false (aP (ajG n a b c (aQ bs) (aQ ds) (aQ fs)))],.int .i64 0])):=by kernel_rfl
def aUi:=Eq.mp (aUj ..) (aUk)
theorem aPB:SOK Tryz.prog glb 28 aIy:=by
 refine ⟨fok Tryz.func28 (by kernel_rfl) (by kernel_rfl),?_⟩
 intro xs pre r h hp
 unfold aIy at h
 split at h
 ·cases h
  exact lX bD (by exact aV rfl rfl ⟨(pX glb),(aPE),trivial⟩ ⟨(aMz glb),trivial⟩) rfl Tryz.func28 rfl (aUi  _ _ _ _ _ _ _ _ _ _ _ hp)
 ·cases h
def unV (n:Int) (k:Nat):List Int:=(List.replicate (ndN n) 0).set k 1
def zeV (n:Int):List Int:=List.replicate (aS nrm n).length 0
theorem aL8 (n:Int) (k:Nat):∀ z ∈ unV n k,-1≤z∧z≤1:=λ z hz=>by
 unfold unV at hz
 rcases List.mem_or_eq_of_mem_set hz with h | h
 ·rw [List.mem_replicate] at h; omega
 ·omega
theorem aLU (n:Int):∀ z ∈ zeV n,-1≤z∧z≤1:=λ z hz=>by
 unfold zeV at hz
 rw [List.mem_replicate] at hz; omega
theorem aP0 {n:Int} (h:GrdP nrm n) (k:Nat):ChP n 1 (aP (unV n k)) (aP (zeV n)) :=
 ⟨h,by rw [aU],by rw [aU],by rw [aU]; simp [unV],by rw [aU]; simp [zeV],by rw [aU]; exact aL8 n k,by rw [aU]; exact aLU n⟩
def aIb:Sp
 | [.agg [.int .i64 a,.int .i64 b,.int .i64 c],.int .i64 n,.sl 1 f [[.sl 1 i bs]],.int .i64 k]=>some ((bU a b c=0∧GrdP nrm n∧BrP n bs)∧0≤k∧k < ndN n,.tup [.agg [.sl 1 false (aP (ajD n a b c (aQ bs) (unV n k.toNat) (zeV n))),.sl 1 false (aP (ajG n a b c (aQ bs) (unV n k.toNat) (zeV n)))],.int .i64 0])
 | _=>none
abbrev aDk (n:Int):=(List.replicate ((10:Int)*n*n+(2:Int)).toNat [AV.int IntKind.i64 0])
abbrev zN (nrm:NrT) (n:Int):=(List.replicate (↑(aS nrm n).length:Int).toNat [AV.int IntKind.i64 0])
abbrev zM (n:Int) (k:Int):=(setEl (aDk n) k.toNat 0 [AV.int IntKind.i64 1])
def aIc (nrm:NrT):Prop :=
 ∀ (n a b c k:Int) (f i:Bool) (bs:LL),(bU a b c=(0:Int)∧GrdP nrm n∧BrP n bs)∧0≤k∧k < (↑(ndN n):Int)->(IR9 a)∧(IR9 b)∧(IR9 c)∧True->IR9 n->True->IR9 k->bU a b c=(0:Int)∧BldQ nrm n∧(1≤n∧n≤(4:Int))∧bif decide ((0:Int)≤(10:Int)*n*n+(2:Int)∧(10:Int)*n*n+(2:Int)≤(10:Int)*n*n+(2:Int)∧(8:Int)*((10:Int)*n*n+(2:Int))≤(281474976710656:Int)∧(10:Int)*n*n+(2:Int)≤(9223372036854775807:Int)) then bif decide ((0:Int)≤(↑(aS nrm n).length:Int)∧(↑(aS nrm n).length:Int)≤(↑(aS nrm n).length:Int)∧(8:Int)*(↑(aS nrm n).length:Int)≤(281474976710656:Int)∧(↑(aS nrm n).length:Int)≤(9223372036854775807:Int)) then bif decide (k < (0:Int)) then (aP (ajD n a b c (aQ bs) (unV n k.toNat) (zeV n))=[]∧aP (ajG n a b c (aQ bs) (unV n k.toNat) (zeV n))=[]∧True)∧(1:Int)=(0:Int)∧True else bif decide ((↑((10:Int)*n*n+(2:Int)).toNat:Int)≤k) then (aP (ajD n a b c (aQ bs) (unV n k.toNat) (zeV n))=[]∧aP (ajG n a b c (aQ bs) (unV n k.toNat) (zeV n))=[]∧True)∧(1:Int)=(0:Int)∧True else bif decide (0≤k∧k < (↑((10:Int)*n*n+(2:Int)).toNat:Int)) then bif decide (((10:Int)*n*n+(2:Int)).toNat=(aDk n).length∧k.toNat < (aDk n).length) then bif decide (((10:Int)*n*n+(2:Int)).toNat=(zM n k).length) then bif decide ((↑(aS nrm n).length:Int).toNat=(zN nrm n).length) then (bU a b c=(0:Int)∧ChP n 10000000000 (zM n k) (zN nrm n)∧BrP n bs)∧((True∧aP (ajD n a b c (aQ bs) (aQ (zM n k)) (aQ (zN nrm n)))=aP (ajD n a b c (aQ bs) (unV n k.toNat) (zeV n)))∧(True∧aP (ajG n a b c (aQ bs) (aQ (zM n k)) (aQ (zN nrm n)))=aP (ajG n a b c (aQ bs) (unV n k.toNat) (zeV n)))∧True)∧(0:Int)=(0:Int)∧True else False else False else False else False else False else False
theorem aT0:aIc nrm:=by
 unfold aIc
 delta aDk zN zM
 intro n a b c k f i bs ⟨⟨hs,hg,hB⟩,k0,k1⟩
 intros
 have hN:=lN hg
 have hE:=(cB hg.bq).2
 have e:=(sU hg).1
 have eN:(10*n*n+2).toNat=ndN n:=rfl
 have e1:setEl (List.replicate (10*n*n+2).toNat [AV.int .i64 0]) k.toNat 0 [.int .i64 1]=aP (unV n k.toNat):=by
  rw [eN,show List.replicate (ndN n) [AV.int .i64 0]=aP (List.replicate (ndN n) 0) by simp [aP],cM (by rw [List.length_replicate]; omega)]; rfl
 have e2:List.replicate ((aS nrm n).length:Int).toNat [AV.int .i64 0]=aP (zeV n):=by rw [Int.toNat_natCast]; simp [aP,zeV]
 have hC:=(aP0 hg k.toNat).mono (C:=10000000000) (by decide)
 refine ⟨hs,hg.bq,⟨hg.bq.lo,hg.bq.hi⟩,cd1 (by omega) (cd1 (by omega) (cd0 (by omega) (cd0 (by omega) (cd1 (by omega) (cd1 ⟨by rw [List.length_replicate],by rw [List.length_replicate]; omega⟩ ?_)))))⟩
 rw [e1,e2]
 refine cd1 (by rw [aR]; simp [unV]; rfl) (cd1 (by rw [aR]; simp [zeV]) ⟨⟨hs,hC,hB⟩,?_⟩)
 rw [aU,aU]
 (repeat' (first | exact trivial | exact rfl | assumption | apply And.intro))
theorem aTZ (nrm:NrT):aIc nrm=(∀ (n a b c k:Int) (f i:Bool) (bs:LL),(bU a b c=0∧GrdP nrm n∧BrP n bs)∧0≤k∧k < ndN n->fnK Tryz.prog { glob:=glb,spec:=lk [(26,sA),(58,(eT nrm)),(59,hU),(28,aIy)],specH:=lk [],nowf:=true } { nt:=60,drop:=drp [(1,1015808),(2,1048576),(3,12582912),(4,520093696),(5,536870912),(6,2147483648),(7,545460846592),(8,140187732541440),(9,281474976710656),(10,8444249301319680),(11,1143914305352105984)],frz:=λ id=>cond (Nat.beq id 11) [1000034,1000037] [] } (λ _ _=>none) 6 Tryz.f23 [.agg [.int .i64 a,.int .i64 b,.int .i64 c],.int .i64 n,.sl 1 f [[.sl 1 i bs]],.int .i64 k] (.tup [.agg [.sl 1 false (aP (ajD n a b c (aQ bs) (unV n k.toNat) (zeV n))),.sl 1 false (aP (ajG n a b c (aQ bs) (unV n k.toNat) (zeV n)))],.int .i64 0])):=by kernel_rfl
def aTY:=Eq.mp (aTZ ..) (aT0)
theorem aPi:SOK Tryz.prog glb 23 aIb:=by
 refine ⟨fok Tryz.func23 (by kernel_rfl) (by kernel_rfl),?_⟩
 intro xs pre r h hp
 unfold aIb at h
 split at h
 ·cases h
  exact aT bD (by exact aV rfl rfl ⟨(tZ glb),(eK),(jC glb),(aPB),trivial⟩ trivial) (by kernel_rfl) Tryz.func23 rfl (aTY  _ _ _ _ _ _ _ _ hp)
 ·cases h
def dpl (d:Int) (n:Nat):LL:=List.replicate n [.int .i64 d]
def rpD (d N k:Int):LL:=List.replicate k.toNat [.int .i64 d]++List.replicate (N - k).toNat [.int .i64 0]
theorem aME {d N k:Int} (h:RepP N k):(rpD d N k).length=N.toNat:=by
 have:=h.lo
 have:=h.hi
 simp only [rpD,aG,List.length_replicate]; omega
theorem aCi {d N k:Int}:(rpD d N k).take k.toNat=List.replicate k.toNat [.int .i64 d]:=by
 unfold rpD; rw [List.take_left' (by simp)]
theorem aJA {d N k:Int} (h:RepP N k) (hk:k < N) {M:Nat} (hM:M=Nat.min k.toNat (N.toNat - k.toNat)):(rpD d N k).take k.toNat++List.take M (List.replicate k.toNat [.int .i64 d])++(rpD d N k).drop (k.toNat+M)=rpD d N (k+M):=by
 have h1:=h.lo
 have m1:M≤k.toNat:=by rw [hM]; exact Nat.min_le_left _ _
 have m2:M≤N.toNat - k.toNat:=by rw [hM]; exact Nat.min_le_right _ _
 rw [aCi,List.take_replicate,Nat.min_eq_left m1,List.replicate_append_replicate]
 unfold rpD
 rw [show List.drop (k.toNat+M) (List.replicate k.toNat [AV.int .i64 d]++List.replicate (N - k).toNat [AV.int .i64 0])=List.drop M (List.replicate (N - k).toNat [AV.int .i64 0]) by
  rw [← List.drop_drop,List.drop_left' (by simp)],List.drop_replicate]
 congr 2 <;> omega
def aUG (d N:Int) (xs:LL):LInv:=⟨Int,λ k=>⟨[(7,.rw 1030 1 N.toNat),(8,.int .i64 k)],[(0,.row 3 1 xs),(1030,.row 3 1 (rpD d N k))]⟩,RepP N,λ k=>(N - k).toNat,none⟩
def aMC:SpH
 | [.rw 0 1 1,.int .i64 n],[.row 3 1 [[.int .i64 d]]]=>some (FnN n,.rw 1 1 n.toNat,[.row 3 1 [[.int .i64 d]],.row 3 1 (dpl d n.toNat)])
 | _,_=>none
abbrev aAs (x1:Int) (d:Int) (n:Int):=(List.take (x1.toNat - (0:Nat)) (List.drop 0 (rpD d n x1)))
abbrev aJz (n:Int):=(List.replicate (IntKind.i64.wrap (IntKind.u64.wrap n)).toNat [AV.int IntKind.i64 0])
abbrev aDz (n:Int) (x1:Int):=((↑n.toNat:Int).toNat - x1.toNat)
def aMD:Prop :=
 ∀ (gl:aX) (n d:Int),FnN n->True->IR9 n->bif decide (n < (0:Int)) then False else ((1:Int)=(1:Int)∧FnN (IntKind.u64.wrap n))∧bif decide (9223372036854775807 < IntKind.u64.wrap n) then False else bif decide (0≤IntKind.i64.wrap (IntKind.u64.wrap n)∧IntKind.i64.wrap (IntKind.u64.wrap n)≤IntKind.i64.wrap (IntKind.u64.wrap n)∧(8:Int)*IntKind.i64.wrap (IntKind.u64.wrap n)≤(281474976710656:Int)∧IntKind.i64.wrap (IntKind.u64.wrap n)≤(9223372036854775807:Int)) then bif decide ((IntKind.i64.wrap (IntKind.u64.wrap n)).toNat=(aJz n).length∧[[I6 d]].length≤(aJz n).length) then (∃ x,RepP n x∧((IntKind.i64.wrap (IntKind.u64.wrap n)).toNat=n.toNat∧(↑[[I6 d]].length:Int)=x∧True)∧[[I6 d]]=[[I6 d]]∧[[I6 d]]++List.drop [[I6 d]].length (aJz n)=rpD d n x∧True)∧∀ (x1:Int),RepP n x1->bif decide (x1 < (↑n.toNat:Int)) then bif decide ((0:Int)≤(↑n.toNat:Int)∧(↑n.toNat:Int)≤(↑n.toNat:Int)) then bif decide (0≤x1∧x1≤(↑n.toNat:Int)) then bif decide (0≤x1∧x1≤(↑n.toNat:Int)) then bif decide ((0:Int)≤(0:Int)∧0≤x1) then bif decide (n.toNat=(rpD d n x1).length∧(0:Nat)+(x1.toNat - (0:Nat))≤(rpD d n x1).length) then bif decide (n.toNat=(rpD d n x1).length∧(0:Nat)+x1.toNat+(aDz n x1)≤(rpD d n x1).length∧(1:Nat)≤(↑n.toNat:Int).toNat - x1.toNat∧(1:Nat)≤(aAs x1 d n).length) then bif decide (rng IntKind.i64 (x1+(↑((aAs x1 d n).length.min (aDz n x1)):Int))) then ∃ y,RepP n y∧(aUG d n [[I6 d]]).m y < (aUG d n [[I6 d]]).m x1∧(n.toNat=n.toNat∧x1+(↑((aAs x1 d n).length.min (aDz n x1)):Int)=y∧True)∧[[I6 d]]=[[I6 d]]∧List.take ((0:Nat)+x1.toNat) (rpD d n x1)++List.take ((aAs x1 d n).length.min (aDz n x1)) (aAs x1 d n)++List.drop ((0:Nat)+x1.toNat+(aAs x1 d n).length.min (aDz n x1)) (rpD d n x1)=rpD d n y∧True else False else False else False else False else False else False else False else n.toNat=n.toNat∧[[I6 d]]=[[I6 d]]∧rpD d n x1=dpl d n.toNat∧True else False else False
theorem aVE:aMD:=by
 unfold aMD
 delta aAs aJz aDz I6
 intro gl n d hn
 have hN:=aNE hn
 have uw:IntKind.u64.wrap n=n:=iK (k:=.u64) (by show 0≤n∧n≤18446744073709551615; omega)
 have iw:IntKind.i64.wrap n=n:=iK (k:=.i64) (by show -9223372036854775808≤n∧n≤9223372036854775807; omega)
 rw [uw,iw]
 have hx:[[AV.int .i64 d]]=dpl d 1:=rfl
 rw [hx]
 intros
 have r1:RepP n 1:=⟨Int.le_refl 1,by omega⟩
 have e1:dpl d 1++List.drop (dpl d 1).length (List.replicate n.toNat [.int .i64 0])=rpD d n 1:=by
  unfold rpD dpl
  rw [List.length_replicate,List.drop_replicate]
  congr 2; omega
 refine cd0 (by omega) ⟨⟨rfl,hn⟩,cd0 (by omega) (cd1 ⟨by omega,by omega,by omega,by omega⟩ (cd1 ⟨by rw [List.length_replicate],by rw [List.length_replicate]; unfold dpl; rw [List.length_replicate]; omega⟩ ⟨⟨1,r1,⟨rfl,rfl,trivial⟩,rfl,e1,trivial⟩,?_⟩))⟩
 intro k hk
 have k1:=hk.lo
 have k2:=hk.hi
 have hl:=aME (d:=d) hk
 refine csp (λ q=>?_) (λ q=>?_)
 ·have q:k < n:=by omega
  have es:List.take (k.toNat - 0) (List.drop 0 (rpD d n k))=List.replicate k.toNat [.int .i64 d]:=by rw [List.drop_zero,Nat.sub_zero,aCi]
  rw [es]
  simp only [Int.toNat_natCast,List.length_replicate]
  obtain ⟨M,hM⟩:∃ M,M=Nat.min k.toNat (n.toNat - k.toNat):=⟨_,rfl⟩
  have m1:M≤k.toNat:=by rw [hM]; exact Nat.min_le_left _ _
  have m2:M≤n.toNat - k.toNat:=by rw [hM]; exact Nat.min_le_right _ _
  have m3:1≤M:=by rw [hM]; exact Nat.le_min.2 ⟨by omega,by omega⟩
  rw [← hM]
  have st:=aJA (d:=d) hk q hM
  rw [show k.toNat=0+k.toNat by omega] at st
  simp only [Nat.zero_add] at st ⊢
  refine cd1 (by omega) (cd1 (by omega) (cd1 (by omega) (cd1 (by omega) (cd1 ⟨hl.symm,by omega⟩ (cd1 ⟨hl.symm,by omega,by omega,by omega⟩ (cdI (by omega) ⟨k+M,⟨by omega,by omega⟩,by simp only [aUG]; omega,by repeat' first|exact trivial|exact rfl|assumption|apply And.intro⟩))))))
 ·have q:k=n:=by omega
  subst q
  refine ⟨rfl,rfl,?_,trivial⟩
  unfold rpD dpl
  rw [show (k - k).toNat=0 by omega]; simp
theorem aVD:aMD=(∀ (gl:aX) (n d:Int),FnN n->fnH Tryz.prog { glob:=gl,spec:=lk [(143,aRJ)],specH:=lk [],nowf:=true } { nt:=48,drop:=drp [(1,512),(2,2048),(3,2093056),(4,65011712),(5,134217728),(6,1879048192),(7,15032385536),(8,120259084288),(9,140462610448384),(10,140737488355328)],fr:=1000,kp:=[0],own:=true } (xH [(8,aUG d n [[.int .i64 d]])]) 6 Tryz.f94 [.rw 0 1 1,.int .i64 n] [.row 3 1 [[.int .i64 d]]] (.rw 1 1 n.toNat) [.row 3 1 [[.int .i64 d]],.row 3 1 (dpl d n.toNat)]):=by kernel_rfl
def aVC:=Eq.mp (aVD ..) (aVE)
theorem aQR (gl:aX):HOK Tryz.prog gl 94 aMC:=by
 refine ⟨fok Tryz.func94 (by kernel_rfl) (by kernel_rfl),?_⟩
 intro xs bs pre r bs2 h hp
 unfold aMC at h
 split at h
 ·cases h
  exact bC bD (by exact aV rfl rfl ⟨(aNn gl),trivial⟩ trivial) (by kernel_rfl) Tryz.func94 (aVC gl _ _ hp)
 ·cases h
def aGe:Sp
 | [.int .i64 n,.sl 1 g ds]=>some (VStP n ds (aP (zeV n)),.tup [.agg [.int .i64 n,.sl 1 false ds,.sl 1 false (aP (zeV n))],.int .i64 0])
 | _=>none
abbrev sY (nrm:NrT) (n:Int):=(List.replicate (↑(aS nrm n).length:Int).toNat [AV.int IntKind.i64 0])
def aGf (nrm:NrT) (dF:Int->List Int->List Int->Int):Prop :=
 ∀ (n:Int) (g:Bool) (ds:LL),VStP n ds (aP (zeV n))->IR9 n->True->BldQ nrm n∧ds.length≤(1000000:Nat)∧bif decide ((0:Int)≤(↑(aS nrm n).length:Int)∧(↑(aS nrm n).length:Int)≤(↑(aS nrm n).length:Int)∧(8:Int)*(↑(aS nrm n).length:Int)≤(281474976710656:Int)∧(↑(aS nrm n).length:Int)≤(9223372036854775807:Int)) then bif decide ((↑(aS nrm n).length:Int).toNat=(sY nrm n).length) then StaP n ds (sY nrm n)∧bif decide ¬dF n (aQ ds) (aQ (sY nrm n))=(0:Int) then ((0:Int)=n∧ds=[]∧aP (zeV n)=[]∧True)∧dF n (aQ ds) (aQ (sY nrm n))=(0:Int)∧True else bif decide ((↑(aS nrm n).length:Int).toNat=(sY nrm n).length) then (n=n∧(True∧ds=ds)∧(True∧List.replicate (↑(aS nrm n).length:Int).toNat [AV.int IntKind.i64 0]=aP (zeV n))∧True)∧(0:Int)=(0:Int)∧True else False else False else False
theorem aR6:aGf nrm dF:=by
 unfold aGf
 delta sY
 intro n g ds hP
 intros
 have hg:=hP.gp
 have ld:=hP.facts.1
 rw [bP] at ld
 have hN:=lN hg
 have hE:=(cB hg.bq).2
 have e2:List.replicate ((aS nrm n).length:Int).toNat [AV.int .i64 0]=aP (zeV n):=by rw [Int.toNat_natCast]; simp [aP,zeV]
 have hs:dF n (aQ ds) (aQ (aP (zeV n)))=0:=by unfold dF; rw [hP.ok]; rfl
 have hl:((aS nrm n).length:Int).toNat=(aP (zeV n)).length:=by rw [aR]; simp [zeV]
 refine ⟨hg.bq,by omega,cd1 (by omega) ?_⟩
 rw [e2]
 exact cd1 hl ⟨hP.sp,cd0 (λ q=>q hs) (cd1 hl (by repeat' first|exact trivial|exact rfl|assumption|apply And.intro))⟩
theorem aR5 (nrm:NrT) (dF:Int->List Int->List Int->Int):aGf nrm dF=(∀ (n:Int) (g:Bool) (ds:LL),VStP n ds (aP (zeV n))->fnK Tryz.prog { glob:=glb,spec:=lk [(58,(eT nrm)),(60,pW),(70,(qQ nrm dF))],specH:=lk [],nowf:=true } { nt:=32,drop:=drp [(1,31744),(2,32768),(3,131072),(4,33292288),(5,100663296),(6,134217728),(7,1610612736),(8,2147483648)],frz:=λ id=>cond (Nat.beq id 5) [1000023] [] } (λ _ _=>none) 6 Tryz.f106 [.int .i64 n,.sl 1 g ds] (.tup [.agg [.int .i64 n,.sl 1 false ds,.sl 1 false (aP (zeV n))],.int .i64 0])):=by kernel_rfl
def aR4:=Eq.mp (aR5 ..) (aR6)
theorem aNA:SOK Tryz.prog glb 106 aGe:=by
 refine ⟨fok Tryz.func106 (by kernel_rfl) (by kernel_rfl),?_⟩
 intro xs pre r h hp
 unfold aGe at h
 split at h
 ·cases h
  exact aT bD (by exact aV rfl rfl ⟨(eK),(pX glb),(qR),trivial⟩ trivial) (by kernel_rfl) Tryz.func106 rfl (aR4  _ _ _ hp)
 ·cases h
def aF5:Sp
 | [.int .i64 n,.int .i64 d]=>some (VStP n (List.replicate (ndN n) [.int .i64 d]) (aP (zeV n)),.tup [.agg [.int .i64 n,.sl 1 false (List.replicate (ndN n) [.int .i64 d]),.sl 1 false (aP (zeV n))],.int .i64 0])
 | _=>none
def aF6:Prop :=
 ∀ (n d:Int),VStP n (List.replicate (ndN n) [AV.int IntKind.i64 d]) (aP (zeV n))->IR9 n->IR9 d->(1≤n∧n≤(4:Int))∧FnN ((10:Int)*n*n+(2:Int))∧bif decide (((10:Int)*n*n+(2:Int)).toNat=(dpl d ((10:Int)*n*n+(2:Int)).toNat).length) then VStP n (dpl d ((10:Int)*n*n+(2:Int)).toNat) (aP (zeV n))∧(n=n∧(True∧dpl d ((10:Int)*n*n+(2:Int)).toNat=List.replicate (ndN n) [AV.int IntKind.i64 d])∧(True∧aP (zeV n)=aP (zeV n))∧True)∧(0:Int)=(0:Int)∧True else False
theorem aRT:aF6:=by
 unfold aF6
 intro n d hP
 intros
 have hg:=hP.gp
 have hf:=hg.fn
 rw [hg.ln] at hf
 exact ⟨⟨hg.bq.lo,hg.bq.hi⟩,hf,cd1 (by simp [dpl]) ⟨hP,by repeat' first|exact trivial|exact rfl|assumption|apply And.intro⟩⟩
theorem aRS:aF6=(∀ (n d:Int),VStP n (List.replicate (ndN n) [.int .i64 d]) (aP (zeV n))->fnK Tryz.prog { glob:=glb,spec:=lk [(59,hU),(106,aGe)],specH:=lk [(94,aMC)],nowf:=true } { nt:=15,drop:=drp [(1,32704)] } (λ _ _=>none) 6 Tryz.f54 [.int .i64 n,.int .i64 d] (.tup [.agg [.int .i64 n,.sl 1 false (List.replicate (ndN n) [.int .i64 d]),.sl 1 false (aP (zeV n))],.int .i64 0])):=by kernel_rfl
def aRR:=Eq.mp (aRS ..) (aRT)
theorem aNu:SOK Tryz.prog glb 54 aF5:=by
 refine ⟨fok Tryz.func54 (by kernel_rfl) (by kernel_rfl),?_⟩
 intro xs pre r h hp
 unfold aF5 at h
 split at h
 ·cases h
  exact aT bD (by exact aV rfl rfl ⟨(jC glb),(aNA),trivial⟩ ⟨(aQR glb),trivial⟩) (by kernel_rfl) Tryz.func54 rfl (aRR  _ _ hp)
 ·cases h
def aHw:Sp
 | [.agg [.int .i64 a,.int .i64 b,.int .i64 c],.agg [.int .i64 n,.sl 1 g ds,.sl 1 h fs],.int .i64 s,.int .i64 v]=>some ((bU a b c=0∧VStP n ds fs)∧(0≤s∧s≤400)∧1≤v∧v≤400,.int .i64 0)
 | _=>none
def aHx (outB:Int->Int->List Int->Bool) (bU:Int->Int->Int->Int) (nrm:NrT) (dF:Int->List Int->List Int->Int):Prop :=
 ∀ (n a b c s v:Int) (g h:Bool) (ds fs:LL),(bU a b c=(0:Int)∧VStP n ds fs)∧(0≤s∧s≤(400:Int))∧1≤v∧v≤(400:Int)->(IR9 a)∧(IR9 b)∧(IR9 c)∧True->(IR9 n)∧True∧True∧True->IR9 s->IR9 v->True∧bif decide ¬bU a b c=(0:Int) then bU a b c=(0:Int) else StaP n ds fs∧bif decide ¬dF n (aQ ds) (aQ fs)=(0:Int) then dF n (aQ ds) (aQ fs)=(0:Int) else bif decide (s < (0:Int)) then (1:Int)=(0:Int) else bif decide (400 < s) then (1:Int)=(0:Int) else bif decide (v < (1:Int)) then (1:Int)=(0:Int) else bif decide (400 < v) then (1:Int)=(0:Int) else (0:Int)=(0:Int)
theorem aTg:aHx outB bU nrm dF:=by
 unfold aHx
 intro n a b c s v g h ds fs ⟨⟨hs,hP⟩,h1,h2⟩
 intros
 have he:dF n (aQ ds) (aQ fs)=0:=by unfold dF; rw [hP.ok]; rfl
 exact ⟨trivial,cd0 (λ q=>q hs) ⟨hP.sp,cd0 (λ q=>q he) (cd0 (by omega) (cd0 (by omega) (cd0 (by omega) (cd0 (by omega) rfl))))⟩⟩
theorem aTf (outB:Int->Int->List Int->Bool) (bU:Int->Int->Int->Int) (nrm:NrT) (dF:Int->List Int->List Int->Int):aHx outB bU nrm dF=(∀ (n a b c s v:Int) (g h:Bool) (ds fs:LL),(bU a b c=0∧VStP n ds fs)∧(0≤s∧s≤400)∧1≤v∧v≤400->fnK Tryz.prog { glob:=glb,spec:=lk [(65,(tC outB bU)),(70,(qQ nrm dF))],specH:=lk [],nowf:=true } { nt:=35,drop:=drp [(1,6144),(2,8192),(3,32768),(4,196608),(5,262144),(6,1048576),(7,17177772032)] } (λ _ _=>none) 6 Tryz.f107 [.agg [.int .i64 a,.int .i64 b,.int .i64 c],.agg [.int .i64 n,.sl 1 g ds,.sl 1 h fs],.int .i64 s,.int .i64 v] (.int .i64 0)):=by kernel_rfl
def aTe:=Eq.mp (aTf ..) (aTg)
theorem aOI:SOK Tryz.prog glb 107 aHw:=by
 refine ⟨fok Tryz.func107 (by kernel_rfl) (by kernel_rfl),?_⟩
 intro xs pre r h hp
 unfold aHw at h
 split at h
 ·cases h
  exact aT bD (by exact aV rfl rfl ⟨(vW glb),(qR),trivial⟩ trivial) (by kernel_rfl) Tryz.func107 rfl (aTe  _ _ _ _ _ _ _ _ _ _ hp)
 ·cases h
def aC3:Sp
 | [.agg [.int .i64 s,.int .i64 n,.sl 1 g ds,.sl 1 h fs]]=>some (ds.length≤1000000∧fs.length≤1000000,.agg [.int .i64 s,.int .i64 n,.sl 1 false ds,.sl 1 false fs])
 | _=>none
def aHv:Prop :=
 ∀ (gl:aX) (s n:Int) (g h:Bool) (ds fs:LL),ds.length≤(1000000:Nat)∧fs.length≤(1000000:Nat)->(IR9 s)∧(IR9 n)∧True∧True∧True->ds.length≤(1000000:Nat)∧fs.length≤(1000000:Nat)∧s=s∧n=n∧(True∧ds=ds)∧(True∧fs=fs)∧True
theorem aTd:aHv:=by
 unfold aHv
 intro gl s n g h ds fs ⟨h1,h2⟩
 intros
 exact ⟨h1,h2,by repeat' first|exact trivial|exact rfl|assumption|apply And.intro⟩
theorem aTc:aHv=(∀ (gl:aX) (s n:Int) (g h:Bool) (ds fs:LL),ds.length≤1000000∧fs.length≤1000000->fnK Tryz.prog { glob:=gl,spec:=lk [(60,pW)],specH:=lk [],nowf:=true } { nt:=16,drop:=drp [(1,32760),(2,32768)] } (λ _ _=>none) 6 Tryz.f146 [.agg [.int .i64 s,.int .i64 n,.sl 1 g ds,.sl 1 h fs]] (.agg [.int .i64 s,.int .i64 n,.sl 1 false ds,.sl 1 false fs])):=by kernel_rfl
def aTb:=Eq.mp (aTc ..) (aTd)
theorem aHu (gl:aX):SOK Tryz.prog gl 146 aC3:=by
 refine ⟨fok Tryz.func146 (by kernel_rfl) (by kernel_rfl),?_⟩
 intro xs pre r h hp
 unfold aC3 at h
 split at h
 ·cases h
  exact aT bD (by exact aV rfl rfl ⟨(pX gl),trivial⟩ trivial) (by kernel_rfl) Tryz.func146 rfl (aTb gl _ _ _ _ _ _ hp)
 ·cases h
end Go.Proofs.YtgbbmadjdaphnaaGreatDoor
