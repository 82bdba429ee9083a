import Derived.Test.YtgbbmadjdaphnaaGreatDoorTTc
import Derived.Test.YtgbbmadjdaphnaaGreatDoorTTd
import Derived.RangeFuncNested
import Derived.RangeFuncBound
import Derived.RangeFuncCalls
import Derived.RangeFuncLeaves
import Derived.RangeFuncFrom
import Derived.Shelf.RegionOpen
import Derived.LoopNIn
import Derived.LoopIn
import Derived.Shelf.Abstract
import Derived.WalkKit
import Derived.OwnWalkIn
import Derived.TacticsInMore
import Derived.Lib.Mul64
import Derived.Laws.Bits64b
set_option maxRecDepth 100000
set_option linter.defProp false
set_option linter.unusedVariables false
set_option linter.unusedSimpArgs false
namespace Go.Proofs.YtgbbmadjdaphnaaGreatDoor
open Go
theorem aI3 {f a b c:Int} (h:Vld f a b c):vld f a b c=true:=decide_eq_true h
def pos (f v:Int):Nat:=if crn f 2=v then 2 else if crn f 1=v then 1 else if crn f 0=v then 0 else 3
def aEm (a b c:Int) (k:Nat):Int:=match k with | 0=>a | 1=>b | 2=>c | _=>0
theorem kW (f a b c v:Int):wt f a b c v=aEm a b c (pos f v):=by
 unfold wt pos
 split
 ·rfl
 ·split
  ·rfl
  ·split <;> rfl
def aWZ (p:Int->Int->Bool):Bool:=fcs.all λ f=>fcs.all λ n=>p f n
theorem aDp {p:Int->Int->Bool} (h:aWZ p=true) {f n:Int} (hf:0≤f∧f < 20) (hn:0≤n∧n < 20):p f n=true:=by
 unfold aWZ at h
 rw [List.all_eq_true] at h
 have h1:=h f (fW hf)
 rw [List.all_eq_true] at h1
 exact h1 n (fW hn)
def vts:List Int:=[0,1,2,3,4,5,6,7,8,9,10,11]
def okF (f n:Int):Bool:=decide (pos n (crn n 0)=0)&&decide (pos n (crn n 1)=1)&&decide (pos n (crn n 2)=2) &&
 (vts.all λ v=>decide (pos f v≤3)&&(decide (pos n v=3)||decide (v=crn n (pos n v))) &&
  (decide (pos n v≠3)||decide (pos f v=3)||(decide (pos f (crn n 0)≠pos f v)&&decide (pos f (crn n 1)≠pos f v)&&decide (pos f (crn n 2)≠pos f v)))) &&
 (decide (pos f (crn n 0)=3)||(decide (pos f (crn n 0)≠pos f (crn n 1))&&decide (pos f (crn n 0)≠pos f (crn n 2))))&&(decide (pos f (crn n 1)=3)||decide (pos f (crn n 1)≠pos f (crn n 2))) &&
 decide (pos f (crn n 0)≤3)&&decide (pos f (crn n 1)≤3)&&decide (pos f (crn n 2)≤3)
theorem aFH:aWZ okF=true:=by decide +kernel
theorem aXO {a b c:Int} (ha:0≤a) (hb:0≤b) (hc:0≤c) (hs:a+b+c=840) {p q r j:Nat} (hp:p≤3) (hq:q≤3) (hr:r≤3) (hj:j≤3)
  (h1:p=3∨(p≠q∧p≠r)) (h2:q=3∨q≠r) (hsum:aEm a b c p+aEm a b c q+aEm a b c r=840) (j3:j=3∨(p≠j∧q≠j∧r≠j)):aEm a b c j=0:=by
 have e:∀ {k:Nat},k≤3->k=0∨k=1∨k=2∨k=3:=by intro k hk; omega
 rcases e hp with rfl | rfl | rfl | rfl <;> rcases e hq with rfl | rfl | rfl | rfl <;> rcases e hr with rfl | rfl | rfl | rfl <;> rcases e hj with rfl | rfl | rfl | rfl <;> simp only [aEm] at hsum ⊢ <;> omega
theorem aLq {f a b c n:Int} (hv:Vld f a b c) (hn:0≤n∧n < 20) (ho:onV f a b c n=true) {v:Int} (hvv:v ∈ vts) :
  wt n (onW f a b c n 0) (onW f a b c n 1) (onW f a b c n 2) v=wt f a b c v:=by
 have hV:Vld n (onW f a b c n 0) (onW f a b c n 1) (onW f a b c n 2):=of_decide_eq_true ho
 have ok:=aDp aFH hv.face hn
 simp only [okF,aC,Bool.or_eq_true,decide_eq_true_eq,List.all_eq_true] at ok
 obtain ⟨⟨⟨⟨⟨⟨⟨⟨o0,o1⟩,o2⟩,oa⟩,ob⟩,oc⟩,l0⟩,l1⟩,l2⟩:=ok
 obtain ⟨⟨m1,m2⟩,m3⟩:=oa v hvv
 have hs:=hV.sum
 simp only [onW,kW] at hs
 rw [kW,kW]
 have pk:pos n v=0∨pos n v=1∨pos n v=2∨pos n v=3:=by unfold pos; (repeat' split) <;> simp
 rcases pk with e | e | e | e
 ·rw [e] at m2 ⊢; simp only [aEm,onW]; rw [kW]; rw [← (m2.resolve_left (by decide))]; rfl
 ·rw [e] at m2 ⊢; simp only [aEm,onW]; rw [kW]; rw [← (m2.resolve_left (by decide))]; rfl
 ·rw [e] at m2 ⊢; simp only [aEm,onW]; rw [kW]; rw [← (m2.resolve_left (by decide))]; rfl
 ·rw [e]
  show (0:Int)=_
  refine (aXO hv.wa.1 hv.wb.1 hv.wc.1 hv.sum l0 l1 l2 m1 ?_ ?_ hs ?_).symm
  ·exact ob
  ·exact oc
  ·rcases m3 with (h | h) | h
   ·exact absurd e h
   ·exact .inl h
   ·exact .inr ⟨h.1.1,h.1.2,h.2⟩
theorem aO1 {n:Int} (hn:0≤n∧n < 20):crn n 0 ∈ vts∧crn n 1 ∈ vts∧crn n 2 ∈ vts:=by
 have:(fcs.all λ n=>decide (crn n 0 ∈ vts)&&decide (crn n 1 ∈ vts)&&decide (crn n 2 ∈ vts))=true:=by decide +kernel
 rw [List.all_eq_true] at this
 have:=this n (fW hn)
 simpa [and_assoc] using this
theorem xZ {f a b c f' a' b' c' n:Int} (hn:0≤n∧n < 20) (h:∀ v ∈ vts,wt f a b c v=wt f' a' b' c' v):onW f a b c n 0=onW f' a' b' c' n 0∧onW f a b c n 1=onW f' a' b' c' n 1∧onW f a b c n 2=onW f' a' b' c' n 2:=by
 obtain ⟨h0,h1,h2⟩:=aO1 hn
 exact ⟨h _ h0,h _ h1,h _ h2⟩
theorem aFE {f a b c f' a' b' c' n:Int} (hn:0≤n∧n < 20) (h:∀ v ∈ vts,wt f a b c v=wt f' a' b' c' v):onV f a b c n=onV f' a' b' c' n:=by
 obtain ⟨h0,h1,h2⟩:=xZ hn h
 unfold onV; rw [h0,h1,h2]
theorem aAN {f a b c:Int} (hv:Vld f a b c):onW f a b c f 0=a∧onW f a b c f 1=b∧onW f a b c f 2=c∧onV f a b c f=true:=by
 have ok:=aDp aFH hv.face hv.face
 simp only [okF,aC,Bool.or_eq_true,decide_eq_true_eq,List.all_eq_true] at ok
 obtain ⟨⟨⟨⟨⟨⟨⟨⟨o0,o1⟩,o2⟩,_⟩,_⟩,_⟩,_⟩,_⟩,_⟩:=ok
 have e0:onW f a b c f 0=a:=by simp only [onW,kW,o0,aEm]
 have e1:onW f a b c f 1=b:=by simp only [onW,kW,o1,aEm]
 have e2:onW f a b c f 2=c:=by simp only [onW,kW,o2,aEm]
 refine ⟨e0,e1,e2,?_⟩
 unfold onV; rw [e0,e1,e2]; exact decide_eq_true hv
theorem sS {f a b c f' a' b' c':Int} (h:∀ v ∈ vts,wt f a b c v=wt f' a' b' c' v):∀ (l:List Int),(∀ n ∈ l,0≤n∧n < 20)->(∃ n ∈ l,onV f a b c n=true)->aDL f a b c l=aDL f' a' b' c' l
 | [],_,he=>by obtain ⟨n,hn,_⟩:=he; cases hn
 | n::l,hl,he=>by
  have hn:=hl n (aO ..)
  obtain ⟨h0,h1,h2⟩:=xZ hn h
  have hv:=aFE hn h
  simp only [aDL]
  rw [← hv,← h0,← h1,← h2]
  by_cases ho:onV f a b c n=true
  ·rw [if_pos ho,if_pos ho]
  ·rw [if_neg ho,if_neg ho]
   refine sS h l (λ m hm=>hl m (aN _ hm)) ?_
   obtain ⟨m,hm,hmo⟩:=he
   rcases List.mem_cons.1 hm with rfl | hm
   ·exact absurd hmo ho
   ·exact ⟨m,hm,hmo⟩
theorem aHn {n:Int} (h:n ∈ fcs):0≤n∧n < 20:=by simp only [fcs,List.mem_cons,List.not_mem_nil,or_false] at h; omega
theorem aFM {f a b c f' a' b' c':Int} (hv:Vld f a b c) (hv':Vld f' a' b' c') (h:∀ v ∈ vts,wt f a b c v=wt f' a' b' c' v):nrm f a b c=nrm f' a' b' c':=by
 unfold nrm
 rw [if_pos (aI3 hv),if_pos (aI3 hv')]
 exact sS h fcs (λ n hn=>aHn hn) ⟨f,fW hv.face,(aAN hv).2.2.2⟩
theorem aE3 (f a b c f' a' b' c':Int):aMA f a b c f' a' b' c'=true↔∀ v ∈ vts,wt f a b c v=wt f' a' b' c' v:=by
 unfold aMA wts vts
 rw [decide_eq_true_eq]
 simp only [List.cons.injEq,and_true,List.mem_cons,List.not_mem_nil,or_false,forall_eq_or_imp,forall_eq]
structure RowOf (f a b c n x y z:Int):Prop where
 vld:Vld n x y z
 nrm:nrm n x y z=nrm f a b c
 same:aMA n x y z f a b c=true
theorem aQS {f a b c n:Int} (hv:Vld f a b c) (hn:0≤n∧n < 20) (ho:onV f a b c n=true):RowOf f a b c n (onW f a b c n 0) (onW f a b c n 1) (onW f a b c n 2) :=
 have hV:Vld n (onW f a b c n 0) (onW f a b c n 1) (onW f a b c n 2):=of_decide_eq_true ho
 ⟨hV,aFM hV hv λ v h=>aLq hv hn ho h,(aE3 ..).2 λ v h=>aLq hv hn ho h⟩
theorem aIr (f a b c:Int):∀ k:Nat,k≤20->aEc f a b c k=((fcs.take k).filter (onV f a b c)).map (aFF f a b c)
 | 0,_=>rfl
 | k+1,h=>by
  have hk:k < 20:=by omega
  have e:fcs.take (k+1)=fcs.take k++[(k:Int)]:=by
   have:(List.range 20).all (λ k=>decide (fcs.take (k+1)=fcs.take k++[(k:Int)]))=true:=by decide +kernel
   rw [List.all_eq_true] at this
   simpa using this k (List.mem_range.2 hk)
  simp only [aEc]
  rw [aIr f a b c k (by omega),e,List.filter_append]
  split
  ·next ho=>simp [ho]
  ·next ho=>simp [ho]
def aBz (f a b c:Int):List Int:=fcs.filter (onV f a b c)
theorem aPw {f a b c:Int} (hv:Vld f a b c):adr f a b c=(aBz f a b c).map (aFF f a b c):=by
 unfold adr
 rw [if_pos (aI3 hv),aIr f a b c 20 (by decide)]
 rfl
theorem aDW:fcs.Pairwise (· < ·):=by decide
theorem yY (f a b c:Int):(aBz f a b c).Pairwise (· < ·):=aDW.filter _
theorem qP {f a b c n:Int}:n ∈ aBz f a b c↔(0≤n∧n < 20)∧onV f a b c n=true:=by
 unfold aBz
 rw [List.mem_filter]
 exact ⟨λ h=>⟨aHn h.1,h.2⟩,λ h=>⟨fW h.1,h.2⟩⟩
def aXl (r:Int × Int × Int × Int):List AV:=[.int .i64 r.1,.int .i64 r.2.1,.int .i64 r.2.2.1,.int .i64 r.2.2.2]
theorem yA {f a b c:Int}:∀ (l:List Int),aDL f a b c l=((l.filter (onV f a b c)).map λ n=>(n,onW f a b c n 0,onW f a b c n 1,onW f a b c n 2)).headD (f,a,b,c)
 | []=>rfl
 | n::l=>by
  simp only [aDL]
  by_cases h:onV f a b c n=true
  ·rw [if_pos h,List.filter_cons_of_pos h]; rfl
  ·rw [if_neg h,List.filter_cons_of_neg h]; exact yA l
structure Rows (f a b c:Int) (l:List (Int × Int × Int × Int)):Prop where
 adr:adr f a b c=l.map aXl
 row:∀ r ∈ l,RowOf f a b c r.1 r.2.1 r.2.2.1 r.2.2.2
 asc:l.Pairwise λ r s=>r.1 < s.1
 own:(f,a,b,c) ∈ l
 head:l[0]?=some (nrm f a b c)
theorem aLb {f a b c:Int} (hv:Vld f a b c):∃ l,Rows f a b c l:=by
 refine ⟨(aBz f a b c).map λ n=>(n,onW f a b c n 0,onW f a b c n 1,onW f a b c n 2),?_,?_,?_,?_,?_⟩
 ·rw [aPw hv,List.map_map]; rfl
 ·intro r hr
  obtain ⟨n,hn,rfl⟩:=List.mem_map.1 hr
  obtain ⟨h1,h2⟩:=qP.1 hn
  exact aQS hv h1 h2
 ·exact List.pairwise_map.2 (yY f a b c)
 ·obtain ⟨e0,e1,e2,e3⟩:=aAN hv
  exact List.mem_map.2 ⟨f,qP.2 ⟨hv.face,e3⟩,by rw [e0,e1,e2]⟩
 ·have h1:nrm f a b c=aDL f a b c fcs:=by unfold nrm; rw [if_pos (aI3 hv)]
  rw [h1,yA]
  have h2:f ∈ aBz f a b c:=qP.2 ⟨hv.face,(aAN hv).2.2.2⟩
  unfold aBz at h2 ⊢
  cases hf:fcs.filter (onV f a b c) with
  | nil=>rw [hf] at h2; cases h2
  | cons n l=>rfl
def p0:List Nat:=[0,1,2,3,3,3,3,3,3,3,3,3]
structure HopP (nrm:NrT) (n a b:Int):Prop where
 bq:BldQ nrm n
 ln:((ptG nrm n).1.length:Int)=10*n*n+2
 dp:DisP (ptG nrm n).1.length (ptG nrm n).1 (pM nrm n) a
 b0:0≤b∧b < (ptG nrm n).1.length
theorem cs {p:Prop} [Decidable p] {A B:Prop} (h:p->A) (k:¬ p->B):cond (decide p) A B:=dJ (λ q=>h (of_decide_eq_true q)) (λ q=>k (of_decide_eq_false q))
theorem aTq {l:List Int} {i:Nat} {z:Int} (h:l[i]?=some z):l.drop i=z::l.drop (i+1):=by
 obtain ⟨hl,e⟩:=aF.1 h
 rw [List.drop_eq_getElem_cons hl,e]
theorem wJ {x y:List AV} (hx:okR 2 x=true) (hy:okR 2 y=true):eqE x y=true↔x=y:=by
 have ex:=(ok2 hx).1
 have ey:=(ok2 hy).1
 constructor
 ·intro h
  simp only [eqE,aC,decide_eq_true_eq,and_true] at h
  rw [ex,ey,h.1,h.2]
 ·rintro rfl
  simp [eqE]
theorem wV:∀ (l:LL) (p:List AV),okR 2 p=true->(∀ r ∈ l,okR 2 r=true)->∀ r ∈ l,r=p∨r ∈ oA p l
 | [],p,_,_,r,hr=>by simp at hr
 | x::l,p,hp,hl,r,hr=>by
  have hx:=hl x aO
  have hl':=λ r hr=>hl r (aN _ hr)
  unfold oA
  split
  ·rename_i e
   have e:=(wJ hx hp).1 e
   rcases List.mem_cons.1 hr with rfl | hr
   ·exact .inl e
   ·rcases wV l x hx hl' r hr with rfl | h
    ·exact .inl e
    ·exact .inr h
  ·rcases List.mem_cons.1 hr with rfl | hr
   ·exact .inr aO
   ·rcases wV l x hx hl' r hr with rfl | h
    ·exact .inr aO
    ·exact .inr (aN _ h)
theorem qZ {l:LL} (hl:∀ r ∈ l,okR 2 r=true) (r:List AV):r ∈ cS l↔r ∈ l:=by
 refine ⟨(qY l).1 r,λ h=>?_⟩
 match l,h with
 | x::l,h =>
  rcases List.mem_cons.1 h with rfl | h
  ·exact aO
  ·rcases wV l x (hl x aO) (λ r hr=>hl r (aN _ hr)) r h with rfl | h
   ·exact aO
   ·exact aN _ h
def leE (x y:List AV):Prop:=nI x 0 < nI y 0∨(nI x 0=nI y 0∧nI x 1≤nI y 1)
theorem tM:∀ (l:LL) (p:List AV),(∀ r ∈ p::l,okR 2 r=true)->(p::l).Pairwise leE->(oA p l).length=l.length->(p::l).Nodup
 | [],p,_,_,_=>by simp
 | x::l,p,ho,hs,hn=>by
  have hp:=ho p aO
  have hx:=ho x (aN _ aO)
  rw [List.pairwise_cons] at hs
  unfold oA at hn
  split at hn
  ·have:=(oW l x).2
   simp only [List.length_cons] at hn; omega
  ·rename_i e
   have e:x≠p:=λ q=>e ((wJ hx hp).2 q)
   simp only [List.length_cons,Nat.add_right_cancel_iff] at hn
   have ih:=tM l x (λ r hr=>ho r (aN _ hr)) hs.2 hn
   refine List.nodup_cons.2 ⟨λ hm=>?_,ih⟩
   rcases List.mem_cons.1 hm with q | hm
   ·exact e q.symm
   ·have hs2:=(List.pairwise_cons.1 hs.2).1 p hm
    have hs1:=hs.1 x aO
    refine e ?_
    rw [(ok2 hx).1,(ok2 hp).1]
    unfold leE at hs1 hs2
    rw [show nI x 0=nI p 0 by omega,show nI x 1=nI p 1 by omega]
theorem aOP {xs:LL} (ho:∀ r ∈ xs,okR 2 r=true) (hd:¬ xs.Nodup):aLe (dC 2 cf2 xs):=by
 have hp:=bY (cf:=cf2) aIN ho
 obtain ⟨d,e,hs⟩:=nP (cf:=cf2) aIN xs
 have hs':(dC 2 cf2 xs).Pairwise leE:=by
  rw [e,List.pairwise_map]
  refine hs.imp λ {a b} h=>?_
  rw [rB] at h
  have:=of_decide_eq_false h
  unfold leE
  omega
 have ho':∀ r ∈ dC 2 cf2 xs,okR 2 r=true:=λ r hr=>ho r (hp.mem_iff.1 hr)
 have hd':¬ (dC 2 cf2 xs).Nodup:=λ h=>hd (hp.nodup_iff.1 h)
 unfold aLe
 have hle:=(qY (dC 2 cf2 xs)).2
 rcases Nat.lt_or_ge (cS (dC 2 cf2 xs)).length (dC 2 cf2 xs).length with h | h
 ·exact h
 ·exfalso
  revert hd' ho' hs' hle h
  generalize dC 2 cf2 xs=ys
  intro hs' ho' hd' hle h
  match ys,h,hle,ho',hd',hs' with
  | [],_,_,_,hd',_=>exact hd' (by simp)
  | x::l,h,hle,ho',hd',hs' =>
   simp only [cS,List.length_cons] at h hle
   exact hd' (tM l x ho' hs' (by omega))
theorem aLd (xss:List (LL)) (e:List AV):(aPT xss e).length=xss.length:=by simp [aPT]
theorem aLc {xss:List (LL)} {p q:Nat} (hp:p < xss.length) (hq:q < xss.length) (k:Nat) (y:Int):[AV.int .i64 y] ∈ (aPT xss [.int .i64 p,.int .i64 q]).getD k []↔[AV.int .i64 y] ∈ xss.getD k []∨(k=p∧y=q)∨(k=q∧y=p):=by
 have one:∀ (zss:List (LL)) (i:Nat) (z:Int),i < zss.length->([AV.int .i64 y] ∈ (zss.set i (zss.getD i []++[[.int .i64 z]])).getD k []↔[AV.int .i64 y] ∈ zss.getD k []∨(k=i∧y=z)):=λ zss i z hi=>by
  rw [aB,List.getElem?_set]
  by_cases h:i=k
  ·subst h
   rw [if_pos rfl,if_pos hi,Option.getD_some,List.mem_append]
   simp
  ·rw [if_neg h,← aB]
   simp only [show ¬ k=i from λ e=>h e.symm,false_and,or_false]
 show [AV.int .i64 y] ∈ (List.set (xss.set p (xss.getD p []++[[.int .i64 q]])) q ((xss.set p (xss.getD p []++[[.int .i64 q]])).getD q []++[[.int .i64 p]])).getD k []↔_
 rw [one _ q p (by rw [List.length_set]; exact hq),one _ p q hp,or_assoc]
theorem aCz {N:Nat}:∀ (es:LL) (xss:List (LL)),xss.length=N->(∀ e ∈ es,∃ p q:Nat,e=[.int .i64 p,.int .i64 q]∧p < N∧q < N)->∀ (k:Nat) (y:Int),[AV.int .i64 y] ∈ (es.foldl aPT xss).getD k []↔[AV.int .i64 y] ∈ xss.getD k []∨[.int .i64 k,.int .i64 y] ∈ es∨[.int .i64 y,.int .i64 k] ∈ es
 | [],xss,_,_,k,y=>by simp
 | e::es,xss,hl,he,k,y=>by
  obtain ⟨p,q,rfl,hp,hq⟩:=he e aO
  rw [List.foldl_cons,aCz es _ (by rw [aLd,hl]) (λ e h=>he e (aN _ h)) k y,aLc (by rw [hl]; exact hp) (by rw [hl]; exact hq)]
  simp only [List.mem_cons,List.cons.injEq,AV.int.injEq,true_and,and_true]
  constructor
  ·rintro ((h | ⟨h1,h2⟩ | ⟨h1,h2⟩) | h | h)
   ·exact .inl h
   ·exact .inr (.inl (.inl ⟨by omega,h2⟩))
   ·exact .inr (.inr (.inl ⟨h2,by omega⟩))
   ·exact .inr (.inl (.inr h))
   ·exact .inr (.inr (.inr h))
  ·rintro (h | (⟨h1,h2⟩ | h) | (⟨h1,h2⟩ | h))
   ·exact .inl (.inl h)
   ·exact .inl (.inr (.inl ⟨by omega,h2⟩))
   ·exact .inr (.inl h)
   ·exact .inl (.inr (.inr ⟨by omega,h1⟩))
   ·exact .inr (.inr h)
theorem aJ9 {N:Nat} {es:LL} (h:EdgP N es) (k:Nat) (y:Int):[AV.int .i64 y] ∈ (iI N es).getD k []↔[.int .i64 k,.int .i64 y] ∈ es∨[.int .i64 y,.int .i64 k] ∈ es:=by
 unfold iI
 rw [aCz (N:=N) es _ (by simp) (λ e he=>by
  obtain ⟨i,hi,e2⟩:=List.getElem_of_mem he
  obtain ⟨p,q,e3,hp,hq⟩:=h.sh i hi
  rw [aB,aD hi,Option.getD_some,e2] at e3
  exact ⟨p,q,e3,hp,hq⟩)]
 have:¬ [AV.int .i64 y] ∈ (List.replicate N ([]:LL)).getD k []:=by
  rw [aB,List.getElem?_replicate]
  split <;> simp
 simp only [this,false_or]
theorem aI5 {ys:LL} (h:∀ r ∈ ys,okR 1 r=true) (z:Int):z ∈ aQ ys↔[AV.int .i64 z] ∈ ys:=by
 simp only [aQ,List.mem_map]
 constructor
 ·rintro ⟨r,hr,rfl⟩
  rw [← (ok1 (h r hr)).1]; exact hr
 ·intro hm
  exact ⟨_,hm,rfl⟩
theorem aET (ys:LL) (z:Int):z ∈ aQ (fT ys)↔z ∈ aQ ys:=by
 rw [oJ,aU]
 exact (List.mergeSort_perm _ _).mem_iff
section
variable {nrm:NrT} {n:Int} (h:BldQ nrm n)
include h
theorem aFX:NbP (ptG nrm n).1.length (aS nrm n).length (iI (ptG nrm n).1.length (aS nrm n)):=by
 have:=pO (aON h) (aS nrm n).length (Nat.le_refl _)
 rwa [List.take_length] at this
theorem aNg:(pM nrm n).length=(ptG nrm n).1.length:=by
 simp only [pM,aUP,List.length_map,(aFX h).len]
theorem aLv {k:Nat} (hk:k < (ptG nrm n).1.length):(pM nrm n).getD k []=[.sl 1 false (fT ((iI (ptG nrm n).1.length (aS nrm n)).getD k []))]:=by
 have hl:=(aFX h).len
 have e:(iI (ptG nrm n).1.length (aS nrm n))[k]?=some ((iI (ptG nrm n).1.length (aS nrm n)).getD k []):=by
  rw [aB,aD (by omega)]; rfl
 rw [aB,pM,aUP,List.getElem?_map,List.getElem?_map,e]; rfl
theorem aRE {k:Nat} (hk:k < (ptG nrm n).1.length):nb (pM nrm n) k=aQ (fT ((iI (ptG nrm n).1.length (aS nrm n)).getD k [])):=by
 unfold nb; rw [aLv h hk]
theorem aLA {k:Nat} (hk:k < (ptG nrm n).1.length):(∀ r ∈ (iI (ptG nrm n).1.length (aS nrm n)).getD k [],okR 1 r=true)∧((iI (ptG nrm n).1.length (aS nrm n)).getD k []).length≤10000:=by
 have hn:=aFX h
 obtain ⟨h1,h2⟩:=hn.ok _ (dZ (d:=[]) (i:=k) (by rw [hn.len]; exact hk))
 have:=(cB h).2
 exact ⟨h1,by omega⟩
theorem sV {k:Nat} (hk:k < (ptG nrm n).1.length) (y:Int):y ∈ nb (pM nrm n) k↔[.int .i64 k,.int .i64 y] ∈ edL (clG nrm n)∨[.int .i64 y,.int .i64 k] ∈ edL (clG nrm n):=by
 have h3:=rA h.l2 h.rg
 have p3:=bY (cf:=cf3) aLj (λ r hr=>(h3 r hr).ok)
 have h2:∀ q ∈ edL (dB nrm n),InR (ptG nrm n).1.length 2 q:=λ q hq=>by
  simp only [edL,List.mem_flatMap] at hq
  obtain ⟨r,hr,hq⟩:=hq
  exact qU h.l2 (h3 r (p3.mem_iff.1 hr)) q hq
 have p2:=bY (cf:=cf2) aIN (λ r hr=>(h2 r hr).ok)
 have e:∀ r,r ∈ aS nrm n↔r ∈ edL (clG nrm n):=λ r=>by
  rw [show aS nrm n=cS (dC 2 cf2 (edL (dB nrm n))) from rfl,qZ (λ r hr=>(h2 r (p2.mem_iff.1 hr)).ok)]
  show r ∈ dC 2 cf2 (edL (dB nrm n))↔_
  rw [p2.mem_iff]
  simp only [edL,List.mem_flatMap]
  exact exists_congr λ c=>and_congr_left λ _=>p3.mem_iff
 rw [aRE h hk,aET,aI5 (aLA h hk).1,aJ9 (aON h),e,e]
theorem aLC {k:Nat} (hk:k < (ptG nrm n).1.length):(pM nrm n).getD k []=[.sl 1 false (aP (nb (pM nrm n) k))]∧(nb (pM nrm n) k).length≤10000:=by
 rw [aRE h hk,aLv h hk]
 refine ⟨?_,?_⟩
 ·rw [oJ,aU]
 ·rw [show (aQ (fT ((iI (ptG nrm n).1.length (aS nrm n)).getD k []))).length=(fT ((iI (ptG nrm n).1.length (aS nrm n)).getD k [])).length by simp [aQ],iO]
  exact (aLA h hk).2
theorem aV4 {k:Nat} (hk:k < (ptG nrm n).1.length):∀ z ∈ nb (pM nrm n) k,0≤z∧z < (ptG nrm n).1.length:=by
 have h3:=rA h.l2 h.rg
 have h2:∀ q ∈ edL (clG nrm n),InR (ptG nrm n).1.length 2 q:=λ q hq=>by
  simp only [edL,List.mem_flatMap] at hq
  obtain ⟨r,hr,hq⟩:=hq
  exact qU h.l2 (h3 r hr) q hq
 intro z hz
 rcases (sV h hk z).1 hz with hz | hz
 ·exact (h2 _ hz).at_ 1 (by decide)
 ·exact (h2 _ hz).at_ 0 (by decide)
theorem aLB {k j:Nat} (hk:k < (ptG nrm n).1.length) (hj:j < (ptG nrm n).1.length):(j:Int) ∈ nb (pM nrm n) k↔(k:Int) ∈ nb (pM nrm n) j:=by
 rw [sV h hk,sV h hj]; exact or_comm
theorem aNj (rk:Nat->Nat) (hc:∀ k,1≤k->k < (ptG nrm n).1.length->∃ j:Nat,j < (ptG nrm n).1.length∧rk j < rk k∧(j:Int) ∈ nb (pM nrm n) k) {a:Nat} (ha:a < (ptG nrm n).1.length) (V:Nat->Prop) (h0:V a) (hV:∀ k,k < (ptG nrm n).1.length->V k->∀ z ∈ nb (pM nrm n) k,V z.toNat):∀ k,k < (ptG nrm n).1.length->V k:=by
 have dn:∀ m k,rk k≤m->k < (ptG nrm n).1.length->V k->V 0:=λ m=>by
  induction m with
  | zero =>
   intro k hm hk hv
   rcases Nat.eq_zero_or_pos k with rfl | hp
   ·exact hv
   ·obtain ⟨j,hj,hr,_⟩:=hc k hp hk
    omega
  | succ m ih =>
   intro k hm hk hv
   rcases Nat.eq_zero_or_pos k with rfl | hp
   ·exact hv
   ·obtain ⟨j,hj,hr,hm⟩:=hc k hp hk
    exact ih j (by omega) hj (by simpa using hV k hk hv _ hm)
 have v0:=dn _ a (Nat.le_refl _) ha h0
 have up:∀ m k,rk k≤m->k < (ptG nrm n).1.length->V k:=λ m=>by
  induction m with
  | zero =>
   intro k hm hk
   rcases Nat.eq_zero_or_pos k with rfl | hp
   ·exact v0
   ·obtain ⟨j,hj,hr,_⟩:=hc k hp hk
    omega
  | succ m ih =>
   intro k hm hk
   rcases Nat.eq_zero_or_pos k with rfl | hp
   ·exact v0
   ·obtain ⟨j,hj,hr,hm⟩:=hc k hp hk
    have:=hV j hj (ih j (by omega) hj) _ ((aLB h hk hj).1 hm)
    simpa using this
 exact λ k hk=>up _ k (Nat.le_refl _) hk
end
structure GrdP (nrm:NrT) (n:Int):Prop where
 bq:BldQ nrm n
 ln:((ptG nrm n).1.length:Int)=10*n*n+2
 fn:FnN (ptG nrm n).1.length
 cn:∃ rk:Nat->Nat,∀ k,1≤k->k < (ptG nrm n).1.length->∃ j:Nat,j < (ptG nrm n).1.length∧rk j < rk k∧(j:Int) ∈ nb (pM nrm n) k
theorem GrdP.dis {nrm:NrT} {n a:Int} (h:GrdP nrm n) (ha:0≤a∧a < (ptG nrm n).1.length):DisP (ptG nrm n).1.length (ptG nrm n).1 (pM nrm n) a :=
 ⟨rfl,h.fn,aNg h.bq,λ k hk=>⟨(aLC h.bq hk).1,aV4 h.bq hk,(aLC h.bq hk).2⟩,ha,λ V h0 hV=>by
  obtain ⟨rk,hc⟩:=h.cn
  exact aNj h.bq rk hc (by omega) V h0 hV⟩
theorem GrdP.hop {nrm:NrT} {n a b:Int} (h:GrdP nrm n) (ha:0≤a∧a < (ptG nrm n).1.length) (hb:0≤b∧b < (ptG nrm n).1.length):HopP nrm n a b:=⟨h.bq,h.ln,h.dis ha,hb⟩
def rgB (l:List (Int × AV)) (N:Nat):Bool:=l.all λ p=>match p.2 with
 | .int _ z=>decide (0≤z)&&decide (z < N)
 | _=>false
theorem aCF:∀ (l:List (Int × AV)) (q:Int) (x:AV),oF l q=some x->∃ p ∈ l,p.2=x
 | [],q,x,h=>by simp [oF] at h
 | (k,y)::l,q,x,h=>by
  unfold oF at h
  cases hd:decide (k=q) with
  | true =>
   rw [hd] at h
   injection h with h
   exact ⟨_,aO,h⟩
  | false =>
   rw [hd] at h
   obtain ⟨p,hp,e⟩:=aCF l q x h
   exact ⟨p,aN _ hp,e⟩
theorem aQ1 {l:List (Int × AV)} {N:Nat} (h:rgB l N=true) (hN:1≤N) (q:Int):0≤vK l q∧vK l q < N:=by
 unfold vK
 cases hm:oF l q with
 | none=>simp only; omega
 | some x =>
  obtain ⟨p,hp,e⟩:=aCF l q x hm
  have:=List.all_eq_true.1 h p hp
  rw [e] at this
  cases x <;> first | (simp only [Bool.false_eq_true] at this) | skip
  simp only [aC,decide_eq_true_eq] at this
  exact this
def aXo (l:LL):Bool:=match l with
 | x::l=>l.any λ y=>decide (nI x 0=nI y 0)&&decide (nI x 1=nI y 1)
 | []=>false
theorem aOQ {l:LL} (ho:∀ r ∈ l,okR 2 r=true) (h:aXo l=true):¬ l.Nodup:=by
 match l,ho,h with
 | x::l,ho,h =>
  obtain ⟨y,hy,e⟩:=List.any_eq_true.1 h
  simp only [aC,decide_eq_true_eq] at e
  have:x=y:=by rw [(ok2 (ho x aO)).1,(ok2 (ho y (aN _ hy))).1,e.1,e.2]
  intro hn
  rw [List.nodup_cons] at hn
  exact hn.1 (this ▸ hy)
def aPP (x:Int):List Int->List Int
 | []=>[x]
 | y::l=>if x≤y then x::y::l else y::aPP x l
def t3 (a b c:Int):List Int:=aPP a (aPP b (aPP c []))
theorem aJb (a b c:Int):t3 a b c=[a,b,c]∨t3 a b c=[a,c,b]∨t3 a b c=[b,a,c]∨t3 a b c=[b,c,a]∨t3 a b c=[c,a,b]∨t3 a b c=[c,b,a]:=by
 by_cases h1:b≤c <;> by_cases h2:a≤b <;> by_cases h3:a≤c <;> simp [t3,aPP,h1,h2,h3]
theorem aVn (a b c:Int) (i:Nat):s3 a b c i=(t3 a b c).getD i 0:=by
 have h1:=aE5 a b c
 have hp:([a,b,c].mergeSort λ x y=>decide (x≤y)).Perm [a,b,c]:=List.mergeSort_perm _ _
 have hs:([a,b,c].mergeSort λ x y=>decide (x≤y)).Pairwise (λ x y=>decide (x≤y)=true):=List.pairwise_mergeSort (le:=λ (x y:Int)=>decide (x≤y)) (λ _ _ _ h k=>decide_eq_true (Int.le_trans (of_decide_eq_true h) (of_decide_eq_true k))) (λ x y=>by simp only [Bool.or_eq_true,decide_eq_true_eq]; omega) _
 have ht:(t3 a b c).Perm [a,b,c]:=by
  rcases aJb a b c with e | e | e | e | e | e <;> rw [e]
  ·exact .cons _ (.swap ..)
  ·exact .swap ..
  ·exact (List.Perm.cons _ (.swap ..)).trans (.swap ..)
  ·exact (List.Perm.swap ..).trans (.cons _ (.swap ..))
  ·exact ((List.Perm.cons _ (.swap ..)).trans (.swap ..)).trans (.cons _ (.swap ..))
 have ho:(t3 a b c).Pairwise (λ x y=>decide (x≤y)=true):=by
  by_cases h1:b≤c <;> by_cases h2:a≤b <;> by_cases h3:a≤c <;> simp only [t3,aPP,h1,h2,h3,if_true,if_false]
  all_goals (simp only [List.pairwise_cons,List.mem_cons,List.not_mem_nil,or_false,forall_eq_or_imp,forall_eq,false_implies,implies_true,List.Pairwise.nil,and_true,decide_eq_true_eq]; omega)
 have e:([a,b,c].mergeSort λ x y=>decide (x≤y))=t3 a b c:=(hp.trans ht.symm).eq_of_pairwise (λ x y _ _ h k=>by have:=of_decide_eq_true h; have:=of_decide_eq_true k; omega) hs ho
 unfold s3
 rw [e]
def aPc (x y z:Int):List AV:=[.int .i64 ((t3 x y z).getD 0 0),.int .i64 ((t3 x y z).getD 1 0),.int .i64 ((t3 x y z).getD 2 0)]
theorem aTI:aPd=aPc:=by
 funext x y z
 simp only [aPd,aPc,aVn]
def aK1 (nrm:NrT) (l:List (Int × AV)) (f a b c f' a' b' c' f'' a'' b'' c'':Int):List AV:=aPc (atV nrm l f a b c) (atV nrm l f' a' b' c') (atV nrm l f'' a'' b'' c'')
theorem aTK:aBM=aK1:=by
 unfold aBM aK1
 rw [aTI]
def aPa (nrm:NrT) (l:List (Int × AV)) (h f a b c:Int):List AV:=aK1 nrm l f (a+h) b c f a (b+h) c f a b (c+h)
def aTL (nrm:NrT) (l:List (Int × AV)) (h f a b c:Int):List AV:=aK1 nrm l f (a+0) (b+0+h) (c+(0 - h)+h) f (a+0+h) (b+0) (c+(0 - h)+h) f (a+0+h) (b+0+h) (c+(0 - h))
def aPf (nrm:NrT) (l:List (Int × AV)) (h f a b c:Int):LL:=if h≤c then [aPa nrm l h f a b c,aTL nrm l h f a b c] else [aPa nrm l h f a b c]
theorem aTJ:kV=aPf:=by
 unfold kV aPf aK0 aUY aPa aTL
 rw [aTK]
def aXq (nrm:NrT) (l:List (Int × AV)) (n f a b:Int) (cs:LL):LL:=rY (λ b cs=>cs++aPf nrm l (hN n) f (a*hN n) (b*hN n) ((n - 1 - a - b)*hN n)) b (n - a) cs
def aXr (nrm:NrT) (l:List (Int × AV)) (n f a:Int) (cs:LL):LL:=rY (λ a cs=>aXq nrm l n f a 0 cs) a n cs
def aTG (nrm:NrT) (n:Int):LL:=rY (λ f cs=>aXr nrm (ptG nrm n).2 n f 0 cs) 0 20 []
theorem aTF (nrm:NrT) (n:Int):clG nrm n=aTG nrm n:=by
 unfold clG clF clA clB aTG aXr aXq
 rw [aTJ]
def rkN (R k:Nat):Nat:=(R >>> (4*k)) % 16
def aWK (R:Nat) (m:Nat) (e:List AV):Nat:=m ||| (if rkN R (nI e 0).toNat < rkN R (nI e 1).toNat then 1 <<< (nI e 1).toNat else 0) ||| (if rkN R (nI e 1).toNat < rkN R (nI e 0).toNat then 1 <<< (nI e 0).toNat else 0)
def aXU (R:Nat) (E:LL):Nat:=E.foldl (aWK R) 0
theorem aHS (R:Nat):∀ (E:LL) (m k:Nat),(E.foldl (aWK R) m).testBit k=true->m.testBit k=true∨∃ e ∈ E,(k=(nI e 1).toNat∧rkN R (nI e 0).toNat < rkN R (nI e 1).toNat)∨(k=(nI e 0).toNat∧rkN R (nI e 1).toNat < rkN R (nI e 0).toNat)
 | [],m,k,h=>.inl h
 | e::E,m,k,h=>by
  rcases aHS R E _ k h with h | ⟨e',he,h⟩
  ·unfold aWK at h
   simp only [Nat.testBit_or,Bool.or_eq_true] at h
   rcases h with (h | h) | h
   ·exact .inl h
   ·split at h
    ·rename_i q
     rw [Nat.one_shiftLeft,Nat.testBit_two_pow] at h
     exact .inr ⟨e,aO,.inl ⟨(of_decide_eq_true h).symm,q⟩⟩
    ·simp at h
   ·split at h
    ·rename_i q
     rw [Nat.one_shiftLeft,Nat.testBit_two_pow] at h
     exact .inr ⟨e,aO,.inr ⟨(of_decide_eq_true h).symm,q⟩⟩
    ·simp at h
  ·exact .inr ⟨e',aN _ he,h⟩
theorem aSD {n:Int} {N R M:Nat} (lo:1≤n) (hi:n≤4) (hl:(ptG nrm n).1.length=N) (hN:FnN N) (hn:(N:Int)=10*n*n+2) (hr:rgB (ptG nrm n).2 N=true) (hd:aXo (edL (aTG nrm n))=true) (hc:aXU R (edL (aTG nrm n))=M) (hm:((List.range N).all λ k=>Nat.beq k 0||M.testBit k)=true):GrdP nrm n:=by
 rw [← aTF] at hd hc
 subst hl
 have hb:1≤(ptG nrm n).1.length∧(ptG nrm n).1.length≤200:=by
  rcases n14 lo hi with rfl | rfl | rfl | rfl <;> omega
 have rg:=λ q=>aQ1 hr hb.1 q
 have h3:=rA hb.2 rg
 have p3:=bY (cf:=cf3) aLj (λ r hr=>(h3 r hr).ok)
 have h2:∀ q ∈ edL (clG nrm n),InR (ptG nrm n).1.length 2 q:=λ q hq=>by
  simp only [edL,List.mem_flatMap] at hq
  obtain ⟨r,hr,hq⟩:=hq
  exact qU hb.2 (h3 r hr) q hq
 have pe:(edL (dB nrm n)).Perm (edL (clG nrm n)):=List.Perm.flatMap_right _ p3
 have bq:BldQ nrm n:=⟨lo,hi,hb.1,hb.2,rg,aOP (λ r hr=>(h2 r (pe.mem_iff.1 hr)).ok) (λ h=>aOQ (λ r hr=>(h2 r hr).ok) hd (pe.nodup_iff.1 h))⟩
 refine ⟨bq,hn,hN,rkN R,λ k h1 hk=>?_⟩
 have hk':=List.all_eq_true.1 hm k (List.mem_range.2 hk)
 rw [show Nat.beq k 0=false by cases k with | zero=>omega | succ k=>rfl,Bool.false_or,← hc] at hk'
 rcases aHS R _ 0 k hk' with h | ⟨e,he,h⟩
 ·simp at h
 ·have hi:=h2 e he
  have a0:=hi.at_ 0 (by decide)
  have a1:=hi.at_ 1 (by decide)
  have ee:=(ok2 hi.ok).1
  rcases h with ⟨h,q⟩ | ⟨h,q⟩
  ·refine ⟨(nI e 0).toNat,by omega,by rw [h]; exact q,(sV bq hk _).2 (.inr ?_)⟩
   rw [h,Int.toNat_of_nonneg a0.1,Int.toNat_of_nonneg a1.1,← ee]; exact he
  ·refine ⟨(nI e 1).toNat,by omega,by rw [h]; exact q,(sV bq hk _).2 (.inl ?_)⟩
   rw [h,Int.toNat_of_nonneg a0.1,Int.toNat_of_nonneg a1.1,← ee]; exact he
set_option maxRecDepth 100000
theorem aKx:GrdP nrm 1:=aSD (N:=12) (R:=37598431154448) (M:=2 ^ 12 - 2) (by decide) (by decide) (by decide +kernel) ⟨by decide⟩ (by decide) (by decide +kernel) (by decide +kernel) (by decide +kernel) (by decide +kernel)
def uR (vld:Int->Int->Int->Int->Bool):Sp
 | [.agg [.int .i64 f,.int .i64 a,.int .i64 b,.int .i64 c]]=>some (True,.bool (vld f a b c))
 | _=>none
def uS (vld:Int->Int->Int->Int->Bool):Prop :=
 ∀ (gl:aX) (f a b c:Int),(IR9 f)∧(IR9 a)∧(IR9 b)∧(IR9 c)∧True->bif decide (0≤f) then bif decide (f < (20:Int)) then bif decide (0≤a) then bif decide (a≤(840:Int)) then bif decide (0≤b) then bif decide (b≤(840:Int)) then bif decide (0≤c) then bif decide (c≤(840:Int)) then bif decide (rng .i64 (a+b)) then bif decide (rng .i64 (a+b+c)) then decide (a+b+c=(840:Int))=vld f a b c else False else False else false=vld f a b c else false=vld f a b c else false=vld f a b c else false=vld f a b c else false=vld f a b c else false=vld f a b c else false=vld f a b c else false=vld f a b c
theorem aJX:uS vld:=by
 unfold uS
 intro gl f a b c h
 have hf:∀ {x:Bool},(¬ Vld f a b c->x=false)->(x=false->¬ Vld f a b c)->x=vld f a b c:=by
  intro x h1 h2
  unfold vld
  by_cases q:Vld f a b c
  ·rw [decide_eq_true q]; cases x with
   | true=>rfl
   | false=>exact absurd q (h2 rfl)
  ·rw [decide_eq_false q]; exact h1 q
 rw [tR] at hf
 repeat (first
  | refine cdI (by omega) ?_
  | refine cs (λ q=>?_) (λ q=>hf (λ _=>rfl) (λ _=>by omega)))
 refine hf (λ q=>decide_eq_false (by omega)) (λ q=>?_)
 have q:=of_decide_eq_false q
 omega
theorem aJW (vld:Int->Int->Int->Int->Bool):uS vld=(∀ (gl:aX) (f a b c:Int),fnK Tryz.prog { glob:=gl,spec:=lk [],specH:=lk [] } { nt:=52,drop:=drp [(1,4503599627370488)] } (λ _ _=>none) 6 Tryz.f120 [.agg [.int .i64 f,.int .i64 a,.int .i64 b,.int .i64 c]] (.bool (vld f a b c))):=by kernel_rfl
def aJV:=Eq.mp (aJW ..) (aJX)
theorem aFm (gl:aX):SOK Tryz.prog gl 120 (uR vld):=by
 refine ⟨fok Tryz.func120 (by kernel_rfl) (by kernel_rfl),?_⟩
 intro xs pre r h hp
 unfold uR at h
 split at h
 ·cases h
  exact aT bD (by exact aV rfl rfl trivial trivial) (by kernel_rfl) Tryz.func120 rfl (aJV gl _ _ _ _)
 ·cases h
def w64 (x:Int):Int:=IntKind.i64.wrap x
theorem aLg {x:Int} (h:-9223372036854775808≤x∧x≤9223372036854775807):w64 x=x:=iK (k:=.i64) h
theorem aHo {n:Int} (h:0≤n∧n < 20):n=0∨n=1∨n=2∨n=3∨n=4∨n=5∨n=6∨n=7∨n=8∨n=9∨n=10∨n=11∨n=12∨n=13∨n=14∨n=15∨n=16∨n=17∨n=18∨n=19:=by omega
def jS (fac:Int->Bool) (crn:Int->Nat->Int):Sp
 | [.int .i64 n]=>some (True,.tup [.agg [.int .i64 (if fac n then crn n 0 else 0),.int .i64 (if fac n then crn n 1 else 0),.int .i64 (if fac n then crn n 2 else 0)],.int .i64 (if fac n then 0 else 1)])
 | _=>none
def mO (fac:Int->Bool) (crn:Int->Nat->Int):Prop :=
 ∀ (gl:aX) (n:Int),IR9 n->bif decide (n < (0:Int)) then (((0:Int)=if fac n=true then crn n 0 else (0:Int))∧((0:Int)=if fac n=true then crn n 1 else (0:Int))∧((0:Int)=if fac n=true then crn n 2 else (0:Int))∧True)∧((1:Int)=if fac n=true then (0:Int) else (1:Int))∧True else bif decide (20≤n) then (((0:Int)=if fac n=true then crn n 0 else (0:Int))∧((0:Int)=if fac n=true then crn n 1 else (0:Int))∧((0:Int)=if fac n=true then crn n 2 else (0:Int))∧True)∧((1:Int)=if fac n=true then (0:Int) else (1:Int))∧True else bif decide (rng .i64 (n.tmod 5+(1:Int))) then bif decide (rng .i64 (n.tdiv 5)) then bif decide (n.tdiv 5=0) then bif decide (rng .i64 ((1:Int)+n.tmod 5)) then bif decide (rng .i64 ((1:Int)+(n.tmod 5+(1:Int)).tmod 5)) then (((0:Int)=if fac n=true then crn n 0 else (0:Int))∧((1:Int)+n.tmod 5=if fac n=true then crn n 1 else (0:Int))∧((1:Int)+(n.tmod 5+(1:Int)).tmod 5=if fac n=true then crn n 2 else (0:Int))∧True)∧((0:Int)=if fac n=true then (0:Int) else (1:Int))∧True else False else False else bif decide (n.tdiv 5=1) then bif decide (rng .i64 ((1:Int)+n.tmod 5)) then bif decide (rng .i64 ((6:Int)+n.tmod 5)) then bif decide (rng .i64 ((1:Int)+(n.tmod 5+(1:Int)).tmod 5)) then (((1:Int)+n.tmod 5=if fac n=true then crn n 0 else (0:Int))∧((6:Int)+n.tmod 5=if fac n=true then crn n 1 else (0:Int))∧((1:Int)+(n.tmod 5+(1:Int)).tmod 5=if fac n=true then crn n 2 else (0:Int))∧True)∧((0:Int)=if fac n=true then (0:Int) else (1:Int))∧True else False else False else False else bif decide (n.tdiv 5=2) then bif decide (rng .i64 ((6:Int)+n.tmod 5)) then bif decide (rng .i64 ((6:Int)+(n.tmod 5+(1:Int)).tmod 5)) then bif decide (rng .i64 ((1:Int)+(n.tmod 5+(1:Int)).tmod 5)) then (((6:Int)+n.tmod 5=if fac n=true then crn n 0 else (0:Int))∧((6:Int)+(n.tmod 5+(1:Int)).tmod 5=if fac n=true then crn n 1 else (0:Int))∧((1:Int)+(n.tmod 5+(1:Int)).tmod 5=if fac n=true then crn n 2 else (0:Int))∧True)∧((0:Int)=if fac n=true then (0:Int) else (1:Int))∧True else False else False else False else bif decide (rng .i64 ((6:Int)+(n.tmod 5+(1:Int)).tmod 5)) then bif decide (rng .i64 ((6:Int)+n.tmod 5)) then (((11:Int)=if fac n=true then crn n 0 else (0:Int))∧((6:Int)+(n.tmod 5+(1:Int)).tmod 5=if fac n=true then crn n 1 else (0:Int))∧((6:Int)+n.tmod 5=if fac n=true then crn n 2 else (0:Int))∧True)∧((0:Int)=if fac n=true then (0:Int) else (1:Int))∧True else False else False else False else False
theorem aDI:mO fac crn:=by
 unfold mO
 intro gl n hn
 refine cs (λ h=>?_) (λ h1=>cs (λ h=>?_) (λ h2=>?_))
 ·have:fac n=false:=decide_eq_false (by omega)
  rw [this]; exact ⟨⟨rfl,rfl,rfl,trivial⟩,rfl,trivial⟩
 ·have:fac n=false:=decide_eq_false (by omega)
  rw [this]; exact ⟨⟨rfl,rfl,rfl,trivial⟩,rfl,trivial⟩
 have:fac n=true:=decide_eq_true (by omega)
 rw [this]
 rcases aHo (n:=n) (by omega) with rfl | rfl | rfl | rfl | rfl | rfl | rfl | rfl | rfl | rfl | rfl | rfl | rfl | rfl | rfl | rfl | rfl | rfl | rfl | rfl
 all_goals
  repeat (first | refine cdI (by decide) ?_ | refine cd1 (by decide) ?_ | refine cd0 (by decide) ?_)
  exact ⟨⟨by decide,by decide,by decide,trivial⟩,rfl,trivial⟩
theorem aDH (fac:Int->Bool) (crn:Int->Nat->Int):mO fac crn=(∀ (gl:aX) (n:Int),fnK Tryz.prog { glob:=gl,spec:=lk [],specH:=lk [],nowf:=true } { nt:=50,drop:=drp [(1,1984),(2,4096),(3,24576),(4,229376),(5,262144),(6,2097152),(7,130023424),(8,268435456),(9,68182605824),(10,137438953472),(11,34909494181888),(12,1090715534753792)] } (λ _ _=>none) 6 Tryz.f155 [.int .i64 n] (.tup [.agg [.int .i64 (if fac n then crn n 0 else 0),.int .i64 (if fac n then crn n 1 else 0),.int .i64 (if fac n then crn n 2 else 0)],.int .i64 (if fac n then 0 else 1)])):=by kernel_rfl
def aDG:=Eq.mp (aDH ..) (aDI)
theorem pI (gl:aX):SOK Tryz.prog gl 155 (jS fac crn):=by
 refine ⟨fok Tryz.func155 (by kernel_rfl) (by kernel_rfl),?_⟩
 intro xs pre r h hp
 unfold jS at h
 split at h
 ·cases h
  exact aT bD (by exact aV rfl rfl trivial trivial) (by kernel_rfl) Tryz.func155 rfl (aDG gl _)
 ·cases h
def fM:Prop :=
 ∀ (gl:aX) (a b c:Int),aDo fcs λ f=>((IR9 f)∧(IR9 a)∧(IR9 b)∧(IR9 c)∧True->True∧wt f a b c 0=wt f a b c 0∧wt f a b c 1=wt f a b c 1∧wt f a b c 2=wt f a b c 2∧wt f a b c 3=wt f a b c 3∧wt f a b c 4=wt f a b c 4∧wt f a b c 5=wt f a b c 5∧wt f a b c 6=wt f a b c 6∧wt f a b c 7=wt f a b c 7∧wt f a b c 8=wt f a b c 8∧wt f a b c 9=wt f a b c 9∧wt f a b c 10=wt f a b c 10∧wt f a b c 11=wt f a b c 11∧True)
theorem xV:fM:=by
 unfold fM
 intro gl a b c
 repeat' (first | exact trivial | intro _ | rfl | apply And.intro)
def iS:Prop:=∀ (gl:aX) (a b c:Int),aDo fcs λ f=>fnK Tryz.prog { glob:=gl,spec:=lk [(155,jS fac crn)],nowf:=true } { nt:=28 } (λ _ _=>none) 6 Tryz.f121 [.agg [.int .i64 f,.int .i64 a,.int .i64 b,.int .i64 c]] (.agg [.int .i64 (wt f a b c 0),.int .i64 (wt f a b c 1),.int .i64 (wt f a b c 2),.int .i64 (wt f a b c 3),.int .i64 (wt f a b c 4),.int .i64 (wt f a b c 5),.int .i64 (wt f a b c 6),.int .i64 (wt f a b c 7),.int .i64 (wt f a b c 8),.int .i64 (wt f a b c 9),.int .i64 (wt f a b c 10),.int .i64 (wt f a b c 11)])
theorem xU:fM=iS:=by kernel_rfl
theorem aDF:iS:=@Eq.mp (fM) (iS) (xU) (xV)
def uT:Prop :=
 ∀ (gl:aX) (w0 w1 w2 w3 w4 w5 w6 w7 w8 w9 w10 w11:Int),aDo fcs λ n=>(IR9 n->(IR9 w0)∧(IR9 w1)∧(IR9 w2)∧(IR9 w3)∧(IR9 w4)∧(IR9 w5)∧(IR9 w6)∧(IR9 w7)∧(IR9 w8)∧(IR9 w9)∧(IR9 w10)∧(IR9 w11)∧True->True∧(n=n∧sel [w0,w1,w2,w3,w4,w5,w6,w7,w8,w9,w10,w11] (crn n 0)=sel [w0,w1,w2,w3,w4,w5,w6,w7,w8,w9,w10,w11] (crn n 0)∧sel [w0,w1,w2,w3,w4,w5,w6,w7,w8,w9,w10,w11] (crn n 1)=sel [w0,w1,w2,w3,w4,w5,w6,w7,w8,w9,w10,w11] (crn n 1)∧sel [w0,w1,w2,w3,w4,w5,w6,w7,w8,w9,w10,w11] (crn n 2)=sel [w0,w1,w2,w3,w4,w5,w6,w7,w8,w9,w10,w11] (crn n 2)∧True)∧decide (IntKind.i64.wrap (IntKind.i64.wrap (sel [w0,w1,w2,w3,w4,w5,w6,w7,w8,w9,w10,w11] (crn n 0)+sel [w0,w1,w2,w3,w4,w5,w6,w7,w8,w9,w10,w11] (crn n 1))+sel [w0,w1,w2,w3,w4,w5,w6,w7,w8,w9,w10,w11] (crn n 2))=840)=decide (IntKind.i64.wrap (IntKind.i64.wrap (sel [w0,w1,w2,w3,w4,w5,w6,w7,w8,w9,w10,w11] (crn n 0)+sel [w0,w1,w2,w3,w4,w5,w6,w7,w8,w9,w10,w11] (crn n 1))+sel [w0,w1,w2,w3,w4,w5,w6,w7,w8,w9,w10,w11] (crn n 2))=840)∧True)
theorem aM0:uT:=by
 unfold uT
 intro gl w0 w1 w2 w3 w4 w5 w6 w7 w8 w9 w10 w11
 repeat' (first | exact trivial | intro _ | rfl | apply And.intro)
def aAF:Prop:=∀ (gl:aX) (w0 w1 w2 w3 w4 w5 w6 w7 w8 w9 w10 w11:Int),aDo fcs λ n=>fnK Tryz.prog { glob:=gl,spec:=lk [(155,jS fac crn)],nowf:=true,wrap:=true } { nt:=38 } (λ _ _=>none) 6 Tryz.f122 [.int .i64 n,.agg [.int .i64 w0,.int .i64 w1,.int .i64 w2,.int .i64 w3,.int .i64 w4,.int .i64 w5,.int .i64 w6,.int .i64 w7,.int .i64 w8,.int .i64 w9,.int .i64 w10,.int .i64 w11]] (.tup [.agg [.int .i64 n,.int .i64 (sel [w0,w1,w2,w3,w4,w5,w6,w7,w8,w9,w10,w11] (crn n 0)),.int .i64 (sel [w0,w1,w2,w3,w4,w5,w6,w7,w8,w9,w10,w11] (crn n 1)),.int .i64 (sel [w0,w1,w2,w3,w4,w5,w6,w7,w8,w9,w10,w11] (crn n 2))],.bool (decide (w64 (w64 ((sel [w0,w1,w2,w3,w4,w5,w6,w7,w8,w9,w10,w11] (crn n 0))+(sel [w0,w1,w2,w3,w4,w5,w6,w7,w8,w9,w10,w11] (crn n 1)))+(sel [w0,w1,w2,w3,w4,w5,w6,w7,w8,w9,w10,w11] (crn n 2)))=840))])
theorem aMZ:uT=aAF:=by kernel_rfl
theorem aVN:aAF:=@Eq.mp (uT) (aAF) (aMZ) (aM0)
def mN:Sp
 | [.agg [.int .i64 f,.int .i64 a,.int .i64 b,.int .i64 c]]=>some (0≤f∧f < 20,.agg [.int .i64 (wt f a b c 0),.int .i64 (wt f a b c 1),.int .i64 (wt f a b c 2),.int .i64 (wt f a b c 3),.int .i64 (wt f a b c 4),.int .i64 (wt f a b c 5),.int .i64 (wt f a b c 6),.int .i64 (wt f a b c 7),.int .i64 (wt f a b c 8),.int .i64 (wt f a b c 9),.int .i64 (wt f a b c 10),.int .i64 (wt f a b c 11)])
 | _=>none
def aMY:Sp
 | [.int .i64 n,.agg [.int .i64 w0,.int .i64 w1,.int .i64 w2,.int .i64 w3,.int .i64 w4,.int .i64 w5,.int .i64 w6,.int .i64 w7,.int .i64 w8,.int .i64 w9,.int .i64 w10,.int .i64 w11]]=>some (0≤n∧n < 20,.tup [.agg [.int .i64 n,.int .i64 (sel [w0,w1,w2,w3,w4,w5,w6,w7,w8,w9,w10,w11] (crn n 0)),.int .i64 (sel [w0,w1,w2,w3,w4,w5,w6,w7,w8,w9,w10,w11] (crn n 1)),.int .i64 (sel [w0,w1,w2,w3,w4,w5,w6,w7,w8,w9,w10,w11] (crn n 2))],.bool (decide (w64 (w64 ((sel [w0,w1,w2,w3,w4,w5,w6,w7,w8,w9,w10,w11] (crn n 0))+(sel [w0,w1,w2,w3,w4,w5,w6,w7,w8,w9,w10,w11] (crn n 1)))+(sel [w0,w1,w2,w3,w4,w5,w6,w7,w8,w9,w10,w11] (crn n 2)))=840))])
 | _=>none
theorem aAE (gl:aX):SOK Tryz.prog gl 121 mN:=by
 refine ⟨fok Tryz.func121 (by kernel_rfl) (by kernel_rfl),?_⟩
 intro xs pre r h hp
 unfold mN at h
 split at h
 ·cases h
  exact aT bD (by exact aV (l':=[]) rfl rfl ⟨pI gl,trivial⟩ trivial) (by kernel_rfl) Tryz.func121 rfl (fS (aDF _ _ _ _) (fW hp))
 ·cases h
theorem aQ7 (gl:aX):SOK Tryz.prog gl 122 aMY:=by
 refine ⟨fok Tryz.func122 (by kernel_rfl) (by kernel_rfl),?_⟩
 intro xs pre r h hp
 unfold aMY at h
 split at h
 ·cases h
  exact aT bD (by exact aV (l':=[]) rfl rfl ⟨pI gl,trivial⟩ trivial) (by kernel_rfl) Tryz.func122 rfl (fS (aVN _ _ _ _ _ _ _ _ _ _ _ _ _) (fW hp))
 ·cases h
theorem aRs {f a b c n:Int} (hv:Vld f a b c) (hn:0≤n∧n < 20):decide (w64 (w64 (onW f a b c n 0+onW f a b c n 1)+onW f a b c n 2)=840)=onV f a b c n:=by
 have hb:∀ v,0≤wt f a b c v∧wt f a b c v≤840:=by
  intro v
  obtain ⟨_,ha,hb,hc,_⟩:=hv
  unfold wt
  split
  ·exact hc
  ·split
   ·exact hb
   ·split
    ·exact ha
    ·omega
 have h0:0≤onW f a b c n 0∧onW f a b c n 0≤840:=hb _
 have h1:0≤onW f a b c n 1∧onW f a b c n 1≤840:=hb _
 have h2:0≤onW f a b c n 2∧onW f a b c n 2≤840:=hb _
 unfold onV vld
 rw [aLg (x:=onW f a b c n 0+onW f a b c n 1) (by omega),aLg (by omega)]
 refine decide_eq_decide.2 ?_
 rw [tR]
 exact ⟨λ h=>⟨hn,h0,h1,h2,h⟩,λ h=>h.2.2.2.2⟩
def aPx (f a b c:Int):LInv:=⟨Int × LL,λ x=>⟨[(4,.ptr 4 0),(5,.rw 500 4 x.2.length),(6,.int .i64 x.1)],[(4,.cells [.int .i64 (wt f a b c 0),.int .i64 (wt f a b c 1),.int .i64 (wt f a b c 2),.int .i64 (wt f a b c 3),.int .i64 (wt f a b c 4),.int .i64 (wt f a b c 5),.int .i64 (wt f a b c 6),.int .i64 (wt f a b c 7),.int .i64 (wt f a b c 8),.int .i64 (wt f a b c 9),.int .i64 (wt f a b c 10),.int .i64 (wt f a b c 11)]),(500,.row 27 4 x.2)]⟩,
 AdrP f a b c,λ x=>(20 - x.1).toNat,none⟩
def iT (vld:Int->Int->Int->Int->Bool) (adr:Int->Int->Int->Int->LL):Sp
 | [.agg [.int .i64 f,.int .i64 a,.int .i64 b,.int .i64 c]]=>some (True,.tup [.sl 4 false (adr f a b c),.int .i64 (err (vld f a b c))])
 | _=>none
abbrev fN (f:Int) (a:Int) (b:Int) (c:Int):=(wt f a b c 0=wt f a b c 0∧wt f a b c 1=wt f a b c 1∧wt f a b c 2=wt f a b c 2∧wt f a b c 3=wt f a b c 3∧wt f a b c 4=wt f a b c 4∧wt f a b c 5=wt f a b c 5∧wt f a b c 6=wt f a b c 6∧wt f a b c 7=wt f a b c 7∧wt f a b c 8=wt f a b c 8∧wt f a b c 9=wt f a b c 9∧wt f a b c 10=wt f a b c 10∧wt f a b c 11=wt f a b c 11∧True)
abbrev eI (f:Int) (a:Int) (b:Int) (c:Int) (x1:Int × LL):=(sel [wt f a b c 0,wt f a b c 1,wt f a b c 2,wt f a b c 3,wt f a b c 4,wt f a b c 5,wt f a b c 6,wt f a b c 7,wt f a b c 8,wt f a b c 9,wt f a b c 10,wt f a b c 11] (crn x1.1 0))
abbrev eH (f:Int) (a:Int) (b:Int) (c:Int) (x1:Int × LL):=(sel [wt f a b c 0,wt f a b c 1,wt f a b c 2,wt f a b c 3,wt f a b c 4,wt f a b c 5,wt f a b c 6,wt f a b c 7,wt f a b c 8,wt f a b c 9,wt f a b c 10,wt f a b c 11] (crn x1.1 1))
abbrev eG (f:Int) (a:Int) (b:Int) (c:Int) (x1:Int × LL):=(sel [wt f a b c 0,wt f a b c 1,wt f a b c 2,wt f a b c 3,wt f a b c 4,wt f a b c 5,wt f a b c 6,wt f a b c 7,wt f a b c 8,wt f a b c 9,wt f a b c 10,wt f a b c 11] (crn x1.1 2))
def iU (vld':Int->Int->Int->Int->Bool) (adr:Int->Int->Int->Int->LL):Prop :=
 ∀ (gl:aX) (f a b c:Int),(IR9 f)∧(IR9 a)∧(IR9 b)∧(IR9 c)∧True->True∧bif !vld f a b c then adr f a b c=[]∧(1:Int)=err (vld' f a b c)∧True else (0≤f∧f < (20:Int))∧(∃ x,AdrP f a b c x∧((0:Nat)=0∧(0:Nat)=x.2.length∧(0:Int)=x.1∧True)∧(fN f a b c)∧[]=x.2∧True)∧∀ (x1:Int × LL),AdrP f a b c x1->bif decide (x1.1 < (20:Int)) then (0≤x1.1∧x1.1 < (20:Int))∧bif decide (w64 (w64 (sel [wt f a b c 0,wt f a b c 1,wt f a b c 2,wt f a b c 3,wt f a b c 4,wt f a b c 5,wt f a b c 6,wt f a b c 7,wt f a b c 8,wt f a b c 9,wt f a b c 10,wt f a b c 11] (crn x1.1 0)+sel [wt f a b c 0,wt f a b c 1,wt f a b c 2,wt f a b c 3,wt f a b c 4,wt f a b c 5,wt f a b c 6,wt f a b c 7,wt f a b c 8,wt f a b c 9,wt f a b c 10,wt f a b c 11] (crn x1.1 1))+sel [wt f a b c 0,wt f a b c 1,wt f a b c 2,wt f a b c 3,wt f a b c 4,wt f a b c 5,wt f a b c 6,wt f a b c 7,wt f a b c 8,wt f a b c 9,wt f a b c 10,wt f a b c 11] (crn x1.1 2))=(840:Int)) then bif decide (x1.2.length=x1.2.length∧x1.2.length+[[AV.int .i64 x1.1,.int .i64 (eI f a b c x1),.int .i64 (eH f a b c x1),.int .i64 (eG f a b c x1)]].length≤(9223372036854775807:Nat)∧(x1.2.length+[[AV.int .i64 x1.1,.int .i64 (eI f a b c x1),.int .i64 (eH f a b c x1),.int .i64 (eG f a b c x1)]].length)*(32:Nat)≤(140737488355328:Nat)) then bif decide (rng .i64 (x1.1+(1:Int))) then ∃ y,AdrP f a b c y∧(aPx f a b c).m y < (aPx f a b c).m x1∧((0:Nat)=0∧(x1.2++[[AV.int .i64 x1.1,.int .i64 (eI f a b c x1),.int .i64 (eH f a b c x1),.int .i64 (eG f a b c x1)]]).length=y.2.length∧x1.1+(1:Int)=y.1∧True)∧(fN f a b c)∧x1.2++[[AV.int .i64 x1.1,.int .i64 (eI f a b c x1),.int .i64 (eH f a b c x1),.int .i64 (eG f a b c x1)]]=y.2∧True else False else False else bif decide (rng .i64 (x1.1+(1:Int))) then ∃ y,AdrP f a b c y∧(aPx f a b c).m y < (aPx f a b c).m x1∧((0:Nat)=0∧x1.2.length=y.2.length∧x1.1+(1:Int)=y.1∧True)∧(fN f a b c)∧x1.2=y.2∧True else False else bif decide (x1.2.length=x1.2.length) then (True∧x1.2=adr f a b c)∧(0:Int)=err (vld' f a b c)∧True else False
theorem xY:iU vld adr:=by
 unfold iU
 delta fN eI eH eG
 intro gl f a b c h
 refine ⟨trivial,?_⟩
 unfold adr err
 cases hv:vld f a b c with
 | false=>exact ⟨rfl,rfl,trivial⟩
 | true =>
  have v:Vld f a b c:=of_decide_eq_true hv
  refine ⟨v.face,⟨(0,[]),⟨by decide,by decide,rfl⟩,⟨rfl,rfl,rfl,trivial⟩,⟨rfl,rfl,rfl,rfl,rfl,rfl,rfl,rfl,rfl,rfl,rfl,rfl,trivial⟩,rfl,trivial⟩,?_⟩
  rintro ⟨n,xs⟩ ⟨h0,h1,hx⟩
  simp only at h0 h1 hx
  have hlen:=aIq f a b c n.toNat
  rw [← hx] at hlen
  refine dJ (λ hn=>?_) (λ hn=>?_)
  ·have hn:n < 20:=of_decide_eq_true hn
   obtain ⟨e0,e1,e2⟩:=aMx f a b c ⟨h0,hn⟩
   unfold wts at e0 e1 e2
   simp only [e0,e1,e2]
   refine ⟨⟨h0,hn⟩,?_⟩
   rw [aRs v ⟨h0,hn⟩]
   refine dJ (λ hv=>?_) (λ hv=>?_)
   ·have hv:onV f a b c n=true:=hv
    simp only [↓aHY,rng,aH]
    refine ⟨⟨by trivial,by omega,by omega⟩,by omega,(n+1,xs++[aFF f a b c n]),⟨by simp only; omega,by simp only; omega,?_⟩,by simp only [aPx]; omega,⟨by trivial,rfl,rfl,trivial⟩,?_,rfl,trivial⟩
    ·simp only; rw [aDq h0,if_pos hv,hx]
    ·repeat' (first | exact trivial | rfl | apply And.intro)
   ·have hv:onV f a b c n=false:=hv
    simp only [↓aHY,rng]
    refine ⟨by omega,(n+1,xs),⟨by simp only; omega,by simp only; omega,?_⟩,by simp only [aPx]; omega,⟨by trivial,by trivial,rfl,trivial⟩,?_,rfl,trivial⟩
    ·simp only; rw [aDq h0,if_neg (by rw [hv]; simp),hx]
    ·repeat' (first | exact trivial | rfl | apply And.intro)
  ·have hn:¬ n < 20:=of_decide_eq_false hn
   have:n=20:=by omega
   subst this
   simp only [↓aHY]
   exact ⟨by trivial,⟨trivial,by rw [hx]; rfl⟩,rfl,trivial⟩
theorem xX (vld:Int->Int->Int->Int->Bool) (adr:Int->Int->Int->Int->LL):iU vld adr=(∀ (gl:aX) (f a b c:Int),fnK Tryz.prog { glob:=gl,spec:=lk [(120,(uR Go.Proofs.YtgbbmadjdaphnaaGreatDoor.vld)),(121,mN),(122,aMY)],specH:=lk [],nowf:=true } { nt:=30,drop:=drp [(1,1536),(3,12288),(6,16384),(7,196608),(8,16515072),(10,503316480),(11,536870912)],emp:=λ id=>cond (Nat.beq id 5) [(5,500,27,4)] [] } (xH [(6,aPx f a b c)]) 6 Tryz.f73 [.agg [.int .i64 f,.int .i64 a,.int .i64 b,.int .i64 c]] (.tup [.sl 4 false (adr f a b c),.int .i64 (err (vld f a b c))])):=by kernel_rfl
def xW:=Eq.mp (xX ..) (xY)
theorem uU (gl:aX):SOK Tryz.prog gl 73 (iT vld adr):=by
 refine ⟨fok Tryz.func73 (by kernel_rfl) (by kernel_rfl),?_⟩
 intro xs pre r h hp
 unfold iT at h
 split at h
 ·cases h
  exact aT bD (by exact aV rfl rfl ⟨(aFm gl),(aAE gl),(aQ7 gl),trivial⟩ trivial) (by kernel_rfl) Tryz.func73 rfl (xW gl _ _ _ _)
 ·cases h
def lJ (vld:Int->Int->Int->Int->Bool) (adr:Int->Int->Int->Int->LL) (nrm:NrT):Sp
 | [.agg [.int .i64 f,.int .i64 a,.int .i64 b,.int .i64 c]]=>some (True,.tup [.agg [.int .i64 (nrm f a b c).1,.int .i64 (nrm f a b c).2.1,.int .i64 (nrm f a b c).2.2.1,.int .i64 (nrm f a b c).2.2.2],.int .i64 (err (vld f a b c))])
 | _=>none
def pH (vld:Int->Int->Int->Int->Bool) (adr:Int->Int->Int->Int->LL) (nrm:NrT):Prop :=
 ∀ (gl:aX) (f a b c:Int),(IR9 f)∧(IR9 a)∧(IR9 b)∧(IR9 c)∧True->True∧bif decide ¬err (vld f a b c)=(0:Int) then ((0:Int)=(nrm f a b c).1∧(0:Int)=(nrm f a b c).2.1∧(0:Int)=(nrm f a b c).2.2.1∧(0:Int)=(nrm f a b c).2.2.2∧True)∧err (vld f a b c)=err (vld f a b c)∧True else bif decide ((0:Int)≤(0:Int)∧(0:Int) < (↑(adr f a b c).length:Int)) then ∃ n n_1 n_2 n_3,List.take [AV.int .i64 n,.int .i64 n_1,.int .i64 n_2,.int .i64 n_3].length ((adr f a b c).getD 0 [])=[AV.int .i64 n,.int .i64 n_1,.int .i64 n_2,.int .i64 n_3]∧(n=(nrm f a b c).1∧n_1=(nrm f a b c).2.1∧n_2=(nrm f a b c).2.2.1∧n_3=(nrm f a b c).2.2.2∧True)∧(0:Int)=err (vld f a b c)∧True else False
theorem aFp:pH vld adr nrm:=by
 unfold pH
 intro gl f a b c h
 refine ⟨trivial,?_⟩
 cases hv:vld f a b c with
 | false =>
  have e:nrm f a b c=(0,0,0,0):=by unfold nrm; rw [hv]; rfl
  rw [e]
  exact cd1 (by decide) ⟨⟨rfl,rfl,rfl,rfl,trivial⟩,rfl,trivial⟩
 | true =>
  have v:Vld f a b c:=of_decide_eq_true hv
  obtain ⟨l,hl⟩:=aLb v
  have hh:=hl.head
  have hp:0 < l.length:=by
   cases l with
   | nil=>cases hh
   | cons x l=>simp
  have e0:(adr f a b c).getD 0 []=aXl (nrm f a b c):=by
   rw [hl.adr,aB,List.getElem?_map,hh]; rfl
  refine cd0 (by decide) (cd1 ⟨by decide,by rw [hl.adr,List.length_map]; omega⟩ ⟨_,_,_,_,by rw [e0]; rfl,⟨rfl,rfl,rfl,rfl,trivial⟩,rfl,trivial⟩)
theorem aFo (vld:Int->Int->Int->Int->Bool) (adr:Int->Int->Int->Int->LL) (nrm:NrT):pH vld adr nrm=(∀ (gl:aX) (f a b c:Int),fnK Tryz.prog { glob:=gl,spec:=lk [(73,(iT vld adr))],specH:=lk [],shape:=[17],nowf:=true } { nt:=18,drop:=drp [(1,1984),(2,2048),(3,24576),(4,229376)] } (λ _ _=>none) 6 Tryz.f31 [.agg [.int .i64 f,.int .i64 a,.int .i64 b,.int .i64 c]] (.tup [.agg [.int .i64 (nrm f a b c).1,.int .i64 (nrm f a b c).2.1,.int .i64 (nrm f a b c).2.2.1,.int .i64 (nrm f a b c).2.2.2],.int .i64 (err (vld f a b c))])):=by kernel_rfl
def aFn:=Eq.mp (aFo ..) (aFp)
theorem sQ (gl:aX):SOK Tryz.prog gl 31 (lJ vld adr nrm):=by
 refine ⟨fok Tryz.func31 (by kernel_rfl) (by kernel_rfl),?_⟩
 intro xs pre r h hp
 unfold lJ at h
 split at h
 ·cases h
  exact aT bD (by exact aV rfl rfl ⟨(uU gl),trivial⟩ trivial) (by kernel_rfl) Tryz.func31 rfl (aFn gl _ _ _ _)
 ·cases h
def isN (f a b c:Int):Bool:=vld f a b c&&(decide (f=(nrm f a b c).1)&&(decide (a=(nrm f a b c).2.1)&&(decide (b=(nrm f a b c).2.2.1)&&(decide (c=(nrm f a b c).2.2.2)&&true))))
def aFq (nrm:NrT) (vld:Int->Int->Int->Int->Bool) (isN:Int->Int->Int->Int->Bool):Sp
 | [.agg [.int .i64 f,.int .i64 a,.int .i64 b,.int .i64 c]]=>some (True,.bool (isN f a b c))
 | _=>none
def aFr (nrm:NrT) (vld:Int->Int->Int->Int->Bool) (isN:Int->Int->Int->Int->Bool) (adr:Int->Int->Int->Int->LL):Prop :=
 ∀ (gl:aX) (f a b c:Int),(IR9 f)∧(IR9 a)∧(IR9 b)∧(IR9 c)∧True->True∧bif decide (err (vld f a b c)=(0:Int)) then (decide (f=(nrm f a b c).1)&&(decide (a=(nrm f a b c).2.1)&&(decide (b=(nrm f a b c).2.2.1)&&(decide (c=(nrm f a b c).2.2.2)&&true))))=isN f a b c else false=isN f a b c
theorem aRa:aFr nrm vld isN adr:=by
 unfold aFr
 intro gl f a b c _
 refine ⟨trivial,?_⟩
 unfold isN
 cases vld f a b c with
 | true=>exact rfl
 | false=>exact rfl
theorem aQ9 (nrm:NrT) (vld:Int->Int->Int->Int->Bool) (isN:Int->Int->Int->Int->Bool) (adr:Int->Int->Int->Int->LL):aFr nrm vld isN adr=(∀ (gl:aX) (f a b c:Int),fnK Tryz.prog { glob:=gl,spec:=lk [(31,(lJ vld adr nrm))],specH:=lk [],nowf:=true } { nt:=17,drop:=drp [(1,992),(2,130048)],tys:=[27] } (λ _ _=>none) 6 Tryz.f210 [.agg [.int .i64 f,.int .i64 a,.int .i64 b,.int .i64 c]] (.bool (isN f a b c))):=by kernel_rfl
def aQ8:=Eq.mp (aQ9 ..) (aRa)
theorem aM1 (gl:aX):SOK Tryz.prog gl 210 (aFq nrm vld isN):=by
 refine ⟨fok Tryz.func210 (by kernel_rfl) (by kernel_rfl),?_⟩
 intro xs pre r h hp
 unfold aFq at h
 split at h
 ·cases h
  exact aT (aPI (by kernel_rfl)) (by exact aV rfl rfl ⟨(sQ gl),trivial⟩ trivial) (by kernel_rfl) Tryz.func210 rfl (aQ8 gl _ _ _ _)
 ·cases h
def eT (nrm:NrT):Sp
 | [.int .i64 n]=>some (BldQ nrm n,.tup [.sl 2 false (aS nrm n),.int .i64 0])
 | _=>none
def vT (nrm:NrT):Prop :=
 ∀ (n:Int),BldQ nrm n->IR9 n->True∧bif !decide (1≤n∧n≤(8:Int)) then aS nrm n=[]∧(1:Int)=(0:Int)∧True else BldQ nrm n∧(True∧aS nrm n=aS nrm n)∧(0:Int)=(0:Int)∧True
theorem aKB:vT nrm:=by
 unfold vT
 intro n hq
 intros
 have h1:=hq.lo
 have h4:=hq.hi
 rw [show decide (1≤n∧n≤8)=true from decide_eq_true (by omega)]
 exact ⟨trivial,hq,by repeat' first|exact trivial|exact rfl|assumption|apply And.intro⟩
theorem aKA (nrm:NrT):vT nrm=(∀ (n:Int),BldQ nrm n->fnK Tryz.prog { glob:=glb,spec:=lk [(36,vF)],specH:=lk [(43,(aGn nrm))],nowf:=true } { nt:=12,drop:=drp [(1,48),(3,3968)] } (λ _ _=>none) 6 Tryz.f58 [.int .i64 n] (.tup [.sl 2 false (aS nrm n),.int .i64 0])):=by kernel_rfl
def aKz:=Eq.mp (aKA ..) (aKB)
theorem eK:SOK Tryz.prog glb 58 (eT nrm):=by
 refine ⟨fok Tryz.func58 (by kernel_rfl) (by kernel_rfl),?_⟩
 intro xs pre r h hp
 unfold eT at h
 split at h
 ·cases h
  exact aT bD (by exact aV rfl rfl ⟨(aCC glb),trivial⟩ ⟨(aNO),trivial⟩) (by kernel_rfl) Tryz.func58 rfl (aKz  _ hp)
 ·cases h
def inB (lo hi v:Int):Bool:=decide (lo≤v∧v≤hi)
def vV:Sp
 | [.int .i64 n,.int .i64 lo,.int .i64 hi]=>some (True,.bool (inB lo hi n))
 | _=>none
def aBi:Prop :=
 ∀ (gl:aX) (n lo hi:Int),IR9 n->IR9 lo->IR9 hi->bif decide (lo≤n) then decide (n≤hi)=inB lo hi n else false=inB lo hi n
theorem aOl:aBi:=by
 unfold aBi
 intro gl n lo hi
 intros
 unfold inB
 refine csp (λ h=>?_) (λ h=>?_)
 ·exact decide_eq_decide.2 ⟨λ q=>⟨h,q⟩,λ q=>q.2⟩
 ·exact (decide_eq_false (λ q=>h q.1)).symm
theorem aOk:aBi=(∀ (gl:aX) (n lo hi:Int),fnK Tryz.prog { glob:=gl,spec:=lk [],specH:=lk [] } { nt:=15,drop:=drp [(1,32640)] } (λ _ _=>none) 6 Tryz.f118 [.int .i64 n,.int .i64 lo,.int .i64 hi] (.bool (inB lo hi n))):=by kernel_rfl
def aOj:=Eq.mp (aOk ..) (aOl)
theorem aCV (gl:aX):SOK Tryz.prog gl 118 vV:=by
 refine ⟨fok Tryz.func118 (by kernel_rfl) (by kernel_rfl),?_⟩
 intro xs pre r h hp
 unfold vV at h
 split at h
 ·cases h
  exact aT bD (by exact aV rfl rfl trivial trivial) (by kernel_rfl) Tryz.func118 rfl (aOj gl _ _ _)
 ·cases h
def aAi:Sp
 | [.int .i64 n,.int .i64 lo,.int .i64 hi]=>some (True,.bool (inB lo hi n))
 | _=>none
def aAj:Prop :=
 ∀ (gl:aX) (n lo hi:Int),IR9 n->IR9 lo->IR9 hi->bif decide (lo≤n) then decide (n≤hi)=inB lo hi n else false=inB lo hi n
theorem aMb:aAj:=by
 unfold aAj
 intro gl n lo hi
 intros
 unfold inB
 refine csp (λ h=>?_) (λ h=>?_)
 ·exact decide_eq_decide.2 ⟨λ q=>⟨h,q⟩,λ q=>q.2⟩
 ·exact (decide_eq_false (λ q=>h q.1)).symm
theorem aMa:aAj=(∀ (gl:aX) (n lo hi:Int),fnK Tryz.prog { glob:=gl,spec:=lk [],specH:=lk [] } { nt:=15,drop:=drp [(1,32640)] } (λ _ _=>none) 6 Tryz.f69 [.int .i64 n,.int .i64 lo,.int .i64 hi] (.bool (inB lo hi n))):=by kernel_rfl
def aL9:=Eq.mp (aMa ..) (aMb)
theorem aI6 (gl:aX):SOK Tryz.prog gl 69 aAi:=by
 refine ⟨fok Tryz.func69 (by kernel_rfl) (by kernel_rfl),?_⟩
 intro xs pre r h hp
 unfold aAi at h
 split at h
 ·cases h
  exact aT bD (by exact aV rfl rfl trivial trivial) (by kernel_rfl) Tryz.func69 rfl (aL9 gl _ _ _)
 ·cases h
def aBo (inB:Int->Int->Int->Bool):SpH
 | [.int .i64 v,.ptr 0 0,.ptr 1 0],[.cells [.int .i64 lo],.cells [.int .i64 hi]]=>some (True,.bool (!inB lo hi v),[.cells [.int .i64 lo],.cells [.int .i64 hi]])
 | _,_=>none
def aBp (inB:Int->Int->Int->Bool):Prop :=
 ∀ (gl:aX) (v lo hi:Int),IR9 v->True->True->IR9 lo->IR9 hi->True∧(!YtgbbmadjdaphnaaGreatDoor.inB lo hi v)=!inB lo hi v∧(lo=lo∧True)∧(hi=hi∧True)∧True
theorem aOt:aBp inB:=by
 unfold aBp
 intro gl v lo hi
 intros
 (repeat' (first | exact trivial | exact rfl | assumption | apply And.intro))
theorem aOs (inB:Int->Int->Int->Bool):aBp inB=(∀ (gl:aX) (v lo hi:Int),fnH Tryz.prog { glob:=gl,spec:=lk [(118,vV)],specH:=lk [],nowf:=true } { nt:=10,drop:=drp [(1,992)],fr:=1000,kp:=[0,1] } (λ _ _=>none) 6 Tryz.f150 [.int .i64 v,.ptr 0 0,.ptr 1 0] [.cells [.int .i64 lo],.cells [.int .i64 hi]] (.bool (!inB lo hi v)) [.cells [.int .i64 lo],.cells [.int .i64 hi]]):=by kernel_rfl
def aOr:=Eq.mp (aOs ..) (aOt)
theorem aKG (gl:aX):HOK Tryz.prog gl 150 (aBo inB):=by
 refine ⟨fok Tryz.func150 (by kernel_rfl) (by kernel_rfl),?_⟩
 intro xs bs pre r bs2 h hp
 unfold aBo at h
 split at h
 ·cases h
  exact bC bD (by exact aV rfl rfl ⟨(aCV gl),trivial⟩ trivial) (by kernel_rfl) Tryz.func150 (aOr gl _ _ _)
 ·cases h
def aAk (inB:Int->Int->Int->Bool):SpH
 | [.int .i64 v,.ptr 0 0],[.cells [.int .i64 m]]=>some (-9000000000000000000≤m∧m≤9000000000000000000,.bool (!inB (-m) m v),[.cells [.int .i64 m]])
 | _,_=>none
def aAl (inB:Int->Int->Int->Bool):Prop :=
 ∀ (gl:aX) (v m:Int),(-9000000000000000000:Int)≤m∧m≤(9000000000000000000:Int)->IR9 v->True->IR9 m->bif decide (rng IntKind.i64 ((0:Int) - m)) then True∧(!YtgbbmadjdaphnaaGreatDoor.inB ((0:Int) - m) m v)=!inB (-m) m v∧(m=m∧True)∧True else False
theorem aMf:aAl inB:=by
 unfold aAl
 intro gl v m hm
 intros
 exact cdI (by omega) (by rw [Int.zero_sub]; (repeat' (first | exact trivial | exact rfl | assumption | apply And.intro)))
theorem aMe (inB:Int->Int->Int->Bool):aAl inB=(∀ (gl:aX) (v m:Int),-9000000000000000000≤m∧m≤9000000000000000000->fnH Tryz.prog { glob:=gl,spec:=lk [(69,aAi)],specH:=lk [],nowf:=true } { nt:=10,drop:=drp [(1,1008)],fr:=1000,kp:=[0] } (λ _ _=>none) 6 Tryz.f117 [.int .i64 v,.ptr 0 0] [.cells [.int .i64 m]] (.bool (!inB (-m) m v)) [.cells [.int .i64 m]]):=by kernel_rfl
def aMd:=Eq.mp (aMe ..) (aMf)
theorem aI7 (gl:aX):HOK Tryz.prog gl 117 (aAk inB):=by
 refine ⟨fok Tryz.func117 (by kernel_rfl) (by kernel_rfl),?_⟩
 intro xs bs pre r bs2 h hp
 unfold aAk at h
 split at h
 ·cases h
  exact bC bD (by exact aV rfl rfl ⟨(aI6 gl),trivial⟩ trivial) (by kernel_rfl) Tryz.func117 (aMd gl _ _ hp)
 ·cases h
def nS (lo hi:Int):List Int->Nat->Int
 | [],_=>-1
 | z::l,j=>if inB lo hi z=true then nS lo hi l (j+1) else (j:Int)
def outB (lo hi:Int) (l:List Int):Bool:=l.any λ v=>!inB lo hi v
theorem aAS (lo hi:Int):∀ (l:List Int) (j:Nat),decide (0≤nS lo hi l j)=outB lo hi l
 | [],j=>by simp [nS,outB]
 | z::l,j=>by
  unfold nS outB
  rw [List.any_cons]
  cases h:inB lo hi z with
  | true=>rw [if_pos rfl]; simpa [outB] using aAS lo hi l (j+1)
  | false=>simp
structure OixP (lo hi:Int) (zs:List Int) (i:Int):Prop where
 l0:0≤i
 h0:i≤zs.length
 eq:nS lo hi zs 0=nS lo hi (zs.drop i.toNat) i.toNat
def oiF (f:Bool) (zs:List Int) (lo hi:Int):LInv:=⟨Int,λ i=>⟨[(0,.sl 1 f (aP zs)),(1,.fn 150 [.ptr 0 0,.ptr 1 0]),(7,.int .i64 zs.length),(8,.int .i64 i)],[(0,.cells [.int .i64 lo]),(1,.cells [.int .i64 hi])]⟩,OixP lo hi zs,λ i=>(zs.length - i).toNat,none⟩
def oiT (f:Bool) (zs:List Int) (m:Int):LInv:=⟨Int,λ i=>⟨[(0,.sl 1 f (aP zs)),(1,.fn 117 [.ptr 0 0]),(7,.int .i64 zs.length),(8,.int .i64 i)],[(0,.cells [.int .i64 m])]⟩,OixP (-m) m zs,λ i=>(zs.length - i).toNat,none⟩
def aHk (inB:Int->Int->Int->Bool):SpH
 | [.sl 1 f ys,.fn 150 [.ptr 0 0,.ptr 1 0]],[.cells [.int .i64 lo],.cells [.int .i64 hi]]=>some (ys=aP (aQ ys)∧ys.length≤1000000,.int .i64 (nS lo hi (aQ ys) 0),[.cells [.int .i64 lo],.cells [.int .i64 hi]])
 | _,_=>none
def aHl (inB:Int->Int->Int->Bool):Prop :=
 ∀ (gl:aX) (f:Bool) (ys:LL) (lo hi:Int),ys=aP (aQ ys)∧ys.length≤(1000000:Nat)->True->True->IR9 lo->IR9 hi->(∃ x,OixP lo hi (aQ ys) x∧(((bif f then f=true else True)∧ys=aP (aQ ys))∧((0:Nat)=(0:Nat)∧(0:Nat)=(0:Nat)∧True)∧(↑ys.length:Int)=(↑(aQ ys).length:Int)∧(0:Int)=x∧True)∧(lo=lo∧True)∧(hi=hi∧True)∧True)∧∀ (x1:Int),OixP lo hi (aQ ys) x1->bif decide (x1 < (↑(aQ ys).length:Int)) then bif decide (0≤x1∧x1 < (↑(aP (aQ ys)).length:Int)) then ∃ n,List.take [I6 n].length ((aP (aQ ys)).getD x1.toNat [])=[I6 n]∧True∧bif !inB lo hi n then x1=nS lo hi (aQ ys) 0∧(lo=lo∧True)∧(hi=hi∧True)∧True else bif decide (rng IntKind.i64 (x1+(1:Int))) then ∃ y,OixP lo hi (aQ ys) y∧(oiF f (aQ ys) lo hi).m y < (oiF f (aQ ys) lo hi).m x1∧(((bif f then f=true else True)∧aP (aQ ys)=aP (aQ ys))∧((0:Nat)=(0:Nat)∧(0:Nat)=(0:Nat)∧True)∧(↑(aQ ys).length:Int)=(↑(aQ ys).length:Int)∧x1+(1:Int)=y∧True)∧(lo=lo∧True)∧(hi=hi∧True)∧True else False else False else (-1:Int)=nS lo hi (aQ ys) 0∧(lo=lo∧True)∧(hi=hi∧True)∧True
theorem aSY:aHl inB:=by
 unfold aHl
 delta I6
 intro gl f ys lo hi ⟨he,hl⟩
 intros
 obtain ⟨zs,hzs⟩:∃ zs,zs=aQ ys:=⟨_,rfl⟩
 rw [← hzs] at he ⊢
 subst he
 rw [aR] at hl ⊢
 have gf:cond f (f=true) True:=gg f
 refine ⟨⟨0,⟨Int.le_refl 0,by omega,rfl⟩,by repeat' first|exact trivial|exact rfl|assumption|apply And.intro⟩,?_⟩
 intro i ⟨i0,il,ie⟩
 refine csp (λ h=>?_) (λ h=>?_)
 ·obtain ⟨z,hz⟩:∃ z,zs[i.toNat]?=some z:=⟨_,bH (by omega)⟩
  rw [aTq hz] at ie
  refine cd1 ⟨i0,h⟩ ⟨z,by rw [bB hz]; rfl,trivial,?_⟩
  cases q:inB lo hi z with
  | false =>
   have e:i=nS lo hi zs 0:=by rw [ie,nS,q,if_neg (by decide)]; omega
   exact ⟨e,by repeat' first|exact trivial|exact rfl|assumption|apply And.intro⟩
  | true =>
   have e:nS lo hi zs 0=nS lo hi (zs.drop (i+1).toNat) (i+1).toNat:=by rw [ie,nS,q,if_pos rfl,show (i+1).toNat=i.toNat+1 by omega]
   exact cdI (by omega) ⟨i+1,⟨by omega,by omega,e⟩,by simp only [oiF]; omega,by repeat' first|exact trivial|exact rfl|assumption|apply And.intro⟩
 ·rw [List.drop_of_length_le (by omega)] at ie
  exact ⟨ie.symm,by repeat' first|exact trivial|exact rfl|assumption|apply And.intro⟩
theorem aSX (inB:Int->Int->Int->Bool):aHl inB=(∀ (gl:aX) (f:Bool) (ys:LL) (lo hi:Int),ys=aP (aQ ys)∧ys.length≤1000000->fnH Tryz.prog { glob:=gl,spec:=lk [],specH:=lk [(150,(aBo inB))],shape:=[15],nowf:=true } { nt:=19,drop:=drp [(1,64),(3,1024),(4,63488),(5,131072),(6,262144)],fr:=1000,kp:=[0,1] } (xH [(2,oiF f (aQ ys) lo hi)]) 6 Tryz.f153 [.sl 1 f ys,.fn 150 [.ptr 0 0,.ptr 1 0]] [.cells [.int .i64 lo],.cells [.int .i64 hi]] (.int .i64 (nS lo hi (aQ ys) 0)) [.cells [.int .i64 lo],.cells [.int .i64 hi]]):=by kernel_rfl
def aSW:=Eq.mp (aSX ..) (aSY)
theorem aOF (gl:aX):HOK Tryz.prog gl 153 (aHk inB):=by
 refine ⟨fok Tryz.func153 (by kernel_rfl) (by kernel_rfl),?_⟩
 intro xs bs pre r bs2 h hp
 unfold aHk at h
 split at h
 ·cases h
  exact bC bD (by exact aV rfl rfl trivial ⟨(aKG gl),trivial⟩) (by kernel_rfl) Tryz.func153 (aSW gl _ _ _ _ hp)
 ·cases h
def aHi (inB:Int->Int->Int->Bool):SpH
 | [.sl 1 f ys,.fn 117 [.ptr 0 0]],[.cells [.int .i64 m]]=>some ((ys=aP (aQ ys)∧ys.length≤1000000)∧-9000000000000000000≤m∧m≤9000000000000000000,.int .i64 (nS (-m) m (aQ ys) 0),[.cells [.int .i64 m]])
 | _,_=>none
def aHj (inB:Int->Int->Int->Bool):Prop :=
 ∀ (gl:aX) (f:Bool) (ys:LL) (m:Int),(ys=aP (aQ ys)∧ys.length≤(1000000:Nat))∧(-9000000000000000000:Int)≤m∧m≤(9000000000000000000:Int)->True->True->IR9 m->(∃ x,OixP (-m) m (aQ ys) x∧(((bif f then f=true else True)∧ys=aP (aQ ys))∧((0:Nat)=(0:Nat)∧True)∧(↑ys.length:Int)=(↑(aQ ys).length:Int)∧(0:Int)=x∧True)∧(m=m∧True)∧True)∧∀ (x1:Int),OixP (-m) m (aQ ys) x1->bif decide (x1 < (↑(aQ ys).length:Int)) then bif decide (0≤x1∧x1 < (↑(aP (aQ ys)).length:Int)) then ∃ n,List.take [I6 n].length ((aP (aQ ys)).getD x1.toNat [])=[I6 n]∧((-9000000000000000000:Int)≤m∧m≤(9000000000000000000:Int))∧bif !inB (-m) m n then x1=nS (-m) m (aQ ys) 0∧(m=m∧True)∧True else bif decide (rng IntKind.i64 (x1+(1:Int))) then ∃ y,OixP (-m) m (aQ ys) y∧(oiT f (aQ ys) m).m y < (oiT f (aQ ys) m).m x1∧(((bif f then f=true else True)∧aP (aQ ys)=aP (aQ ys))∧((0:Nat)=(0:Nat)∧True)∧(↑(aQ ys).length:Int)=(↑(aQ ys).length:Int)∧x1+(1:Int)=y∧True)∧(m=m∧True)∧True else False else False else (-1:Int)=nS (-m) m (aQ ys) 0∧(m=m∧True)∧True
theorem aSV:aHj inB:=by
 unfold aHj
 delta I6
 intro gl f ys m ⟨⟨he,hl⟩,hm⟩
 intros
 obtain ⟨zs,hzs⟩:∃ zs,zs=aQ ys:=⟨_,rfl⟩
 rw [← hzs] at he ⊢
 subst he
 rw [aR] at hl ⊢
 have gf:cond f (f=true) True:=gg f
 refine ⟨⟨0,⟨Int.le_refl 0,by omega,rfl⟩,by repeat' first|exact trivial|exact rfl|assumption|apply And.intro⟩,?_⟩
 intro i ⟨i0,il,ie⟩
 refine csp (λ h=>?_) (λ h=>?_)
 ·obtain ⟨z,hz⟩:∃ z,zs[i.toNat]?=some z:=⟨_,bH (by omega)⟩
  rw [aTq hz] at ie
  refine cd1 ⟨i0,h⟩ ⟨z,by rw [bB hz]; rfl,hm,?_⟩
  cases q:inB (-m) m z with
  | false =>
   have e:i=nS (-m) m zs 0:=by rw [ie,nS,q,if_neg (by decide)]; omega
   exact ⟨e,by repeat' first|exact trivial|exact rfl|assumption|apply And.intro⟩
  | true =>
   have e:nS (-m) m zs 0=nS (-m) m (zs.drop (i+1).toNat) (i+1).toNat:=by rw [ie,nS,q,if_pos rfl,show (i+1).toNat=i.toNat+1 by omega]
   exact cdI (by omega) ⟨i+1,⟨by omega,by omega,e⟩,by simp only [oiT]; omega,by repeat' first|exact trivial|exact rfl|assumption|apply And.intro⟩
 ·rw [List.drop_of_length_le (by omega)] at ie
  exact ⟨ie.symm,by repeat' first|exact trivial|exact rfl|assumption|apply And.intro⟩
theorem aSU (inB:Int->Int->Int->Bool):aHj inB=(∀ (gl:aX) (f:Bool) (ys:LL) (m:Int),(ys=aP (aQ ys)∧ys.length≤1000000)∧-9000000000000000000≤m∧m≤9000000000000000000->fnH Tryz.prog { glob:=gl,spec:=lk [],specH:=lk [(117,(aAk inB))],shape:=[15],nowf:=true } { nt:=19,drop:=drp [(1,64),(3,1024),(4,63488),(5,131072),(6,262144)],fr:=1000,kp:=[0] } (xH [(2,oiT f (aQ ys) m)]) 6 Tryz.f153 [.sl 1 f ys,.fn 117 [.ptr 0 0]] [.cells [.int .i64 m]] (.int .i64 (nS (-m) m (aQ ys) 0)) [.cells [.int .i64 m]]):=by kernel_rfl
def aST:=Eq.mp (aSU ..) (aSV)
theorem aOE (gl:aX):HOK Tryz.prog gl 153 (aHi inB):=by
 refine ⟨fok Tryz.func153 (by kernel_rfl) (by kernel_rfl),?_⟩
 intro xs bs pre r bs2 h hp
 unfold aHi at h
 split at h
 ·cases h
  exact bC bD (by exact aV rfl rfl trivial ⟨(aI7 gl),trivial⟩) (by kernel_rfl) Tryz.func153 (aST gl _ _ _ hp)
 ·cases h
def aHs:SpH
 | [.sl 1 f ys,.fn 150 [.ptr 0 0,.ptr 1 0]],[.cells [.int .i64 lo],.cells [.int .i64 hi]]=>some (ys=aP (aQ ys)∧ys.length≤1000000,.bool (outB lo hi (aQ ys)),[.cells [.int .i64 lo],.cells [.int .i64 hi]])
 | _,_=>none
def aHt (inB:Int->Int->Int->Bool):Prop :=
 ∀ (gl:aX) (f:Bool) (ys:LL) (lo hi:Int),ys=aP (aQ ys)∧ys.length≤(1000000:Nat)->True->True->IR9 lo->IR9 hi->(ys=aP (aQ ys)∧ys.length≤(1000000:Nat))∧decide (0≤nS lo hi (aQ ys) 0)=outB lo hi (aQ ys)∧(lo=lo∧True)∧(hi=hi∧True)∧True
theorem aTa:aHt inB:=by
 unfold aHt
 intro gl f ys lo hi hp
 intros
 exact ⟨hp,aAS lo hi _ 0,by repeat' first|exact trivial|exact rfl|assumption|apply And.intro⟩
theorem aS9 (inB:Int->Int->Int->Bool):aHt inB=(∀ (gl:aX) (f:Bool) (ys:LL) (lo hi:Int),ys=aP (aQ ys)∧ys.length≤1000000->fnH Tryz.prog { glob:=gl,spec:=lk [],specH:=lk [(153,(aHk inB))],nowf:=true } { nt:=9,drop:=drp [(1,480)],fr:=1000,kp:=[0,1] } (λ _ _=>none) 6 Tryz.f116 [.sl 1 f ys,.fn 150 [.ptr 0 0,.ptr 1 0]] [.cells [.int .i64 lo],.cells [.int .i64 hi]] (.bool (outB lo hi (aQ ys))) [.cells [.int .i64 lo],.cells [.int .i64 hi]]):=by kernel_rfl
def aS8:=Eq.mp (aS9 ..) (aTa)
theorem aOH (gl:aX):HOK Tryz.prog gl 116 aHs:=by
 refine ⟨fok Tryz.func116 (by kernel_rfl) (by kernel_rfl),?_⟩
 intro xs bs pre r bs2 h hp
 unfold aHs at h
 split at h
 ·cases h
  exact bC bD (by exact aV rfl rfl trivial ⟨(aOF gl),trivial⟩) (by kernel_rfl) Tryz.func116 (aS8 gl _ _ _ _ hp)
 ·cases h
def aHq:SpH
 | [.sl 1 f ys,.fn 117 [.ptr 0 0]],[.cells [.int .i64 m]]=>some ((ys=aP (aQ ys)∧ys.length≤1000000)∧-9000000000000000000≤m∧m≤9000000000000000000,.bool (outB (-m) m (aQ ys)),[.cells [.int .i64 m]])
 | _,_=>none
def aHr (inB:Int->Int->Int->Bool):Prop :=
 ∀ (gl:aX) (f:Bool) (ys:LL) (m:Int),(ys=aP (aQ ys)∧ys.length≤(1000000:Nat))∧(-9000000000000000000:Int)≤m∧m≤(9000000000000000000:Int)->True->True->IR9 m->((ys=aP (aQ ys)∧ys.length≤(1000000:Nat))∧(-9000000000000000000:Int)≤m∧m≤(9000000000000000000:Int))∧decide (0≤nS (-m) m (aQ ys) 0)=outB (-m) m (aQ ys)∧(m=m∧True)∧True
theorem aS7:aHr inB:=by
 unfold aHr
 intro gl f ys m hp
 intros
 exact ⟨hp,aAS (-m) m _ 0,by repeat' first|exact trivial|exact rfl|assumption|apply And.intro⟩
theorem aS6 (inB:Int->Int->Int->Bool):aHr inB=(∀ (gl:aX) (f:Bool) (ys:LL) (m:Int),(ys=aP (aQ ys)∧ys.length≤1000000)∧-9000000000000000000≤m∧m≤9000000000000000000->fnH Tryz.prog { glob:=gl,spec:=lk [],specH:=lk [(153,(aHi inB))],nowf:=true } { nt:=9,drop:=drp [(1,480)],fr:=1000,kp:=[0] } (λ _ _=>none) 6 Tryz.f116 [.sl 1 f ys,.fn 117 [.ptr 0 0]] [.cells [.int .i64 m]] (.bool (outB (-m) m (aQ ys))) [.cells [.int .i64 m]]):=by kernel_rfl
def aS5:=Eq.mp (aS6 ..) (aS7)
theorem aOG (gl:aX):HOK Tryz.prog gl 116 aHq:=by
 refine ⟨fok Tryz.func116 (by kernel_rfl) (by kernel_rfl),?_⟩
 intro xs bs pre r bs2 h hp
 unfold aHq at h
 split at h
 ·cases h
  exact bC bD (by exact aV rfl rfl trivial ⟨(aOE gl),trivial⟩) (by kernel_rfl) Tryz.func116 (aS5 gl _ _ _ hp)
 ·cases h
def yS:Sp
 | [.sl 1 f ys,.int .i64 lo,.int .i64 hi]=>some (ys=aP (aQ ys)∧ys.length≤1000000,.bool (outB lo hi (aQ ys)))
 | _=>none
def aG6:Prop :=
 ∀ (gl:aX) (f:Bool) (ys:LL) (lo hi:Int),ys=aP (aQ ys)∧ys.length≤(1000000:Nat)->True->IR9 lo->IR9 hi->(ys=aP (aQ ys)∧ys.length≤(1000000:Nat))∧outB lo hi (aQ ys)=outB lo hi (aQ ys)
theorem aSM:aG6:=by
 unfold aG6
 intro gl f ys lo hi hp
 intros
 exact ⟨hp,by repeat' first|exact trivial|exact rfl|assumption|apply And.intro⟩
theorem aSL:aG6=(∀ (gl:aX) (f:Bool) (ys:LL) (lo hi:Int),ys=aP (aQ ys)∧ys.length≤1000000->fnK Tryz.prog { glob:=gl,spec:=lk [],specH:=lk [(116,aHs)],nowf:=true } { nt:=10,drop:=drp [(1,896)] } (λ _ _=>none) 6 Tryz.f112 [.sl 1 f ys,.int .i64 lo,.int .i64 hi] (.bool (outB lo hi (aQ ys)))):=by kernel_rfl
def aSK:=Eq.mp (aSL ..) (aSM)
theorem aBn (gl:aX):SOK Tryz.prog gl 112 yS:=by
 refine ⟨fok Tryz.func112 (by kernel_rfl) (by kernel_rfl),?_⟩
 intro xs pre r h hp
 unfold yS at h
 split at h
 ·cases h
  exact aT bD (by exact aV rfl rfl trivial ⟨(aOH gl),trivial⟩) (by kernel_rfl) Tryz.func112 rfl (aSK gl _ _ _ _ hp)
 ·cases h
def aEv:Sp
 | [.sl 1 f ys,.int .i64 m]=>some ((ys=aP (aQ ys)∧ys.length≤1000000)∧-9000000000000000000≤m∧m≤9000000000000000000,.bool (outB (-m) m (aQ ys)))
 | _=>none
def aEw:Prop :=
 ∀ (gl:aX) (f:Bool) (ys:LL) (m:Int),(ys=aP (aQ ys)∧ys.length≤(1000000:Nat))∧(-9000000000000000000:Int)≤m∧m≤(9000000000000000000:Int)->True->IR9 m->((ys=aP (aQ ys)∧ys.length≤(1000000:Nat))∧(-9000000000000000000:Int)≤m∧m≤(9000000000000000000:Int))∧outB (-m) m (aQ ys)=outB (-m) m (aQ ys)
theorem aP8:aEw:=by
 unfold aEw
 intro gl f ys m hp
 intros
 exact ⟨hp,by repeat' first|exact trivial|exact rfl|assumption|apply And.intro⟩
theorem aP7:aEw=(∀ (gl:aX) (f:Bool) (ys:LL) (m:Int),(ys=aP (aQ ys)∧ys.length≤1000000)∧-9000000000000000000≤m∧m≤9000000000000000000->fnK Tryz.prog { glob:=gl,spec:=lk [],specH:=lk [(116,aHq)],nowf:=true } { nt:=8,drop:=drp [(1,224)] } (λ _ _=>none) 6 Tryz.f68 [.sl 1 f ys,.int .i64 m] (.bool (outB (-m) m (aQ ys)))):=by kernel_rfl
def aP6:=Eq.mp (aP7 ..) (aP8)
theorem aMc (gl:aX):SOK Tryz.prog gl 68 aEv:=by
 refine ⟨fok Tryz.func68 (by kernel_rfl) (by kernel_rfl),?_⟩
 intro xs pre r h hp
 unfold aEv at h
 split at h
 ·cases h
  exact aT bD (by exact aV rfl rfl trivial ⟨(aOG gl),trivial⟩) (by kernel_rfl) Tryz.func68 rfl (aP6 gl _ _ _ hp)
 ·cases h
def bU (a b c:Int):Int:=if outB 1 4 [a,b,c]=true then 1 else 0
def tC (outB:Int->Int->List Int->Bool) (bU:Int->Int->Int->Int):Sp
 | [.agg [.int .i64 a,.int .i64 b,.int .i64 c]]=>some (True,.int .i64 (bU a b c))
 | _=>none
def aGV (outB:Int->Int->List Int->Bool) (bU:Int->Int->Int->Int):Prop :=
 ∀ (gl:aX) (a b c:Int),(IR9 a)∧(IR9 b)∧(IR9 c)∧True->([[AV.int IntKind.i64 a],[AV.int IntKind.i64 b],[AV.int IntKind.i64 c]]=aP (aQ [[AV.int IntKind.i64 a],[AV.int IntKind.i64 b],[AV.int IntKind.i64 c]])∧[[AV.int IntKind.i64 a],[AV.int IntKind.i64 b],[AV.int IntKind.i64 c]].length≤(1000000:Nat))∧bif YtgbbmadjdaphnaaGreatDoor.outB 1 4 (aQ [[AV.int IntKind.i64 a],[AV.int IntKind.i64 b],[AV.int IntKind.i64 c]]) then (1:Int)=bU a b c else (0:Int)=bU a b c
theorem aSG:aGV outB bU:=by
 unfold aGV
 intro gl a b c
 intros
 unfold bU
 refine ⟨⟨rfl,by simp⟩,dJ (λ h=>?_) (λ h=>?_)⟩
 ·rw [if_pos (show outB 1 4 [a,b,c]=true from h)]
 ·rw [if_neg (by rw [show outB 1 4 [a,b,c]=false from h]; decide)]
theorem aSF (outB:Int->Int->List Int->Bool) (bU:Int->Int->Int->Int):aGV outB bU=(∀ (gl:aX) (a b c:Int),fnK Tryz.prog { glob:=gl,spec:=lk [(112,yS)],specH:=lk [],nowf:=true } { nt:=11,drop:=drp [(1,1016)] } (λ _ _=>none) 6 Tryz.f65 [.agg [.int .i64 a,.int .i64 b,.int .i64 c]] (.int .i64 (bU a b c))):=by kernel_rfl
def aSE:=Eq.mp (aSF ..) (aSG)
theorem vW (gl:aX):SOK Tryz.prog gl 65 (tC outB bU):=by
 refine ⟨fok Tryz.func65 (by kernel_rfl) (by kernel_rfl),?_⟩
 intro xs pre r h hp
 unfold tC at h
 split at h
 ·cases h
  exact aT bD (by exact aV rfl rfl ⟨(aBn gl),trivial⟩ trivial) (by kernel_rfl) Tryz.func65 rfl (aSE gl _ _ _)
 ·cases h
def aCe (n:Int) (ds fs:List Int):Bool:=decide ((ds.length:Int)=10*n*n+2)&&decide (fs.length=(aS nrm n).length)&&!outB 0 16777216 ds&&!outB (-16777216) 16777216 fs
def dF (n:Int) (ds fs:List Int):Int:=if aCe n ds fs=true then 0 else 1
structure StaP (n:Int) (ds fs:LL):Prop where
 bq:BldQ nrm n
 de:ds=aP (aQ ds)
 dl:ds.length≤1000000
 fe:fs=aP (aQ fs)
 fl:fs.length≤1000000
def qQ (nrm:NrT) (dF:Int->List Int->List Int->Int):Sp
 | [.agg [.int .i64 n,.sl 1 g ds,.sl 1 h fs]]=>some (StaP n ds fs,.int .i64 (dF n (aQ ds) (aQ fs)))
 | _=>none
def aHp (nrm:NrT) (dF:Int->List Int->List Int->Int):Prop :=
 ∀ (n:Int) (g h:Bool) (ds fs:LL),StaP n ds fs->(IR9 n)∧True∧True∧True->BldQ nrm n∧(1≤n∧n≤(4:Int))∧bif decide ¬(↑ds.length:Int)=(10:Int)*n*n+(2:Int) then (1:Int)=dF n (aQ ds) (aQ fs) else bif decide ¬(↑fs.length:Int)=(↑(aS nrm n).length:Int) then (1:Int)=dF n (aQ ds) (aQ fs) else (ds=aP (aQ ds)∧ds.length≤(1000000:Nat))∧bif outB 0 16777216 (aQ ds) then (1:Int)=dF n (aQ ds) (aQ fs) else (fs=aP (aQ fs)∧fs.length≤(1000000:Nat))∧bif outB (-16777216:Int) 16777216 (aQ fs) then (1:Int)=dF n (aQ ds) (aQ fs) else (0:Int)=dF n (aQ ds) (aQ fs)
theorem aS4:aHp nrm dF:=by
 unfold aHp
 intro n g h ds fs hP
 intros
 have hq:=hP.bq
 have hl:∀ zs:LL,(aQ zs).length=zs.length:=λ zs=>by simp [aQ]
 have key:∀ b:Bool,aCe n (aQ ds) (aQ fs)=b->dF n (aQ ds) (aQ fs)=if b=true then 0 else 1:=λ b e=>by unfold dF; rw [e]
 have no:aCe n (aQ ds) (aQ fs)=false->(1:Int)=dF n (aQ ds) (aQ fs):=λ e=>by rw [key _ e]; rfl
 refine ⟨hq,⟨hq.lo,hq.hi⟩,csp (λ q=>no ?_) (λ q1=>csp (λ q=>no ?_) (λ q2=>⟨⟨hP.de,hP.dl⟩,dJ (λ q=>no ?_) (λ q3=>⟨⟨hP.fe,hP.fl⟩,dJ (λ q=>no ?_) (λ q4=>?_)⟩)⟩))⟩
 ·unfold aCe; rw [hl,decide_eq_false q]; rfl
 ·have q':¬ fs.length=(aS nrm n).length:=λ e=>q (congrArg _ e)
  unfold aCe; rw [hl fs,decide_eq_false q']; simp
 ·unfold aCe; rw [q]; simp
 ·unfold aCe; rw [q]; simp
 ·rw [key true (by unfold aCe; rw [hl,hl,decide_eq_true (Decidable.not_not.1 q1),decide_eq_true (by have:=Decidable.not_not.1 q2; omega),q3,q4]; rfl)]; rfl
theorem aS3 (nrm:NrT) (dF:Int->List Int->List Int->Int):aHp nrm dF=(∀ (n:Int) (g h:Bool) (ds fs:LL),StaP n ds fs->fnK Tryz.prog { glob:=glb,spec:=lk [(58,(eT nrm)),(59,hU),(112,yS)],specH:=lk [],nowf:=true } { nt:=40,drop:=drp [(1,2016),(2,549755811840)] } (λ _ _=>none) 6 Tryz.f70 [.agg [.int .i64 n,.sl 1 g ds,.sl 1 h fs]] (.int .i64 (dF n (aQ ds) (aQ fs)))):=by kernel_rfl
def aS2:=Eq.mp (aS3 ..) (aS4)
theorem qR:SOK Tryz.prog glb 70 (qQ nrm dF):=by
 refine ⟨fok Tryz.func70 (by kernel_rfl) (by kernel_rfl),?_⟩
 intro xs pre r h hp
 unfold qQ at h
 split at h
 ·cases h
  exact aT bD (by exact aV rfl rfl ⟨(eK),(jC glb),(aBn glb),trivial⟩ trivial) (by kernel_rfl) Tryz.func70 rfl (aS2  _ _ _ _ _ hp)
 ·cases h
variable {P:Program} {S:Pin} {m:Nm} {w:World} {a:Act} {G:Gh} {kp:List Nat} {st:St} {E:Env} {C:Cx}
def Fr (r:Option Nat):Fence:={ Fence.wide with round:=r }
def dP (ds:List Deferred) (a:Act):Act:={ a with defers:=a.defers++ds }
theorem fB (ds:List Deferred) (a:Act) (d:Option Tmp) (v:Value):(dP ds a).put d v=dP ds (a.put d v):=by cases d <;> rfl
theorem aK2 {r:Option Nat} {n:Nat} {f:FuncId} {args:Array Value} {R:Ending->World->Prop} (h:Calls P f args w R):CallsIn (Fr r) n P f args w R :=
 callsIn_wide.2 h
theorem aDY {f:FuncId} {args:Array Value} {R R':Ending->World->Prop} (h:Calls P f args w R) (hr:∀ e w,R e w->R' e w):Calls P f args w R' :=
 λ cs=>let ⟨e,w',fr,r,x⟩:=h cs; ⟨e,w',fr,hr _ _ r,x⟩
def oE (Q:Exit->Act->World->Prop):Prop:=(∀ a w,¬ Q .outgrown a w)∧∀ ch a w,¬ Q (.panic ch) a w
theorem oE.out {Q:Exit->Act->World->Prop} (h:oE Q):¬ LetsOut Q:=λ ⟨a,w,q⟩=>h.1 a w q
theorem aMF {r:Option Nat} {n:Nat} {row:String} {args:Array Value} {R:Value->World->Prop} (h:Go.Rows P row args w R):RowsIn (Fr r) n P row args w R :=
 λ c cs _=>let ⟨v,w',q,s⟩:=h c cs; ⟨v,w',q,stepsIn_wide.2 s⟩
theorem aVS {r:Option Nat} {n:Nat} {ds:List Deferred} {o:Oper} {next:Act->World->Prop} {Q Q':Exit->Act->World->Prop} (hQ:oE Q) (hnd:∀ c,o.op≠.defer c)
  (h:o.wp P a w next Q):o.wpIn (Fr r) n P (dP ds a) w (λ a' w'=>∃ a0,a'=dP ds a0∧next a0 w') Q':=by
 unfold Oper.wp at h
 refine ⟨λ _ _=>trivial,?_⟩
 have e:o.semAt (Fr r).round (dP ds a).eval=execOp a.eval o:=by
  cases r with
  | none=>rfl
  | some l=>exact Oper.semAt_some l _ o hnd
 rw [e]
 have hh:((Fr r).depth.isSome=true->1≤n):=λ q=>by cases q
 cases hr:(execOp a.eval o).run P w with
 | ok v w' =>
  rw [hr] at h
  cases v with
  | value v=>exact ⟨_,fB ds a o.dst v,h⟩
  | skip=>exact ⟨_,fB ds a o.dst undef,h⟩
  | enter f args =>
   refine ⟨hh,aK2 (aDY h ?_)⟩
   intro e w'' q
   cases e with
   | returned v=>exact ⟨_,fB ds a o.dst v,q⟩
   | panicked ch=>exact absurd q (hQ.2 _ _ _)
   | outgrown=>exact absurd q hQ.out
  | row row args =>
   refine ⟨hh,(aMF h).mono ?_⟩
   intro v w'' q
   exact ⟨_,fB ds a o.dst v,q⟩
  | _ =>
   first
   | exact h.elim
   | (rename_i d; exact ⟨_,fB ds { a with defers:=d::a.defers } o.dst undef,h⟩)
 | halt x w' =>
  rw [hr] at h
  cases x with
  | panic v=>exact absurd h (hQ.2 _ _ _)
  | _=>exact h.elim
def QX (ds:List Deferred) (Q:Exit->Act->World->Prop) (e:Exit) (a':Act) (w:World):Prop:=∃ a0,a'=dP ds a0∧Q e a0 w
def pN (o:Oper):Bool:=match o.op with
 | .defer _=>false
 | _=>true
theorem uY {o:Oper} (h:pN o=true):∀ c,o.op≠.defer c:=λ c e=>by
 unfold pN at h
 rw [e] at h
 cases h
theorem oX {F:Fence} {n:Nat} {o:Oper} {next next':Act->World->Prop} {Q:Exit->Act->World->Prop} (h:o.wpIn F n P a w next Q) (hn:∀ a w,next a w->next' a w):o.wpIn F n P a w next' Q:=Oper.wpIn_mono hn h
theorem aCH {r:Option Nat} {n:Nat} {ds:List Deferred} {ops:Array Oper} {Q:Exit->Act->World->Prop} (hQ:oE Q):∀ (l:List Oper),(l.all pN)=true->∀ (a:Act) (w:World),wpList P ops Q l a w->wpListIn (Fr r) n P ops (QX ds Q) l (dP ds a) w
 | [],_,a,w,h=>⟨a,rfl,h⟩
 | o::rest,hd,a,w,h=>by
  simp only [List.all_cons,aC] at hd
  unfold wpList at h
  unfold wpListIn
  show if Region.wanted o (yielded ops a.tmps)=true then _ else _
  split
  ·rename_i hw
   rw [if_pos hw] at h
   rcases h with h | h
   ·exact oX (aVS hQ (uY hd.1) h) λ a' w' ⟨a0,e,q⟩=>by rw [e]; exact aCH hQ rest hd.2 a0 w' q
   ·exact absurd h.2 hQ.out
  ·rename_i hw
   rw [if_neg hw] at h
   refine ⟨λ _ _=>trivial,?_⟩
   rw [fB]
   exact aCH hQ rest hd.2 _ w h
theorem aVj {r:Option Nat} {n:Nat} {ds:List Deferred} {ops:Array Oper} {Q:Exit->Act->World->Prop} (hQ:oE Q) (hd:(ops.toList.all pN)=true) {i:Nat} {K:Act->World->Prop} (h:wpOp P ops Q i K a w):wpOpIn (Fr r) n P ops (QX ds Q) i (λ a' w'=>∃ a0,a'=dP ds a0∧K a0 w') (dP ds a) w:=by
 unfold wpOp at h
 unfold wpOpIn
 cases ho:ops[i]? with
 | none=>simp only [ho] at h ⊢; exact ⟨a,rfl,h⟩
 | some o =>
  simp only [ho] at h ⊢
  show if Region.wanted o (yielded ops a.tmps)=true then _ else _
  have hd':pN o=true:=List.all_eq_true.1 hd o (by rw [Array.mem_toList_iff]; exact Array.mem_of_getElem? ho)
  split
  ·rename_i hw
   rw [if_pos hw] at h
   rcases h with h | h
   ·exact aVS hQ (uY hd') h
   ·exact absurd h.2 hQ.out
  ·rename_i hw
   rw [if_neg hw] at h
   exact ⟨λ _ _=>trivial,_,fB ds a o.dst undef,h⟩
theorem aT3 {r:Option Nat} {n:Nat} {ds:List Deferred} {md:Region.Mode} {ops:Array Oper} {Q:Exit->Act->World->Prop} (hQ:oE Q) (hd:(ops.toList.all pN)=true):∀ (fuel:Nat) (listed:Array Bool) (a:Act) (w:World),wpAny P md ops Q fuel listed a w->wpAnyIn (Fr r) n P md ops (QX ds Q) fuel listed (dP ds a) w
 | 0,listed,a,w,h=>⟨h.1,a,rfl,h.2⟩
 | fuel+1,listed,a,w,h=>⟨λ e=>⟨a,rfl,h.1 e⟩,λ i hi=>wpOpIn_mono (λ a' w' ⟨a0,e,q⟩=>by rw [e]; exact aT3 hQ hd fuel _ a0 w' q) (aVj hQ hd (h.2 i hi))⟩
theorem aHE {kn:St->Prop} {ke:Nat->St->Prop} {kr:St->Prop}:oE (aPG G C kn ke kr):=⟨λ a w h=>h,λ ch a w h=>h⟩
def bT:Code->Bool
 | .skip=>true
 | .label _=>true
 | .region _ ops _=>ops.toList.all pN
 | .seq a b=>bT a&&bT b
 | .cond _ x y=>bT x&&bT y
 | .block _ b=>bT b
 | .exit _=>true
 | .ret=>true
 | _=>false
theorem dL {inv:Nat->St->Option LInv} {fuel:Nat} (hT:TyOK P C.tys) (hS:cF P E) (hM:P.follows .mixedOrders=true) (hG:GOK E G.S0) {r:Option Nat} {n:Nat} {ds:List Deferred} :
  ∀ (c:Code),bT c=true->∀ (st:St) (kn:St->Prop) (ke:Nat->St->Prop) (kr:St->Prop),cC P E C inv fuel c st kn ke kr->∀ (a:Act) (w:World) (S:Pin) (m:Nm),Rel G C.kp st a w S m->a.tmps.size=C.nt->c.wpIn (Fr r) n P (QX ds (aPG G C kn ke kr)) (dP ds a) w
 | .skip,_,st,kn,ke,kr,h,a,w,S,m,hR,hn=>wpIn_skip ⟨a,rfl,st,S,m,h,hR,hn⟩
 | .label _,_,st,kn,ke,kr,h,a,w,S,m,hR,hn=>wpIn_label ⟨a,rfl,st,S,m,h,hR,hn⟩
 | .region id ops draw,hs,st,kn,ke,kr,h,a,w,S,m,hR,hn=>by
  simp only [cC] at h
  obtain ⟨st,h,hsame⟩:=aDe h
  obtain ⟨S,m,hR⟩:=hsame _ _ _ _ _ hR
  obtain ⟨st,S,m,h,hR⟩:=dA _ _ S m _ h hR
  obtain ⟨st,h,hsame⟩:=kB _ _ _ h
  obtain ⟨S,m,hR⟩:=hsame _ _ _ _ _ hR
  obtain ⟨st,S,m,h,hR⟩:=cD _ _ S m _ h hR
  obtain ⟨st,h,hR⟩:=gV _ _ _ h hR
  have q:ops.toList.all pN=true:=hs
  cases draw with
  | true =>
   refine wpIn_region_any hM (aT3 aHE q _ _ a _ ?_)
   exact kS hT hS hG h hR hn (λ st' a' w' S' m' hk hR' hn'=>by obtain ⟨st2,hk,hR'⟩:=iB hk hR'; exact ⟨st2,S',m',hk,hR',hn'⟩)
  | false =>
   refine wpIn_region_list (aCH aHE _ q a w ?_)
   exact eU hT hS hG _ st _ h a w S m hR hn (λ st' a' w' S' m' hk hR' hn'=>by obtain ⟨st2,hk,hR'⟩:=iB hk hR'; exact ⟨st2,S',m',hk,hR',hn'⟩)
 | .seq x y,hs,st,kn,ke,kr,h,a,w,S,m,hR,hn=>by
  simp only [bT,aC] at hs
  simp only [cC] at h
  split at h
  ·rename_i L hL
   obtain ⟨h1,h2⟩:=h
   refine wpIn_seq (Go.wpIn_mono (dL hT hS hM hG x hs.1 st _ ke kr h1 a w S m hR hn) ?_)
   rintro e a' w' ⟨a0,rfl,he⟩
   cases e with
   | normal=>obtain ⟨st',S',m',⟨z,hp,hle⟩,hR',hn'⟩:=he; exact dL hT hS hM hG y hs.2 (L.S z) kn ke kr (LInv.all_get h2 z hp) a0 w' S' m' (hR'.le hle) hn'
   | exit _=>exact ⟨a0,rfl,he⟩
   | ret=>exact ⟨a0,rfl,he⟩
   | _=>exact he.elim
  ·refine wpIn_seq (Go.wpIn_mono (dL hT hS hM hG x hs.1 st _ ke kr h a w S m hR hn) ?_)
   rintro e a' w' ⟨a0,rfl,he⟩
   cases e with
   | normal=>obtain ⟨st',S',m',hk,hR',hn'⟩:=he; exact dL hT hS hM hG y hs.2 st' kn ke kr hk a0 w' S' m' hR' hn'
   | exit _=>exact ⟨a0,rfl,he⟩
   | ret=>exact ⟨a0,rfl,he⟩
   | _=>exact he.elim
 | .cond c x y,hs,st,kn,ke,kr,h,a,w,S,m,hR,hn=>by
  simp only [bT,aC] at hs
  simp only [cC] at h
  split at h
  ·rename_i q hq
   have hc:=nY hG hR c
   rw [hq] at hc
   simp only [CV] at hc
   cases q with
   | true =>
    obtain ⟨st',hk,hR'⟩:=fK (G:=G) (C:=C) h hq hR
    exact wpIn_cond_true hc (dL hT hS hM hG x hs.1 st' kn ke kr hk a w S m hR' hn)
   | false =>
    obtain ⟨st',hk,hR'⟩:=fK (G:=G) (C:=C) h hq hR
    exact wpIn_cond_false hc (dL hT hS hM hG y hs.2 st' kn ke kr hk a w S m hR' hn)
  ·exact h.elim
 | .block id b,hs,st,kn,ke,kr,h,a,w,S,m,hR,hn=>by
  have hs:bT b=true:=hs
  simp only [cC] at h
  split at h
  ·rename_i L hL
   obtain ⟨h1,h2⟩:=h
   refine wpIn_block (Go.wpIn_mono (dL hT hS hM hG b hs st _ _ kr h1 a w S m hR hn) ?_)
   rintro e a' w' ⟨a0,rfl,he⟩
   cases e with
   | normal =>
    obtain ⟨st',S',m',⟨z,hp,hle⟩,hR',hn'⟩:=he
    exact ⟨a0,rfl,L.S z,S',m',LInv.all_get h2 z hp,hR'.le hle,hn'⟩
   | exit i =>
    obtain ⟨st',S',m',hk,hR',hn'⟩:=he
    simp only [Exit.inBlock]
    by_cases hi:i=id
    ·subst hi
     rw [aY] at hk
     rw [if_pos rfl]
     obtain ⟨z,hp,hle⟩:=hk
     exact ⟨a0,rfl,L.S z,S',m',LInv.all_get h2 z hp,hR'.le hle,hn'⟩
    ·rw [nbeq_ne hi] at hk
     rw [if_neg hi]
     exact ⟨a0,rfl,st',S',m',hk,hR',hn'⟩
   | ret=>exact ⟨a0,rfl,he⟩
   | _=>exact he.elim
  ·refine wpIn_block (Go.wpIn_mono (dL hT hS hM hG b hs st _ _ kr h a w S m hR hn) ?_)
   rintro e a' w' ⟨a0,rfl,he⟩
   cases e with
   | normal=>exact ⟨a0,rfl,he⟩
   | exit i =>
    obtain ⟨st',S',m',hk,hR',hn'⟩:=he
    simp only [Exit.inBlock]
    by_cases hi:i=id
    ·subst hi
     rw [aY] at hk
     rw [if_pos rfl]
     exact ⟨a0,rfl,st',S',m',hk,hR',hn'⟩
    ·rw [nbeq_ne hi] at hk
     rw [if_neg hi]
     exact ⟨a0,rfl,st',S',m',hk,hR',hn'⟩
   | ret=>exact ⟨a0,rfl,he⟩
   | _=>exact he.elim
 | .exit id,_,st,kn,ke,kr,h,a,w,S,m,hR,hn=>wpIn_exit ⟨a,rfl,st,S,m,h,hR,hn⟩
 | .ret,_,st,kn,ke,kr,h,a,w,S,m,hR,hn=>wpIn_ret ⟨a,rfl,st,S,m,h,hR,hn⟩
 | .loop _,hs,_,_,_,_,_,_,_,_,_,_,_=>by cases hs
 | .rangeFunc ..,hs,_,_,_,_,_,_,_,_,_,_,_=>by cases hs
 | .scope _,hs,_,_,_,_,_,_,_,_,_,_,_=>by cases hs
 | .goto _,hs,_,_,_,_,_,_,_,_,_,_,_=>by cases hs
 | .refuse _,hs,_,_,_,_,_,_,_,_,_,_,_=>by cases hs
end Go.Proofs.YtgbbmadjdaphnaaGreatDoor
namespace Go.Proofs.YtgbbmadjdaphnaaGreatDoor
open Go Go.RowKit
attribute [local go_sem] Oper.semAt_some
structure JOK (J:Nat->Pin->World->Prop):Prop where
 ag:∀ k S W,J k S W->dX S W
 ab:∀ k S W S' W',J k S W->Below W.heap.size W W'->Ext S S'->(∀ b o,b < W.heap.size->S' b o=S b o)->dX S' W'->J k S' W'
def edV (es:LL) (k:Nat):Array Value:=#[.int .i64 k,.agg #[.int .i64 (nI (es.getD k []) 0),.int .i64 (nI (es.getD k []) 1)]]
set_option maxHeartbeats 4000000 in
theorem aHF {n0:Int} (hq:BldQ nrm n0) {l b0 n:Nat} {J:Nat->Pin->World->Prop} (hJ:JOK J)
  (hY:∀ k S W,J k S W->k < (aS nrm n0).length->YieldAt Fence.wide (n - 1) Tryz.prog l (edV (aS nrm n0) k) W λ e W'=>e=.returned (.bool true)∧∃ S',Ext S S'∧J (k+1) S' W')
  {S0:Pin} {W:World} (hg:GOKg glb S0) (h0:J 0 S0 W) (hc:S0 b0 0=some (.int .i64 n0)) :
  CallsIn Fence.wide n Tryz.prog 154 #[.func (.yield l) #[] #[],.pointer (some ⟨b0,0,none⟩)] W λ e W'=>(∃ v,e=.returned v)∧∃ S',Ext S0 S'∧J (aS nrm n0).length S' W':=by
 have hn0:1≤n0∧n0≤4:=⟨hq.lo,hq.hi⟩
 have hcc:=hJ.ag _ _ _ h0 b0 0 _ hc
 have hcell:=hcc.1
 have hC:=eK.2 [.int .i64 n0] _ _ rfl hq
 have hcall:=hC W S0 #[.int .i64 n0] hg (hJ.ag _ _ _ h0) (by simp only [CVl,CV]; exact ⟨_,_,rfl,⟨rfl,by unfold rng; omega⟩,rfl⟩)
 refine callsIn_of_wp Tryz.func154 rfl trivial ?_ rfl
 simp only [Tryz.ntmps154,List.size_toArray,List.length_cons,List.length_nil,Nat.reduceAdd,Nat.reduceSub,Array.replicate_succ,Array.replicate_zero,List.push_toArray,List.append_toArray,List.nil_append,List.cons_append]
 gi_wp2
 refine ⟨trivial,λ q=>(by cases q),(callsIn_wide.2 hcall).mono ?_⟩
 rintro e w1 ⟨u,S1,rfl,hb1,hS1,hp1,hA1,hu⟩
 simp only [CV,CVl] at hu
 obtain ⟨us,rfl,v0,vs,hus,hv0,v1,vs1,rfl,⟨rfl,_⟩,rfl⟩:=hu
 obtain ⟨A,c,rfl,hc1,hc2,_,hc3,hc4⟩:=hv0
 have hJ1:=hJ.ab _ _ _ _ _ h0 hb1 hS1 hp1 hA1
 obtain rfl:us=#[.slice A (aS nrm n0).length c,.int .i64 0]:=Array.toList_inj.1 hus
 clear hus hcall hcell hcc
 gi_wp2
 gi_loopw [14] (λ i wr=>∃ (k:Nat) (S:Pin),k≤(aS nrm n0).length∧i=.int .i64 k∧J k S wr∧Ext S1 S) (λ i _=>(aS nrm n0).length - (intOf i).toNat)
 case atStart=>exact ⟨0,S1,Nat.zero_le _,rfl,hJ1,Ext.refl _⟩
 case round =>
  obtain ⟨k,S,hk,rfl,hJs,hex⟩:=hrel
  by_cases hlt:k < (aS nrm n0).length
  ·have er:(aS nrm n0)[k]?=some ((aS nrm n0).getD k []):=by rw [aB,aD hlt]; rfl
   have hin:=(cB hq).1 _ (aL er)
   have hsh:=(ok2 hin.ok).1
   have a0:=hin.at_ 0 (by decide)
   have a1:=hin.at_ 1 (by decide)
   have hN:=(cB hq).2
   have hw:wrap64 ((k:Int)+1)=((k+1:Nat):Int):=by unfold wrap64; omega
   cases A with
   | none=>have:=hc3 rfl; omega
   | some ad =>
    obtain ⟨b,off,sp⟩:=ad
    obtain ⟨h1,h2⟩:=hc4 _ rfl
    obtain rfl:sp=none:=h1 (by omega)
    obtain ⟨_,hcc⟩:=h2.get er
    have hal:∀ o:Obj,J k S (wr.alloc o):=λ o=>by
     have hbl:Below wr.heap.size wr (wr.alloc o):=(Below.refl _ wr).alloc (Nat.le_refl _) _
     have hag:=hJ.ag _ _ _ hJs
     exact hJ.ab _ _ _ _ _ hJs hbl (Ext.refl _) (λ _ _ _=>rfl) λ b o v e=>⟨(hbl.cell (p:=⟨b,o,none⟩) (hag.lt e)).trans (hag b o v e).1,(hag b o v e).2⟩
    obtain ⟨fn,tmps,assign,body,hy,hR⟩:=hY k S _ (hal (.cells #[.int .i64 (nI ((aS nrm n0).getD k []) 0),.int .i64 (nI ((aS nrm n0).getD k []) 1)] 143)) hlt
    unfold edV at hy
    clear hal
    generalize (aS nrm n0).getD k []=r at er hin hsh a0 a1 hcc hy hR
    rw [hsh] at hcc
    obtain ⟨u0,q0,v0⟩:=hcc.get (j:=0) rfl
    obtain ⟨u1,q1,v1⟩:=hcc.get (j:=1) rfl
    simp only [CV] at v0 v1
    obtain ⟨rfl,_⟩:=v0
    obtain ⟨rfl,_⟩:=v1
    have c0:=(hJ.ag _ _ _ hJs _ _ _ (hex _ _ _ q0)).1
    have c1:=(hJ.ag _ _ _ hJs _ _ _ (hex _ _ _ q1)).1
    simp only [Nat.add_zero] at c0
    generalize nI r 0=p at *
    generalize nI r 1=q at *
    gi_wp2
    refine ⟨λ q=>(by cases q),hR.mono ?_⟩
    rintro e W3 ⟨rfl,S3,hS3,hJ3⟩
    gi_wp2
    go_roundw
    case rel=>exact ⟨k+1,S3,by omega,by simp,hJ3,hex.trans hS3⟩
    case measure=>simp only [intOf,hw]; omega
  ·obtain rfl:k=(aS nrm n0).length:=by omega
   gi_wp2
   go_end0
   exact ⟨⟨_,rfl⟩,S,hS1.trans hex,hJs⟩
variable {P:Program} {S:Pin} {m:Nm} {w:World} {a:Act} {G:Gh} {kp:List Nat} {st:St} {E:Env} {C:Cx}
section
variable {G:Gh} {kp kp1:List Nat} {st st2:St} {a a2:Act} {w w2:World} {S S2:Pin} {m m2:Nm}
def mkG (w:World) (S:Pin) (m:Nm) (H:List (Nat × Blk)) (kp1:List Nat):Gh:=⟨w,S,λ k=>if inL k kp1=true then m k else none,λ b=>∃ k blk u,lk H k=some blk∧m k=some u∧bk u=some b⟩
theorem aCQ {k:Nat}:∀ {l:List Nat},inL k l=true->k ∈ l
 | j::l,h=>by
  simp only [inL,Bool.or_eq_true] at h
  rcases h with h | h
  ·rw [aA h]; simp
  ·exact aN _ (aCQ h)
theorem Rel.begin_ (h:Rel G kp st a w S m):Rel (mkG w S m st.heap kp1) kp1 st a w S m where
 defers:=h.defers
 pin0:=Ext.refl S
 pinNew:=λ _ _ _ _=>rfl
 agree:=h.agree
 tmps:=h.tmps
 held:=h.held
 inj:=h.inj
 own:=λ k b u g hk hu hg=>.inr ⟨k,b,u,hk,hu,hg⟩
 os:=rfl
 tape:=rfl
 output:=rfl
 size:=Nat.le_refl _
 frame:=λ _ _ _=>rfl
 m0:=λ k u e=>by
  simp only [mkG] at e
  split at e
  ·exact ⟨u,e,.refl u⟩
  ·cases e
 keep:=λ k u e=>by
  simp only [mkG] at e
  split at e
  ·rename_i q; exact aCQ q
  ·cases e
theorem Rel.join (h:Rel G kp st a w S m) (h2:Rel (mkG w S m st.heap kp1) kp1 st2 a2 w2 S2 m2) (hk:∀ k ∈ kp,inL k kp1=true):Rel G kp st2 a2 w2 S2 m2 where
 defers:=h2.defers
 pin0:=h.pin0.trans h2.pin0
 pinNew:=λ b o hb hM=>(h2.pinNew b o (Nat.lt_of_lt_of_le hb h.size) λ ⟨k,blk,u,q1,q2,q3⟩=>by
  rcases h.own k blk u b q1 q2 q3 with q | q
  ·omega
  ·exact hM q).trans (h.pinNew b o hb hM)
 agree:=h2.agree
 tmps:=h2.tmps
 held:=h2.held
 inj:=h2.inj
 own:=λ k b u g q1 q2 q3=>by
  rcases h2.own k b u g q1 q2 q3 with q | ⟨k',blk,u',p1,p2,p3⟩
  ·exact .inl (Nat.le_trans h.size q)
  ·exact h.own k' blk u' g p1 p2 p3
 os:=h2.os.trans h.os
 tape:=h2.tape.trans h.tape
 output:=h2.output.trans h.output
 size:=Nat.le_trans h.size h2.size
 frame:=λ b hb hM=>(h2.frame b (Nat.lt_of_lt_of_le hb h.size) λ ⟨k,blk,u,q1,q2,q3⟩=>by
  rcases h.own k blk u b q1 q2 q3 with q | q
  ·omega
  ·exact hM q).trans (h.frame b hb hM)
 m0:=λ k u e=>by
  obtain ⟨u1,e1,g1⟩:=h.m0 k u e
  have hin:=hk k (h.keep k u e)
  obtain ⟨u2,e2,g2⟩:=h2.m0 k u1 (by simp only [mkG]; rw [if_pos hin]; exact e1)
  exact ⟨u2,e2,g1.trans g2⟩
 keep:=h.keep
def aQa (kp1:List Nat) (T:List (Nat × AV)):Prop:=∀ t x,lk T t=some x->∀ k,nn k x=false->inL k kp1=true
theorem Rel.rebase (h:Rel G kp st a w S m) (h2:Rel G kp st2 a2 w2 S2 m2) (hS:Ext S S2) (hm:∀ k u,inL k kp1=true->m k=some u->∃ u',m2 k=some u'∧rM u u') (hT:aQa kp1 st.tmps):Rel G kp ⟨st.tmps,st2.heap⟩ a w2 S2 m2 :=
  { h2 with
    defers:=h.defers
    held:=h2.held
    inj:=h2.inj
    own:=h2.own
    tmps:=λ t=>by
      have:=h.tmps t
      unfold St.get at this ⊢
      simp only
      cases e:lk st.tmps t with
      | none=>simp only [CV]
      | some x =>
        rw [e] at this
        exact CV.mono hS x m m2 _ (λ k u hk q=>hm k u (hT t x e k hk) q) this }
theorem Rel.obj (h:Rel G kp st a w S m) {l:Nat} {o o':Obj} (hl:w.heap[l]?=some o) (ho:o.isCells=false) (hG:G.w0.heap.size≤l) (hn:∀ k b u g,lk st.heap k=some b->m k=some u->bk u=some g->g≠l):Rel G kp st a (w.putObj l o') S m :=
  { h with
    defers:=h.defers
    inj:=h.inj
    own:=h.own
    os:=h.os
    tape:=h.tape
    output:=h.output
    agree:=λ b i v e=>by
      have hne:b≠l:=λ q=>by
        subst q
        have hc:=(h.agree b i v e).1
        unfold World.cell? at hc
        simp only [hl] at hc
        cases o <;> simp [Obj.isCells] at ho hc
      refine ⟨?_,(h.agree b i v e).2⟩
      have:=(h.agree b i v e).1
      unfold World.cell? at this ⊢
      rw [show (w.putObj l o').heap[b]?=w.heap[b]? from World.putObj_heap_other hne]
      exact this
    held:=λ k b hk=>(h.held k b hk).keep (Ext.refl S) (λ _ _ _ hc=>hc) rfl λ u g hu hg=>⟨World.putObj_heap_other (hn k b u g hk hu hg),λ _=>rfl⟩
    size:=by rw [World.putObj_size]; exact h.size
    frame:=λ b hb hM=>(World.putObj_heap_other (by omega)).trans (h.frame b hb hM) }
end
def aVW:Blk->Bool
 | .cells _=>true
 | .row _ _ _=>true
 | .tok _ _ _=>true
 | .nrow _ _ _ _=>true
 | _=>false
def lM:List (Nat × Blk)->Bool
 | []=>true
 | (_,b)::l=>aVW b&&lM l
theorem aCt:∀ {l:List (Nat × Blk)} {k:Nat} {b:Blk},lM l=true->lk l k=some b->aVW b=true
 | [],k,b,_,e=>by simp [lk] at e
 | (j,c)::l,k,b,h,e=>by
  simp only [lM,aC] at h
  simp only [lk] at e
  cases hj:Nat.beq j k with
  | true=>rw [hj] at e; simp only [cond_true,aJ] at e; subst e; exact h.1
  | false=>rw [hj] at e; exact aCt h.2 e
theorem aE6 {k e s:Nat} {xs:LL} (h:kT S m w k e s xs) {u:Value} {g:Nat} (hu:m k=some u) (hg:bk u=some g):∃ o:Obj,w.heap[g]?=some o∧o.isCells=true:=by
 obtain ⟨A,c,h1,_,_,h4⟩:=h
 rw [h1] at hu
 injection hu with hu
 subst hu
 rcases h4 with ⟨rfl,_⟩ | ⟨g',cur,fr,rfl,h5,_⟩
 ·cases hg
 ·simp only [bk,aJ] at hg
  subst hg
  exact ⟨_,h5,rfl⟩
theorem aKv {k:Nat} {b:Blk} (h:fJ S m w k b) (hb:aVW b=true) {u:Value} {g:Nat} (hu:m k=some u) (hg:bk u=some g):∃ o:Obj,w.heap[g]?=some o∧o.isCells=true:=by
 cases b with
 | cells cs =>
  obtain ⟨g',arr,t,h1,h2,_⟩:=h
  rw [h1] at hu
  injection hu with hu
  subst hu
  simp only [bk,aJ] at hg
  subst hg
  exact ⟨_,h2,rfl⟩
 | row e s xs=>exact aE6 h hu hg
 | nrow e s ks xs=>exact aE6 h.1 hu hg
 | tok e s n =>
  obtain ⟨A,c,h1,_,_,h4⟩:=h
  rw [h1] at hu
  injection hu with hu
  subst hu
  rcases h4 with ⟨rfl,_⟩ | ⟨g',cur,fr,rfl,h5,_⟩
  ·cases hg
  ·simp only [bk,aJ] at hg
   subst hg
   exact ⟨_,h5,rfl⟩
 | _=>cases hb
theorem Rel.notObj (h:Rel G kp st a w S m) (hH:lM st.heap=true) {l:Nat} {o:Obj} (hl:w.heap[l]?=some o) (ho:o.isCells=false):∀ k b u g,lk st.heap k=some b->m k=some u->bk u=some g->g≠l:=λ k b u g hk hu hg e=>by
 subst e
 obtain ⟨o',h1,h2⟩:=aKv (h.held k b hk) (aCt hH hk) hu hg
 rw [hl] at h1
 injection h1 with h1
 subst h1
 rw [ho] at h2; cases h2
theorem bQ (a:Act):dP [] a=a:=by unfold dP; rw [List.append_nil]
def aUt (P:Program) (gf:Nat) (lb:Array Value) (vals:Nat->Array Value) (N:Nat) (X:Pin->Prop):Prop :=
 ∀ (n l:Nat) (J:Nat->Pin->World->Prop),JOK J->(∀ k S W,J k S W->k < N->YieldAt Fence.wide (n - 1) P l (vals k) W λ e W'=>e=.returned (.bool true)∧∃ S',Ext S S'∧J (k+1) S' W') ->
  ∀ (S0:Pin) (W:World),GOKg glb S0->X S0->J 0 S0 W->CallsIn Fence.wide n P gf (#[.func (.yield l) #[] #[]]++lb) W λ e W'=>(∃ v,e=.returned v)∧∃ S',Ext S0 S'∧J N S' W'
set_option maxHeartbeats 1000000 in
theorem aQ5 {inv:Nat->St->Option LInv} {fuel:Nat} (hT:TyOK P C.tys) (hS:cF P E) (hM:P.follows .mixedOrders=true) {kp kp1:List Nat} (hCk:C.kp=kp1) (hkp:∀ k ∈ kp,inL k kp1=true) (hGE:∀ S,GOKg glb S->GOK E S)
  {T:List (Nat × AV)} {H:Nat->List (Nat × Blk)} (hgl:GOKg glb S) (hR:Rel G kp ⟨T,H 0⟩ a w S m) (hn:a.tmps.size=C.nt)
  {g:Operand} {gf:Nat} {lb:Array Value} (hg:a.eval g=.func (.func gf) #[] lb) (eg:∀ args w,(callFunc gf args).run P w=.ok (.enter gf args) w)
  {v0 v1:Nat->Value} {x0 x1:Nat->AV} {N:Nat} {X:Pin->Prop} (hI:aUt P gf lb (λ k=>#[v0 k,v1 k]) N X) (hX:X S) (hv:∀ k,k < N->∀ S',Ext S S'->∀ m,CV S' (x0 k) m (v0 k)∧CV S' (x1 k) m (v1 k))
  {p0 p1:Nat} (hp0:p0 < C.nt) (hp1:p1 < C.nt) (hTm:aQa kp1 T) {assign body:Code} (hsa:bT assign=true) (hsb:bT body=true) (hH:∀ k,k≤N->lM (H k)=true)
  (hbody:∀ k,k < N->cC P E C inv fuel assign ((St.put ⟨T,H k⟩ p0 (x0 k)).put p1 (x1 k)) (λ st1=>cond (lM st1.heap) (cC P E C inv fuel body st1 (λ st2=>leS st2 ⟨[],H (k+1)⟩) (λ _ _=>False) (λ _=>False)) False) (λ _ _=>False) (λ _=>False))
  {n:Nat} {Q:Exit->Act->World->Prop}
  (hdone:∀ (W:World) (S':Pin) (m':Nm),Rel G kp ⟨T,H N⟩ a W S' m'->Ext S S'->W.heap[w.heap.size]?=some (.deferred (some []))->Q .normal (dP [{ target:=.collected w.heap.size,args:=#[] }] a) W) :
  (Code.rangeFunc g #[p0,p1] assign body).wpIn Fence.wide n P Q a w:=by
 have ha:=hR.defers
 subst hCk
 have hself:∀ k ∈ C.kp,inL k C.kp=true:=λ k hk=>vG hk
 refine wpIn_rangeFunc ?_
 intro fn hfn
 rw [show Fence.wide.round=none from rfl]
 obtain ⟨rec,hrec⟩:∃ rec:LoopState->Option Code->Loop,rec=λ st pe=>{ state:=st,pending:=pe,fn,tmps:=a.tmps,params:=#[p0,p1],assign,body,defers:=w.heap.size }:=⟨_,rfl⟩
 obtain ⟨W1,hW1⟩:∃ W1,(w.alloc (.deferred (some []))).alloc (.loop (rec .ready none))=W1:=⟨_,rfl⟩
 have hL1:W1.heap[w.heap.size+1]?=some (.loop (rec .ready none)):=by
  rw [← hW1]; have:=World.alloc_heap_new (w.alloc (.deferred (some []))) (.loop (rec .ready none)); rwa [World.size_alloc] at this
 have hK1:W1.heap[w.heap.size]?=some (.deferred (some [])):=by
  rw [← hW1]; exact (Below.heap_alloc _ _ _ (by simp)).trans (World.alloc_heap_new w _)
 have hb1:Below w.heap.size w W1:=by
  rw [← hW1]; exact ((Below.refl _ w).alloc (Nat.le_refl _) _).alloc (by simp) _
 have hag1:dX S W1:=λ b o v e=>⟨(hb1.cell (p:=⟨b,o,none⟩) (hR.agree.lt e)).trans (hR.agree b o v e).1,(hR.agree b o v e).2⟩
 have hR1:Rel (mkG w S m (H 0) C.kp) C.kp ⟨T,H 0⟩ a W1 S m:=(hR.begin_ (kp1:=C.kp)).next hb1 (Ext.refl S) (λ _ _ _=>rfl) hag1
 obtain ⟨G1,hG1⟩:∃ G1,G1=mkG w S m (H 0) C.kp:=⟨_,rfl⟩
 rw [← hG1] at hR1
 have hw0:G1.w0=w:=by rw [hG1]; rfl
 obtain ⟨J,hJ⟩:∃ J:Nat->Pin->World->Prop,J=λ k S' W'=>W'.heap[w.heap.size+1]?=some (.loop (rec .ready none))∧W'.heap[w.heap.size]?=some (.deferred (some []))∧GOKg glb S'∧Ext S S'∧∃ m',Rel G1 C.kp ⟨T,H k⟩ a W' S' m':=⟨_,rfl⟩
 refine ⟨w.heap.size+1,[{ target:=.collected w.heap.size,args:=#[] }],W1,{ target:=.fn (.func gf) lb,args:=#[.func (.yield (w.heap.size+1)) #[] #[]] },W1,gf,
  #[.func (.yield (w.heap.size+1)) #[] #[]]++lb,W1,?_,?_,λ f' hf'=>trivial,?_,λ q=>(by cases q),?_⟩
 ·rw [← hW1,hrec]; exact run_enterLoop_outer _ _ _ _ _
 ·simp only [resolve,hg]
  simp [go_sem]
 ·simp [invoke,go_sem,eg]
 refine (hI (n - 1) (w.heap.size+1) J ?jok ?round S W1 hgl hX (by rw [hJ]; exact ⟨hL1,hK1,hgl,Ext.refl S,m,hR1⟩)).mono ?_
 case jok =>
  rw [hJ]
  refine ⟨λ k S' W' ⟨_,_,_,_,m',h⟩=>h.agree,λ k S' W' S2 W2 ⟨h1,h2,h3,hx,m',h⟩ hb hS2 hp hA=>⟨?_,?_,?_,hx.trans hS2,m',h.next hb hS2 hp hA⟩⟩
  ·exact (hb.block _ (aM.1 h1).1).trans h1
  ·exact (hb.block _ (aM.1 h2).1).trans h2
  ·exact λ g cs e=>CC.mono hS2 cs g 0 (h3 g cs e)
 case round =>
  intro k S' W' hj hk
  rw [hJ] at hj
  obtain ⟨hl,hd,hgl',hxt,m',hRk⟩:=hj
  have hy:=run_yield (P:=P) (args:=#[v0 k,v1 k]) hl (by rw [hrec]; rfl)
  obtain ⟨c0,c1⟩:=hv k hk S' hxt m'
  have hRk1:=hRk.put c0 (d:=p0) (by rw [hn]; exact hp0)
  have hRk2:=hRk1.put c1 (d:=p1) (by rw [dY,hn]; exact hp1)
  have eact:({ tmps:=((rec .ready none).params.zip #[v0 k,v1 k]).foldl (λ tmps (t,a)=>tmps.setIfInBounds t a) (rec .ready none).tmps,defers:=[] }:Act)=(a.put (some p0) (v0 k)).put (some p1) (v1 k):=by
   rw [hrec]
   have ef:((#[p0,p1]:Array Tmp).zip #[v0 k,v1 k]).foldl (λ tmps (x:Tmp × Value)=>tmps.setIfInBounds x.1 x.2) a.tmps=(a.tmps.setIfInBounds p0 (v0 k)).setIfInBounds p1 (v1 k):=by simp
   have e2:({ tmps:=((#[p0,p1]:Array Tmp).zip #[v0 k,v1 k]).foldl (λ tmps (x:Tmp × Value)=>tmps.setIfInBounds x.1 x.2) a.tmps,defers:=[] }:Act)=(a.put (some p0) (v0 k)).put (some p1) (v1 k):=by
    rw [ef]
    show ({ tmps:=(a.tmps.setIfInBounds p0 (v0 k)).setIfInBounds p1 (v1 k),defers:=[] }:Act)={ a with tmps:=(a.tmps.setIfInBounds p0 (v0 k)).setIfInBounds p1 (v1 k) }
    rw [← ha]
   exact e2
  have hnk:((a.put (some p0) (v0 k)).put (some p1) (v1 k)).tmps.size=C.nt:=by rw [dY,dY,hn]
  generalize (a.put (some p0) (v0 k)).put (some p1) (v1 k)=ak at hRk2 eact hnk
  have hltl:w.heap.size+1 < W'.heap.size:=(aM.1 hl).1
  have hokk:lM ((St.put ⟨T,H k⟩ p0 (x0 k)).put p1 (x1 k)).heap=true:=hH k (Nat.le_of_lt hk)
  have heT:((St.put ⟨T,H k⟩ p0 (x0 k)).put p1 (x1 k)).heap=H k:=rfl
  have hbk:=hbody k hk
  generalize (St.put ⟨T,H k⟩ p0 (x0 k)).put p1 (x1 k)=stk at hRk2 hokk heT hbk
  have efn:(rec .ready none).assign=assign∧(rec .ready none).body=body:=by rw [hrec]; exact ⟨rfl,rfl⟩
  refine ⟨_,_,_,_,hy,?_⟩
  rw [efn.1,efn.2]
  refine roundIn_of_wpIn trivial ?_
  rw [eact]
  have hx1:=dL hT hS hM (G:=mkG W' S' m' stk.heap C.kp) (hGE S' hgl') (r:=some (w.heap.size+1)) (n:=n - 1 - 1) (ds:=[]) assign hsa stk _ _ _ hbk ak W' S' m' hRk2.begin_ hnk
  rw [bQ] at hx1
  refine Go.wpIn_mono hx1 ?_
  rintro e a1' w1 ⟨a1,rfl,he⟩
  rw [bQ]
  cases e with
  | normal =>
   obtain ⟨st1,S1,m1,hb0,hA,hn1⟩:=he
   obtain ⟨hok1,hb⟩:=aW hb0
   have j1:=hRk2.join hA hself
   have hnot:∀ {x:Nat} {o:Obj},W'.heap[x]?=some o->o.isCells=false->¬ (mkG W' S' m' stk.heap C.kp).M x:=λ {x o} hx ho ⟨q,blk,u,q1,q2,q3⟩=>hRk2.notObj hokk hx ho q blk u x q1 q2 q3 rfl
   have hl1:w1.heap[w.heap.size+1]?=some (.loop (rec .ready none)):=(hA.frame _ hltl (hnot hl rfl)).trans hl
   have hd1:w1.heap[w.heap.size]?=some (.deferred (some [])):=(hA.frame _ (aM.1 hd).1 (hnot hd rfl)).trans hd
   have hg1:GOKg glb S1:=λ g cs e=>CC.mono hA.pin0 cs g 0 (hgl' g cs e)
   refine ⟨_,run_beginRound hl1 (by rw [hrec]),?_⟩
   have j2:=j1.obj (o':=.loop { rec .ready none with state:=.busy }) hl1 rfl (by rw [hw0]; omega) (j1.notObj hok1 hl1 rfl)
   obtain ⟨w2,hw2⟩:∃ w2,w2=w1.putObj (w.heap.size+1) (.loop { rec .ready none with state:=.busy }):=⟨_,rfl⟩
   rw [← hw2] at j2 ⊢
   have hl2:w2.heap[w.heap.size+1]?=some (.loop { rec .ready none with state:=.busy }):=by rw [hw2]; exact World.putObj_heap_same (aM.1 hl1).1
   have hd2:w2.heap[w.heap.size]?=some (.deferred (some [])):=by rw [hw2]; exact (World.putObj_heap_other (by omega)).trans hd1
   have hx2:=dL hT hS hM (G:=mkG w2 S1 m1 st1.heap C.kp) (hGE S1 hg1) (r:=some (w.heap.size+1)) (n:=n - 1 - 1) (ds:=[]) body hsb st1 _ _ _ hb a1 w2 S1 m1 j2.begin_ hn1
   rw [bQ] at hx2
   refine Go.wpIn_mono hx2 ?_
   rintro e a2' w3 ⟨a2,rfl,he⟩
   cases e with
   | normal =>
    obtain ⟨st2,S2,m2,hle,hB,hn2⟩:=he
    have hnot2:∀ {x:Nat} {o:Obj},w2.heap[x]?=some o->o.isCells=false->¬ (mkG w2 S1 m1 st1.heap C.kp).M x:=λ {x o} hx ho ⟨q,blk,u,q1,q2,q3⟩=>j2.notObj hok1 hx ho q blk u x q1 q2 q3 rfl
    have hl3:=(hB.frame _ (aM.1 hl2).1 (hnot2 hl2 rfl)).trans hl2
    have hd3:=(hB.frame _ (aM.1 hd2).1 (hnot2 hd2 rfl)).trans hd2
    have j3:=(j2.join hB hself).le hle
    have hok3:lM (H (k+1))=true:=hH (k+1) (by omega)
    have j4:=j3.obj (o':=.loop (rec .ready none)) hl3 rfl (by rw [hw0]; omega) (j3.notObj hok3 hl3 rfl)
    have hend:=run_endRound (P:=P) none hl3
    have erec:({ ({ rec .ready none with state:=.busy }:Loop) with state:=if (none:Option Code).isNone then .ready else .done,pending:=none }:Loop)=rec .ready none:=by rw [hrec]; rfl
    rw [erec] at hend
    refine ⟨_,_,hend,rfl,S2,hA.pin0.trans hB.pin0,?_⟩
    rw [hJ]
    refine ⟨World.putObj_heap_same (aM.1 hl3).1,(World.putObj_heap_other (by omega)).trans hd3,λ g cs e=>CC.mono hB.pin0 cs g 0 (hg1 g cs e),hxt.trans (hA.pin0.trans hB.pin0),m2,?_⟩
    refine hRk.rebase (kp1:=C.kp) j4 (hA.pin0.trans hB.pin0) (λ q u hq hu=>?_) hTm
    obtain ⟨u1,e1,g1⟩:=hA.m0 q u (by simp only [mkG]; rw [if_pos hq]; exact hu)
    obtain ⟨u2,e2,g2⟩:=hB.m0 q u1 (by simp only [mkG]; rw [if_pos hq]; exact e1)
    exact ⟨u2,e2,g1.trans g2⟩
   | exit _=>obtain ⟨_,_,_,q,_⟩:=he; exact q.elim
   | ret=>obtain ⟨_,_,_,q,_⟩:=he; exact q.elim
   | _=>exact he.elim
  | exit _=>obtain ⟨_,_,_,q,_⟩:=he; exact q.elim
  | ret=>obtain ⟨_,_,_,q,_⟩:=he; exact q.elim
  | _=>exact he.elim
 ·rintro e W2 ⟨⟨v,rfl⟩,S2,hS2,hj⟩
  rw [hJ] at hj
  obtain ⟨hl,hk,hgl2,_,m2,h2⟩:=hj
  refine ⟨none,_,by have:=run_endLoop (P:=P) hl (by rw [hrec]; simp); rw [hrec] at this; exact this,?_⟩
  have h3:=h2.obj (o':=.loop { rec .ready none with state:=.exhausted }) hl rfl (by rw [hw0]; omega) (h2.notObj (hH N (Nat.le_refl _)) hl rfl)
  rw [hG1] at h3
  have:=hdone _ S2 m2 (hR.join h3 hkp) hS2 ((World.putObj_heap_other (by omega)).trans hk)
  unfold dP at this
  rw [ha] at this ⊢
  rw [hrec] at this
  exact this
variable {P:Program} {S:Pin} {m:Nm} {w:World} {a:Act} {G:Gh} {kp:List Nat} {st:St} {E:Env} {C:Cx}
theorem bX {α:Type} {k j:Nat} {x:α} {l:List (Nat × α)}:lk ((k,x)::l) j=if j=k then some x else lk l j:=by
 show cond (Nat.beq k j) (some x) (lk l j)=_
 by_cases h:j=k
 ·subst h; rw [aY,if_pos rfl]; rfl
 ·rw [nbeq_ne (λ e=>h e.symm),if_neg h]; rfl
theorem roC {T:List (Nat × AV)} {H:List (Nat × Blk)} {k:Nat} {c:AV} (hno:∀ k,nn k c=true) (ho:∀ S m v,CV S c m v->v.oneCell'=true) (h:Rel G kp ⟨T,(k,.cells [c])::H⟩ a w S m) (hk:lk H k=none) :
  ∃ g S' v,m k=some (.pointer (some ⟨g,0,none⟩))∧Ext S S'∧S' g 0=some v∧CV S' c m v∧Rel G kp ⟨T,H⟩ a w S' m:=by
 have e0:lk ((k,Blk.cells [c])::H) k=some (.cells [c]):=by rw [bX,if_pos rfl]
 have hlk:∀ j b,lk H j=some b->j≠k∧lk ((k,Blk.cells [c])::H) j=some b:=λ j b e=>by
  have hne:j≠k:=λ q=>by subst q; rw [hk] at e; cases e
  exact ⟨hne,by rw [bX,if_neg hne]; exact e⟩
 obtain ⟨g,arr,t,h1,h2,h3,h4⟩:=h.held k _ e0
 simp only [CVl] at h3
 obtain ⟨v,us,hus,hv,rfl⟩:=h3
 have harr:arr=#[v]:=Array.toList_inj.1 hus
 subst harr
 have hone:=ho _ _ _ hv
 have hcell:w.cell? ⟨g,0,none⟩=some v:=by simp [World.cell?,h2]
 let S':Pin:=λ b o=>if b=g∧o=0 then some v else S b o
 have hS:Ext S S':=λ b o v e=>by
  show (if b=g∧o=0 then _ else _)=_
  rw [if_neg]
  ·exact e
  ·rintro ⟨rfl,rfl⟩; rw [h4 0] at e; cases e
 have hfar:∀ b,b≠g->∀ o,S' b o=S b o:=λ b hb o=>if_neg λ q=>hb q.1
 refine ⟨g,S',v,h1,hS,if_pos ⟨rfl,rfl⟩,hv.ext hS (MLe.refl m),?_⟩
 exact { h with
  defers:=h.defers
  pin0:=h.pin0.trans hS
  pinNew:=λ b o hb hM=>by
   by_cases q:b=g
   ·subst q
    rcases h.own k _ _ b e0 h1 rfl with q | q
    ·omega
    ·exact absurd q hM
   ·rw [hfar b q]; exact h.pinNew b o hb hM
  agree:=λ b o v' e=>by
   by_cases q:b=g∧o=0
   ·obtain ⟨rfl,rfl⟩:=q
    have:S' b 0=some v:=if_pos ⟨rfl,rfl⟩
    rw [this] at e
    injection e with e
    subst e
    exact ⟨hcell,hone⟩
   ·have:S' b o=S b o:=if_neg q
    rw [this] at e
    exact h.agree b o _ e
  tmps:=λ t=>(h.tmps t).ext hS (MLe.refl m)
  held:=λ j b hj=>by
   obtain ⟨hne,hj'⟩:=hlk j b hj
   refine (h.held j b hj').keep hS (λ _ _ _ hc=>hc.ext hS (MLe.refl m)) rfl λ u g' hu hg=>⟨rfl,λ o=>hfar g' (λ q=>?_) o⟩
   subst q
   exact h.inj j k b _ u _ g' hj' e0 hne hu h1 hg rfl
  inj:=λ j j' b b' u u' g' q1 q2 q3 q4 q5 q6=>h.inj j j' b b' u u' g' (hlk j b q1).2 (hlk j' b' q2).2 q3 q4 q5 q6
  own:=λ j b u g' q1 q2 q3=>h.own j b u g' (hlk j b q1).2 q2 q3 }
def aWI (k:Nat):AV:=.int .i64 k
def aWH (es:LL) (k:Nat):AV:=.agg [.int .i64 (nI (es.getD k []) 0),.int .i64 (nI (es.getD k []) 1)]
structure ItOK (gf:Nat) (c:AV) (N:Nat) (x0 x1:Nat->AV):Prop where
 lt:Nat.blt gf fnB=true
 no:∀ k,nn k c=true
 on:∀ S m v,CV S c m v->v.oneCell'=true
 en:∀ args w,(callFunc gf args).run Tryz.prog w=.ok (.enter gf args) w
 it:∀ (S:Pin) (m:Nm) (g:Nat) (v:Value),S g 0=some v->CV S c m v->∃ v0 v1:Nat->Value,(∀ k,k < N->∀ S',Ext S S'->∀ m',CV S' (x0 k) m' (v0 k)∧CV S' (x1 k) m' (v1 k))∧aUt Tryz.prog gf #[.pointer (some ⟨g,0,none⟩)] (λ k=>#[v0 k,v1 k]) N (λ S'=>Ext S S')
theorem aJU {inv:Nat->St->Option LInv} {fuel:Nat} (hT:TyOK Tryz.prog C.tys) (hS:cF Tryz.prog E) (hkp:∀ k ∈ kp,inL k C.kp=true) (hGE:E.glob=glb)
  {T:List (Nat × AV)} {H:Nat->List (Nat × Blk)} (hgl:GOKg glb S) {gf:Nat} {c:AV} {N:Nat} {x0 x1:Nat->AV} (hq:ItOK gf c N x0 x1) {tg k0:Nat} (hk0:lk (H 0) k0=none) (hR:Rel G kp ⟨(tg,.fn gf [.ptr k0 0])::T,(k0,.cells [c])::H 0⟩ a w S m) (hT0:∀ x,lk T tg=some x->x=.fn gf [.ptr k0 0]) (hn:a.tmps.size=C.nt)
  {p0 p1:Nat} (hp0:p0 < C.nt) (hp1:p1 < C.nt) (hTm:aQa C.kp T) {assign body:Code} (hsa:bT assign=true) (hsb:bT body=true) (hH:∀ k,k≤N->lM (H k)=true)
  (hbody:∀ k,k < N->cC Tryz.prog E C inv fuel assign ((St.put ⟨T,H k⟩ p0 (x0 k)).put p1 (x1 k)) (λ st1=>cond (lM st1.heap) (cC Tryz.prog E C inv fuel body st1 (λ st2=>leS st2 ⟨[],H (k+1)⟩) (λ _ _=>False) (λ _=>False)) False) (λ _ _=>False) (λ _=>False))
  {n:Nat} {Q:Exit->Act->World->Prop}
  (hdone:∀ (W:World) (S':Pin) (m':Nm),Rel G kp ⟨T,H N⟩ a W S' m'->Ext S S'->W.heap[w.heap.size]?=some (.deferred (some []))->Q .normal (dP [{ target:=.collected w.heap.size,args:=#[] }] a) W) :
  (Code.rangeFunc (.tmp tg) #[p0,p1] assign body).wpIn Fence.wide n Tryz.prog Q a w:=by
 obtain ⟨hlt,hno,ho,heg,hit⟩:=hq
 have hfv:=hR.tmps tg
 have e1:St.get ⟨(tg,.fn gf [.ptr k0 0])::T,(k0,.cells [c])::H 0⟩ tg=.fn gf [.ptr k0 0]:=by
  unfold St.get; simp only; rw [bX,if_pos rfl]
 rw [e1] at hfv
 simp only [CV,CVl] at hfv
 obtain ⟨us,hfv,v,vs,hus,⟨g,hg1,rfl⟩,rfl⟩:=hfv
 rw [qJ hlt] at hfv
 obtain rfl:us=#[.pointer (some ⟨g,0,none⟩)]:=Array.toList_inj.1 hus
 obtain ⟨g',S',v,hm,hSS,hpin,hcv,hR2⟩:=roC hno ho hR hk0
 rw [hg1] at hm
 injection hm with hm
 injection hm with hm
 injection hm with hm
 injection hm with hm _ _
 subst hm
 have hR3:Rel G kp ⟨T,H 0⟩ a w S' m:={ hR2 with
  defers:=hR2.defers
  held:=hR2.held
  inj:=hR2.inj
  own:=hR2.own
  tmps:=λ t=>by
   have:=hR2.tmps t
   unfold St.get at this ⊢
   simp only at this ⊢
   rw [bX] at this
   by_cases q:t=tg
   ·subst q
    rw [if_pos rfl] at this
    cases e:lk T t with
    | none=>simp only [CV]
    | some x=>rw [hT0 x e]; exact this
   ·rw [if_neg q] at this; exact this }
 have hgl':GOKg glb S':=λ g cs e=>CC.mono hSS cs g 0 (hgl g cs e)
 obtain ⟨v0,v1,hv,hI⟩:=hit S' m g v hpin hcv
 exact aQ5 hT hS (by kernel_rfl) (kp1:=C.kp) rfl hkp (λ S h=>by unfold GOK; rw [hGE]; exact h) hgl' hR3 hn (gf:=gf) (lb:=#[.pointer (some ⟨g,0,none⟩)]) (by
  show a.tmps.getD tg undef=_
  exact hfv) heg hI (Ext.refl S') hv hp0 hp1 hTm hsa hsb hH hbody λ W S2 m2 h1 h2 h3=>hdone W S2 m2 h1 (hSS.trans h2) h3
theorem itE {n0:Int} (hq:BldQ nrm n0):ItOK 154 (.int .i64 n0) (aS nrm n0).length aWI (aWH (aS nrm n0)):=by
 refine ⟨rfl,λ k=>rfl,λ S m v h=>?_,enters_of Tryz.func154 (by kernel_rfl) rfl,λ S m g v hp hc=>?_⟩
 ·simp only [CV] at h; obtain ⟨rfl,_⟩:=h; rfl
 simp only [CV] at hc
 obtain ⟨rfl,_⟩:=hc
 have hN:=(cB hq).2
 refine ⟨λ k=>.int .i64 k,λ k=>.agg #[.int .i64 (nI ((aS nrm n0).getD k []) 0),.int .i64 (nI ((aS nrm n0).getD k []) 1)],?_,?_⟩
 ·intro k hk S' _ m'
  have er:(aS nrm n0)[k]?=some ((aS nrm n0).getD k []):=by rw [aB,aD hk]; rfl
  have hin:=(cB hq).1 _ (aL er)
  have a0:=hin.at_ 0 (by decide)
  have a1:=hin.at_ 1 (by decide)
  have l2:=hq.l2
  refine ⟨?_,?_⟩
  ·simp only [aWI,CV]
   exact ⟨trivial,by unfold rng; omega⟩
  ·simp only [aWH,CV,CVl]
   exact ⟨_,rfl,_,_,rfl,⟨rfl,by unfold rng; omega⟩,_,_,rfl,⟨rfl,by unfold rng; omega⟩,rfl⟩
 ·intro n l J hJ hY S0 W hg hX h0
  exact aHF hq hJ hY hg h0 (hX _ _ _ hp)
variable {P:Program} {S:Pin} {m:Nm} {w:World} {a:Act} {G:Gh} {kp:List Nat} {st:St} {E:Env} {C:Cx}
structure RL where
 gf:Nat
 c:AV
 N:Nat
 x0:Nat->AV
 x1:Nat->AV
 T:List (Nat × AV)
 H:Nat->List (Nat × Blk)
 k0:Nat
 kp:List Nat
def RLe (n0:Int) (T:List (Nat × AV)) (H:Nat->List (Nat × Blk)) (k0:Nat) (kp:List Nat):RL:=⟨154,.int .i64 n0,(aS nrm n0).length,aWI,aWH (aS nrm n0),T,H,k0,kp⟩
def kpT (ks:List Nat):List (Nat × AV)->Prop
 | []=>True
 | (_,x)::l=>(∀ k,nn k x=false->inL k ks=true)∧kpT ks l
theorem aA9 {ks:List Nat}:∀ {T:List (Nat × AV)},kpT ks T->aQa ks T
 | [],_,t,x,e=>by simp [lk] at e
 | (j,y)::l,h,t,x,e=>by
  simp only [kpT] at h
  rw [bX] at e
  split at e
  ·simp only [aJ] at e; subst e; exact h.1
  ·exact aA9 h.2 t x e
def hasT (t:Nat):List (Nat × AV)->Bool
 | []=>false
 | (j,_)::l=>Nat.beq j t||hasT t l
theorem aBh {t:Nat}:∀ {T:List (Nat × AV)},hasT t T=false->lk T t=none
 | [],_=>rfl
 | (j,y)::l,h=>by
  simp only [hasT,Bool.or_eq_false_iff] at h
  rw [bX,if_neg,aBh h.2]
  intro e; subst e; rw [aY] at h; cases h.1
def hasH (t:Nat):List (Nat × Blk)->Bool
 | []=>false
 | (j,_)::l=>Nat.beq j t||hasH t l
theorem vR {t:Nat}:∀ {T:List (Nat × Blk)},hasH t T=false->lk T t=none
 | [],_=>rfl
 | (j,y)::l,h=>by
  simp only [hasH,Bool.or_eq_false_iff] at h
  rw [bX,if_neg,vR h.2]
  intro e; subst e; rw [aY] at h; cases h.1
def rlK (P:Program) (E:Env) (C:Cx) (inv:Nat->St->Option LInv) (fuel:Nat) (g:Operand) (ps:List Nat) (assign body:Code) (st:St) (L:RL) (kn:Prop):Prop:=match g,ps with
 | .tmp tg,[p0,p1]=>cond (Nat.blt p0 C.nt&&Nat.blt p1 C.nt&&bT assign&&bT body&&!(hasT tg L.T)&&!(hasH L.k0 (L.H 0)))
   (ItOK L.gf L.c L.N L.x0 L.x1∧leS st ⟨(tg,.fn L.gf [.ptr L.k0 0])::L.T,(L.k0,.cells [L.c])::L.H 0⟩∧kpT L.kp L.T∧(∀ k,lM (L.H k)=true) ∧
    (∀ k,k < L.N->cC P E { C with kp:=L.kp } inv fuel assign ((St.put ⟨L.T,L.H k⟩ p0 (L.x0 k)).put p1 (L.x1 k)) (λ st1=>cond (lM st1.heap) (cC P E { C with kp:=L.kp } inv fuel body st1 (λ st2=>leS st2 ⟨[],L.H (k+1)⟩) (λ _ _=>False) (λ _=>False)) False) (λ _ _=>False) (λ _=>False))∧kn) False
 | _,_=>False
def acR (P:Program) (E:Env) (C:Cx) (inv:Nat->St->Option LInv) (fuel:Nat) (rl:St->Option RL):Code->Bool->St->(Bool->St->Prop)->(Bool->St->Prop)->Prop
 | .seq a b,d,st,kn,kr=>acR P E C inv fuel rl a d st (λ d' st'=>acR P E C inv fuel rl b d' st' kn kr) kr
 | .block id (.rangeFunc g ps assign body),d,st,kn,kr=>(match d,rl st with
  | false,some L=>rlK P E C inv fuel g ps.toList assign body st L (kn true ⟨L.T,L.H L.N⟩)
  | _,_=>False)
 | c,d,st,kn,kr=>cond d (cond (bT c) (cond (lM st.heap) (cC P E C inv fuel c st (kn true) (λ _ _=>False) (kr true)) False) False) (cC P E C inv fuel c st (kn false) (λ _ _=>False) (kr false))
def aLT (G:Gh) (d:Bool) (ds:List Deferred) (w:World):Prop:=if d=true then ∃ D,ds=[{ target:=.collected D,args:=#[] }]∧w.heap[D]?=some (.deferred (some []))∧G.w0.heap.size≤D else ds=[]
def aUu (G:Gh) (C:Cx) (kn:Bool->St->Prop) (kr:Bool->St->Prop):Exit->Act->World->Prop
 | .normal,a',w=>∃ d ds a0 st S m,a'=dP ds a0∧aLT G d ds w∧kn d st∧Rel G [] st a0 w S m∧a0.tmps.size=C.nt
 | .ret,a',w=>∃ d ds a0 st S m,a'=dP ds a0∧aLT G d ds w∧kr d st∧Rel G [] st a0 w S m∧a0.tmps.size=C.nt
 | _,_,_=>False
theorem aCJ {inv:Nat->St->Option LInv} {fuel:Nat} (hT:TyOK Tryz.prog C.tys) (hS:cF Tryz.prog E) (hC:C.kp=[]) (hGE:E.glob=glb) (hG:GOKg glb G.S0) {n:Nat} {c:Code} {d:Bool} {kn kr:Bool->St->Prop}
  (h:cond d (cond (bT c) (cond (lM st.heap) (cC Tryz.prog E C inv fuel c st (kn true) (λ _ _=>False) (kr true)) False) False) (cC Tryz.prog E C inv fuel c st (kn false) (λ _ _=>False) (kr false)))
  {ds:List Deferred} (hD:aLT G d ds w) (hR:Rel G [] st a w S m) (hn:a.tmps.size=C.nt):c.wpIn Fence.wide n Tryz.prog (aUu G C kn kr) (dP ds a) w:=by
 have hGE':∀ S,GOKg glb S->GOK E S:=λ S h=>by unfold GOK; rw [hGE]; exact h
 have hgS:GOKg glb S:=λ g cs e=>CC.mono hR.pin0 cs g 0 (hG g cs e)
 cases d with
 | false =>
  rw [cond_false] at h
  have hds:ds=[]:=hD
  subst hds
  rw [bQ]
  refine Go.wpIn_mono (wpIn_wide.2 (bM hT hS (by kernel_rfl) (hGE' _ hG) c _ _ _ _ h a w S m (by rw [hC]; exact hR) hn)) ?_
  intro e a' w' he
  cases e with
  | normal=>obtain ⟨st',S',m',hk,hR',hn'⟩:=he; exact ⟨false,[],a',st',S',m',(bQ a').symm,rfl,hk,by rw [hC] at hR'; exact hR',hn'⟩
  | ret=>obtain ⟨st',S',m',hk,hR',hn'⟩:=he; exact ⟨false,[],a',st',S',m',(bQ a').symm,rfl,hk,by rw [hC] at hR'; exact hR',hn'⟩
  | exit _=>obtain ⟨st',S',m',hk,hR',hn'⟩:=he; exact hk.elim
  | _=>exact he.elim
 | true =>
  rw [cond_true] at h
  obtain ⟨hs,h⟩:=aW h
  obtain ⟨hok,h⟩:=aW h
  obtain ⟨D,hds,hd,hDs⟩:=(show ∃ D,_ from hD)
  have hx:=dL hT hS (by kernel_rfl) (G:=mkG w S m st.heap []) (hGE' S hgS) (r:=none) (n:=n) (ds:=ds) c hs st _ _ _ h a w S m (by rw [hC]; exact hR.begin_) hn
  refine Go.wpIn_mono hx ?_
  have fin:∀ (k:Bool->St->Prop) (a0:Act) (w':World),(∃ st' S' m',k true st'∧Rel (mkG w S m st.heap []) C.kp st' a0 w' S' m'∧a0.tmps.size=C.nt)->∃ d ds' a1 st' S' m',dP ds a0=dP ds' a1∧aLT G d ds' w'∧k d st'∧Rel G [] st' a1 w' S' m'∧a1.tmps.size=C.nt:=λ k a0 w' ⟨st',S',m',hk,hR',hn'⟩=>by
   rw [hC] at hR'
   refine ⟨true,ds,a0,st',S',m',rfl,?_,hk,hR.join hR' (λ k hk=>by cases hk),hn'⟩
   refine ⟨D,hds,?_,hDs⟩
   exact (hR'.frame D (aM.1 hd).1 λ ⟨q,blk,u,q1,q2,q3⟩=>hR.notObj hok hd rfl q blk u D q1 q2 q3 rfl).trans hd
  rintro e a' w' ⟨a0,rfl,he⟩
  cases e with
  | normal=>exact fin kn a0 w' he
  | ret=>exact fin kr a0 w' he
  | exit _=>obtain ⟨st',S',m',hk,hR',hn'⟩:=he; exact hk.elim
  | _=>exact he.elim
theorem aXH {inv:Nat->St->Option LInv} {fuel:Nat} (hT:TyOK Tryz.prog C.tys) (hS:cF Tryz.prog E) (hGE:E.glob=glb) (hG:GOKg glb G.S0) {n:Nat} {id:Nat} {g:Operand} {ps:Array Tmp} {assign body:Code} {L:RL} {kn kr:Bool->St->Prop}
  (h:rlK Tryz.prog E C inv fuel g ps.toList assign body st L (kn true ⟨L.T,L.H L.N⟩)) (hR:Rel G [] st a w S m) (hn:a.tmps.size=C.nt):(Code.block id (.rangeFunc g ps assign body)).wpIn Fence.wide n Tryz.prog (aUu G C kn kr) a w:=by
 unfold rlK at h
 split at h
 ·rename_i tg p0 p1 hps
  obtain rfl:ps=#[p0,p1]:=Array.toList_inj.1 hps
  obtain ⟨hb,hq,hle,hkT,hok,hbody,hkn⟩:=aW h
  simp only [aC,Bool.not_eq_true'] at hb
  obtain ⟨⟨⟨⟨⟨b0,b1⟩,b2⟩,b3⟩,b4⟩,b5⟩:=hb
  have hgS:GOKg glb S:=λ g cs e=>CC.mono hR.pin0 cs g 0 (hG g cs e)
  refine wpIn_block (aJU (C:={ C with kp:=L.kp }) hT hS (kp:=[]) (λ k hk=>by cases hk) hGE hgS hq (vR b5) (hR.le hle) (λ x e=>by rw [aBh b4] at e; cases e) hn (aK b0) (aK b1) (aA9 hkT) b2 b3 (λ k _=>hok k) hbody ?_)
  intro W S' m' h1 h2 h3
  exact ⟨true,_,a,_,S',m',rfl,⟨_,rfl,h3,hR.size⟩,hkn,h1,hn⟩
 ·exact h.elim
theorem aIE {inv:Nat->St->Option LInv} {fuel:Nat} {rl:St->Option RL} (hT:TyOK Tryz.prog C.tys) (hS:cF Tryz.prog E) (hC:C.kp=[]) (hGE:E.glob=glb) (hG:GOKg glb G.S0) {n:Nat} :
  ∀ (c:Code) (d:Bool) (st:St) (kn kr:Bool->St->Prop),acR Tryz.prog E C inv fuel rl c d st kn kr->∀ (a:Act) (w:World) (S:Pin) (m:Nm) (ds:List Deferred),aLT G d ds w->Rel G [] st a w S m->a.tmps.size=C.nt->c.wpIn Fence.wide n Tryz.prog (aUu G C kn kr) (dP ds a) w:=by
 intro c
 induction c with
 | seq x y ihx ihy =>
  intro d st kn kr h a w S m ds hD hR hn
  unfold acR at h
  refine wpIn_seq (Go.wpIn_mono (ihx d st _ kr h a w S m ds hD hR hn) ?_)
  intro e a' w' he
  cases e with
  | normal =>
   obtain ⟨d',ds',a0,st',S',m',rfl,hD',hk,hR',hn'⟩:=he
   exact ihy d' st' kn kr hk a0 w' S' m' ds' hD' hR' hn'
  | ret=>exact he
  | _=>exact he.elim
 | block id b ih =>
  intro d st kn kr h a w S m ds hD hR hn
  by_cases hb:∃ g ps x y,b=.rangeFunc g ps x y
  ·obtain ⟨g,ps,x,y,rfl⟩:=hb
   unfold acR at h
   split at h
   ·rename_i L hL
    have hds:ds=[]:=hD
    subst hds
    rw [bQ]
    exact aXH hT hS hGE hG h hR hn
   ·exact h.elim
  ·refine aCJ (inv:=inv) (fuel:=fuel) hT hS hC hGE hG ?_ hD hR hn
   cases b with
   | rangeFunc g ps x y=>exact absurd ⟨g,ps,x,y,rfl⟩ hb
   | _=>exact h
 | _ =>
  intro d st kn kr h a w S m ds hD hR hn
  exact aCJ (inv:=inv) (fuel:=fuel) hT hS hC hGE hG h hD hR hn
def aPL (P:Program) (E:Env) (C:Cx) (fn:Func) (r:AV) (d:Bool) (st:St):Prop:=cond d (cond (lM st.heap) (aJH P E C st fn.results.toList λ x=>bL x λ y=>le y r) False) (aJH P E C st fn.results.toList λ x=>bL x λ y=>le y r)
@[irreducible] def fnR (P:Program) (E:Env) (C:Cx) (inv:Nat->St->Option LInv) (fuel:Nat) (rl:St->Option RL) (fn:Func) (xs:List AV) (r:AV):Prop :=
 match fn.body with
 | some c=>cond (Nat.beq C.nt fn.ntmps&&Nat.ble xs.length fn.ntmps) (acR P E C inv fuel rl c false ⟨lB xs 0,[]⟩ (aPL P E C fn r) (aPL P E C fn r)) False
 | none=>False
theorem lX {inv:Nat->St->Option LInv} {fuel:Nat} {rl:St->Option RL} (hT:TyOK Tryz.prog C.tys) (hS:cF Tryz.prog E) (hGE:E.glob=glb) {f:FuncId} {fn:Func} (hf:Tryz.prog.funcs[f]?=some fn) (hkp:C.kp=[]) {xs:List AV} {r:AV}
    (h:fnR Tryz.prog E C inv fuel rl fn xs r):PureC Tryz.prog glb f xs r:=by
  intro w S vs hG hA hv
  unfold fnR at h
  split at h
  · rename_i c hc
    obtain ⟨hb,h⟩:=aW h
    simp only [aC] at hb
    have hnt:=aA hb.1
    have hle:=aK hb.2
    have hlen:=hv.len
    simp only [Array.length_toList] at hlen
    obtain ⟨G,hGd⟩:∃ G:Gh,G=⟨w,S,dE,λ _=>False⟩:=⟨_,rfl⟩
    have hR0:Rel G [] ⟨lB xs 0,[]⟩ { tmps:=vs++Array.replicate (fn.ntmps - vs.size) undef,defers:=[] } w S dE:=by
      subst hGd
      exact
      { defers:=rfl
        pin0:=Ext.refl S
        pinNew:=λ _ _ _ _=>rfl
        agree:=hA
        tmps:=λ t=>by
          unfold St.get
          rw [jM]
          simp only [Nat.zero_le,if_true,Nat.sub_zero]
          cases e:xs[t]? with
          | none=>simp only [CV]
          | some x =>
            obtain ⟨v,hv1,hv2⟩:=hv.get e
            have hlt:t < vs.size:=by have:=(aF.1 hv1).1; simpa using this
            have:vs[t]?=some v:=by simpa using hv1
            simp only [Array.getD_eq_getD_getElem?,Array.getElem?_append_left hlt,this,Option.getD_some]
            exact hv2
        held:=λ k b hk=>by simp [lk] at hk
        inj:=λ k k' b b' u u' g hk=>by simp [lk] at hk
        own:=λ k b u g hk=>by simp [lk] at hk
        os:=rfl
        tape:=rfl
        output:=rfl
        size:=Nat.le_refl _
        frame:=λ _ _ _=>rfl
        m0:=MLe.refl _
        keep:=λ k u e=>by cases e }
    have hGS:GOKg glb G.S0:=by rw [hGd]; exact hG
    have hrun:=aIE (n:=3) hT hS hkp hGE hGS c false _ _ _ h _ w S dE [] rfl hR0 (by simp; omega)
    rw [bQ] at hrun
    refine callsIn_wide.1 (callsIn_of_wp_marks (n:=3) hf hc trivial (Go.wpIn_mono hrun ?_))
    have fin:∀ st a w' S0 m0,aJH Tryz.prog E C st fn.results.toList (λ x=>bL x λ y=>le y r)->Rel G [] st a w' S0 m0->∃ v,(results fn a.tmps).run Tryz.prog w'=.ok v w' ∧
          ∃ u S',Ending.returned v=.returned u∧Below w.heap.size w w'∧Ext S S'∧(∀ b o,b < w.heap.size->S' b o=S b o)∧dX S' w'∧CV S' r dE u:=by
      intro st0 a w' S0 m0 hk0 hR0
      unfold aJH at hk0
      rw [hkp] at hk0
      obtain ⟨st,S',m,hk,hR⟩:=cD _ _ S0 m0 _ hk0 hR0
      obtain ⟨x,v,h1,h2,h3⟩:=gI (C:=C) (by rw [hkp]; exact hR) hk
      obtain ⟨y,h4,h5⟩:=eY _ _ h1
      subst hGd
      exact ⟨v,h3,v,S',rfl,⟨hR.os,hR.tape,hR.output,hR.size,λ b hb=>hR.frame b hb (λ q=>q)⟩,hR.pin0,λ b o hb=>hR.pinNew b o hb (λ q=>q),hR.agree,fP _ _ _ _ h4 (h5 S' m v h2)⟩
    have key:∀ a' w',(∃ d ds a0 st S m,a'=dP ds a0∧aLT G d ds w'∧aPL Tryz.prog E C fn r d st∧Rel G [] st a0 w' S m∧a0.tmps.size=C.nt)->LeavesInM Fence.wide 3 Tryz.prog fn a'.tmps (λ e w'=>∃ u S',e=.returned u∧Below w.heap.size w w'∧Ext S S'∧(∀ b o,b < w.heap.size->S' b o=S b o)∧dX S' w'∧CV S' r dE u) a'.defers .returning w':=by
      rintro a' w' ⟨d,ds,a0,st,S1,m1,rfl,hD,hk,hR,hn⟩
      have hd0:=hR.defers
      show LeavesInM Fence.wide 3 Tryz.prog fn a0.tmps _ (a0.defers++ds) .returning w'
      rw [hd0,List.nil_append]
      cases d with
      | false =>
        obtain rfl:ds=[]:=hD
        exact fin st a0 w' S1 m1 hk hR
      | true =>
        obtain ⟨D,rfl,hd,hDs⟩:=(show ∃ D,_ from hD)
        obtain ⟨hok,hk⟩:=aW (show cond (lM st.heap) _ False from hk)
        refine ⟨by simp,.inl ⟨_,_,rfl,run_takeDeferred hd,?_⟩⟩
        exact fin st a0 _ S1 m1 hk (hR.obj hd rfl hDs (hR.notObj hok hd rfl))
    intro e a' w' he
    cases e with
    | normal=>exact key a' w' he
    | ret=>exact key a' w' he
    | _=>exact he.elim
  · exact h.elim
end Go.Proofs.YtgbbmadjdaphnaaGreatDoor
namespace Go.Proofs.YtgbbmadjdaphnaaGreatDoor
open Go
def lY:SpH
 | [.int .i64 n],[]=>some (True,.fn 154 [.ptr 0 0],[.cells [.int .i64 n]])
 | _,_=>none
def wI:Prop :=
 ∀ (gl:aX) (n:Int),IR9 n->((0:Nat)=(0:Nat)∧True)∧(n=n∧True)∧True
theorem aKP:wI:=by
 unfold wI
 intro gl n
 intros
 (repeat' (first | exact trivial | exact rfl | assumption | apply And.intro))
theorem aKO:wI=(∀ (gl:aX) (n:Int),fnH Tryz.prog { glob:=gl,spec:=lk [],specH:=lk [] } { nt:=4,drop:=drp [(1,8)],fr:=1000,kp:=[] } (λ _ _=>none) 6 Tryz.f119 [.int .i64 n] [] (.fn 154 [.ptr 0 0]) [.cells [.int .i64 n]]):=by kernel_rfl
def aKN:=Eq.mp (aKO ..) (aKP)
theorem qO (gl:aX):HOK Tryz.prog gl 119 lY:=by
 refine ⟨fok Tryz.func119 (by kernel_rfl) (by kernel_rfl),?_⟩
 intro xs bs pre r bs2 h hp
 unfold lY at h
 split at h
 ·cases h
  exact bC bD (by exact aV rfl rfl trivial trivial) (by kernel_rfl) Tryz.func119 (aKN gl _)
 ·cases h
def aKU (ds:List Int) (r:List AV):List Int :=
 let d1:=ds.set (nI r 0).toNat (ds.getD (nI r 0).toNat 0+1)
 d1.set (nI r 1).toNat (d1.getD (nI r 1).toNat 0+1)
def nZ (es:LL) (N:Nat):Nat->List Int
 | 0=>List.replicate N 0
 | k+1=>aKU (nZ es N k) (es.getD k [])
def ndN (n:Int):Nat:=(10*n*n+2).toNat
def bR (n:Int):List Int:=nZ (aS nrm n) (ndN n) (aS nrm n).length
theorem aKT (ds:List Int) (r:List AV):(aKU ds r).length=ds.length:=by simp [aKU]
theorem lZ (es:LL) (N:Nat):∀ k,(nZ es N k).length=N
 | 0=>by simp [nZ]
 | k+1=>by rw [nZ,aKT,lZ es N k]
theorem kN {l:List Int} {B:Int} (h:∀ j,0≤l.getD j 0∧l.getD j 0≤B) {i:Nat}:∀ j,0≤(l.set i (l.getD i 0+1)).getD j 0∧(l.set i (l.getD i 0+1)).getD j 0≤B+1:=λ j=>by
 rw [aB,List.getElem?_set]
 have hi:=h i
 have hj:=h j
 split
 ·split
  ·simp only [Option.getD_some]; omega
  ·simp only [Option.getD_none]; omega
 ·rw [← aB]; omega
theorem wQ (es:LL) (N:Nat):∀ k,∀ j,0≤(nZ es N k).getD j 0∧(nZ es N k).getD j 0≤2*k
 | 0,j=>by
  rw [nZ,aB,List.getElem?_replicate]
  split <;> simp
 | k+1,j=>by
  have h1:=kN (wQ es N k) (i:=(nI (es.getD k []) 0).toNat)
  have h2:=kN h1 (i:=(nI (es.getD k []) 1).toNat) j
  rw [nZ]
  unfold aKU
  simp only at h2 ⊢
  omega
theorem iE {n:Int} (h:GrdP nrm n) {k:Nat} (hk:k < (aS nrm n).length):(0≤nI ((aS nrm n).getD k []) 0∧nI ((aS nrm n).getD k []) 0 < ndN n)∧0≤nI ((aS nrm n).getD k []) 1∧nI ((aS nrm n).getD k []) 1 < ndN n:=by
 have er:(aS nrm n)[k]?=some ((aS nrm n).getD k []):=by rw [aB,aD hk]; rfl
 have hin:=(cB h.bq).1 _ (aL er)
 have a0:=hin.at_ 0 (by decide)
 have a1:=hin.at_ 1 (by decide)
 have hl:=h.ln
 unfold ndN
 omega
theorem sU {n:Int} (h:GrdP nrm n):((ndN n:Nat):Int)=10*n*n+2∧0≤10*n*n+2∧10*n*n+2≤200:=by
 have hl:=h.ln
 have h2:=h.bq.l2
 unfold ndN
 omega
theorem fC {k j o:Nat} (h:nn k (.ptr j o)=false):k=j:=by
 simp only [nn,Bool.not_eq_false'] at h
 exact (aA h).symm
def aHL (n:Int):RL:=RLe n [(4,.ptr 4 0)] (λ k=>[(4,.cells [.rw 12 1 (ndN n)]),(12,.row 3 1 (aP (nZ (aS nrm n) (ndN n) k)))]) 14 [4]
def yX:Sp
 | [.int .i64 n]=>some (GrdP nrm n,.tup [.sl 1 false (aP (bR n)),.int .i64 0])
 | _=>none
abbrev iD (n:Int) (k3:Nat):=(aP (nZ (aS nrm n) (ndN n) k3))
abbrev kH (n:Int) (k3:Nat):=(nI ((aS nrm n).getD k3 []) 0)
def aHm:Prop :=
 ∀ (n:Int),GrdP nrm n->True∧bif !inB 1 8 n then aP (bR n)=[]∧(1:Int)=(0:Int)∧True else (1≤n∧n≤(4:Int))∧bif decide ((0:Int)≤(10:Int)*n*n+(2:Int)∧(10:Int)*n*n+(2:Int)≤(10:Int)*n*n+(2:Int)∧(8:Int)*((10:Int)*n*n+(2:Int))≤(281474976710656:Int)∧(10:Int)*n*n+(2:Int)≤(9223372036854775807:Int)) then True∧ItOK (aHL n).gf (aHL n).c (aHL n).N (aHL n).x0 (aHL n).x1∧((((0:Nat)=(0:Nat)∧True)∧(0:Nat)=(0:Nat)∧True)∧(n=n∧True)∧(((10:Int)*n*n+(2:Int)).toNat=ndN n∧True)∧List.replicate ((10:Int)*n*n+(2:Int)).toNat [I6 0]=aP (nZ (aS nrm n) (ndN n) 0)∧True)∧((∀ (k1:Nat),nn k1 (AV.ptr 4 0)=false->inL k1 (aHL n).kp=true)∧True)∧(∀ (k2:Nat),lM ((aHL n).H k2)=true)∧(∀ (k3:Nat),k3 < (aHL n).N->bif decide (0≤nI ((aS nrm n).getD k3 []) 0∧nI ((aS nrm n).getD k3 []) 0 < (↑(ndN n):Int)) then bif decide (ndN n=(iD n k3).length∧(kH n k3).toNat < (iD n k3).length) then ∃ n_1,List.take [I6 n_1].length (List.drop 0 ((iD n k3).getD (kH n k3).toNat []))=[I6 n_1]∧bif decide (rng IntKind.i64 (n_1+(1:Int))) then bif decide (0≤nI ((aS nrm n).getD k3 []) 0∧nI ((aS nrm n).getD k3 []) 0 < (↑(ndN n):Int)) then bif decide (ndN n=(iD n k3).length∧(kH n k3).toNat < (iD n k3).length) then bif decide (0≤nI ((aS nrm n).getD k3 []) 1∧nI ((aS nrm n).getD k3 []) 1 < (↑(ndN n):Int)) then bif decide (ndN n=(setEl (iD n k3) (kH n k3).toNat 0 [I6 (n_1+(1:Int))]).length∧(nI ((aS nrm n).getD k3 []) 1).toNat < (setEl (iD n k3) (kH n k3).toNat 0 [I6 (n_1+(1:Int))]).length) then ∃ n_2,List.take [I6 n_2].length (List.drop 0 ((setEl (iD n k3) (kH n k3).toNat 0 [I6 (n_1+(1:Int))]).getD (nI ((aS nrm n).getD k3 []) 1).toNat []))=[I6 n_2]∧bif decide (rng IntKind.i64 (n_2+(1:Int))) then bif decide (0≤nI ((aS nrm n).getD k3 []) 1∧nI ((aS nrm n).getD k3 []) 1 < (↑(ndN n):Int)) then bif decide (ndN n=(setEl (iD n k3) (kH n k3).toNat 0 [I6 (n_1+(1:Int))]).length∧(nI ((aS nrm n).getD k3 []) 1).toNat < (setEl (iD n k3) (kH n k3).toNat 0 [I6 (n_1+(1:Int))]).length) then True∧(ndN n=ndN n∧True)∧setEl (setEl (iD n k3) (kH n k3).toNat 0 [I6 (n_1+(1:Int))]) (nI ((aS nrm n).getD k3 []) 1).toNat 0 [I6 (n_2+(1:Int))]=aP (nZ (aS nrm n) (ndN n) (k3+(1:Nat)))∧True else False else False else False else False else False else False else False else False else False else False)∧bif decide (ndN n=(aP (nZ (aS nrm n) (ndN n) (aHL n).N)).length) then (True∧aP (nZ (aS nrm n) (ndN n) (aHL n).N)=aP (bR n))∧(0:Int)=(0:Int)∧True else False else False
theorem aS1:aHm:=by
 unfold aHm
 delta iD kH I6
 intro n hP
 have hq:=hP.bq
 have n1:=hq.lo
 have n4:=hq.hi
 obtain ⟨hN,hN0,hN2⟩:=sU hP
 have hE:=(cB hq).2
 rw [show inB 1 8 n=true from decide_eq_true (by omega)]
 refine ⟨trivial,⟨n1,n4⟩,cd1 (by omega) ⟨trivial,itE hq,?_,⟨λ k h=>by rw [fC h]; rfl,trivial⟩,λ k=>rfl,λ k hk=>?_,?_⟩⟩
 ·have e:List.replicate (10*n*n+2).toNat [AV.int .i64 0]=aP (nZ (aS nrm n) (ndN n) 0):=by simp [aP,nZ,ndN]
  (repeat' (first | exact trivial | exact rfl | assumption | apply And.intro))
 ·have hk:k < (aS nrm n).length:=hk
  obtain ⟨a,b⟩:=iE hP hk
  have hl:=lZ (aS nrm n) (ndN n) k
  have hb:=wQ (aS nrm n) (ndN n) k
  show cond (decide (0≤nI ((aS nrm n).getD k []) 0∧nI ((aS nrm n).getD k []) 0 < (ndN n:Int))) _ _
  have es:nZ (aS nrm n) (ndN n) (k+1)=aKU (nZ (aS nrm n) (ndN n) k) ((aS nrm n).getD k []):=rfl
  rw [es]
  unfold aKU
  generalize nZ (aS nrm n) (ndN n) k=d at hl hb ⊢
  generalize (aS nrm n).getD k []=r at a b ⊢
  have h0:=hb (nI r 0).toNat
  have ea:d[(nI r 0).toNat]?=some (d.getD (nI r 0).toNat 0):=bH (by omega)
  refine cd1 a (cd1 ⟨by rw [aR,hl],by rw [aR]; omega⟩ ⟨d.getD (nI r 0).toNat 0,by rw [List.drop_zero,bB ea]; rfl,cdI (by omega) ?_⟩)
  rw [cM (by omega)]
  have hl2:(d.set (nI r 0).toNat (d.getD (nI r 0).toNat 0+1)).length=ndN n:=by rw [List.length_set,hl]
  have hb2:=kN hb (i:=(nI r 0).toNat)
  generalize d.set (nI r 0).toNat (d.getD (nI r 0).toNat 0+1)=d2 at hl2 hb2 ⊢
  have h1:=hb2 (nI r 1).toNat
  have eb:d2[(nI r 1).toNat]?=some (d2.getD (nI r 1).toNat 0):=bH (by omega)
  refine cd1 a (cd1 ⟨by rw [aR,hl],by rw [aR]; omega⟩ (cd1 b (cd1 ⟨by rw [aR,hl2],by rw [aR]; omega⟩ ⟨d2.getD (nI r 1).toNat 0,by rw [List.drop_zero,bB eb]; rfl,cdI (by omega) (cd1 b (cd1 ⟨by rw [aR,hl2],by rw [aR]; omega⟩ ?_))⟩)))
  rw [cM (by omega)]
  (repeat' (first | exact trivial | exact rfl | assumption | apply And.intro))
 ·refine cd1 (by rw [aR,lZ]) ?_
  exact ⟨⟨trivial,rfl⟩,rfl,trivial⟩
theorem aS0:aHm=(∀ (n:Int),GrdP nrm n->fnR Tryz.prog { glob:=glb,spec:=lk [(118,vV),(59,hU)],specH:=lk [(119,lY)],shape:=[21,28],nowf:=true } { nt:=32,drop:=drp [(1,384),(3,7168),(4,8192),(6,16646144),(7,2130706432),(8,2147483648)] } (λ _ _=>none) 6 (λ _=>some (aHL n)) Tryz.f72 [.int .i64 n] (.tup [.sl 1 false (aP (bR n)),.int .i64 0])):=by kernel_rfl
def aSZ:=Eq.mp (aS0 ..) (aS1)
theorem aBy:SOK Tryz.prog glb 72 yX:=by
 refine ⟨fok Tryz.func72 (by kernel_rfl) (by kernel_rfl),?_⟩
 intro xs pre r h hp
 unfold yX at h
 split at h
 ·cases h
  exact lX bD (by exact aV rfl rfl ⟨(aCV glb),(jC glb),trivial⟩ ⟨(qO glb),trivial⟩) rfl Tryz.func72 rfl (aSZ  _ hp)
 ·cases h
def pW:Sp
 | [.sl 1 g ys]=>some (ys.length≤1000000,.sl 1 false ys)
 | _=>none
def aGR:Prop :=
 ∀ (gl:aX) (g:Bool) (ys:LL),ys.length≤(1000000:Nat)->True->(ys=[]->ys=[])∧bif decide ((0:Nat)=(0:Nat)∧(0:Nat)+ys.length≤(9223372036854775807:Nat)∧((0:Nat)+ys.length)*(8:Nat)≤(140737488355328:Nat)) then bif decide (([]++ys).length=([]++ys).length) then True∧[]++ys=ys else False else False
theorem aSA:aGR:=by
 unfold aGR
 intro gl g ys hl
 intros
 exact ⟨λ e=>e,cd1 ⟨rfl,by omega,by omega⟩ (cd1 (by rfl) ⟨trivial,by rfl⟩)⟩
theorem aSz:aGR=(∀ (gl:aX) (g:Bool) (ys:LL),ys.length≤1000000->fnK Tryz.prog { glob:=gl,spec:=lk [],specH:=lk [],nowf:=true,nq:=true } { nt:=8,drop:=drp [(1,8),(3,224)] } (λ _ _=>none) 6 Tryz.f60 [.sl 1 g ys] (.sl 1 false ys)):=by kernel_rfl
def aSy:=Eq.mp (aSz ..) (aSA)
theorem pX (gl:aX):SOK Tryz.prog gl 60 pW:=by
 refine ⟨fok Tryz.func60 (by kernel_rfl) (by kernel_rfl),?_⟩
 intro xs pre r h hp
 unfold pW at h
 split at h
 ·cases h
  exact aT bD (by exact aV rfl rfl trivial trivial) (by kernel_rfl) Tryz.func60 rfl (aSy gl _ _ hp)
 ·cases h
structure EqlP (xs ys:List Int) (i:Int):Prop where
 lo:0≤i
 hi:i≤xs.length
 le:xs.length=ys.length
 eq:xs.take i.toNat=ys.take i.toNat
def eqI (f g:Bool) (xs ys:List Int):LInv:=⟨Int,λ i=>⟨[(0,.sl 1 f (aP xs)),(1,.sl 1 g (aP ys)),(12,.int .i64 xs.length),(13,.int .i64 i)],[]⟩,EqlP xs ys,λ i=>(xs.length - i).toNat,none⟩
structure TwoI (xs ys:LL):Prop where
 xe:xs=aP (aQ xs)
 ye:ys=aP (aQ ys)
 xl:xs.length≤1000000
 yl:ys.length≤1000000
def aGN:Sp
 | [.sl 1 f xs,.sl 1 g ys]=>some (TwoI xs ys,.bool (decide (aQ xs=aQ ys)))
 | _=>none
def aGO:Prop :=
 ∀ (gl:aX) (f g:Bool) (xs ys:LL),TwoI xs ys->True->True->bif decide ¬(↑xs.length:Int)=(↑ys.length:Int) then false=decide (aQ xs=aQ ys) else (∃ x,EqlP (aQ xs) (aQ ys) x∧(((bif f then f=true else True)∧xs=aP (aQ xs))∧((bif g then g=true else True)∧ys=aP (aQ ys))∧(↑xs.length:Int)=(↑(aQ xs).length:Int)∧(0:Int)=x∧True)∧True)∧∀ (x1:Int),EqlP (aQ xs) (aQ ys) x1->bif decide (x1 < (↑(aQ xs).length:Int)) then bif decide (0≤x1∧x1 < (↑(aP (aQ xs)).length:Int)) then ∃ n,List.take [I6 n].length ((aP (aQ xs)).getD x1.toNat [])=[I6 n]∧bif decide (0≤x1∧x1 < (↑(aP (aQ ys)).length:Int)) then ∃ n_1,List.take [I6 n_1].length ((aP (aQ ys)).getD x1.toNat [])=[I6 n_1]∧bif decide ¬n=n_1 then false=decide (aQ xs=aQ ys) else bif decide (rng IntKind.i64 (x1+(1:Int))) then ∃ y,EqlP (aQ xs) (aQ ys) y∧(eqI f g (aQ xs) (aQ ys)).m y < (eqI f g (aQ xs) (aQ ys)).m x1∧(((bif f then f=true else True)∧aP (aQ xs)=aP (aQ xs))∧((bif g then g=true else True)∧aP (aQ ys)=aP (aQ ys))∧(↑(aQ xs).length:Int)=(↑(aQ xs).length:Int)∧x1+(1:Int)=y∧True)∧True else False else False else False else true=decide (aQ xs=aQ ys)
theorem aSu:aGO:=by
 unfold aGO
 delta I6
 intro gl f g xs ys hP
 intros
 have xe:=hP.xe
 have ye:=hP.ye
 have xl:=hP.xl
 clear hP
 obtain ⟨zx,hzx⟩:∃ z,z=aQ xs:=⟨_,rfl⟩
 obtain ⟨zy,hzy⟩:∃ z,z=aQ ys:=⟨_,rfl⟩
 rw [← hzx] at xe ⊢
 rw [← hzy] at ye ⊢
 clear hzx hzy
 subst xe ye
 rw [aR] at xl ⊢
 rw [aR]
 have gf:cond f (f=true) True:=gg f
 have gg':cond g (g=true) True:=gg g
 refine csp (λ h=>(decide_eq_false (λ e=>h (by rw [e]))).symm) (λ h=>⟨⟨0,⟨Int.le_refl 0,by omega,by have:=Decidable.not_not.1 h; omega,by simp⟩,by repeat' first|exact trivial|exact rfl|assumption|apply And.intro⟩,?_⟩)
 clear h
 intro i ⟨i0,il,hle,ie⟩
 refine csp (λ h=>?_) (λ h=>?_)
 ·have ex:=bH (l:=zx) (i:=i.toNat) (by omega)
  have ey:=bH (l:=zy) (i:=i.toNat) (by omega)
  refine cd1 ⟨i0,h⟩ ⟨zx.getD i.toNat 0,by rw [bB ex]; rfl,cd1 ⟨i0,by omega⟩ ⟨zy.getD i.toNat 0,by rw [bB ey]; rfl,csp (λ q=>?_) (λ q=>?_)⟩⟩
  ·exact (decide_eq_false (λ e=>q (by rw [e]))).symm
  ·refine cdI (by omega) ⟨i+1,⟨by omega,by omega,hle,?_⟩,by simp only [eqI]; omega,by repeat' first|exact trivial|exact rfl|assumption|apply And.intro⟩
   rw [show (i+1).toNat=i.toNat+1 by omega,List.take_add_one,List.take_add_one,ex,ey,ie,Decidable.not_not.1 q]
 ·rw [List.take_of_length_le (by omega),List.take_of_length_le (by omega)] at ie
  exact (decide_eq_true ie).symm
theorem aSt:aGO=(∀ (gl:aX) (f g:Bool) (xs ys:LL),TwoI xs ys->fnK Tryz.prog { glob:=gl,spec:=lk [],specH:=lk [],shape:=[19,23],nowf:=true } { nt:=26,drop:=drp [(1,960),(3,2048),(5,32768),(6,16711680),(8,33554432)] } (xH [(4,eqI f g (aQ xs) (aQ ys))]) 6 Tryz.f109 [.sl 1 f xs,.sl 1 g ys] (.bool (decide (aQ xs=aQ ys)))):=by kernel_rfl
def aSs:=Eq.mp (aSt ..) (aSu)
theorem aOe (gl:aX):SOK Tryz.prog gl 109 aGN:=by
 refine ⟨fok Tryz.func109 (by kernel_rfl) (by kernel_rfl),?_⟩
 intro xs pre r h hp
 unfold aGN at h
 split at h
 ·cases h
  exact aT bD (by exact aV rfl rfl trivial trivial) (by kernel_rfl) Tryz.func109 rfl (aSs gl _ _ _ _ hp)
 ·cases h
def aEk (l:List Int):Int:=l.foldl (·+·) 0
structure MasP (ds:List Int) (x:Int × Int):Prop where
 lo:0≤x.1
 hi:x.1≤ds.length
 eq:x.2=aEk (ds.take x.1.toNat)
def maI (g h:Bool) (n:Int) (ds fs:List Int):LInv:=⟨Int × Int,λ x=>⟨[(3,.int .i64 x.2),(7,.sl 1 g (aP ds)),(8,.int .i64 ds.length),(9,.int .i64 x.1)],[]⟩,MasP ds,λ x=>(ds.length - x.1).toNat,none⟩
theorem aMq (l:List Int) (z:Int):aEk (l++[z])=aEk l+z:=by simp [aEk]
theorem aLm {ds:List Int} (h:∀ z ∈ ds,0≤z∧z≤16777216):∀ k:Nat,0≤aEk (ds.take k)∧aEk (ds.take k)≤k*16777216
 | 0=>by simp [aEk]
 | k+1=>by
  have ih:=aLm h k
  rw [List.take_add_one]
  cases e:ds[k]? with
  | none=>simp only [Option.toList_none,List.append_nil]; omega
  | some z =>
   have:=h z (aL e)
   rw [Option.toList_some,aMq]; omega
structure MssP (ds:LL):Prop where
 de:ds=aP (aQ ds)
 dl:ds.length≤1000
 db:∀ z ∈ aQ ds,0≤z∧z≤16777216
def aBt:Sp
 | [.agg [.int .i64 n,.sl 1 g ds,.sl 1 h fs]]=>some (MssP ds,.int .i64 (aEk (aQ ds)))
 | _=>none
def aBu:Prop :=
 ∀ (gl:aX) (n:Int) (g h:Bool) (ds fs:LL),MssP ds->(IR9 n)∧True∧True∧True->(∃ x,MasP (aQ ds) x∧((0:Int)=x.2∧((bif g then g=true else True)∧ds=aP (aQ ds))∧(↑ds.length:Int)=(↑(aQ ds).length:Int)∧(0:Int)=x.1∧True)∧True)∧∀ (x1:Int × Int),MasP (aQ ds) x1->bif decide (x1.1 < (↑(aQ ds).length:Int)) then bif decide (0≤x1.1∧x1.1 < (↑(aP (aQ ds)).length:Int)) then ∃ n_1,List.take [I6 n_1].length ((aP (aQ ds)).getD x1.1.toNat [])=[I6 n_1]∧bif decide (rng IntKind.i64 (x1.2+n_1)) then bif decide (rng IntKind.i64 (x1.1+(1:Int))) then ∃ y,MasP (aQ ds) y∧(maI g h n (aQ ds) (aQ fs)).m y < (maI g h n (aQ ds) (aQ fs)).m x1∧(x1.2+n_1=y.2∧((bif g then g=true else True)∧aP (aQ ds)=aP (aQ ds))∧(↑(aQ ds).length:Int)=(↑(aQ ds).length:Int)∧x1.1+(1:Int)=y.1∧True)∧True else False else False else False else x1.2=aEk (aQ ds)
theorem aOA:aBu:=by
 unfold aBu
 delta I6
 intro gl n g h ds fs hP
 intros
 have de:=hP.de
 have dl:=hP.dl
 have db:=hP.db
 clear hP
 obtain ⟨zs,hzs⟩:∃ z,z=aQ ds:=⟨_,rfl⟩
 rw [← hzs] at de db ⊢
 clear hzs
 subst de
 rw [aR] at dl ⊢
 have gg':cond g (g=true) True:=gg g
 refine ⟨⟨(0,0),⟨Int.le_refl 0,by simp only; omega,by simp [aEk]⟩,by repeat' first|exact trivial|exact rfl|assumption|apply And.intro⟩,?_⟩
 rintro ⟨i,s⟩ ⟨i0,il,is⟩
 simp only at i0 il is
 have hb:=aLm db i.toNat
 rw [← is] at hb
 refine csp (λ q=>?_) (λ q=>?_)
 ·simp only at q
  have ex:=bH (l:=zs) (i:=i.toNat) (by omega)
  have hz:=db _ (aL ex)
  refine cd1 ⟨i0,q⟩ ⟨zs.getD i.toNat 0,by rw [bB ex]; rfl,cdI (by simp only; omega) (cdI (by simp only; omega) ⟨(i+1,s+zs.getD i.toNat 0),⟨by simp only; omega,by simp only; omega,?_⟩,by simp only [maI]; omega,by repeat' first|exact trivial|exact rfl|assumption|apply And.intro⟩)⟩
  simp only
  rw [show (i+1).toNat=i.toNat+1 by omega,List.take_add_one,ex,is]
  simp [aEk]
 ·simp only at q
  rw [List.take_of_length_le (by omega)] at is
  exact is
theorem aOz:aBu=(∀ (gl:aX) (n:Int) (g h:Bool) (ds fs:LL),MssP ds->fnK Tryz.prog { glob:=gl,spec:=lk [],specH:=lk [],shape:=[12],nowf:=true } { nt:=18,drop:=drp [(2,64),(4,6144),(5,57344),(6,65536),(7,131072)] } (xH [(3,maI g h n (aQ ds) (aQ fs))]) 6 Tryz.f57 [.agg [.int .i64 n,.sl 1 g ds,.sl 1 h fs]] (.int .i64 (aEk (aQ ds)))):=by kernel_rfl
def aOy:=Eq.mp (aOz ..) (aOA)
theorem aKL (gl:aX):SOK Tryz.prog gl 57 aBt:=by
 refine ⟨fok Tryz.func57 (by kernel_rfl) (by kernel_rfl),?_⟩
 intro xs pre r h hp
 unfold aBt at h
 split at h
 ·cases h
  exact aT bD (by exact aV rfl rfl trivial trivial) (by kernel_rfl) Tryz.func57 rfl (aOy gl _ _ _ _ _ hp)
 ·cases h
def aJi (n n':Int) (ds fs ds' fs':List Int):Bool:=decide (n=n')&&(decide (ds=ds')&&decide (fs=fs'))
def aBk:Sp
 | [.agg [.int .i64 n,.sl 1 g ds,.sl 1 h fs],.agg [.int .i64 n',.sl 1 g' ds',.sl 1 h' fs']]=>some (TwoI ds ds'∧TwoI fs fs',.bool (aJi n n' (aQ ds) (aQ fs) (aQ ds') (aQ fs')))
 | _=>none
def aBl:Prop :=
 ∀ (gl:aX) (n n':Int) (g h g' h':Bool) (ds fs ds' fs':LL),TwoI ds ds'∧TwoI fs fs'->(IR9 n)∧True∧True∧True->(IR9 n')∧True∧True∧True->bif decide (n=n') then TwoI ds ds'∧bif decide (aQ ds=aQ ds') then TwoI fs fs'∧decide (aQ fs=aQ fs')=aJi n n' (aQ ds) (aQ fs) (aQ ds') (aQ fs') else false=aJi n n' (aQ ds) (aQ fs) (aQ ds') (aQ fs') else false=aJi n n' (aQ ds) (aQ fs) (aQ ds') (aQ fs')
theorem aOo:aBl:=by
 unfold aBl
 intro gl n n' g h g' h' ds fs ds' fs' ⟨h1,h2⟩
 intros
 unfold aJi
 refine csp (λ q=>⟨h1,csp (λ q2=>⟨h2,?_⟩) (λ q2=>?_)⟩) (λ q=>?_)
 ·rw [decide_eq_true q,decide_eq_true q2]; rfl
 ·rw [decide_eq_false q2]; simp
 ·rw [decide_eq_false q]; rfl
theorem aOn:aBl=(∀ (gl:aX) (n n':Int) (g h g' h':Bool) (ds fs ds' fs':LL),TwoI ds ds'∧TwoI fs fs'->fnK Tryz.prog { glob:=gl,spec:=lk [(109,aGN)],specH:=lk [],nowf:=true } { nt:=24,drop:=drp [(1,16777184)] } (λ _ _=>none) 6 Tryz.f56 [.agg [.int .i64 n,.sl 1 g ds,.sl 1 h fs],.agg [.int .i64 n',.sl 1 g' ds',.sl 1 h' fs']] (.bool (aJi n n' (aQ ds) (aQ fs) (aQ ds') (aQ fs')))):=by kernel_rfl
def aOm:=Eq.mp (aOn ..) (aOo)
theorem aKF (gl:aX):SOK Tryz.prog gl 56 aBk:=by
 refine ⟨fok Tryz.func56 (by kernel_rfl) (by kernel_rfl),?_⟩
 intro xs pre r h hp
 unfold aBk at h
 split at h
 ·cases h
  exact aT bD (by exact aV rfl rfl ⟨(aOe gl),trivial⟩ trivial) (by kernel_rfl) Tryz.func56 rfl (aOm gl _ _ _ _ _ _ _ _ _ _ hp)
 ·cases h
def aEW (es:LL) (ds:List Int):Nat->List Int
 | 0=>[]
 | k+1=>aEW es ds k++[ds.getD (nI (es.getD k []) 0).toNat 0 - ds.getD (nI (es.getD k []) 1).toNat 0]
def rP (n:Int) (ds:List Int):List Int:=aEW (aS nrm n) ds (aS nrm n).length
structure SloP (n:Int) (ds:List Int) (x:Int × List Int):Prop where
 lo:0≤x.1
 hi:x.1≤(aS nrm n).length
 eq:x.2=aEW (aS nrm n) ds x.1.toNat
def slI (n:Int) (g h:Bool) (ds fs:List Int):LInv:=⟨Int × List Int,λ x=>⟨[(1,.ptr 1 0),(7,.rw 700 1 x.2.length),(24,.sl 2 false (aS nrm n)),(25,.int .i64 (aS nrm n).length),(26,.int .i64 x.1)],[(1,.cells [.int .i64 n,.sl 1 g (aP ds),.sl 1 h (aP fs)]),(700,.row 3 1 (aP x.2))]⟩,SloP n ds,λ x=>((aS nrm n).length - x.1).toNat,none⟩
structure VStP (n:Int) (ds fs:LL):Prop where
 gp:GrdP nrm n
 de:ds=aP (aQ ds)
 fe:fs=aP (aQ fs)
 ok:aCe n (aQ ds) (aQ fs)=true
theorem aAP {lo hi:Int} {l:List Int} (h:outB lo hi l=false):∀ z ∈ l,lo≤z∧z≤hi:=λ z hz=>by
 unfold outB at h
 rw [List.any_eq_false] at h
 have:=h z hz
 unfold inB at this
 simpa using this
theorem mX {lo hi:Int} {l:List Int} (h:∀ z ∈ l,lo≤z∧z≤hi):outB lo hi l=false:=by
 unfold outB
 rw [List.any_eq_false]
 intro z hz
 have:=h z hz
 unfold inB
 simpa using this
theorem VStP.facts {n:Int} {ds fs:LL} (h:VStP n ds fs):(aQ ds).length=ndN n∧(aQ fs).length=(aS nrm n).length∧(∀ z ∈ aQ ds,0≤z∧z≤16777216)∧∀ z ∈ aQ fs,-16777216≤z∧z≤16777216:=by
 have hk:=h.ok
 unfold aCe at hk
 simp only [aC,decide_eq_true_eq,Bool.not_eq_true'] at hk
 obtain ⟨⟨⟨h1,h2⟩,h3⟩,h4⟩:=hk
 have:=(sU h.gp).1
 exact ⟨by omega,h2,aAP h3,aAP h4⟩
theorem bP (ys:LL):(aQ ys).length=ys.length:=by simp [aQ]
theorem VStP.sp {n:Int} {ds fs:LL} (h:VStP n ds fs):StaP n ds fs:=by
 obtain ⟨ld,lf,_,_⟩:=h.facts
 rw [bP] at ld lf
 have h2:=sU h.gp
 have hE:=(cB h.gp.bq).2
 exact ⟨h.gp.bq,h.de,by omega,h.fe,by omega⟩
theorem jN (es:LL) (ds:List Int):∀ k,(aEW es ds k).length=k
 | 0=>rfl
 | k+1=>by rw [aEW,aG,jN es ds k]; rfl
theorem aBB {n:Int} (h:GrdP nrm n) {k:Nat} (hk:k < (aS nrm n).length):(aS nrm n).getD k []=[.int .i64 (nI ((aS nrm n).getD k []) 0),.int .i64 (nI ((aS nrm n).getD k []) 1)]:=by
 have er:(aS nrm n)[k]?=some ((aS nrm n).getD k []):=by rw [aB,aD hk]; rfl
 exact (ok2 ((cB h.bq).1 _ (aL er)).ok).1
def aF3:Sp
 | [.agg [.int .i64 n,.sl 1 g ds,.sl 1 h fs]]=>some (VStP n ds fs,.tup [.sl 1 false (aP (rP n (aQ ds))),.int .i64 0])
 | _=>none
abbrev sX (n:Int):=(↑(aS YtgbbmadjdaphnaaGreatDoor.nrm n).length:Int)
def aF4 (nrm:NrT) (dF:Int->List Int->List Int->Int):Prop :=
 ∀ (n:Int) (g h:Bool) (ds fs:LL),VStP n ds fs->(IR9 n)∧True∧True∧True->StaP n ds fs∧bif decide ¬dF n (aQ ds) (aQ fs)=(0:Int) then aP (rP n (aQ ds))=[]∧dF n (aQ ds) (aQ fs)=(0:Int)∧True else BldQ nrm n∧(∃ x,SloP n (aQ ds) x∧((0:Nat)=(0:Nat)∧(0:Nat)=x.2.length∧(True∧aS nrm n=aS YtgbbmadjdaphnaaGreatDoor.nrm n)∧(↑(aS nrm n).length:Int)=(sX n)∧(0:Int)=x.1∧True)∧(n=n∧((bif g then g=true else True)∧ds=aP (aQ ds))∧((bif h then h=true else True)∧fs=aP (aQ fs))∧True)∧[]=aP x.2∧True)∧∀ (x1:Int × List Int),SloP n (aQ ds) x1->bif decide (x1.1 < (sX n)) then bif decide (0≤x1.1∧x1.1 < (sX n)) then ∃ n_1 n_2,List.take [I6 n_1,I6 n_2].length ((aS YtgbbmadjdaphnaaGreatDoor.nrm n).getD x1.1.toNat [])=[I6 n_1,I6 n_2]∧bif decide (0≤n_1∧n_1 < (↑(aP (aQ ds)).length:Int)) then ∃ n_3,List.take [I6 n_3].length ((aP (aQ ds)).getD n_1.toNat [])=[I6 n_3]∧bif decide (0≤n_2∧n_2 < (↑(aP (aQ ds)).length:Int)) then ∃ n_4,List.take [I6 n_4].length ((aP (aQ ds)).getD n_2.toNat [])=[I6 n_4]∧bif decide (rng IntKind.i64 (n_3 - n_4)) then bif decide (x1.2.length=(aP x1.2).length∧(aP x1.2).length+[[I6 (n_3 - n_4)]].length≤(9223372036854775807:Nat)∧((aP x1.2).length+[[I6 (n_3 - n_4)]].length)*(8:Nat)≤(140737488355328:Nat)) then bif decide (rng IntKind.i64 (x1.1+(1:Int))) then ∃ y,SloP n (aQ ds) y∧(slI n g h (aQ ds) (aQ fs)).m y < (slI n g h (aQ ds) (aQ fs)).m x1∧((0:Nat)=(0:Nat)∧(aP x1.2++[[I6 (n_3 - n_4)]]).length=y.2.length∧(True∧aS YtgbbmadjdaphnaaGreatDoor.nrm n=aS YtgbbmadjdaphnaaGreatDoor.nrm n)∧(sX n)=(sX n)∧x1.1+(1:Int)=y.1∧True)∧(n=n∧((bif g then g=true else True)∧aP (aQ ds)=aP (aQ ds))∧((bif h then h=true else True)∧aP (aQ fs)=aP (aQ fs))∧True)∧aP x1.2++[[I6 (n_3 - n_4)]]=aP y.2∧True else False else False else False else False else False else False else bif decide (x1.2.length=(aP x1.2).length) then (True∧aP x1.2=aP (rP n (aQ ds)))∧(0:Int)=(0:Int)∧True else False
theorem aRQ:aF4 nrm dF:=by
 unfold aF4
 delta sX I6
 intro n g h ds fs hP
 intros
 obtain ⟨ld,lf,bd,bf⟩:=hP.facts
 have hg:=hP.gp
 have hs:dF n (aQ ds) (aQ fs)=0:=by unfold dF; rw [hP.ok]; rfl
 have hsp:=hP.sp
 have de:=hP.de
 have fe:=hP.fe
 have hE:=(cB hg.bq).2
 have g1:cond g (g=true) True:=gg g
 have g2:cond h (h=true) True:=gg h
 refine ⟨hsp,cd0 (λ q=>q hs) ⟨hg.bq,⟨(0,[]),⟨Int.le_refl 0,by simp only; omega,rfl⟩,by repeat' first|exact trivial|exact rfl|assumption|apply And.intro⟩,?_⟩⟩
 clear hsp hs
 obtain ⟨zs,hzs⟩:∃ z,z=aQ ds:=⟨_,rfl⟩
 rw [← hzs] at de ld bd ⊢
 clear hzs
 rintro ⟨i,os⟩ ⟨i0,il,ie⟩
 simp only at i0 il ie
 have hol:os.length=i.toNat:=by rw [ie,jN]
 rw [aR]
 refine csp (λ q=>?_) (λ q=>?_)
 ·simp only at q
  obtain ⟨a,b⟩:=iE hg (k:=i.toNat) (by omega)
  have er:=aBB hg (k:=i.toNat) (by omega)
  have ea:zs[(nI ((aS nrm n).getD i.toNat []) 0).toNat]?=some (zs.getD (nI ((aS nrm n).getD i.toNat []) 0).toNat 0):=bH (by omega)
  have eb:zs[(nI ((aS nrm n).getD i.toNat []) 1).toNat]?=some (zs.getD (nI ((aS nrm n).getD i.toNat []) 1).toNat 0):=bH (by omega)
  have ba:=bd _ (aL ea)
  have bb:=bd _ (aL eb)
  have es:aEW (aS nrm n) zs (i+1).toNat=os++[zs.getD (nI ((aS nrm n).getD i.toNat []) 0).toNat 0 - zs.getD (nI ((aS nrm n).getD i.toNat []) 1).toNat 0]:=by
   rw [show (i+1).toNat=i.toNat+1 by omega,aEW,ie]
  generalize (aS nrm n).getD i.toNat []=r at a b er ea eb ba bb es ⊢
  have e3:=cN os (zs.getD (nI r 0).toNat 0 - zs.getD (nI r 1).toNat 0)
  refine cd1 ⟨i0,q⟩ ⟨nI r 0,nI r 1,(congrArg (List.take 2) er).trans rfl,cd1 ⟨a.1,by omega⟩ ⟨zs.getD (nI r 0).toNat 0,by rw [bB ea]; rfl,cd1 ⟨b.1,by omega⟩ ⟨zs.getD (nI r 1).toNat 0,by rw [bB eb]; rfl,cdI (by omega) (cd1 ⟨by rw [aR],by rw [aR,aH]; simp only; omega,by rw [aR,aH]; simp only; omega⟩ (cdI (by simp only; omega) ⟨(i+1,os++[zs.getD (nI r 0).toNat 0 - zs.getD (nI r 1).toNat 0]),⟨by simp only; omega,by simp only; omega,es.symm⟩,by simp only [slI]; omega,?_⟩))⟩⟩⟩
  rw [e3,aR]
  (repeat' (first | exact trivial | exact rfl | assumption | apply And.intro))
 ·simp only at q
  have e:os=rP n zs:=by rw [ie,show i.toNat=(aS nrm n).length by omega]; rfl
  subst e
  exact cd1 (by rw [aR]) (by repeat' first|exact trivial|exact rfl|assumption|apply And.intro)
theorem aRP (nrm:NrT) (dF:Int->List Int->List Int->Int):aF4 nrm dF=(∀ (n:Int) (g h:Bool) (ds fs:LL),VStP n ds fs->fnK Tryz.prog { glob:=glb,spec:=lk [(70,(qQ nrm dF)),(58,(eT nrm))],specH:=lk [],shape:=[29,36,42],nowf:=true } { nt:=48,drop:=drp [(1,3072),(2,4096),(3,16384),(4,2064384),(5,2097152),(6,8388608),(10,805306368),(11,70367670435840),(12,70368744177664),(13,140737488355328)],emp:=λ id=>cond (Nat.beq id 8) [(7,700,3,1)] [] } (xH [(9,slI n g h (aQ ds) (aQ fs))]) 6 Tryz.f145 [.agg [.int .i64 n,.sl 1 g ds,.sl 1 h fs]] (.tup [.sl 1 false (aP (rP n (aQ ds))),.int .i64 0])):=by kernel_rfl
def aRO:=Eq.mp (aRP ..) (aRQ)
theorem aNt:SOK Tryz.prog glb 145 aF3:=by
 refine ⟨fok Tryz.func145 (by kernel_rfl) (by kernel_rfl),?_⟩
 intro xs pre r h hp
 unfold aF3 at h
 split at h
 ·cases h
  exact aT bD (by exact aV rfl rfl ⟨(qR),(eK),trivial⟩ trivial) (by kernel_rfl) Tryz.func145 rfl (aRO  _ _ _ _ _ hp)
 ·cases h
def mlH (x y:Int):Int:=x*y / 18446744073709551616
def mlL (x y:Int):Int:=x*y % 18446744073709551616
theorem aPn {n:Int} (h:0≤n∧n≤18446744073709551615):bits .and .u64 n 4294967295=n % 4294967296:=by
 obtain ⟨m,rfl⟩:=Int.eq_ofNat_of_zero_le h.1
 have e:=bits_and_u64_nat m 4294967295 (by omega) (by decide)
 have e2:m &&& 4294967295=m % 4294967296:=Nat.and_two_pow_sub_one_eq_mod m 32
 rw [e2] at e
 exact e.trans (by omega)
theorem aNm {x y:Int} (hx:0≤x∧x≤18446744073709551615) (hy:0≤y∧y≤18446744073709551615) :
  (((x / 4294967296*(y / 4294967296)) % 18446744073709551616+((x / 4294967296*(y % 4294967296)) % 18446744073709551616+(x % 4294967296*(y % 4294967296)) % 18446744073709551616 / 4294967296) % 18446744073709551616 / 4294967296) % 18446744073709551616 +
   (((x / 4294967296*(y % 4294967296)) % 18446744073709551616+(x % 4294967296*(y % 4294967296)) % 18446744073709551616 / 4294967296) % 18446744073709551616 % 4294967296+(x % 4294967296*(y / 4294967296)) % 18446744073709551616) % 18446744073709551616 / 4294967296) % 18446744073709551616=mlH x y:=by
 obtain ⟨X,rfl⟩:=Int.eq_ofNat_of_zero_le hx.1
 obtain ⟨Y,rfl⟩:=Int.eq_ofNat_of_zero_le hy.1
 have e1:(X:Int) / 4294967296=((X / 4294967296:Nat):Int):=by omega
 have e2:(X:Int) % 4294967296=((X % 4294967296:Nat):Int):=by omega
 have e3:(Y:Int) / 4294967296=((Y / 4294967296:Nat):Int):=by omega
 have e4:(Y:Int) % 4294967296=((Y % 4294967296:Nat):Int):=by omega
 unfold mlH
 rw [e1,e2,e3,e4,← Int.natCast_mul,← Int.natCast_mul,← Int.natCast_mul,← Int.natCast_mul,← Int.natCast_mul]
 obtain ⟨h1,h2,h3,h4⟩:=Lib.mul64_hi X Y (by omega) (by omega)
 have ha:=Lib.half_mul_le (a:=X / 4294967296) (b:=Y / 4294967296) (by omega) (by omega)
 have hb:=Lib.half_mul_le (a:=X / 4294967296) (b:=Y % 4294967296) (by omega) (by omega)
 have hc:=Lib.half_mul_le (a:=X % 4294967296) (b:=Y / 4294967296) (by omega) (by omega)
 have hd:=Lib.half_mul_le (a:=X % 4294967296) (b:=Y % 4294967296) (by omega) (by omega)
 generalize (X / 4294967296)*(Y / 4294967296)=A at *
 generalize (X / 4294967296)*(Y % 4294967296)=B at *
 generalize (X % 4294967296)*(Y / 4294967296)=C at *
 generalize (X % 4294967296)*(Y % 4294967296)=D at *
 generalize X*Y=P at *
 omega
theorem aKa {a b:Int} (ha:-9223372036854775808≤a∧a≤9223372036854775807) (hb:-9223372036854775808≤b∧b≤9223372036854775807):(a*b).natAbs≤85070591730234615865843651857942052864:=by
 rw [Int.natAbs_mul]
 exact Nat.mul_le_mul (show a.natAbs≤9223372036854775808 by omega) (show b.natAbs≤9223372036854775808 by omega)
theorem tY {a:Int} (h:-9223372036854775808≤a) (k:a < 0):IntKind.u64.wrap a=a+18446744073709551616:=by rw [IntKind.wrap_u64]; omega
theorem tX {a:Int} (h:0≤a) (k:a≤18446744073709551615):IntKind.u64.wrap a=a:=iK (k:=.u64) ⟨h,k⟩
theorem aBe {n:Int} (h:-9223372036854775808≤n∧n≤9223372036854775807) {m:Int} (e:∃ k:Int,m=n+k*18446744073709551616):IntKind.i64.wrap (IntKind.u64.wrap m)=n:=by
 obtain ⟨k,rfl⟩:=e
 rw [IntKind.wrap_u64]
 have:IntKind.i64.wrap ((n+k*18446744073709551616) % 18446744073709551616)=n:=by
  rw [IntKind.wrap_i64]
  omega
 exact this
def wD (mlH:Int->Int->Int) (mlL:Int->Int->Int):Sp
 | [.int .u64 x,.int .u64 y]=>some (True,.tup [.int .u64 (mlH x y),.int .u64 (mlL x y)])
 | _=>none
abbrev wF (x:Int) (y:Int):=(IntKind.u64.wrap (x / (4294967296:Int)*bits BinOp.and IntKind.u64 y 4294967295)+IntKind.u64.wrap (bits BinOp.and IntKind.u64 x 4294967295*bits BinOp.and IntKind.u64 y 4294967295) / (4294967296:Int))
def wE (mlH:Int->Int->Int) (mlL:Int->Int->Int):Prop :=
 ∀ (gl:aX) (x y:Int),0≤x∧x≤(18446744073709551615:Int)->0≤y∧y≤(18446744073709551615:Int)->IntKind.u64.wrap (IntKind.u64.wrap (IntKind.u64.wrap (x / (4294967296:Int)*(y / (4294967296:Int)))+IntKind.u64.wrap (wF x y) / (4294967296:Int))+IntKind.u64.wrap (bits BinOp.and IntKind.u64 (IntKind.u64.wrap (wF x y)) 4294967295+IntKind.u64.wrap (bits BinOp.and IntKind.u64 x 4294967295*(y / (4294967296:Int)))) / (4294967296:Int))=mlH x y∧IntKind.u64.wrap (x*y)=mlL x y∧True
theorem aKJ:wE mlH mlL:=by
 unfold wE
 delta wF
 intro gl x y hx hy
 rw [aPn hx,aPn hy,aPn (kX .u64 _)]
 simp only [IntKind.wrap_u64]
 exact ⟨aNm hx hy,rfl,trivial⟩
theorem aKI (mlH:Int->Int->Int) (mlL:Int->Int->Int):wE mlH mlL=(∀ (gl:aX) (x y:Int),fnK Tryz.prog { glob:=gl,spec:=lk [],specH:=lk [],nowf:=true } { nt:=51,drop:=drp [(1,49152),(2,196608),(3,786432),(4,3145728),(5,29360128),(6,2113929216),(7,6442450944),(8,25769803776),(9,1065151889408),(10,280375465082880),(11,1970324836974592)] } (λ _ _=>none) 6 Tryz.f185 [.int .u64 x,.int .u64 y] (.tup [.int .u64 (mlH x y),.int .u64 (mlL x y)])):=by kernel_rfl
def aKH:=Eq.mp (aKI ..) (aKJ)
theorem aHf (gl:aX):SOK Tryz.prog gl 185 (wD mlH mlL):=by
 refine ⟨fok Tryz.func185 (by kernel_rfl) (by kernel_rfl),?_⟩
 intro xs pre r h hp
 unfold wD at h
 split at h
 ·cases h
  exact aT bD (by exact aV rfl rfl trivial trivial) (by kernel_rfl) Tryz.func185 rfl (aKH gl _ _)
 ·cases h
def aAK:Sp
 | [.int .i64 a,.int .i64 b]=>some (True,.agg [.int .i64 (mlH a b),.int .u64 (mlL a b)])
 | _=>none
def aAL:Prop :=
 ∀ (gl:aX) (a b:Int),IR9 a->IR9 b->True∧bif decide (a < (0:Int)) then bif decide (b < (0:Int)) then IntKind.i64.wrap (IntKind.u64.wrap (IntKind.u64.wrap (mlH (IntKind.u64.wrap a) (IntKind.u64.wrap b) - IntKind.u64.wrap b) - IntKind.u64.wrap a))=mlH a b∧mlL (IntKind.u64.wrap a) (IntKind.u64.wrap b)=mlL a b∧True else IntKind.i64.wrap (IntKind.u64.wrap (mlH (IntKind.u64.wrap a) (IntKind.u64.wrap b) - IntKind.u64.wrap b))=mlH a b∧mlL (IntKind.u64.wrap a) (IntKind.u64.wrap b)=mlL a b∧True else bif decide (b < (0:Int)) then IntKind.i64.wrap (IntKind.u64.wrap (mlH (IntKind.u64.wrap a) (IntKind.u64.wrap b) - IntKind.u64.wrap a))=mlH a b∧mlL (IntKind.u64.wrap a) (IntKind.u64.wrap b)=mlL a b∧True else IntKind.i64.wrap (mlH (IntKind.u64.wrap a) (IntKind.u64.wrap b))=mlH a b∧mlL (IntKind.u64.wrap a) (IntKind.u64.wrap b)=mlL a b∧True
theorem aM8:aAL:=by
 unfold aAL
 intro gl a b ha hb
 have hP:=aKa ha hb
 have hR:-9223372036854775808≤mlH a b∧mlH a b≤9223372036854775807:=by unfold mlH; omega
 refine ⟨trivial,cs (λ h1=>cs (λ h2=>?_) (λ h2=>?_)) (λ h1=>cs (λ h2=>?_) (λ h2=>?_))⟩
 ·rw [tY ha.1 h1,tY hb.1 h2]
  have e:(a+18446744073709551616)*(b+18446744073709551616)=a*b+(a+b+18446744073709551616)*18446744073709551616:=by rw [Int.add_mul,Int.mul_add,Int.mul_add]; omega
  have e1:mlH (a+18446744073709551616) (b+18446744073709551616)=mlH a b+(a+b+18446744073709551616):=by unfold mlH; rw [e]; omega
  have e2:mlL (a+18446744073709551616) (b+18446744073709551616)=mlL a b:=by unfold mlL; rw [e]; omega
  rw [e1,e2]
  refine ⟨aBe hR ?_,rfl,trivial⟩
  rw [IntKind.wrap_u64]
  generalize mlH a b=m at *
  exact ⟨((m+(a+b+18446744073709551616) - (b+18446744073709551616)) % 18446744073709551616 - (a+18446744073709551616) - m) / 18446744073709551616,by omega⟩
 ·rw [tY ha.1 h1,tX (a:=b) (by omega) (by omega)]
  have e:(a+18446744073709551616)*b=a*b+b*18446744073709551616:=by rw [Int.add_mul]; omega
  have e1:mlH (a+18446744073709551616) b=mlH a b+b:=by unfold mlH; rw [e]; omega
  have e2:mlL (a+18446744073709551616) b=mlL a b:=by unfold mlL; rw [e]; omega
  rw [e1,e2]
  exact ⟨aBe hR ⟨0,by omega⟩,rfl,trivial⟩
 ·rw [tY hb.1 h2,tX (a:=a) (by omega) (by omega)]
  have e:a*(b+18446744073709551616)=a*b+a*18446744073709551616:=by rw [Int.mul_add]
  have e1:mlH a (b+18446744073709551616)=mlH a b+a:=by unfold mlH; rw [e]; omega
  have e2:mlL a (b+18446744073709551616)=mlL a b:=by unfold mlL; rw [e]; omega
  rw [e1,e2]
  exact ⟨aBe hR ⟨0,by omega⟩,rfl,trivial⟩
 ·rw [tX (a:=b) (by omega) (by omega),tX (a:=a) (by omega) (by omega)]
  exact ⟨iK (k:=.i64) hR,rfl,trivial⟩
theorem aM7:aAL=(∀ (gl:aX) (a b:Int),fnK Tryz.prog { glob:=gl,spec:=lk [(185,(wD Go.Proofs.YtgbbmadjdaphnaaGreatDoor.mlH Go.Proofs.YtgbbmadjdaphnaaGreatDoor.mlL))],specH:=lk [],nowf:=true } { nt:=31,drop:=drp [(1,32640),(2,32768),(3,1966080),(4,2097152),(5,125829120),(6,2013265920)] } (λ _ _=>none) 6 Tryz.f149 [.int .i64 a,.int .i64 b] (.agg [.int .i64 (mlH a b),.int .u64 (mlL a b)])):=by kernel_rfl
def aM6:=Eq.mp (aM7 ..) (aM8)
theorem aJ2 (gl:aX):SOK Tryz.prog gl 149 aAK:=by
 refine ⟨fok Tryz.func149 (by kernel_rfl) (by kernel_rfl),?_⟩
 intro xs pre r h hp
 unfold aAK at h
 split at h
 ·cases h
  exact aT bD (by exact aV rfl rfl ⟨(aHf gl),trivial⟩ trivial) (by kernel_rfl) Tryz.func149 rfl (aM6 gl _ _)
 ·cases h
def wH (z:Int):Int:=z / 18446744073709551616
def wL (z:Int):Int:=z % 18446744073709551616
theorem aVl (z:Int):wH z*18446744073709551616+wL z=z:=by unfold wH wL; omega
def adZ (a b c d:Int):Int:=(a+c)*18446744073709551616+(b+d)
structure AdP (a c:Int):Prop where
 a1:-4611686018427387900≤a
 a2:a≤4611686018427387900
 c1:-4611686018427387900≤c
 c2:c≤4611686018427387900
def aCp (wH:Int->Int) (wL:Int->Int) (adZ:Int->Int->Int->Int->Int):Sp
 | [.agg [.int .i64 a,.int .u64 b],.agg [.int .i64 c,.int .u64 d]]=>some (AdP a c,.agg [.int .i64 (wH (adZ a b c d)),.int .u64 (wL (adZ a b c d))])
 | _=>none
def aFA (wH:Int->Int) (wL:Int->Int) (adZ:Int->Int->Int->Int->Int):Prop :=
 ∀ (gl:aX) (a b c d:Int),AdP a c->(IR9 a)∧(0≤b∧b≤(18446744073709551615:Int))∧True->(IR9 c)∧(0≤d∧d≤(18446744073709551615:Int))∧True->bif decide (rng IntKind.i64 (a+c)) then bif decide (rng IntKind.i64 (a+c+IntKind.i64.wrap ((b+d+(0:Int)) / (18446744073709551616:Int)))) then a+c+IntKind.i64.wrap ((b+d+(0:Int)) / (18446744073709551616:Int))=wH (adZ a b c d)∧(b+d+(0:Int)) % (18446744073709551616:Int)=wL (adZ a b c d)∧True else False else False
theorem aRn:aFA wH wL adZ:=by
 unfold aFA
 intro gl a b c d hP h1 h2
 have:=hP.a1
 have:=hP.a2
 have:=hP.c1
 have:=hP.c2
 have e:IntKind.i64.wrap ((b+d+0) / 18446744073709551616)=(b+d+0) / 18446744073709551616:=iK (k:=.i64) ⟨by omega,by omega⟩
 rw [e]
 exact cdI (by omega) (cdI (by omega) ⟨by unfold wH adZ; omega,by unfold wL adZ; omega,trivial⟩)
theorem aRm (wH:Int->Int) (wL:Int->Int) (adZ:Int->Int->Int->Int->Int):aFA wH wL adZ=(∀ (gl:aX) (a b c d:Int),AdP a c->fnK Tryz.prog { glob:=gl,spec:=lk [],specH:=lk [],nowf:=true,add64:=some 111 } { nt:=25,drop:=drp [(1,32640),(2,33521664)] } (λ _ _=>none) 6 Tryz.f64 [.agg [.int .i64 a,.int .u64 b],.agg [.int .i64 c,.int .u64 d]] (.agg [.int .i64 (wH (adZ a b c d)),.int .u64 (wL (adZ a b c d))])):=by kernel_rfl
def aRl:=Eq.mp (aRm ..) (aRn)
theorem aFz (gl:aX):SOK Tryz.prog gl 64 (aCp wH wL adZ):=by
 refine ⟨fok Tryz.func64 (by kernel_rfl) (by kernel_rfl),?_⟩
 intro xs pre r h hp
 unfold aCp at h
 split at h
 ·cases h
  exact aT bD (by exact aV rfl rfl trivial trivial (aU8 Tryz.func111 (by kernel_rfl) (by kernel_rfl) (by kernel_rfl) (by kernel_rfl))) (by kernel_rfl) Tryz.func64 rfl (aRl gl _ _ _ _ hp)
 ·cases h
def aAG (wH:Int->Int) (wL:Int->Int) (adZ:Int->Int->Int->Int->Int) (mlH:Int->Int->Int) (mlL:Int->Int->Int):SpH
 | [.int .i64 a,.int .i64 b,.ptr 0 0],[.cells [.int .i64 h,.int .u64 l]]=>some (AdP h (wH (a*b)),.agg [.int .i64 (wH (h*18446744073709551616+l+a*b)),.int .u64 (wL (h*18446744073709551616+l+a*b))],[.cells [.int .i64 (wH (h*18446744073709551616+l+a*b)),.int .u64 (wL (h*18446744073709551616+l+a*b))]])
 | _,_=>none
abbrev aAI (wH:Int->Int) (adZ:Int->Int->Int->Int->Int) (h:Int) (l:Int) (a:Int) (b:Int) (wL:Int->Int):=(wH (adZ h l (YtgbbmadjdaphnaaGreatDoor.mlH a b) (YtgbbmadjdaphnaaGreatDoor.mlL a b))=wH (h*(18446744073709551616:Int)+l+a*b)∧wL (adZ h l (YtgbbmadjdaphnaaGreatDoor.mlH a b) (YtgbbmadjdaphnaaGreatDoor.mlL a b))=wL (h*(18446744073709551616:Int)+l+a*b)∧True)
def aAH (wH:Int->Int) (wL:Int->Int) (adZ:Int->Int->Int->Int->Int) (mlH:Int->Int->Int) (mlL:Int->Int->Int):Prop :=
 ∀ (gl:aX) (a b h l:Int),AdP h (wH (a*b))->IR9 a->IR9 b->True->IR9 h->0≤l∧l≤(18446744073709551615:Int)->True∧AdP h (YtgbbmadjdaphnaaGreatDoor.mlH a b)∧(aAI wH adZ h l a b wL)∧(aAI wH adZ h l a b wL)∧True
theorem aM5:aAH wH wL adZ mlH mlL:=by
 unfold aAH
 delta aAI
 intro gl a b h l hP
 intros
 have e:adZ h l (mlH a b) (mlL a b)=h*18446744073709551616+l+a*b:=by unfold adZ mlH mlL; omega
 rw [e]
 exact ⟨trivial,hP,by repeat' first|exact trivial|exact rfl|assumption|apply And.intro⟩
theorem aM4 (wH:Int->Int) (wL:Int->Int) (adZ:Int->Int->Int->Int->Int) (mlH:Int->Int->Int) (mlL:Int->Int->Int):aAH wH wL adZ mlH mlL=(∀ (gl:aX) (a b h l:Int),AdP h (wH (a*b))->fnH Tryz.prog { glob:=gl,spec:=lk [(149,aAK),(64,(aCp wH wL adZ))],specH:=lk [],nowf:=true } { nt:=12,drop:=drp [(1,1984),(2,2048)],fr:=1000,kp:=[0] } (λ _ _=>none) 6 Tryz.f148 [.int .i64 a,.int .i64 b,.ptr 0 0] [.cells [.int .i64 h,.int .u64 l]] (.agg [.int .i64 (wH (h*18446744073709551616+l+a*b)),.int .u64 (wL (h*18446744073709551616+l+a*b))]) [.cells [.int .i64 (wH (h*18446744073709551616+l+a*b)),.int .u64 (wL (h*18446744073709551616+l+a*b))]]):=by kernel_rfl
def aM3:=Eq.mp (aM4 ..) (aM5)
theorem aJZ (gl:aX):HOK Tryz.prog gl 148 (aAG wH wL adZ mlH mlL):=by
 refine ⟨fok Tryz.func148 (by kernel_rfl) (by kernel_rfl),?_⟩
 intro xs bs pre r bs2 h hp
 unfold aAG at h
 split at h
 ·cases h
  exact bC bD (by exact aV rfl rfl ⟨(aJ2 gl),(aFz gl),trivial⟩ trivial) (by kernel_rfl) Tryz.func148 (aM3 gl _ _ _ _ hp)
 ·cases h
def aFs:SpH
 | [],[]=>some (True,.fn 148 [.ptr 0 0],[.cells [.int .i64 0,.int .u64 0]])
 | _,_=>none
def aFt:Prop :=
 ∀ (gl:aX),((0:Nat)=(0:Nat)∧True)∧((0:Int)=(0:Int)∧(0:Int)=(0:Int)∧True)∧True
theorem aRe:aFt:=by
 unfold aFt
 intro gl
 (repeat' (first | exact trivial | exact rfl | assumption | apply And.intro))
theorem aRd:aFt=(∀ (gl:aX),fnH Tryz.prog { glob:=gl,spec:=lk [],specH:=lk [] } { nt:=3,drop:=drp [(2,4)],fr:=1000,kp:=[] } (λ _ _=>none) 6 Tryz.f110 [] [] (.fn 148 [.ptr 0 0]) [.cells [.int .i64 0,.int .u64 0]]):=by kernel_rfl
def aRc:=Eq.mp (aRd ..) (aRe)
theorem aM2 (gl:aX):HOK Tryz.prog gl 110 aFs:=by
 refine ⟨fok Tryz.func110 (by kernel_rfl) (by kernel_rfl),?_⟩
 intro xs bs pre r bs2 h hp
 unfold aFs at h
 split at h
 ·cases h
  exact bC bD (by exact aV rfl rfl trivial trivial) (by kernel_rfl) Tryz.func110 (aRc gl )
 ·cases h
def eR (xs ys:List Int):Nat->Int
 | 0=>0
 | k+1=>eR xs ys k+xs.getD k 0*ys.getD k 0
def cX (xs ys:List Int):Int:=eR xs ys xs.length
structure DotP (xs ys:LL):Prop where
 xe:xs=aP (aQ xs)
 ye:ys=aP (aQ ys)
 le:xs.length=ys.length
 ll:xs.length≤2000
 xb:∀ z ∈ aQ xs,-72057594037927936≤z∧z≤72057594037927936
 yb:∀ z ∈ aQ ys,-72057594037927936≤z∧z≤72057594037927936
structure DoP (n:Nat) (k:Int):Prop where
 lo:0≤k
 hi:k≤n
theorem aRN {a b:Int} (ha:-72057594037927936≤a∧a≤72057594037927936) (hb:-72057594037927936≤b∧b≤72057594037927936):-5192296858534827628530496329220096≤a*b∧a*b≤5192296858534827628530496329220096:=by
 have h:(a*b).natAbs≤72057594037927936*72057594037927936:=by
  rw [Int.natAbs_mul]
  exact Nat.mul_le_mul (show a.natAbs≤72057594037927936 by omega) (show b.natAbs≤72057594037927936 by omega)
 omega
theorem jB {l:List Int} {B:Int} (hB:0≤B) (h:∀ z ∈ l,-B≤z∧z≤B) (k:Nat):-B≤l.getD k 0∧l.getD k 0≤B:=by
 by_cases q:k < l.length
 ·exact h _ (by rw [aB,aD q]; exact List.getElem_mem q)
 ·rw [aB,List.getElem?_eq_none (by omega)]
  simp only [Option.getD_none]; omega
theorem aC7 {xs ys:List Int} (hx:∀ z ∈ xs,-72057594037927936≤z∧z≤72057594037927936) (hy:∀ z ∈ ys,-72057594037927936≤z∧z≤72057594037927936):∀ k:Nat,-(k*5192296858534827628530496329220096:Int)≤eR xs ys k∧eR xs ys k≤k*5192296858534827628530496329220096
 | 0=>by simp [eR]
 | k+1=>by
  have:=aC7 hx hy k
  have:=aRN (jB (by decide) hx k) (jB (by decide) hy k)
  rw [eR]
  generalize xs.getD k 0*ys.getD k 0=p at *
  omega
def wide (z:Int):List AV:=[.int .i64 (wH z),.int .u64 (wL z)]
def doI (f g:Bool) (xs ys:List Int):LInv:=⟨Int,λ k=>⟨[(0,.sl 1 f (aP xs)),(1,.sl 1 g (aP ys)),(4,.ptr 4 0),(6,.fn 148 [.ptr 15 0]),(7,.ptr 7 0),(19,.int .i64 xs.length),(20,.int .i64 k)],[(4,.cells [.int .i64 0,.int .u64 0]),(7,.cells [.int .i64 (wH (eR xs ys k.toNat)),.int .u64 (wL (eR xs ys k.toNat))]),(15,.cells [.int .i64 (wH (eR xs ys k.toNat)),.int .u64 (wL (eR xs ys k.toNat))])]⟩,DoP xs.length,λ k=>(xs.length - k).toNat,none⟩
def aFx (wH:Int->Int) (wL:Int->Int):Sp
 | [.sl 1 f xs,.sl 1 g ys]=>some (DotP xs ys,.tup [.agg [.int .i64 (wH (cX (aQ xs) (aQ ys))),.int .u64 (wL (cX (aQ xs) (aQ ys)))],.int .i64 0])
 | _=>none
abbrev iC (xs:LL) (ys:LL) (x1:Int):=(eR (aQ xs) (aQ ys) x1.toNat)
def aFy (wH:Int->Int) (wL:Int->Int) (adZ:Int->Int->Int->Int->Int) (mlH:Int->Int->Int) (mlL:Int->Int->Int):Prop :=
 ∀ (gl:aX) (f g:Bool) (xs ys:LL),DotP xs ys->True->True->bif decide ¬(↑xs.length:Int)=(↑ys.length:Int) then ((0:Int)=wH (cX (aQ xs) (aQ ys))∧(0:Int)=wL (cX (aQ xs) (aQ ys))∧True)∧(1:Int)=(0:Int)∧True else True∧AdP 0 (wH 0)∧(∃ x,DoP (aQ xs).length x∧(((bif f then f=true else True)∧xs=aP (aQ xs))∧((bif g then g=true else True)∧ys=aP (aQ ys))∧(0:Nat)=(0:Nat)∧((0:Nat)=(0:Nat)∧True)∧(0:Nat)=(0:Nat)∧(↑xs.length:Int)=(↑(aQ xs).length:Int)∧(0:Int)=x∧True)∧((0:Int)=(0:Int)∧(0:Int)=(0:Int)∧True)∧(wH 0=YtgbbmadjdaphnaaGreatDoor.wH (eR (aQ xs) (aQ ys) (Int.toNat x))∧wL 0=YtgbbmadjdaphnaaGreatDoor.wL (eR (aQ xs) (aQ ys) (Int.toNat x))∧True)∧(wH 0=YtgbbmadjdaphnaaGreatDoor.wH (eR (aQ xs) (aQ ys) (Int.toNat x))∧wL 0=YtgbbmadjdaphnaaGreatDoor.wL (eR (aQ xs) (aQ ys) (Int.toNat x))∧True)∧True)∧∀ (x1:Int),DoP (aQ xs).length x1->bif decide (x1 < (↑(aQ xs).length:Int)) then bif decide (0≤x1∧x1 < (↑(aP (aQ xs)).length:Int)) then ∃ n,List.take [I6 n].length ((aP (aQ xs)).getD x1.toNat [])=[I6 n]∧bif decide (0≤x1∧x1 < (↑(aP (aQ ys)).length:Int)) then ∃ n_1,List.take [I6 n_1].length ((aP (aQ ys)).getD x1.toNat [])=[I6 n_1]∧AdP (YtgbbmadjdaphnaaGreatDoor.wH (iC xs ys x1)) (wH (n*n_1))∧bif decide (rng IntKind.i64 (x1+(1:Int))) then ∃ y,DoP (aQ xs).length y∧(doI f g (aQ xs) (aQ ys)).m y < (doI f g (aQ xs) (aQ ys)).m x1∧(((bif f then f=true else True)∧aP (aQ xs)=aP (aQ xs))∧((bif g then g=true else True)∧aP (aQ ys)=aP (aQ ys))∧(0:Nat)=(0:Nat)∧((0:Nat)=(0:Nat)∧True)∧(0:Nat)=(0:Nat)∧(↑(aQ xs).length:Int)=(↑(aQ xs).length:Int)∧x1+(1:Int)=y∧True)∧((0:Int)=(0:Int)∧(0:Int)=(0:Int)∧True)∧(wH (YtgbbmadjdaphnaaGreatDoor.wH (iC xs ys x1)*(18446744073709551616:Int)+YtgbbmadjdaphnaaGreatDoor.wL (iC xs ys x1)+n*n_1)=YtgbbmadjdaphnaaGreatDoor.wH (eR (aQ xs) (aQ ys) (Int.toNat y))∧wL (YtgbbmadjdaphnaaGreatDoor.wH (iC xs ys x1)*(18446744073709551616:Int)+YtgbbmadjdaphnaaGreatDoor.wL (iC xs ys x1)+n*n_1)=YtgbbmadjdaphnaaGreatDoor.wL (eR (aQ xs) (aQ ys) (Int.toNat y))∧True)∧(wH (YtgbbmadjdaphnaaGreatDoor.wH (iC xs ys x1)*(18446744073709551616:Int)+YtgbbmadjdaphnaaGreatDoor.wL (iC xs ys x1)+n*n_1)=YtgbbmadjdaphnaaGreatDoor.wH (eR (aQ xs) (aQ ys) (Int.toNat y))∧wL (YtgbbmadjdaphnaaGreatDoor.wH (iC xs ys x1)*(18446744073709551616:Int)+YtgbbmadjdaphnaaGreatDoor.wL (iC xs ys x1)+n*n_1)=YtgbbmadjdaphnaaGreatDoor.wL (eR (aQ xs) (aQ ys) (Int.toNat y))∧True)∧True else False else False else False else (YtgbbmadjdaphnaaGreatDoor.wH (iC xs ys x1)=wH (cX (aQ xs) (aQ ys))∧YtgbbmadjdaphnaaGreatDoor.wL (iC xs ys x1)=wL (cX (aQ xs) (aQ ys))∧True)∧(0:Int)=(0:Int)∧True
theorem aRk:aFy wH wL adZ mlH mlL:=by
 unfold aFy
 delta iC I6
 intro gl f g xs ys hP
 intros
 have hle:=hP.le
 have hll:=hP.ll
 have hx:=hP.xb
 have hy:=hP.yb
 have xe:=hP.xe
 have ye:=hP.ye
 clear hP
 obtain ⟨zx,hzx⟩:∃ z,z=aQ xs:=⟨_,rfl⟩
 obtain ⟨zy,hzy⟩:∃ z,z=aQ ys:=⟨_,rfl⟩
 rw [← hzx] at xe hx ⊢
 rw [← hzy] at ye hy ⊢
 clear hzx hzy
 subst xe ye
 rw [aR] at hle hll
 rw [aR] at hle
 have gf:cond f (f=true) True:=gg f
 have gg':cond g (g=true) True:=gg g
 refine cd0 (λ h=>h (by rw [aR,aR,hle])) ⟨trivial,⟨by decide,by decide,by decide,by decide⟩,⟨0,⟨Int.le_refl 0,by omega⟩,by rw [aR]; (repeat' (first | exact trivial | exact rfl | assumption | apply And.intro))⟩,?_⟩
 intro k ⟨k0,kl⟩
 rw [aR,aR]
 have hd:=aC7 hx hy k.toNat
 refine csp (λ h=>?_) (λ h=>?_)
 ·have ex:=bH (l:=zx) (i:=k.toNat) (by omega)
  have ey:=bH (l:=zy) (i:=k.toNat) (by omega)
  have hm:=aRN (jB (by decide) hx k.toNat) (jB (by decide) hy k.toNat)
  have es:wH (eR zx zy k.toNat)*18446744073709551616+wL (eR zx zy k.toNat)+zx.getD k.toNat 0*zy.getD k.toNat 0=eR zx zy (k+1).toNat:=by
   rw [aVl,show (k+1).toNat=k.toNat+1 by omega]; rfl
  refine cd1 ⟨k0,h⟩ ⟨zx.getD k.toNat 0,by rw [bB ex]; rfl,cd1 ⟨k0,by omega⟩ ⟨zy.getD k.toNat 0,by rw [bB ey]; rfl,?_,cdI (by omega) ⟨k+1,⟨by omega,by omega⟩,by simp only [doI]; omega,by rw [es]; (repeat' (first | exact trivial | exact rfl | assumption | apply And.intro))⟩⟩⟩
  have kk:(k.toNat:Int)≤2000:=by omega
  unfold wH
  generalize zx.getD k.toNat 0*zy.getD k.toNat 0=p at *
  generalize eR zx zy k.toNat=d at *
  generalize k.toNat=q at *
  exact ⟨by omega,by omega,by omega,by omega⟩
 ·have e:eR zx zy k.toNat=cX zx zy:=by unfold cX; rw [show k.toNat=zx.length by omega]
  rw [e]
  (repeat' (first | exact trivial | exact rfl | assumption | apply And.intro))
theorem aRj (wH:Int->Int) (wL:Int->Int) (adZ:Int->Int->Int->Int->Int) (mlH:Int->Int->Int) (mlL:Int->Int->Int):aFy wH wL adZ mlH mlL=(∀ (gl:aX) (f g:Bool) (xs ys:LL),DotP xs ys->fnK Tryz.prog { glob:=gl,spec:=lk [],specH:=lk [(110,aFs),(148,(aAG wH wL adZ mlH mlL))],shape:=[27,31],nowf:=true } { nt:=35,drop:=drp [(1,7680),(2,16384),(3,32768),(4,196608),(5,262144),(7,4194304),(8,8581545984),(9,8589934592),(10,17179869184)] } (xH [(6,doI f g (aQ xs) (aQ ys))]) 6 Tryz.f63 [.sl 1 f xs,.sl 1 g ys] (.tup [.agg [.int .i64 (wH (cX (aQ xs) (aQ ys))),.int .u64 (wL (cX (aQ xs) (aQ ys)))],.int .i64 0])):=by kernel_rfl
def aRi:=Eq.mp (aRj ..) (aRk)
theorem aNa (gl:aX):SOK Tryz.prog gl 63 (aFx wH wL):=by
 refine ⟨fok Tryz.func63 (by kernel_rfl) (by kernel_rfl),?_⟩
 intro xs pre r h hp
 unfold aFx at h
 split at h
 ·cases h
  exact aT bD (by exact aV rfl rfl trivial ⟨(aM2 gl),(aJZ gl),trivial⟩) (by kernel_rfl) Tryz.func63 rfl (aRi gl _ _ _ _ hp)
 ·cases h
end Go.Proofs.YtgbbmadjdaphnaaGreatDoor
