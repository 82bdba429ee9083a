import Derived.Test.YtgbbmadjdaphnaaGreatDoorTTa
import Derived.Laws.AppendOwnNone
import Derived.Laws.MakeOwn
import Derived.Laws.CopyRow
import Derived.Laws.IdiomCopy
import Derived.Laws.BytesArg
import Derived.Lib.ConvBytes
import Derived.DeepKeys5
import Derived.Laws.Externs
set_option maxRecDepth 100000
set_option linter.defProp false
set_option linter.unusedVariables false
set_option linter.unusedSimpArgs false
namespace Go.Proofs.YtgbbmadjdaphnaaGreatDoor
open Go
open Go.RowKit (Below)
variable {P:Program} {S:Pin} {m:Nm} {w:World} {a:Act} {G:Gh} {kp:List Nat} {st:St} {E:Env}
theorem CVl.append:∀ {xs ys:List AV} {us vs:List Value},CVl S xs m us->CVl S ys m vs->CVl S (xs++ys) m (us++vs)
 | [],ys,us,vs,h,k=>by simp only [CVl] at h; subst h; exact k
 | x::xs,ys,us,vs,h,k=>by
  simp only [CVl] at h
  obtain ⟨u,us',rfl,h1,h2⟩:=h
  simp only [List.cons_append,CVl]
  exact ⟨u,us'++vs,rfl,h1,CVl.append h2 k⟩
theorem aC2 {α:Type} {s:Nat}:∀ {zs:List (List α)},(∀ z ∈ zs,z.length=s)->zs.flatten.length=zs.length*s
 | [],_=>by simp
 | z::zs,h=>by
  simp only [List.flatten_cons,aG,List.length_cons,Nat.succ_mul]
  rw [aC2 (λ y hy=>h y (aN _ hy)),h z aO]; omega
theorem jX {α:Type} {s:Nat}:∀ {zs:List (List α)},(∀ z ∈ zs,z.length=s)->∀ {j i:Nat} {x:List α} {y:α},zs[j]?=some x->x[i]?=some y->zs.flatten[j*s+i]?=some y
 | [],_,j,i,x,y,h,_=>by simp at h
 | z::zs,h,j,i,x,y,hj,hi=>by
  have hz:=h z aO
  cases j with
  | zero =>
   simp at hj
   subst hj
   have:i < z.length:=(aF.1 hi).1
   simp only [List.flatten_cons,Nat.zero_mul,Nat.zero_add]
   rw [List.getElem?_append_left this]; exact hi
  | succ j =>
   simp at hj
   simp only [List.flatten_cons]
   rw [List.getElem?_append_right (by rw [hz,Nat.succ_mul]; omega),hz,show (j+1)*s+i - s=j*s+i by rw [Nat.succ_mul]; omega]
   exact jX (λ y hy=>h y (aN _ hy)) hj hi
theorem aDt {s:Nat}:∀ {zs:LL} {vals:List Value},vals.length=zs.length*s->(∀ (j:Nat) (x:List AV),zs[j]?=some x->x.length=s∧∀ (i:Nat) (y:AV),x[i]?=some y->∃ v,vals[j*s+i]?=some v∧CV S y m v)->CVl S zs.flatten m vals
 | [],vals,hl,_=>by
  have:vals=[]:=List.eq_nil_of_length_eq_zero (by simpa using hl)
  subst this
  simp only [List.flatten_nil,CVl]
 | z::zs,vals,hl,h=>by
  have h0:=h 0 z rfl
  simp only [List.length_cons,Nat.succ_mul] at hl
  have e:vals=vals.take s++vals.drop s:=(List.take_append_drop s vals).symm
  rw [List.flatten_cons,e]
  have a1:CVl S z m (vals.take s):=by
   refine CVl.mk (by simp; omega) (λ i y v e1 e2=>?_)
   obtain ⟨u,hu,hy⟩:=h0.2 i y e1
   rw [List.getElem?_take] at e2
   split at e2
   ·simp only [Nat.zero_mul,Nat.zero_add] at hu
    rw [hu] at e2
    injection e2 with e2
    subst e2; exact hy
   ·cases e2
  have a2:CVl S zs.flatten m (vals.drop s):=aDt (s:=s) (by simp; omega) (λ j x hj=>by
   have:=h (j+1) x (by simpa using hj)
   refine ⟨this.1,λ i y hi=>?_⟩
   obtain ⟨v,hv,hy⟩:=this.2 i y hi
   refine ⟨v,?_,hy⟩
   rw [List.getElem?_drop,← hv]
   congr 1
   rw [Nat.succ_mul]; omega)
  clear e
  exact a1.append a2
theorem CE.vals:∀ {xs:LL} {s b o:Nat},CE S xs s b o->(∀ z ∈ xs,z.length=s)∧∃ vs:List Value,vs.length=xs.length*s∧CVl S xs.flatten dE vs∧∀ (j:Nat) (v:Value),vs[j]?=some v->S b (o+j)=some v
 | [],_,_,_,_=>⟨by simp,[],by simp,by simp only [List.flatten_nil,CVl],by simp⟩
 | x::xs,s,b,o,h=>by
  simp only [CE] at h
  obtain ⟨h1,h2,h3⟩:=h
  obtain ⟨vs,e1,e2⟩:=h2.vals
  obtain ⟨hl,us,e3,e4,e5⟩:=CE.vals h3
  have hvl:=e2.len
  refine ⟨λ z hz=>?_,vs++us,?_,?_,λ j v e=>?_⟩
  ·rcases List.mem_cons.1 hz with rfl | hz
   ·exact h1
   ·exact hl z hz
  ·simp only [aG,List.length_cons,Nat.succ_mul]; omega
  ·rw [List.flatten_cons]
   exact e2.append e4
  ·by_cases hj:j < vs.length
   ·rw [List.getElem?_append_left hj] at e
    exact e1 j v e
   ·rw [List.getElem?_append_right (by omega)] at e
    have:=e5 _ v e
    rw [← this]
    congr 1
    omega
theorem cE {s:Nat} {zs:LL} (hz:∀ z ∈ zs,z.length=s) {cur:Array Value} {vals:List Value} {m0:Nm} (hc:CVl S zs.flatten m0 vals) (h1:∀ v ∈ vals,v.oneCell'=true) (ht:cur.toList.take (zs.length*s)=vals) :
  ∀ (j:Nat) (x:List AV),zs[j]?=some x->x.length=s∧∀ (i:Nat) (y:AV),x[i]?=some y->∃ v,cur[j*s+i]?=some v∧v.oneCell'=true∧CV S y m0 v:=by
 intro j x hj
 refine ⟨hz x (aL hj),λ i y hi=>?_⟩
 obtain ⟨v,hv,hy⟩:=hc.get (jX hz hj hi)
 refine ⟨v,?_,h1 v (aL hv),hy⟩
 rw [← ht,List.getElem?_take] at hv
 split at hv
 ·simpa using hv
 ·cases hv
theorem CE.lens {xs:LL} {s b o:Nat} (h:CE S xs s b o):∀ z ∈ xs,z.length=s:=h.vals.1
theorem aPp {s:Nat} {xs:LL} (h:∀ (j:Nat) (x:List AV),xs[j]?=some x->x.length=s):∀ z ∈ xs,z.length=s:=by
 intro z hz
 obtain ⟨j,hj,rfl⟩:=List.getElem_of_mem hz
 exact h j _ (aD hj)
theorem fJ.vals {k e s:Nat} {xs:LL} (h:fJ S m w k (.row e s xs)) :
  ∃ A c,m k=some (.iface 0 (.slice A xs.length c))∧xs.length≤c∧c≤maxLen∧(∀ z ∈ xs,z.length=s)∧((A=none∧c=0)∨∃ g cur fr,A=some ⟨g,0,none⟩∧w.heap[g]?=some (.cells cur (gF e) fr)∧dW e cur.size fr∧cur.size=c*s∧(∀ o,S g o=none)) ∧
   ∃ vals,vals.length=xs.length*s∧CVl S xs.flatten (dM e m) vals∧(∀ v ∈ vals,v.oneCell'=true)∧((A=none∧c=0)∨∃ g cur fr,A=some ⟨g,0,none⟩∧w.heap[g]?=some (.cells cur (gF e) fr)∧dW e cur.size fr∧cur.size=c*s∧cur.toList.take (xs.length*s)=vals)∧∀ g,A=some ⟨g,0,none⟩->∀ (j:Nat) (v:Value),vals[j]?=some v->w.cell? ⟨g,j,none⟩=some v:=by
 obtain ⟨A,c,h1,h2,h3,h4⟩:=h
 refine ⟨A,c,h1,h2,h3,?_⟩
 rcases h4 with ⟨rfl,rfl⟩ | ⟨g,cur,fr,rfl,h5,hfr,h6,h7,h8⟩
 ·have hx:xs=[]:=List.eq_nil_of_length_eq_zero (by omega)
  subst hx
  exact ⟨by simp,.inl ⟨rfl,rfl⟩,[],by simp,by simp only [List.flatten_nil,CVl],by simp,.inl ⟨rfl,rfl⟩,λ g e=>by cases e⟩
 ·have hlen:=aPp (λ j x hj=>(h8 j x hj).1)
  have hle:xs.length*s≤cur.size:=by rw [h6]; exact Nat.mul_le_mul_right s h2
  have hl:(cur.toList.take (xs.length*s)).length=xs.length*s:=by have h9:=Array.length_toList (xs:=cur); rw [List.length_take]; omega
  refine ⟨hlen,.inr ⟨g,cur,fr,rfl,h5,hfr,h6,h7⟩,cur.toList.take (xs.length*s),hl,aDt hl (λ j x hj=>⟨(h8 j x hj).1,λ i y hi=>?_⟩),?_,.inr ⟨g,cur,fr,rfl,h5,hfr,h6,rfl⟩,λ g' e j v hv=>?_⟩
  ·obtain ⟨v,hv,_,hy⟩:=(h8 j x hj).2 i y hi
   refine ⟨v,?_,hy⟩
   have hjl:j < xs.length:=(aF.1 hj).1
   have hil:i < s:=by have:=(aF.1 hi).1; rw [(h8 j x hj).1] at this; exact this
   have:j*s+s≤xs.length*s:=by rw [← Nat.succ_mul]; exact Nat.mul_le_mul_right s hjl
   rw [List.getElem?_take,if_pos (by omega)]
   simpa using hv
  ·intro v hv
   obtain ⟨p,hp,rfl⟩:=List.getElem_of_mem hv
   rw [hl] at hp
   have hs:0 < s:=by
    rcases Nat.eq_zero_or_pos s with h | h
    ·subst h; simp at hp
    ·exact h
   have hj:p / s < xs.length:=Nat.div_lt_of_lt_mul (by rw [Nat.mul_comm]; exact hp)
   have hi:p % s < s:=Nat.mod_lt _ hs
   have e1:=aD hj
   obtain ⟨hz,hc⟩:=h8 _ _ e1
   have e2:=aD (show p % s < (xs[p / s]).length by rw [hz]; exact hi)
   obtain ⟨u,hu,ho,_⟩:=hc _ _ e2
   have hp2:p / s*s+p % s=p:=Nat.div_add_mod' p s
   rw [hp2] at hu
   have:(cur.toList.take (xs.length*s))[p]'(by rw [hl]; exact hp)=u:=by
    have h9:(cur.toList.take (xs.length*s))[p]?=some u:=by
     rw [List.getElem?_take,if_pos hp]; simpa using hu
    rw [aD (by rw [hl]; exact hp)] at h9
    exact Option.some.inj h9
   rw [this]; exact ho
  ·injection e with e
   injection e with e
   subst e
   rw [cell_of_row w g j cur _ fr h5]
   rw [List.getElem?_take] at hv
   split at hv
   ·simpa using hv
   ·cases hv
theorem wG {α:Type} {s:Nat}:∀ (l:List (List α)) (p q:Nat),(∀ z ∈ l,z.length=s)->((l.drop p).take q).flatten=(l.flatten.drop (p*s)).take (q*s)
 | [],p,q,_=>by simp
 | z::l,0,0,_=>by simp
 | z::l,0,q+1,hl=>by
  have hz:=hl z aO
  have:=wG l 0 q (λ y hy=>hl y (aN _ hy))
  simp only [List.drop_zero,Nat.zero_mul] at this ⊢
  rw [List.take_succ_cons,List.flatten_cons,List.flatten_cons,this,List.take_append,hz,Nat.succ_mul,show q*s+s - s=q*s by omega]
  rw [List.take_of_length_le (l:=z) (by rw [hz]; omega)]
 | z::l,p+1,q,hl=>by
  have hz:=hl z aO
  have:=wG l p q (λ y hy=>hl y (aN _ hy))
  rw [List.drop_succ_cons,this,List.flatten_cons,List.drop_append,hz,Nat.succ_mul,show p*s+s - s=p*s by omega]
  rw [@List.drop_eq_nil_of_le _ z _ (by rw [hz]; omega),List.nil_append]
def aMv (h:Nat->Option Blk) (s:Nat):AV->(LL->List Nat->Prop)->Prop
 | .nils,k=>k [] []
 | .rw j s' n,k=>(match h j with | some (.row e2 s2 xs)=>cond (Nat.beq s s'&&Nat.beq s s2&&Nat.blt e2 2000000) (chk (n=xs.length) (k xs [j])) False | _=>False)
 | .mw j s' q eo n _,k=>(match h j with | some (.row e2 s2 xs)=>cond (Nat.beq s s'&&Nat.beq s s2&&Nat.blt e2 2000000) (chk (q=xs.length∧eo+n≤xs.length) (k ((xs.drop eo).take n) [j])) False | _=>False)
 | x,k=>xI x λ s' _ ys=>cond (Nat.beq s s') (k ys []) False
def Src (S:Pin) (m0:Nm) (w:World) (s:Nat) (ys:LL) (v:Value):Prop :=
 ∃ A c,v=.slice A ys.length c∧ys.length≤c∧(∀ z ∈ ys,z.length=s)∧∃ cK:List Value,cK.length=ys.length*s∧CVl S ys.flatten m0 cK∧(∀ u ∈ cK,u.oneCell'=true) ∧
  ((A=none∧c=0)∨∃ a,A=some a∧∀ (j:Nat) (u:Value),cK[j]?=some u->w.cell? (a.add j)=some u)
theorem gC {h:Nat->Option Blk} {s:Nat} {x:AV} {k:LL->List Nat->Prop} (H:aMv h s x k):∃ ys rd,k ys rd∧∀ (G:Gh) (kp:List Nat) (st:St) (a:Act) (w:World) (S:Pin) (m:Nm) (v:Value),Rel G kp st a w S m->(∀ j ∈ rd,lk st.heap j=h j)->CV S x m v->Src S dE w s ys v:=by
 have view:∀ {x:AV},xI x (λ s' _ ys=>cond (Nat.beq s s') (k ys []) False)->∃ ys rd,k ys rd∧∀ (G:Gh) (kp:List Nat) (st:St) (a:Act) (w:World) (S:Pin) (m:Nm) (v:Value),Rel G kp st a w S m->(∀ j ∈ rd,lk st.heap j=h j)->CV S x m v->Src S dE w s ys v:=by
  intro x H
  obtain ⟨s',f,ys,H,hx⟩:=gU H
  obtain ⟨hs,H1⟩:=aW H
  have hs:=aA hs
  subst hs
  refine ⟨ys,[],H1,λ G kp st a w S m v hR _ hv=>?_⟩
  obtain ⟨A,c,rfl,h1,h2,h3,h4,h5⟩:=hx S m v hv
  cases A with
  | none =>
   have hc:=h4 rfl
   have hy:ys=[]:=List.eq_nil_of_length_eq_zero (by omega)
   subst hy
   exact ⟨none,c,rfl,by simp,by simp,[],by simp,by simp only [List.flatten_nil,CVl],by simp,.inl ⟨rfl,hc⟩⟩
  | some ad =>
   obtain ⟨p1,p2⟩:=h5 ad rfl
   obtain ⟨q1,cK,q2,q3,q4⟩:=p2.vals
   refine ⟨some ad,c,rfl,h1,q1,cK,q2,q3,λ u hu=>?_,.inr ⟨ad,rfl,λ j u hj=>?_⟩⟩
   ·obtain ⟨j,hj,rfl⟩:=List.getElem_of_mem hu
    exact (hR.agree _ _ _ (q4 j _ (aD hj))).2
   ·have p1:=p1 (by
     intro hc0
     have hy:ys.length=0:=by omega
     have:=(aF.1 hj).1
     rw [q2,hy] at this
     omega)
    obtain ⟨b,o,sp⟩:=ad
    simp only at p1
    subst p1
    rw [bW]
    exact (hR.agree _ _ _ (q4 j u hj)).1
 unfold aMv at H
 split at H
 ·refine ⟨[],[],H,λ G kp st a w S m v hR _ hv=>?_⟩
  simp only [CV] at hv
  subst hv
  exact ⟨none,0,rfl,by simp,by simp,[],by simp,by simp only [List.flatten_nil,CVl],by simp,.inl ⟨rfl,rfl⟩⟩
 ·rename_i j s' n
  split at H
  ·rename_i e s2 xs hj
   obtain ⟨hs,H0⟩:=aW H
   simp only [aC] at hs
   have hs1:=aA hs.1.1
   have hs2:=aA hs.1.2
   have hs3:e < 2000000:=aK hs.2
   subst hs1; subst hs2
   obtain ⟨hn,H1⟩:=aZ.1 H0
   refine ⟨xs,[j],H1,λ G kp st a w S m v hR hrd hv=>?_⟩
   obtain ⟨A,c,h1,h2,h3,h4,h5,vals,h6,h7,h8,h9,h10⟩:=(hR.held j _ ((hrd j (by simp)).trans hj)).vals
   rw [bG hs3] at h7
   simp only [CV] at hv
   obtain ⟨_,A1,q,c1,p1,p2,p3⟩:=hv
   rw [h1] at p1
   injection p1 with p1
   injection p1 with _ p1
   injection p1 with e1 e2 e3
   subst e1; subst e3
   have hv:=p3 (by omega)
   subst hv
   refine ⟨A,c,by rw [← e2],h2,h4,vals,h6,h7,h8,?_⟩
   rcases h5 with ⟨rfl,rfl⟩ | ⟨g,cur,fr,rfl,_⟩
   ·exact .inl ⟨rfl,rfl⟩
   ·exact .inr ⟨_,rfl,λ i u hi=>by rw [bW,Nat.zero_add]; exact h10 g rfl i u hi⟩
  ·exact H.elim
 ·rename_i j s' q eo n f
  split at H
  ·rename_i e s2 xs hj
   obtain ⟨hs,H0⟩:=aW H
   simp only [aC] at hs
   have hs1:=aA hs.1.1
   have hs2:=aA hs.1.2
   have hs3:e < 2000000:=aK hs.2
   subst hs1; subst hs2
   obtain ⟨⟨hq,hn⟩,H1⟩:=aZ.1 H0
   have hlen:((xs.drop eo).take n).length=n:=by simp; omega
   refine ⟨_,[j],H1,λ G kp st a w S m v hR hrd hv=>?_⟩
   obtain ⟨A,c,h1,h2,h3,h4,h5,vals,h6,h7,h8,h9,h10⟩:=(hR.held j _ ((hrd j (by simp)).trans hj)).vals
   rw [bG hs3] at h7
   simp only [CV] at hv
   obtain ⟨A2,c2,rfl,p1,p2,p3,p4,p5,A1,q1,c1,p6,p7,p8⟩:=hv
   rw [h1] at p6
   injection p6 with p6
   injection p6 with _ p6
   injection p6 with e1 e2 e3
   subst e1; subst e3
   have hz':∀ z ∈ (xs.drop eo).take n,z.length=s:=λ z hz=>h4 z (List.mem_of_mem_drop (List.mem_of_mem_take hz))
   by_cases hc2:c2=0
   ·have hn0:n=0:=by omega
    subst hn0
    refine ⟨A2,c2,by rw [hlen],by rw [hlen]; exact p1,hz',[],by simp,by simp only [List.take_zero,List.flatten_nil,CVl],by simp,?_⟩
    cases A2 with
    | none=>exact .inl ⟨rfl,hc2⟩
    | some ad=>exact .inr ⟨ad,rfl,by simp⟩
   ·obtain ⟨g,e4,e5⟩:=p8 (by omega) hc2
    subst e4; subst e5
    have hfl:((xs.drop eo).take n).flatten=(xs.flatten.drop (eo*s)).take (n*s):=by
     exact wG xs eo n h4
    have hpn:eo*s+n*s≤xs.length*s:=by rw [← Nat.add_mul]; exact Nat.mul_le_mul_right s hn
    refine ⟨_,c2,by rw [hlen],by rw [hlen]; exact p1,hz',(vals.drop (eo*s)).take (n*s),by rw [hlen]; simp; omega,by rw [hfl]; exact (h7.drop _).take _,λ u hu=>h8 u (List.mem_of_mem_drop (List.mem_of_mem_take hu)),.inr ⟨_,rfl,λ i u hi=>?_⟩⟩
    rw [bW]
    rw [List.getElem?_take] at hi
    split at hi
    ·rw [List.getElem?_drop] at hi
     exact h10 g rfl _ u hi
    ·cases hi
  ·exact H.elim
 ·exact view H
def aVx (h:Nat->Option Blk) (s:Nat):AV->(LL->List Nat->Prop)->Prop
 | .rw j s' n,k=>(match h j with | some (.row _ s2 xs)=>cond (Nat.beq s s'&&Nat.beq s s2&&Nat.blt 0 xs.length) (chk (n=xs.length) (k xs [j])) False | _=>False)
 | _,_=>False
theorem aDw {h:Nat->Option Blk} {s:Nat} {x:AV} {k:LL->List Nat->Prop} (H:aVx h s x k):∃ ys rd,k ys rd∧0 < ys.length∧∀ (G:Gh) (kp:List Nat) (st:St) (a:Act) (w:World) (S:Pin) (m:Nm) (v:Value),Rel G kp st a w S m->(∀ j ∈ rd,lk st.heap j=h j)->CV S x m v->Src S m w s ys v:=by
 unfold aVx at H
 split at H
 ·rename_i j s' n
  split at H
  ·rename_i e s2 xs hj
   obtain ⟨hs,H0⟩:=aW H
   simp only [aC] at hs
   have hs1:=aA hs.1.1
   have hs2:=aA hs.1.2
   have hs3:0 < xs.length:=aK hs.2
   subst hs1; subst hs2
   obtain ⟨hn,H1⟩:=aZ.1 H0
   refine ⟨xs,[j],H1,hs3,λ G kp st a w S m v hR hrd hv=>?_⟩
   obtain ⟨A,c,h1,h2,h3,h4,h5,vals,h6,h7,h8,h9,h10⟩:=(hR.held j _ ((hrd j (by simp)).trans hj)).vals
   have h7:=h7.ext (Ext.refl S) (lE e m)
   simp only [CV] at hv
   obtain ⟨_,A1,q,c1,p1,p2,p3⟩:=hv
   rw [h1] at p1
   injection p1 with p1
   injection p1 with _ p1
   injection p1 with e1 e2 e3
   subst e1; subst e3
   have hv:=p3 (by omega)
   subst hv
   refine ⟨A,c,by rw [← e2],h2,h4,vals,h6,h7,h8,?_⟩
   rcases h5 with ⟨rfl,rfl⟩ | ⟨g,cur,fr,rfl,_⟩
   ·exact .inl ⟨rfl,rfl⟩
   ·exact .inr ⟨_,rfl,λ i u hi=>by rw [bW,Nat.zero_add]; exact h10 g rfl i u hi⟩
  ·exact H.elim
 ·exact H.elim
def aCr (h:Nat->Option Blk):AV->Bool
 | .rw j _ _=>(match h j with | some (.row e _ _)=>Nat.ble 2000000 e | _=>false)
 | _=>false
def aG7 (n:Nat) (k:Nat->Prop):Prop:=match n with | 0=>k 0 | m+1=>k (Nat.succ m)
theorem aDT (n:Nat) (k:Nat->Prop):aG7 n k=k n:=by cases n <;> rfl
def wB:List AV->(List AV->Prop)->Prop
 | [],k=>k []
 | x::l,k=>kG x λ x=>wB l λ l=>k (x::l)
theorem tI:∀ (l:List AV) (k:List AV->Prop),wB l k=k l
 | [],k=>rfl
 | x::l,k=>by simp only [wB,dH]; exact tI l _
def vZ:LL->(LL->Prop)->Prop
 | [],k=>k []
 | x::l,k=>wB x λ x=>vZ l λ l=>k (x::l)
theorem tG:∀ (l:LL) (k:LL->Prop),vZ l k=k l
 | [],k=>rfl
 | x::l,k=>by simp only [vZ,tI]; exact tG l _
def fcL (o:Bool) (l:LL) (k:LL->Prop):Prop:=cond o (vZ l k) (k l)
theorem aLK (o:Bool) (l:LL) (k:LL->Prop):fcL o l k=k l:=by cases o <;> simp only [fcL,cond_true,cond_false,tG]
def fcN (o:Bool) (n:Nat) (k:Nat->Prop):Prop:=cond o (aG7 n k) (k n)
theorem aHy (o:Bool) (n:Nat) (k:Nat->Prop):fcN o n k=k n:=by cases o <;> simp only [fcN,cond_true,cond_false,aDT]
def tyO (o:Bool) (e:Nat):Nat:=cond o (Nat.add e 2000000) e
def aVy (o:Bool) (h:Nat->Option Blk) (s:Nat) (y:AV) (k:LL->List Nat->Prop):Prop:=cond o (aVx h s y k) (aMv h s y k)
theorem aDx {o:Bool} {e:Nat} (he:e < 1000000) {h:Nat->Option Blk} {s:Nat} {x:AV} {k:LL->List Nat->Prop} (H:aVy o h s x k):∃ ys rd,k ys rd∧(o=true->0 < ys.length)∧∀ (G:Gh) (kp:List Nat) (st:St) (a:Act) (w:World) (S:Pin) (m:Nm) (v:Value),Rel G kp st a w S m->(∀ j ∈ rd,lk st.heap j=h j)->CV S x m v->Src S (dM (tyO o e) m) w s ys v:=by
 unfold aVy at H
 cases o with
 | true =>
  obtain ⟨ys,rd,h1,h2,h3⟩:=aDw H
  refine ⟨ys,rd,h1,λ _=>h2,λ G kp st a w S m v hR hrd hv=>?_⟩
  rw [bN (by show ¬ e+2000000 < 2000000; omega)]
  exact h3 G kp st a w S m v hR hrd hv
 | false =>
  obtain ⟨ys,rd,h1,h3⟩:=gC H
  refine ⟨ys,rd,h1,(λ q=>by cases q),λ G kp st a w S m v hR hrd hv=>?_⟩
  rw [bG (show tyO false e < 2000000 from Nat.lt_trans he (by decide))]
  exact h3 G kp st a w S m v hR hrd hv
theorem iR {e:Nat} (he:e < 1000000) (o:Bool):gF (tyO o e)=e:=by
 cases o with
 | true=>exact lC
 | false=>exact cA he
theorem dW.tyO {e n:Nat} {fr:Nat × Nat} (he:e < 1000000) {o:Bool} (h:dW (tyO o e) n fr):fr=(0,0):=by
 cases o with
 | true=>exact dW.op h
 | false=>exact h.lt he
theorem aE7 {e k:Nat} {u:Value} {xs:List AV} {vs:List Value} (h:CVl S xs (dM e m) vs) (hn:2000000≤e->nnl k xs=true):CVl S xs (dM e (m.set k u)) vs:=by
 by_cases he:e < 2000000
 ·rw [bG he] at h ⊢; exact h
 ·rw [bN he] at h ⊢; exact h.set (hn (by omega))
theorem aFP {k:Nat}:∀ (a b:List AV),nnl k a=true->nnl k b=true->nnl k (a++b)=true
 | [],b,_,hb=>hb
 | z::a,b,ha,hb=>by
  simp only [nnl,aC] at ha
  simp only [List.cons_append,nnl,aC]
  exact ⟨ha.1,aFP a b ha.2 hb⟩
theorem yD {k:Nat}:∀ {xs:LL},nnll k xs=true->nnl k xs.flatten=true
 | [],_=>rfl
 | x::l,h=>by
  simp only [nnll,aC] at h
  rw [List.flatten_cons]
  exact aFP _ _ h.1 (yD h.2)
theorem vS {k:Nat} {A A':Option Addr} {n n' c c':Nat} (hm:m k=some (.iface 0 (.slice A n c))) (hlt:n < n'):MLe m (m.set k (.iface 0 (.slice A' n' c'))):=by
 intro j u hj
 by_cases e:j=k
 ·subst e
  rw [hm] at hj
  injection hj with hj
  subst hj
  exact ⟨_,Nm.set_same _ _ _,.inr ⟨_,_,_,_,_,_,hlt,.inr ⟨rfl,rfl⟩⟩⟩
 ·exact ⟨u,by rw [Nm.set_ne m _ e]; exact hj,.refl u⟩
theorem Rel.congr' {st st':St} (h:Rel G kp st a w S m) (h1:∀ t,st'.get t=st.get t) (h2:∀ k,lk st'.heap k=lk st.heap k):Rel G kp st' a w S m :=
 h.weaken (λ t v hv=>by rw [h1]; exact hv) (λ k b hk=>by rw [h2] at hk; exact ⟨⟨b,hk⟩,h.held k b hk⟩)
theorem iQ {t ty e:TypeId} {i:TypeInfo} (ht:P.underlying t=some (.slice e)) (hi:P.info? e=some i) (A:Option Addr) (n c:Nat) (hn:n≤c) (B:Option Addr) (d:Nat) :
  (Builtin.append_ #[t,t] ty #[.slice A n c,.slice B 0 d]).run P w=.ok (.slice A n c) w:=by
 have hf:(Builtin.firstCells i.size 0 (.slice B 0 d)).run P w=.ok #[] w:=by
  cases B with
  | none=>simp [Builtin.firstCells]
  | some b=>simp [Builtin.firstCells,loadCells,loadCellsFrom]
 cases A with
 | none=>simp [Builtin.append_,run_underlying ht,sizeOf,typeInfo,hi,Builtin.lenOf,hn,hf]
 | some a=>simp [Builtin.append_,run_underlying ht,sizeOf,typeInfo,hi,Builtin.lenOf,hn,hf,storeCells]
theorem mL {t ty e:TypeId} {i:TypeInfo} {z:Value} (ht:P.underlying t=some (.slice e)) (hi:P.info? e=some i) (hz:i.zero=some z) (hzs:z.cells.size=i.size)
  {A:Option Addr} {n c:Nat} {vals:List Value} (hn:n≤c) (hl:vals.length=n*i.size)
  (hA:(A=none∧c=0)∨∃ g cur,A=some ⟨g,0,none⟩∧w.heap[g]?=some (.cells cur e (0,0))∧cur.size=c*i.size∧cur.toList.take (n*i.size)=vals)
  {a:Addr} {m d:Nat} {cK:List Value} (hm:cK.length=m*i.size) (hnews:∀ j u,cK[j]?=some u->w.cell? (a.add j)=some u) (h1:∀ u ∈ cK,u.oneCell'=true) (h0:0 < m) (h63:n+m≤maxLen) (hb:(n+m)*i.bytes≤140737488355328) :
  ∃ A' c' w' cur',(Builtin.append_ #[t,t] ty #[.slice A n c,.slice (some a) m d]).run P w=.ok (.slice A' (n+m) c') w'∧n+m≤c'∧c'≤max c maxLen∧cur'.size=c'*i.size∧cur'.toList.take ((n+m)*i.size)=vals++cK ∧
   ((∃ g,A=some ⟨g,0,none⟩∧A'=A∧c'=c∧w'=w.setRow g cur')∨(A'=some ⟨w.heap.size,0,none⟩∧w'=w.drew.alloc (.cells cur' e))):=by
 have h63':n+m≤9223372036854775807:=by unfold maxLen at h63; omega
 have tk:∀ (old:Nat),old < n+m->∀ (us:Array Value),us.toList=vals++cK->(us++Builtin.zeroCells z.cells (grownCap w (n+m) old e - (n+m))).size=grownCap w (n+m) old e*i.size∧(us++Builtin.zeroCells z.cells (grownCap w (n+m) old e - (n+m))).toList.take ((n+m)*i.size)=vals++cK:=by
  intro old ho us hus
  have hge:=grownCap_ge w (n+m) old e
  have hul:us.size=(n+m)*i.size:=by have:us.toList.length=us.size:=rfl; rw [← this,hus,aG,hl,hm,Nat.add_mul]
  refine ⟨?_,?_⟩
  ·rw [Array.size_append,hul,size_zeroCells,hzs,← Nat.add_mul]
   congr 1; omega
  ·rw [Array.toList_append,List.take_append_of_le_length (by simp; omega),List.take_of_length_le (by simp; omega),hus]
 rcases hA with ⟨rfl,rfl⟩ | ⟨g,cur,rfl,h2,h3,h4⟩
 ·have hn0:n=0:=by omega
  subst hn0
  have hv:vals=[]:=List.eq_nil_of_length_eq_zero (by simpa using hl)
  subst hv
  have hr:=run_append_nil (P:=P) w t ty e i z ht hi hz a m d cK hm hnews h0 (by omega) (by simp at hb; omega)
  obtain ⟨q1,q2⟩:=tk 0 (by omega) cK.toArray (by simp)
  simp only [Nat.zero_add] at q1 q2 ⊢
  exact ⟨_,_,_,_,hr,grownCap_ge w m 0 e,Nat.le_trans (grownCap_le_maxLen w m 0 e (by omega)) (Nat.le_max_right _ _),q1,q2,.inr ⟨rfl,rfl⟩⟩
 ·by_cases hroom:n+m≤c
  ·have hfit:n*i.size+cK.length≤cur.size:=by rw [hm,h3,← Nat.add_mul]; exact Nat.mul_le_mul_right _ hroom
   have hr:=run_append_room (P:=P) w t ty e i ht hi g n c cur h2 a m d cK hm hnews h1 hroom hfit
   refine ⟨_,_,_,_,hr,hroom,Nat.le_max_left _ _,?_,?_,.inl ⟨g,rfl,rfl,rfl,rfl⟩⟩
   ·have:=Array.length_toList (xs:=cur)
    simp; omega
   ·have hlen:(cur.toList.take (n*i.size)++cK).length=(n+m)*i.size:=by
     rw [h4,aG,hl,hm,Nat.add_mul]
    show ((cur.toList.take (n*i.size)++cK)++cur.toList.drop (n*i.size+cK.length)).take ((n+m)*i.size)=_
    rw [List.take_append_of_le_length (by omega),List.take_of_length_le (by omega),h4]
  ·have hr:=run_append_grow (P:=P) w t ty e i z ht hi hz ⟨g,0,none⟩ n c vals hl (λ j u hj=>by
    rw [bW,Nat.zero_add,cell_of_row w g j cur e (0,0) h2]
    rw [← h4,List.getElem?_take] at hj
    split at hj
    ·simpa using hj
    ·cases hj) a m d cK hm hnews (by omega) (by omega) (growslice_fits (by omega) hb)
   obtain ⟨q1,q2⟩:=tk c (by omega) (vals.toArray++cK.toArray) (by simp)
   exact ⟨_,_,_,_,hr,grownCap_ge w _ _ _,Nat.le_trans (grownCap_le_maxLen w _ _ _ h63) (Nat.le_max_right _ _),q1,q2,.inr ⟨rfl,rfl⟩⟩
theorem aBj {t ty e:TypeId} {i:TypeInfo} {z:Value} (ht:P.underlying t=some (.slice e)) (hi:P.info? e=some i) (hz:i.zero=some z) (hzs:z.cells.size=i.size)
  {A:Option Addr} {n:Nat} {vals:List Value} (hl:vals.length=n*i.size)
  (hA:(A=none∧n=0)∨∃ a0,A=some a0∧∀ (j:Nat) (u:Value),vals[j]?=some u->w.cell? (a0.add j)=some u)
  {a:Addr} {m d:Nat} {cK:List Value} (hm:cK.length=m*i.size) (hnews:∀ j u,cK[j]?=some u->w.cell? (a.add j)=some u) (h0:0 < m) (h63:n+m≤maxLen) (hb:(n+m)*i.bytes≤140737488355328) :
  ∃ c' cur',(Builtin.append_ #[t,t] ty #[.slice A n n,.slice (some a) m d]).run P w=.ok (.slice (some ⟨w.heap.size,0,none⟩) (n+m) c') (w.drew.alloc (.cells cur' e))∧n+m≤c'∧c'≤maxLen∧cur'.size=c'*i.size∧cur'.toList.take ((n+m)*i.size)=vals++cK:=by
 have h63':n+m≤9223372036854775807:=by unfold maxLen at h63; omega
 have tk:∀ (old:Nat),old < n+m->∀ (us:Array Value),us.toList=vals++cK->(us++Builtin.zeroCells z.cells (grownCap w (n+m) old e - (n+m))).size=grownCap w (n+m) old e*i.size∧(us++Builtin.zeroCells z.cells (grownCap w (n+m) old e - (n+m))).toList.take ((n+m)*i.size)=vals++cK:=by
  intro old ho us hus
  have hge:=grownCap_ge w (n+m) old e
  have hul:us.size=(n+m)*i.size:=by have:us.toList.length=us.size:=rfl; rw [← this,hus,aG,hl,hm,Nat.add_mul]
  refine ⟨?_,?_⟩
  ·rw [Array.size_append,hul,size_zeroCells,hzs,← Nat.add_mul]
   congr 1; omega
  ·rw [Array.toList_append,List.take_append_of_le_length (by simp; omega),List.take_of_length_le (by simp; omega),hus]
 rcases hA with ⟨rfl,rfl⟩ | ⟨a0,rfl,hold⟩
 ·have hv:vals=[]:=List.eq_nil_of_length_eq_zero (by simpa using hl)
  subst hv
  have hr:=run_append_nil (P:=P) w t ty e i z ht hi hz a m d cK hm hnews h0 (by omega) (by simp at hb; omega)
  obtain ⟨q1,q2⟩:=tk 0 (by omega) cK.toArray (by simp)
  simp only [Nat.zero_add] at q1 q2 ⊢
  exact ⟨_,_,hr,grownCap_ge w m 0 e,grownCap_le_maxLen w m 0 e (by omega),q1,q2⟩
 ·have hr:=run_append_grow (P:=P) w t ty e i z ht hi hz a0 n n vals hl hold a m d cK hm hnews (by omega) (by omega) (growslice_fits (by omega) hb)
  obtain ⟨q1,q2⟩:=tk n (by omega) (vals.toArray++cK.toArray) (by simp)
  exact ⟨_,_,hr,grownCap_ge w _ _ _,grownCap_le_maxLen w _ _ _ h63,q1,q2⟩
theorem Rel.regrow (h:Rel G kp st a w S m) {k:Nat} {b b':Blk} (hk:lk st.heap k=some b) {A A':Option Addr} {n n' c c':Nat} (hm:m k=some (.iface 0 (.slice A n c))) (hlt:n < n') {w':World}
  (hos:w'.os=w.os) (htp:w'.tape=w.tape) (hou:w'.output=w.output) (hsz:w.heap.size≤w'.heap.size) (hb:∀ i,i < w.heap.size->bk (.iface 0 (.slice A n c))≠some i->w'.heap[i]?=w.heap[i]?)
  (hn:∀ g,bk (.iface 0 (.slice A n c))=some g->∀ o,S g o=none) (hA:A'=A∨A'=some ⟨w.heap.size,0,none⟩) (hh:fJ S (m.set k (.iface 0 (.slice A' n' c'))) w' k b'):Rel G kp (st.blk k b') a w' S (m.set k (.iface 0 (.slice A' n' c'))):=by
 have hle:MLe m (m.set k (.iface 0 (.slice A' n' c'))):=by
  intro j u hj
  by_cases e:j=k
  ·subst e
   rw [hm] at hj
   injection hj with hj
   subst hj
   exact ⟨_,Nm.set_same _ _ _,.inr ⟨_,_,_,_,_,_,hlt,.inr ⟨rfl,rfl⟩⟩⟩
  ·exact ⟨u,by rw [Nm.set_ne m _ e]; exact hj,.refl u⟩
 have hbk:∀ g,bk (.iface 0 (.slice A' n' c'))=some g->bk (.iface 0 (.slice A n c))=some g∨g=w.heap.size:=by
  intro g hg
  rcases hA with rfl | rfl
  ·left
   cases A' with
   | none=>simp [bk] at hg
   | some ad=>simpa [bk] using hg
  ·right; simp [bk] at hg; exact hg.symm
 have hlk:∀ j,(∃ c,lk (st.blk k b').heap j=some c)->∃ c,lk st.heap j=some c:=by
  rintro j ⟨c,hj⟩
  simp only [St.blk,bS] at hj
  by_cases e:j=k
  ·subst e; exact ⟨b,hk⟩
  ·rw [if_neg e] at hj; exact ⟨c,hj⟩
 have hold:∀ j,j≠k->(m.set k (.iface 0 (.slice A' n' c'))) j=m j:=λ j e=>Nm.set_ne m _ e
 refine { h with defers:=h.defers,agree:=?_,tmps:=λ t=>(h.tmps t).ext (Ext.refl S) hle,held:=?_,inj:=?_,own:=?_,os:=hos.trans h.os,tape:=htp.trans h.tape,output:=hou.trans h.output,size:=Nat.le_trans h.size hsz,frame:=?_,m0:=h.m0.trans hle }
 ·intro c o v e
  refine ⟨?_,(h.agree c o v e).2⟩
  have hne:bk (.iface 0 (.slice A n _))≠some c:=λ q=>by rw [hn c q] at e; cases e
  rw [← (h.agree c o v e).1]
  exact World.cell?_of_block (w:=w) (hb c (h.agree.lt e) hne)
 ·intro j d hj
  simp only [St.blk,bS] at hj
  by_cases e:j=k
  ·subst e
   rw [if_pos rfl] at hj
   injection hj with hj
   subst hj; exact hh
  ·rw [if_neg e] at hj
   refine (h.held j d hj).keep (Ext.refl _) (λ _ _ _ hv=>hv.ext (Ext.refl S) hle) (hold j e) (λ u q hu hq=>⟨hb q ((h.held j d hj).lt hu hq) ?_,λ _=>rfl⟩)
   intro hq'
   exact h.inj k j b d _ u q hk hj (λ e'=>e e'.symm) hm hu hq' hq
 ·intro j j' d d' v v' q hj hj' hne hv hv' hq hq'
  obtain ⟨f,hf⟩:=hlk j ⟨d,hj⟩
  obtain ⟨f',hf'⟩:=hlk j' ⟨d',hj'⟩
  by_cases e:j=k
  ·subst e
   rw [Nm.set_same] at hv
   injection hv with hv
   subst hv
   rw [hold j' (λ q=>hne q.symm)] at hv'
   rcases hbk q hq with h1 | h1
   ·exact h.inj j j' f f' _ v' q hf hf' hne hm hv' h1 hq'
   ·have:=(h.held j' f' hf').lt hv' hq'
    omega
  ·rw [hold j e] at hv
   by_cases e':j'=k
   ·subst e'
    rw [Nm.set_same] at hv'
    injection hv' with hv'
    subst hv'
    rcases hbk q hq' with h1 | h1
    ·exact h.inj j j' f f' v _ q hf hf' hne hv hm hq h1
    ·have:=(h.held j f hf).lt hv hq
     omega
   ·rw [hold j' e'] at hv'
    exact h.inj j j' f f' v v' q hf hf' hne hv hv' hq hq'
 ·intro j d v q hj hv hq
  obtain ⟨f,hf⟩:=hlk j ⟨d,hj⟩
  by_cases e:j=k
  ·subst e
   rw [Nm.set_same] at hv
   injection hv with hv
   subst hv
   rcases hbk q hq with h1 | h1
   ·exact h.own j f _ q hf hm h1
   ·subst h1; exact .inl h.size
  ·rw [hold j e] at hv
   exact h.own j f v q hf hv hq
 ·intro d h1 h2
  have hne:bk (.iface 0 (.slice A n _))≠some d:=λ q=>by
   rcases h.own k b _ d hk hm q with h3 | h3
   ·omega
   ·exact h2 h3
  exact (hb d (Nat.lt_of_lt_of_le h1 h.size) hne).trans (h.frame d h1 h2)
def aXa (P:Program) (kp:List Nat) (st:St) (nm:Nat) (ts:List TypeId) (xs:List AV) (h:Nat->Option Blk) (K:AV->List (Nat × Blk)->List Nat->Prop):Prop :=
 match ts,xs with
 | [t,t'],[x,y]=>(match P.underlying t with
  | some (.slice e)=>(match P.info? e with
   | some i=>cond (Nat.beq t t'&&Nat.blt 0 i.size&&Nat.blt e 1000000) (aAe P e λ zs=>cond (Nat.beq zs.length i.size) (aVy (aCr h y) h i.size y λ ys rd=>(match x with
    | .nils=>cond (fresh kp st nm&&!(inL nm rd)&&(!(aCr h y)||nnll nm ys)) (chk (ys.length≤9223372036854775807∧ys.length*i.bytes≤140737488355328) (fcN (aCr h y) ys.length λ n=>fcN (aCr h y) (tyO (aCr h y) e) λ e2=>K (.rw nm i.size n) [(nm,.row e2 i.size ys)] rd)) False
    | .rw k s n=>(match h k with
     | some (.row e' s' xs)=>cond ((Nat.beq e e'||(aCr h y&&Nat.beq (tyO (aCr h y) e) e'))&&Nat.beq i.size s&&Nat.beq i.size s') (chk (n=xs.length∧xs.length+ys.length≤9223372036854775807∧(xs.length+ys.length)*i.bytes≤140737488355328) (fcL (aCr h y) (xs++ys) λ zs=>fcN (aCr h y) zs.length λ n=>fcN (aCr h y) (tyO (aCr h y) e) λ e2=>K (.rw k i.size n) [(k,.row e2 i.size zs)] (k::rd))) False
     | some (.nrow e' s' ks xs)=>cond (aCr h y&&Nat.beq e e'&&Nat.beq i.size s&&Nat.beq i.size s') (chk (n=xs.length∧xs.length+ys.length≤9223372036854775807∧(xs.length+ys.length)*i.bytes≤140737488355328) (match ys with
      | [y0]=>yN y0 ks λ y1 ks'=>K (.rw k i.size (xs++[y1]).length) [(k,.nrow e i.size ks' (xs++[y1]))] (k::rd)
      | _=>False)) False
     | _=>False)
    | .sl s f zs=>cond (f&&fresh kp st nm&&!(inL nm rd)&&!(aCr h y)&&Nat.beq i.size s) (chk (0 < ys.length∧zs.length+ys.length≤9223372036854775807∧(zs.length+ys.length)*i.bytes≤140737488355328) (K (.rw nm i.size (zs++ys).length) [(nm,.row e i.size (zs++ys))] rd)) False
    | _=>False)) False) False
   | none=>False)
  | _=>False)
 | _,_=>False
theorem CV.rw_mk {k s n:Nat} {A:Option Addr} {c:Nat} (hm:m k=some (.iface 0 (.slice A n c))) (h1:n≤c) (h2:c≤maxLen) (hA:(A=none∧c=0)∨∃ g,A=some ⟨g,0,none⟩):CV S (.rw k s n) m (.slice A n c):=by
 simp only [CV]
 refine ⟨⟨A,c,rfl,h1,h2,λ e=>?_,λ a e=>?_⟩,A,n,c,hm,Nat.le_refl _,λ _=>rfl⟩
 ·rcases hA with h | ⟨g,h⟩
  ·exact h.2
  ·rw [h] at e; cases e
 ·rcases hA with h | ⟨g,h⟩
  ·rw [h.1] at e; cases e
  ·rw [h] at e; injection e with e; exact ⟨g,e.symm⟩
theorem aEj.app {ks ks':List Nat} {xs:LL} {y1:List AV} (h:aEj ks xs) (hsub:∀ j,inL j ks=true->inL j ks'=true) (hin:∀ (i:Nat) (y:AV),y1[i]?=some y->∀ j,nn j y=false->inL j ks'=true):aEj ks' (xs++[y1]):=by
 intro j i x y hx hy k hk
 rw [List.getElem?_append] at hx
 split at hx
 ·exact hsub k (h j i x y hx hy k hk)
 ·cases hq:j - xs.length with
  | zero=>rw [hq] at hx; simp at hx; subst hx; exact hin i y hy k hk
  | succ q=>rw [hq] at hx; simp at hx
theorem aEh {st0:St} {nt nm:Nat} {o:Oper} {c:Call} {ev:Operand->AV} {h:Nat->Option Blk} {K:AV->List (Nat × Blk)->List Nat->Prop} (ho:o.op=.call c) (hc:c.callee=.builtin .append) (hd:cU nt o.dst=true)
  (H:aXa P kp st0 nm c.argTypes.toList (c.args.toList.map ev) h K):∃ r u rd,K r u rd∧(∀ p ∈ u,p.1 ∉ rd->fresh kp st0 p.1=true)∧kU P E nt o ev h r u rd:=by
 unfold aXa at H
 split at H
 ·rename_i t t' x y hts hxs
  split at H
  ·rename_i e ht
   split at H
   ·rename_i i hi
    obtain ⟨hb,H1⟩:=aW H
    clear H
    simp only [aC] at hb
    have ett:=aA hb.1.1
    subst ett
    have hpos:0 < i.size:=aK hb.1.2
    have hle:e < 1000000:=aK hb.2
    obtain ⟨i',z,hi',hz,H2,_⟩:=eW H1
    clear H1
    rw [hi] at hi'
    injection hi' with hi'
    subst hi'
    obtain ⟨hzl,H3⟩:=aW H2
    clear H2
    have hzs:z.cells.size=i.size:=by
     have:=aA hzl
     have h9:=(kL (λ _ _=>none) dE z.cells.toList).len
     simp only [Array.length_toList] at h9
     omega
    generalize aCr h y=op at H3
    obtain ⟨ys,rd,H4,hopn,hsrc⟩:=aDx hle H3
    clear H3
    obtain ⟨ox,oy,hargs,hox,hoy⟩:∃ ox oy,c.args.toList=[ox,oy]∧ev ox=x∧ev oy=y:=by
     cases hq:c.args.toList with
     | nil=>rw [hq] at hxs; simp at hxs
     | cons p l =>
      cases l with
      | nil=>rw [hq] at hxs; simp at hxs
      | cons q l =>
       cases l with
       | nil=>rw [hq] at hxs; simp at hxs; exact ⟨p,q,rfl,hxs.1,hxs.2⟩
       | cons r l=>rw [hq] at hxs; simp at hxs
    have hargsA:c.args=#[ox,oy]:=by rw [← Array.toArray_toList (xs:=c.args),hargs]
    have htsA:c.argTypes=#[t,t]:=by rw [← Array.toArray_toList (xs:=c.argTypes),hts]
    have mx:ox ∈ o.op.operands:=by rw [ho]; simp [Op.operands,Call.operands,hc,hargsA]
    have my:oy ∈ o.op.operands:=by rw [ho]; simp [Op.operands,Call.operands,hc,hargsA]
    have hrun:∀ (a:Act) (w:World) (r:Value) (w':World),(Builtin.append_ #[t,t] o.type #[a.eval ox,a.eval oy]).run P w=.ok r w'->(execOp a.eval o).run P w=.ok (.value r) w':=by
     intro a w r w' hr
     simp [execOp,ho,resolve,hc,invoke,builtin,hargsA,htsA,hr]
    split at H4
    ·
     obtain ⟨hf0,H5⟩:=aW H4
     simp only [aC,Bool.not_eq_true'] at hf0
     obtain ⟨⟨hf,hnrd⟩,hnnm⟩:=hf0
     have hnnm:2000000≤tyO op e->nnl nm ys.flatten=true:=λ q=>by
      cases op with
      | false=>exact absurd (Nat.lt_of_lt_of_le hle (Nat.le_trans (by decide) (show 2000000≤e from q))) (Nat.lt_irrefl _)
      | true=>exact yD (by simpa using hnnm)
     obtain ⟨⟨hlen,hby⟩,H6⟩:=aZ.1 H5
     simp only [aHy] at H6
     refine ⟨_,_,_,H6,λ p hp _=>by simp at hp; subst hp; exact hf,bI hd λ G kp st a w S m hG hR he hrd hfr=>?_⟩
     have hx:=he ox mx
     have hy:=he oy my
     rw [hox] at hx
     rw [hoy] at hy
     simp only [CV] at hx
     have hfr':fresh kp st nm=true:=hfr (nm,.row (tyO op e) i.size ys) (by simp) (gZ hnrd)
     obtain ⟨A,d,hv,hyd,hzl2,cK,hnl,hnc,hn1,hnA⟩:=hsrc G kp st a w S m _ hR hrd hy
     have hSn:∀ g,w.heap.size≤g->∀ o,S g o=none:=by
      intro g hg o
      cases e:S g o with
      | none=>rfl
      | some v=>have:=hR.agree.lt e; omega
     by_cases hm0:ys.length=0
     ·have hys:ys=[]:=List.eq_nil_of_length_eq_zero hm0
      subst hys
      refine ⟨.slice none 0 0,w,S,m.set nm (.iface 0 (.slice none 0 0)),hrun a w _ _ ?_,?_,?_⟩
      ·rw [hx,hv]; exact iQ ht hi none 0 0 (Nat.le_refl _) A d
      ·refine hR.fresh_ hfr' (Below.refl _ _) (Ext.refl _) (λ _ _ _=>rfl) hR.agree (λ g hg=>by simp [bk] at hg) ?_
       exact ⟨none,0,Nm.set_same _ _ _,Nat.le_refl _,by unfold maxLen; omega,.inl ⟨rfl,rfl⟩⟩
      ·exact CV.rw_mk (Nm.set_same _ _ _) (Nat.le_refl _) (by unfold maxLen; omega) (.inl ⟨rfl,rfl⟩)
     ·rcases hnA with ⟨rfl,rfl⟩ | ⟨ad,rfl,hcell⟩
      ·omega
      ·obtain ⟨A',c',w',cur',hr,q1,q2,q3,q4,q5⟩:=mL (ty:=o.type) (w:=w) ht hi hz hzs (A:=none) (n:=0) (c:=0) (vals:=[]) (Nat.le_refl _) (by simp) (.inl ⟨rfl,rfl⟩) hnl hcell hn1 (by omega) (by unfold maxLen; omega) (by rw [Nat.zero_add]; exact hby)
       rcases q5 with ⟨g,hg,_⟩ | ⟨rfl,rfl⟩
       ·cases hg
       ·simp only [Nat.zero_add,List.nil_append] at hr q1 q4
        have hmx:c'≤maxLen:=by simpa using q2
        refine ⟨_,_,S,m.set nm (.iface 0 (.slice (some ⟨w.heap.size,0,none⟩) ys.length c')),hrun a w _ _ (by rw [hx,hv]; exact hr),?_,?_⟩
        ·refine hR.fresh_ hfr' (((Below.refl _ _).drew).alloc (Nat.le_refl _) _) (Ext.refl _) (λ _ _ _=>rfl) ?_ (λ g hg=>by simp [bk] at hg; omega) ?_
         ·intro b o v e
          refine ⟨?_,(hR.agree b o v e).2⟩
          rw [World.cell?_alloc_lt _ _ _ (by simpa using hR.agree.lt e)]
          exact (hR.agree b o v e).1
         ·exact ⟨_,c',Nm.set_same _ _ _,q1,hmx,.inr ⟨w.heap.size,cur',(0,0),rfl,by rw [iR hle]; exact heap_alloc_new w.drew _,.none,q3,hSn _ (Nat.le_refl _),cE hzl2 (aE7 hnc hnnm) hn1 q4⟩⟩
        ·exact CV.rw_mk (Nm.set_same _ _ _) q1 hmx (.inr ⟨_,rfl⟩)
    ·rename_i k s n
     split at H4
     ·rename_i e' s' xs hk
      obtain ⟨hb2,H5⟩:=aW H4
      simp only [aC] at hb2
      obtain ⟨⟨b1,b2⟩,b3⟩:=hb2
      have b1:e'=e∨(op=true∧e'=tyO op e):=by
       simp only [Bool.or_eq_true,aC] at b1
       rcases b1 with b1 | b1
       ·exact .inl (aA b1).symm
       ·exact .inr ⟨b1.1,(aA b1.2).symm⟩
      have b2:=aA b2
      have b3:=aA b3
      obtain ⟨⟨hnx,hlen,hby⟩,H6⟩:=aZ.1 H5
      simp only [aHy,aLK] at H6
      refine ⟨_,_,_,H6,λ p hp hnot=>by simp at hp; subst hp; exact absurd (aO) hnot,bI hd λ G kp st a w S m hG hR he hrd hfr=>?_⟩
      have hx:=he ox mx
      have hy:=he oy my
      rw [hox] at hx
      rw [hoy] at hy
      have hks:lk st.heap k=some (.row e' s' xs):=by rw [hrd k (by simp)]; exact hk
      have hty:gF e'=e:=by
       rcases b1 with b1 | b1
       ·rw [b1]; exact cA hle
       ·rw [b1.2]; exact iR hle op
      have hfr1:∀ {n:Nat} {fr:Nat × Nat},dW e' n fr->fr=(0,0):=λ rf=>by
       rcases b1 with b1 | b1
       ·exact dW.lt (b1 ▸ rf) hle
       ·exact dW.tyO hle (b1.2 ▸ rf)
      have hnm:∀ m:Nm,MLe (dM e' m) (dM (tyO op e) m):=λ m=>by
       rcases b1 with b1 | b1
       ·rw [b1,bG (Nat.lt_trans hle (by decide))]; exact MLe.no _
       ·rw [b1.2]; exact MLe.refl _
      have hheld:=hR.held k _ hks
      rw [← b3] at hheld
      obtain ⟨A,c0,h1,h2,h3,h4,h5,vals,h6,h7,h8,h9,h10⟩:=hheld.vals
      have h7:=h7.ext (Ext.refl S) (hnm m)
      simp only [CV] at hx
      obtain ⟨_,A1,q,c1,p1,p2,p3⟩:=hx
      rw [h1] at p1
      injection p1 with p1
      injection p1 with _ p1
      injection p1 with e1 e2 e3
      subst e1; subst e3
      have hxv:=p3 (by omega)
      rw [← e2] at hxv
      obtain ⟨B,d,hv,hyd,hzl2,cK,hnl,hnc,hn1,hnA⟩:=hsrc G kp st a w S m _ hR (λ j hj=>hrd j (aN _ hj)) hy
      have hz':∀ z ∈ xs++ys,z.length=i.size:=λ z hz=>by
       rcases List.mem_append.1 hz with hz | hz
       ·exact h4 z hz
       ·exact hzl2 z hz
      have hAr:(A=none∧c0=0)∨∃ g,A=some ⟨g,0,none⟩:=by
       rcases h5 with h | ⟨g,_,_,h,_⟩
       ·exact .inl h
       ·exact .inr ⟨g,h⟩
      by_cases hm0:ys.length=0
      ·have hys:ys=[]:=List.eq_nil_of_length_eq_zero hm0
       subst hys
       rw [List.append_nil]
       refine ⟨.slice A xs.length c0,w,S,m,hrun a w _ _ ?_,?_,?_⟩
       ·rw [hxv,hv]; exact iQ ht hi A xs.length c0 h2 B d
       ·refine hR.congr' (λ t=>rfl) (λ j=>?_)
        simp only [St.blks,St.blk,bS]
        by_cases e:j=k
        ·subst e
         have hop:op=false:=by
          cases op with
          | false=>rfl
          | true=>exact absurd (hopn rfl) (by simp)
         rw [if_pos rfl,hks,b3]
         subst hop
         rcases b1 with b1 | b1
         ·rw [b1]; rfl
         ·cases b1.1
        ·rw [if_neg e]
       ·exact CV.rw_mk h1 h2 h3 hAr
      ·rcases hnA with ⟨rfl,rfl⟩ | ⟨ad,rfl,hcell⟩
       ·omega
       ·have hA':(A=none∧c0=0)∨∃ g cur,A=some ⟨g,0,none⟩∧w.heap[g]?=some (.cells cur e (0,0))∧cur.size=c0*i.size∧cur.toList.take (xs.length*i.size)=vals:=by
         rcases h9 with h9 | ⟨g,cur,fr,q1,r2,rf,r5,r6⟩
         ·exact .inl h9
         ·have:=hfr1 rf
          subst this
          rw [hty] at r2
          exact .inr ⟨g,cur,q1,r2,r5,r6⟩
        obtain ⟨A',c',w',cur',hr,q1,q2,q3,q4,q5⟩:=mL (ty:=o.type) (w:=w) ht hi hz hzs h2 h6 hA' hnl hcell hn1 (by omega) (by unfold maxLen; omega) hby
        have hmx:c'≤maxLen:=Nat.le_trans q2 (by rw [Nat.max_eq_right h3]; exact Nat.le_refl _)
        have hct:CVl S (xs++ys).flatten (dM (tyO op e) m) (vals++cK):=by rw [List.flatten_append]; exact h7.append hnc
        have hon:∀ v ∈ vals++cK,v.oneCell'=true:=λ v hv=>by
         rcases List.mem_append.1 hv with hv | hv
         ·exact h8 v hv
         ·exact hn1 v hv
        have hq4:cur'.toList.take ((xs++ys).length*i.size)=vals++cK:=by rw [aG]; exact q4
        refine ⟨_,w',S,m.set k (.iface 0 (.slice A' (xs.length+ys.length) c')),hrun a w _ _ (by rw [hxv,hv]; exact hr),?_,?_⟩
        ·rcases q5 with ⟨g,rfl,rfl,rfl,rfl⟩ | ⟨rfl,rfl⟩
         ·obtain ⟨g2,cur,fr,r1,r2,rf,r3,r4⟩:=h5.resolve_left (λ e=>by cases e.1)
          have hfr0:=hfr1 rf
          subst hfr0
          rw [hty] at r2
          injection r1 with r1
          injection r1 with r1
          subst r1
          refine hR.regrow hks h1 (Nat.lt_add_of_pos_right (Nat.pos_of_ne_zero hm0)) rfl rfl rfl (by simp) (λ j hj hne=>setRow_other w g j _ (λ e=>hne (by subst e; rfl))) (λ g' hg' o=>?_) (.inl rfl) ⟨_,c',by rw [aG]; exact Nm.set_same _ _ _,by rw [aG]; exact q1,hmx,.inr ⟨g,cur',(0,0),rfl,by rw [iR hle]; exact setRow_heap w g cur cur' e (0,0) r2,.none,q3,r4,cE hz' (hct.ext (Ext.refl S) (jQ _ (vS h1 (Nat.lt_add_of_pos_right (Nat.pos_of_ne_zero hm0))))) hon hq4⟩⟩
          simp [bk] at hg'
          subst hg'
          exact r4 o
         ·refine hR.regrow hks h1 (Nat.lt_add_of_pos_right (Nat.pos_of_ne_zero hm0)) rfl rfl rfl (by simp) (λ j hj hne=>Below.heap_alloc w.drew _ j (by simpa using hj)) (λ g' hg' o=>?_) (.inr rfl) ⟨_,c',by rw [aG]; exact Nm.set_same _ _ _,by rw [aG]; exact q1,hmx,.inr ⟨w.heap.size,cur',(0,0),rfl,by rw [iR hle]; exact heap_alloc_new w.drew _,.none,q3,λ o=>?_,cE hz' (hct.ext (Ext.refl S) (jQ _ (vS h1 (Nat.lt_add_of_pos_right (Nat.pos_of_ne_zero hm0))))) hon hq4⟩⟩
          ·rcases h5 with ⟨rfl,_⟩ | ⟨g2,cur,fr,rfl,r2,rf,r3,r4⟩
           ·simp [bk] at hg'
           ·simp [bk] at hg'
            subst hg'
            exact r4 o
          ·cases e:S w.heap.size o with
           | none=>rfl
           | some v=>have:=hR.agree.lt e; omega
        ·rw [aG]
         refine CV.rw_mk (Nm.set_same _ _ _) q1 hmx ?_
         rcases q5 with ⟨g,h,rfl,_⟩ | ⟨h,_⟩
         ·exact .inr ⟨g,h⟩
         ·exact .inr ⟨_,h⟩
     ·rename_i e' s' ks xs hk
      obtain ⟨hb2,H5⟩:=aW H4
      simp only [aC] at hb2
      obtain ⟨⟨⟨hop,b1⟩,b2⟩,b3⟩:=hb2
      subst hop
      have b1:=aA b1
      subst b1
      have b2:=aA b2
      have b3:=aA b3
      obtain ⟨⟨hnx,hlen,hby⟩,H6⟩:=aZ.1 H5
      split at H6
      ·rename_i y0
       obtain ⟨y1,ks',h11,hyl,hsub,hin',hysc⟩:=gX _ _ _ H6
       refine ⟨_,_,_,h11,λ p hp hnot=>by simp at hp; subst hp; exact absurd (aO) hnot,bI hd λ G kp st a w S m hG hR he hrd hfr=>?_⟩
       have hx:=he ox mx
       have hy:=he oy my
       rw [hox] at hx
       rw [hoy] at hy
       have hks:lk st.heap k=some (.nrow e s' ks xs):=by rw [hrd k (by simp)]; exact hk
       have hty:gF (e+2000000)=e:=lC
       have hheld0:=hR.held k _ hks
       have hnmi:aEj ks xs:=hheld0.2
       have hheld:=hheld0.open
       rw [← b3] at hheld
       obtain ⟨A,c0,h1,h2,h3,h4,h5,vals,h6,h7,h8,h9,h10⟩:=hheld.vals
       simp only [CV] at hx
       obtain ⟨_,A1,q,c1,p1,p2,p3⟩:=hx
       rw [h1] at p1
       injection p1 with p1
       injection p1 with _ p1
       injection p1 with e1 e2 e3
       subst e1; subst e3
       have hxv:=p3 (by omega)
       rw [← e2] at hxv
       obtain ⟨B,d,hv,hyd,hzl2,cK,hnl,hnc,hn1,hnA⟩:=hsrc G kp st a w S m _ hR (λ j hj=>hrd j (aN _ hj)) hy
       have hnc0:CVl S y0 (dM (tyO true e) m) cK:=by simpa using hnc
       have hnc1:CVl S y1 (dM (e+2000000) m) cK:=hysc S (dM (e+2000000) m) cK hnc0
       have hy1:y1.length=i.size:=by rw [hyl]; exact hzl2 y0 (by simp)
       have hz':∀ z ∈ xs++[y1],z.length=i.size:=λ z hz=>by
        rcases List.mem_append.1 hz with hz | hz
        ·exact h4 z hz
        ·simp at hz; subst hz; exact hy1
       have hAr:(A=none∧c0=0)∨∃ g,A=some ⟨g,0,none⟩:=by
        rcases h5 with h | ⟨g,_,_,h,_⟩
        ·exact .inl h
        ·exact .inr ⟨g,h⟩
       have hone1:([y0]:LL).length=1:=rfl
       rw [hone1] at hlen hby hv hnl hyd
       rcases hnA with ⟨rfl,hz0⟩ | ⟨ad,rfl,hcell⟩
       ·omega
       ·have hA':(A=none∧c0=0)∨∃ g cur,A=some ⟨g,0,none⟩∧w.heap[g]?=some (.cells cur e (0,0))∧cur.size=c0*i.size∧cur.toList.take (xs.length*i.size)=vals:=by
         rcases h9 with h9 | ⟨g,cur,fr,q1,r2,rf,r5,r6⟩
         ·exact .inl h9
         ·have:=dW.op rf
          subst this
          rw [hty] at r2
          exact .inr ⟨g,cur,q1,r2,r5,r6⟩
        obtain ⟨A',c',w',cur',hr,q1,q2,q3,q4,q5⟩:=mL (ty:=o.type) (w:=w) ht hi hz hzs h2 h6 hA' hnl hcell hn1 (by omega) (by unfold maxLen; omega) hby
        have hmx:c'≤maxLen:=Nat.le_trans q2 (by rw [Nat.max_eq_right h3]; exact Nat.le_refl _)
        have hct:CVl S (xs++[y1]).flatten (dM (e+2000000) m) (vals++cK):=by rw [List.flatten_append]; exact h7.append (by simpa using hnc1)
        have hon:∀ v ∈ vals++cK,v.oneCell'=true:=λ v hv=>by
         rcases List.mem_append.1 hv with hv | hv
         ·exact h8 v hv
         ·exact hn1 v hv
        have hxl:(xs++[y1]).length=xs.length+1:=by simp
        have hq4:cur'.toList.take ((xs++[y1]).length*i.size)=vals++cK:=by rw [hxl]; exact q4
        have hnmi':=hnmi.app hsub hin'
        refine ⟨_,w',S,m.set k (.iface 0 (.slice A' (xs.length+1) c')),hrun a w _ _ (by rw [hxv,hv]; exact hr),?_,?_⟩
        ·rcases q5 with ⟨g,rfl,rfl,rfl,rfl⟩ | ⟨rfl,rfl⟩
         ·obtain ⟨g2,cur,fr,r1,r2,rf,r3,r4⟩:=h5.resolve_left (λ e=>by cases e.1)
          have hfr0:=dW.op rf
          subst hfr0
          rw [hty] at r2
          injection r1 with r1
          injection r1 with r1
          subst r1
          refine hR.regrow hks h1 (Nat.lt_succ_self _) rfl rfl rfl (by simp) (λ j hj hne=>setRow_other w g j _ (λ e=>hne (by subst e; rfl))) (λ g' hg' o=>?_) (.inl rfl) ⟨⟨_,c',by rw [hxl]; exact Nm.set_same _ _ _,by rw [hxl]; exact q1,hmx,.inr ⟨g,cur',(0,0),rfl,by rw [hty]; exact setRow_heap w g cur cur' e (0,0) r2,.none,q3,r4,cE hz' (hct.ext (Ext.refl S) (jQ _ (vS h1 (Nat.lt_succ_self _)))) hon hq4⟩⟩,hnmi'⟩
          simp [bk] at hg'
          subst hg'
          exact r4 o
         ·refine hR.regrow hks h1 (Nat.lt_succ_self _) rfl rfl rfl (by simp) (λ j hj hne=>Below.heap_alloc w.drew _ j (by simpa using hj)) (λ g' hg' o=>?_) (.inr rfl) ⟨⟨_,c',by rw [hxl]; exact Nm.set_same _ _ _,by rw [hxl]; exact q1,hmx,.inr ⟨w.heap.size,cur',(0,0),rfl,by rw [hty]; exact heap_alloc_new w.drew _,.none,q3,λ o=>?_,cE hz' (hct.ext (Ext.refl S) (jQ _ (vS h1 (Nat.lt_succ_self _)))) hon hq4⟩⟩,hnmi'⟩
          ·rcases h5 with ⟨rfl,_⟩ | ⟨g2,cur,fr,rfl,r2,rf,r3,r4⟩
           ·simp [bk] at hg'
           ·simp [bk] at hg'
            subst hg'
            exact r4 o
          ·cases e:S w.heap.size o with
           | none=>rfl
           | some v=>have:=hR.agree.lt e; omega
        ·rw [hxl]
         refine CV.rw_mk (Nm.set_same _ _ _) q1 hmx ?_
         rcases q5 with ⟨g,h,rfl,_⟩ | ⟨h,_⟩
         ·exact .inr ⟨g,h⟩
         ·exact .inr ⟨_,h⟩
      ·exact H6.elim
     ·exact H4.elim
    ·
     rename_i s f zs
     obtain ⟨hb2,H5⟩:=aW H4
     simp only [aC,Bool.not_eq_true'] at hb2
     obtain ⟨⟨⟨⟨rfl,hf⟩,hnrd⟩,hop⟩,hs⟩:=hb2
     have hs:=aA hs
     subst hs
     subst hop
     obtain ⟨⟨hm0,hlen,hby⟩,H6⟩:=aZ.1 H5
     refine ⟨_,_,_,H6,λ p hp _=>by simp at hp; subst hp; exact hf,bI hd λ G kp st a w S m hG hR he hrd hfr=>?_⟩
     have hx:=he ox mx
     have hy:=he oy my
     rw [hox] at hx
     rw [hoy] at hy
     have hfr':fresh kp st nm=true:=hfr (nm,.row e i.size (zs++ys)) (by simp) (gZ hnrd)
     obtain ⟨zs',_,⟨e1,_⟩,hsx⟩:=gC (h:=h) (s:=i.size) (x:=.sl i.size true zs) (k:=λ a b=>a=zs∧b=[]) (by simp [aMv,xI])
     subst e1
     obtain ⟨A0,c0,hv0,hyd0,hzl0,olds,hol,hoc,ho1,hoA⟩:=hsx G kp st a w S m _ hR (λ j hj=>by simp_all) hx
     simp only [CV] at hx
     obtain ⟨A9,c9,hv9,_,_,hfull,_⟩:=hx
     rw [hv0] at hv9
     injection hv9 with e1 e2 e3
     have hc0:c0=zs'.length:=by rw [e3]; exact hfull trivial
     subst hc0
     obtain ⟨A,d,hv,hyd,hzl2,cK,hnl,hnc,hn1,hnA⟩:=hsrc G kp st a w S m _ hR hrd hy
     have hSn:∀ g,w.heap.size≤g->∀ o,S g o=none:=by
      intro g hg o
      cases e:S g o with
      | none=>rfl
      | some v=>have:=hR.agree.lt e; omega
     have hlo:tyO false e < 2000000:=Nat.lt_trans hle (by decide)
     rw [bG hlo] at hnc
     rcases hnA with ⟨rfl,rfl⟩ | ⟨ad,rfl,hcell⟩
     ·omega
     ·obtain ⟨c',cur',hr,q1,q2,q3,q4⟩:=aBj (ty:=o.type) (w:=w) ht hi hz hzs (A:=A0) (n:=zs'.length) (vals:=olds) hol hoA hnl hcell hm0 (by unfold maxLen; omega) hby
      refine ⟨_,_,S,m.set nm (.iface 0 (.slice (some ⟨w.heap.size,0,none⟩) (zs'++ys).length c')),hrun a w _ _ (by rw [hv0,hv]; exact hr),?_,?_⟩
      ·refine hR.fresh_ hfr' (((Below.refl _ _).drew).alloc (Nat.le_refl _) _) (Ext.refl _) (λ _ _ _=>rfl) ?_ (λ g hg=>by simp [bk] at hg; omega) ?_
       ·intro b o v e
        refine ⟨?_,(hR.agree b o v e).2⟩
        rw [World.cell?_alloc_lt _ _ _ (by simpa using hR.agree.lt e)]
        exact (hR.agree b o v e).1
       ·refine ⟨_,c',Nm.set_same _ _ _,by rw [aG]; exact q1,q2,.inr ⟨w.heap.size,cur',(0,0),rfl,by rw [cA hle]; exact heap_alloc_new w.drew _,.none,q3,hSn _ (Nat.le_refl _),cE (vals:=olds++cK) (λ z hz=>?_) (by rw [bG (Nat.lt_trans hle (by decide)),List.flatten_append]; exact hoc.append hnc) (λ v hv=>?_) (by rw [aG]; exact q4)⟩⟩
        ·rcases List.mem_append.1 hz with hz | hz
         ·exact hzl0 z hz
         ·exact hzl2 z hz
        ·rcases List.mem_append.1 hv with hv | hv
         ·exact ho1 v hv
         ·exact hn1 v hv
      ·rw [← aG]
       exact CV.rw_mk (Nm.set_same _ _ _) (by rw [aG]; exact q1) q2 (.inr ⟨_,rfl⟩)
    ·exact H4.elim
   ·exact H.elim
  ·exact H.elim
 ·exact H.elim
def aPA (P:Program) (ts:List TypeId) (xs:List AV) (h:Nat->Option Blk) (K:AV->List (Nat × Blk)->List Nat->Prop):Prop :=
 match ts,xs with
 | [t,_],[x,y]=>(match P.underlying t with
  | some (.slice e)=>(match P.info? e with
   | some i=>cond (Nat.beq i.size 1&&Nat.blt e 1000000) (aMv h 1 y λ ys rd=>(match x with
    | .rw k s n=>(match h k with
     | some (.row e' s' xs)=>cond (Nat.beq e e'&&Nat.beq 1 s&&Nat.beq 1 s') (chk (n=xs.length∧ys.length≤xs.length) (K (.int .i64 ys.length) [(k,.row e 1 (ys++xs.drop ys.length))] (k::rd))) False
     | _=>False)
    | _=>False)) False
   | none=>False)
  | _=>False)
 | _,_=>False
theorem qM {α:Type}:∀ {zs:List (List α)} (n:Nat),(∀ z ∈ zs,z.length=1)->(zs.drop n).flatten=zs.flatten.drop n
 | _,0,_=>rfl
 | [],n+1,_=>by simp
 | z::zs,n+1,h=>by
  have hz:=h z aO
  match z,hz with
  | [a],_=>simpa using qM n (λ y hy=>h y (aN _ hy))
theorem aBY {st0:St} {nt:Nat} {o:Oper} {c:Call} {ev:Operand->AV} {h:Nat->Option Blk} {K:AV->List (Nat × Blk)->List Nat->Prop} (ho:o.op=.call c) (hc:c.callee=.builtin .copy) (hd:cU nt o.dst=true)
  (H:aPA P c.argTypes.toList (c.args.toList.map ev) h K):∃ r u rd,K r u rd∧(∀ p ∈ u,p.1 ∉ rd->fresh kp st0 p.1=true)∧kU P E nt o ev h r u rd:=by
 unfold aPA at H
 split at H
 ·rename_i t t' x y hts hxs
  split at H
  ·rename_i e ht
   split at H
   ·rename_i i hi
    obtain ⟨hb,H3⟩:=aW H
    clear H
    simp only [aC] at hb
    have hsz:i.size=1:=aA hb.1
    have hle:e < 1000000:=aK hb.2
    have hs1:(P.info? e).map (·.size)=some 1:=by rw [hi]; simp [hsz]
    obtain ⟨ys,rd,H4,hsrc⟩:=gC H3
    clear H3
    obtain ⟨ox,oy,hargs,hox,hoy⟩:∃ ox oy,c.args.toList=[ox,oy]∧ev ox=x∧ev oy=y:=by
     cases hq:c.args.toList with
     | nil=>rw [hq] at hxs; simp at hxs
     | cons p l =>
      cases l with
      | nil=>rw [hq] at hxs; simp at hxs
      | cons q l =>
       cases l with
       | nil=>rw [hq] at hxs; simp at hxs; exact ⟨p,q,rfl,hxs.1,hxs.2⟩
       | cons r l=>rw [hq] at hxs; simp at hxs
    have hargsA:c.args=#[ox,oy]:=by rw [← Array.toArray_toList (xs:=c.args),hargs]
    have htsA:c.argTypes=#[t,t']:=by rw [← Array.toArray_toList (xs:=c.argTypes),hts]
    have mx:ox ∈ o.op.operands:=by rw [ho]; simp [Op.operands,Call.operands,hc,hargsA]
    have my:oy ∈ o.op.operands:=by rw [ho]; simp [Op.operands,Call.operands,hc,hargsA]
    have hrun:∀ (a:Act) (w:World) (r:Value) (w':World),(Builtin.copy_ #[t,t'] o.type #[a.eval ox,a.eval oy]).run P w=.ok r w'->(execOp a.eval o).run P w=.ok (.value r) w':=by
     intro a w r w' hr
     simp [execOp,ho,resolve,hc,invoke,builtin,hargsA,htsA,hr]
    split at H4
    ·rename_i k s n
     split at H4
     ·rename_i e' s' xs hk
      obtain ⟨hb2,H5⟩:=aW H4
      simp only [aC] at hb2
      obtain ⟨⟨b1,b2⟩,b3⟩:=hb2
      have b1:=aA b1
      have b2:=aA b2
      have b3:=aA b3
      obtain ⟨⟨hnx,hlen⟩,H6⟩:=aZ.1 H5
      refine ⟨_,_,_,H6,λ p hp hnot=>by simp at hp; subst hp; exact absurd (aO) hnot,bI hd λ G kp st a w S m hG hR he hrd hfr=>?_⟩
      have hx:=he ox mx
      have hy:=he oy my
      rw [hox] at hx
      rw [hoy] at hy
      have hks:lk st.heap k=some (.row e' s' xs):=by rw [hrd k (by simp)]; exact hk
      subst b1
      have hheld:=hR.held k _ hks
      rw [← b3] at hheld
      obtain ⟨A,c0,h1,h2,h3,h4,h5,vals,h6,h7,h8,h9,h10⟩:=hheld.vals
      simp only [CV] at hx
      obtain ⟨_,A1,q,c1,p1,p2,p3⟩:=hx
      rw [h1] at p1
      injection p1 with p1
      injection p1 with _ p1
      injection p1 with e1 e2 e3
      subst e1; subst e3
      have hxv:=p3 (by omega)
      rw [← e2] at hxv
      obtain ⟨B,d,hv,hyd,hzl2,cK,hnl,hnc,hn1,hnA⟩:=hsrc G kp st a w S m _ hR (λ j hj=>hrd j (aN _ hj)) hy
      by_cases hm0:ys.length=0
      ·have hys:ys=[]:=List.eq_nil_of_length_eq_zero hm0
       subst hys
       refine ⟨goInt 0,w,S,m,hrun a w _ _ ?_,?_,?_⟩
       ·rw [hxv,hv]; exact run_copy_none (P:=P) w t t' o.type e A B xs.length c0 0 d ht hs1 (by simp)
       ·refine hR.congr' (λ t=>rfl) (λ j=>?_)
        simp only [St.blks,St.blk,bS]
        by_cases e:j=k
        ·subst e; rw [if_pos rfl,hks,b3]; rfl
        ·rw [if_neg e]
       ·simp only [CV]; exact ⟨rfl,by decide,by decide⟩
      ·rcases hnA with ⟨rfl,rfl⟩ | ⟨ad,rfl,hcell⟩
       ·omega
       ·have hc0:c0≠0:=λ z=>hm0 (Nat.le_zero.1 (Nat.le_trans hlen (z ▸ h2)))
        obtain ⟨g,cur,fr,rfl,r2,rf,r3,r4⟩:=h5.resolve_left (λ e=>hc0 e.2)
        obtain ⟨g',cur',fr',q1,q2,_,_,q6⟩:=h9.resolve_left (λ e=>hc0 e.2)
        injection q1 with q1
        injection q1 with q1
        subst q1
        rw [r2] at q2
        injection q2 with q2
        injection q2 with q2
        subst q2
        have hfr0:=rf.lt hle
        subst hfr0
        rw [cA hle] at r2
        rw [Nat.mul_one] at r3 q6 hnl h6
        have hcl:cur.toList.length=c0:=by rw [Array.length_toList]; exact r3
        have hmin:cK.length=Nat.min ys.length xs.length:=by rw [hnl]; exact (Nat.min_eq_left hlen).symm
        have hr:=run_copy_row (P:=P) w t t' o.type e g 0 xs.length c0 ad ys.length d cur e cK ht hs1 r2 hmin hcell (by omega) hn1
        refine ⟨goInt cK.length,_,S,m,hrun a w _ _ (by rw [hxv,hv]; exact hr),?_,?_⟩
        ·rw [bG (Nat.lt_trans hle (by decide))] at h7
         have hz':∀ z ∈ ys++xs.drop ys.length,z.length=1:=λ z hz=>by
          rcases List.mem_append.1 hz with hz | hz
          ·exact hzl2 z hz
          ·exact h4 z (List.mem_of_mem_drop hz)
         have hct:CVl S (ys++xs.drop ys.length).flatten dE (cK++vals.drop ys.length):=by
          rw [List.flatten_append,qM _ h4]
          exact hnc.append (h7.drop _)
         have hon:∀ v ∈ cK++vals.drop ys.length,v.oneCell'=true:=λ v hv=>by
          rcases List.mem_append.1 hv with hv | hv
          ·exact hn1 v hv
          ·exact h8 v (List.mem_of_mem_drop hv)
         have hlen2:(ys++xs.drop ys.length).length=xs.length:=by simp; omega
         have htk:(cur.toList.take 0++cK++cur.toList.drop (0+cK.length)).toArray.toList.take ((ys++xs.drop ys.length).length*1)=cK++vals.drop ys.length:=by
          rw [hlen2,← q6,hnl]
          simp only [List.take_zero,List.nil_append,Nat.zero_add,Nat.mul_one]
          rw [List.take_append,List.take_of_length_le (by omega),List.drop_take,hnl]
         refine hR.writeR hks h1 hc0 rfl rfl rfl (by simp [World.setRow]) (λ j hne=>setRow_other w g j _ hne) r4 ⟨_,c0,by rw [hlen2]; exact h1,by rw [hlen2]; exact h2,h3,.inr ⟨g,_,(0,0),rfl,by rw [cA hle]; exact setRow_heap w g cur _ e (0,0) r2,.none,?_,r4,by rw [bG (Nat.lt_trans hle (by decide))]; exact cE hz' hct hon htk⟩⟩
         simp
         omega
        ·simp only [CV]
         rw [hnl]
         refine ⟨rfl,by omega,?_⟩
         unfold maxLen at h3
         omega
     ·exact H4.elim
    ·exact H4.elim
   ·exact H.elim
  ·exact H.elim
 ·exact H.elim
def aIv (P:Program) (ts:List TypeId) (xs:List AV) (h:Nat->Option Blk) (K:AV->List (Nat × Blk)->List Nat->Prop):Prop :=
 match ts,xs with
 | [t,_],[.mw k s q0 eo n _,y]=>(match P.underlying t with
  | some (.slice e)=>(match P.info? e with
   | some i=>cond (Nat.beq i.size 1&&Nat.blt e 1000000) (aMv h 1 y λ ys rd=>(match h k with
     | some (.row e' s' xs)=>cond (Nat.beq e e'&&Nat.beq 1 s&&Nat.beq 1 s') (chk (q0=xs.length∧eo+n≤xs.length∧1≤n∧1≤ys.length) (K (.int .i64 ((Nat.min ys.length n:Nat):Int)) [(k,.row e 1 (xs.take eo++ys.take (Nat.min ys.length n)++xs.drop (eo+Nat.min ys.length n)))] (k::rd))) False
     | _=>False)) False
   | none=>False)
  | _=>False)
 | _,_=>False
theorem qL {α:Type}:∀ {zs:List (List α)} (n:Nat),(∀ z ∈ zs,z.length=1)->(zs.take n).flatten=zs.flatten.take n
 | _,0,_=>by simp
 | [],n+1,_=>by simp
 | z::zs,n+1,h=>by
  have hz:=h z aO
  match z,hz with
  | [a],_=>simpa using qL n (λ y hy=>h y (aN _ hy))
theorem zQ {st0:St} {nt:Nat} {o:Oper} {c:Call} {ev:Operand->AV} {h:Nat->Option Blk} {K:AV->List (Nat × Blk)->List Nat->Prop} (ho:o.op=.call c) (hc:c.callee=.builtin .copy) (hd:cU nt o.dst=true)
  (H:aIv P c.argTypes.toList (c.args.toList.map ev) h K):∃ r u rd,K r u rd∧(∀ p ∈ u,p.1 ∉ rd->fresh kp st0 p.1=true)∧kU P E nt o ev h r u rd:=by
 unfold aIv at H
 split at H
 ·rename_i t t' k s q0 eo n f y hts hxs
  split at H
  ·rename_i e ht
   split at H
   ·rename_i i hi
    obtain ⟨hb,H3⟩:=aW H
    clear H
    simp only [aC] at hb
    have hsz:i.size=1:=aA hb.1
    have hle:e < 1000000:=aK hb.2
    have hs1:(P.info? e).map (·.size)=some 1:=by rw [hi]; simp [hsz]
    obtain ⟨ys,rd,H4,hsrc⟩:=gC H3
    clear H3
    obtain ⟨ox,oy,hargs,hox,hoy⟩:∃ ox oy,c.args.toList=[ox,oy]∧ev ox=.mw k s q0 eo n f∧ev oy=y:=by
     cases hq:c.args.toList with
     | nil=>rw [hq] at hxs; simp at hxs
     | cons p l =>
      cases l with
      | nil=>rw [hq] at hxs; simp at hxs
      | cons q l =>
       cases l with
       | nil=>rw [hq] at hxs; simp at hxs; exact ⟨p,q,rfl,hxs.1,hxs.2⟩
       | cons r l=>rw [hq] at hxs; simp at hxs
    have hargsA:c.args=#[ox,oy]:=by rw [← Array.toArray_toList (xs:=c.args),hargs]
    have htsA:c.argTypes=#[t,t']:=by rw [← Array.toArray_toList (xs:=c.argTypes),hts]
    have mx:ox ∈ o.op.operands:=by rw [ho]; simp [Op.operands,Call.operands,hc,hargsA]
    have my:oy ∈ o.op.operands:=by rw [ho]; simp [Op.operands,Call.operands,hc,hargsA]
    have hrun:∀ (a:Act) (w:World) (r:Value) (w':World),(Builtin.copy_ #[t,t'] o.type #[a.eval ox,a.eval oy]).run P w=.ok r w'->(execOp a.eval o).run P w=.ok (.value r) w':=by
     intro a w r w' hr
     simp [execOp,ho,resolve,hc,invoke,builtin,hargsA,htsA,hr]
    split at H4
    ·rename_i e' s' xs hk
     obtain ⟨hb2,H5⟩:=aW H4
     simp only [aC] at hb2
     obtain ⟨⟨b1,b2⟩,b3⟩:=hb2
     have b1:=aA b1
     have b2:=aA b2
     have b3:=aA b3
     obtain ⟨⟨hnx,hfit,hn1',hy1⟩,H6⟩:=aZ.1 H5
     refine ⟨_,_,_,H6,λ p hp hnot=>by simp at hp; subst hp; exact absurd (aO) hnot,bI hd λ G kp st a w S m hG hR he hrd hfr=>?_⟩
     have hx:=he ox mx
     have hy:=he oy my
     rw [hox] at hx
     rw [hoy] at hy
     have hks:lk st.heap k=some (.row e' s' xs):=by rw [hrd k (by simp)]; exact hk
     subst b1
     have hheld:=hR.held k _ hks
     rw [← b3] at hheld
     obtain ⟨A,c0,h1,h2,h3,h4,h5,vals,h6,h7,h8,h9,h10⟩:=hheld.vals
     simp only [CV] at hx
     obtain ⟨Ax,cx,hxv,hxc,hxm,hxn,hxs',_,A1,q1,c1,p1,p2,p3⟩:=hx
     rw [h1] at p1
     injection p1 with p1
     injection p1 with _ p1
     injection p1 with e1 e2 e3
     subst e1; subst e3
     obtain ⟨g0,eA,eAx⟩:=p3 (by omega) (by omega)
     subst eA; subst eAx
     obtain ⟨B,d,hv,hyd,hzl2,cK,hnl,hnc,hn1,hnA⟩:=hsrc G kp st a w S m _ hR (λ j hj=>hrd j (aN _ hj)) hy
     rcases hnA with ⟨rfl,rfl⟩ | ⟨ad,rfl,hcell⟩
     ·omega
     ·have hc0:c0≠0:=by omega
      obtain ⟨g,cur,fr,eg,r2,rf,r3,r4⟩:=h5.resolve_left (λ e=>hc0 e.2)
      injection eg with eg
      injection eg with eg
      subst eg
      obtain ⟨g',cur',fr',q1',q2,_,_,q6⟩:=h9.resolve_left (λ e=>hc0 e.2)
      injection q1' with q1'
      injection q1' with q1'
      subst q1'
      rw [r2] at q2
      injection q2 with q2
      injection q2 with q2
      subst q2
      have hfr0:=rf.lt hle
      subst hfr0
      rw [cA hle] at r2
      rw [Nat.mul_one] at r3 q6 hnl h6
      obtain ⟨M,hM⟩:∃ M,M=Nat.min ys.length n:=⟨_,rfl⟩
      have hMy:M≤ys.length:=by rw [hM]; exact Nat.min_le_left _ _
      have hMn:M≤n:=by rw [hM]; exact Nat.min_le_right _ _
      have hcl:cur.toList.length=c0:=by rw [Array.length_toList]; exact r3
      have hmin:(cK.take M).length=Nat.min ys.length n:=by rw [List.length_take,hnl,← hM]; omega
      have hml:(cK.take M).length=M:=by rw [hmin,hM]
      have hs1':s=1:=b2.symm
      have hr:=run_copy_row (P:=P) w t t' o.type e g0 (eo*s) n cx ad ys.length d cur e (cK.take M) ht hs1 r2 hmin (λ j v hj=>by
       rw [List.getElem?_take] at hj
       split at hj
       ·exact hcell j v hj
       ·cases hj) (by rw [hml,hs1']; omega) (λ v hv=>hn1 v (List.mem_of_mem_take hv))
      refine ⟨goInt (cK.take M).length,_,S,m,hrun a w _ _ (by rw [hxv,hv]; exact hr),?_,?_⟩
      ·rw [bG (Nat.lt_trans hle (by decide))] at h7
       rw [← hM]
       have hz':∀ z ∈ xs.take eo++ys.take M++xs.drop (eo+M),z.length=1:=λ z hz=>by
        rcases List.mem_append.1 hz with hz | hz
        ·rcases List.mem_append.1 hz with hz | hz
         ·exact h4 z (List.mem_of_mem_take hz)
         ·exact hzl2 z (List.mem_of_mem_take hz)
        ·exact h4 z (List.mem_of_mem_drop hz)
       have hct:CVl S (xs.take eo++ys.take M++xs.drop (eo+M)).flatten dE (vals.take eo++cK.take M++vals.drop (eo+M)):=by
        rw [List.flatten_append,List.flatten_append,qM _ h4,qL _ h4,qL _ hzl2]
        exact ((h7.take _).append (hnc.take _)).append (h7.drop _)
       have hon:∀ v ∈ vals.take eo++cK.take M++vals.drop (eo+M),v.oneCell'=true:=λ v hv=>by
        rcases List.mem_append.1 hv with hv | hv
        ·rcases List.mem_append.1 hv with hv | hv
         ·exact h8 v (List.mem_of_mem_take hv)
         ·exact hn1 v (List.mem_of_mem_take hv)
        ·exact h8 v (List.mem_of_mem_drop hv)
       have hlen2:(xs.take eo++ys.take M++xs.drop (eo+M)).length=xs.length:=by simp; omega
       have htk:(cur.toList.take (eo*s)++cK.take M++cur.toList.drop (eo*s+(cK.take M).length)).toArray.toList.take ((xs.take eo++ys.take M++xs.drop (eo+M)).length*1)=vals.take eo++cK.take M++vals.drop (eo+M):=by
        rw [hlen2,← q6,hs1',hml]
        simp only [Nat.mul_one]
        rw [List.take_append,List.take_of_length_le (by simp only [aG,List.length_take]; omega),List.take_take,Nat.min_eq_left (by omega),aG,List.length_take,hml,Nat.min_eq_left (by omega),List.drop_take]
       refine hR.writeR hks h1 hc0 rfl rfl rfl (by simp [World.setRow]) (λ j hne=>setRow_other w g0 j _ hne) r4 ⟨_,c0,by rw [hlen2]; exact h1,by rw [hlen2]; exact h2,h3,.inr ⟨g0,_,(0,0),rfl,by rw [cA hle]; exact setRow_heap w g0 cur _ e (0,0) r2,.none,?_,r4,by rw [bG (Nat.lt_trans hle (by decide))]; exact cE hz' hct hon htk⟩⟩
       rw [hs1',Nat.mul_one]
       simp only [List.size_toArray,aG,List.length_drop,hml]
       rw [List.length_take,hcl,Nat.min_eq_left (by omega)]
       omega
      ·simp only [CV]
       rw [hml,← hM]
       refine ⟨rfl,by omega,?_⟩
       unfold maxLen at h3
       omega
    ·exact H4.elim
   ·exact H.elim
  ·exact H.elim
 ·exact H.elim
theorem uH (w:World) (dT sT ty elem:TypeId) (s g o dLen dCap:Nat) (a:Addr) (sLen sCap:Nat) (cur:Array Value) (t:TypeId) (cs:List Value)
  (hu:P.underlying dT=some (.slice elem)) (hs:(P.info? elem).map (·.size)=some s)
  (hg:w.heap[g]?=some (.cells cur t (0,0))) (hn:cs.length=Nat.min sLen dLen*s)
  (hsrc:∀ j v,cs[j]?=some v->w.cell? (a.add j)=some v) (hfit:o+cs.length≤cur.size) (h1:∀ v ∈ cs,v.oneCell'=true) :
  (Builtin.copy_ #[dT,sT] ty #[.slice (some ⟨g,o,none⟩) dLen dCap,.slice (some a) sLen sCap]).run P w =
   .ok (goInt (Nat.min sLen dLen)) (w.setRow g (cur.toList.take o++cs++cur.toList.drop (o+cs.length)).toArray):=by
 have hl:=run_loadCells_list (P:=P) w a cs hsrc
 have hst:=run_storeCells_at P g o t cs 0 cur w hg (by simpa using hfit) h1
 cases hq:P.info? elem with
 | none=>simp [hq] at hs
 | some i =>
  have hi:i.size=s:=by simpa [hq] using hs
  simp [Builtin.copy_,run_underlying hu,Builtin.lenOf,Builtin.firstCells,sizeOf,typeInfo,hq,hi,← hn,hl,hst]
theorem rR (w:World) (dT sT ty elem:TypeId) (s:Nat) (d a:Option Addr) (dLen dCap sLen sCap:Nat) (hu:P.underlying dT=some (.slice elem)) (hs:(P.info? elem).map (·.size)=some s) (hn:Nat.min sLen dLen=0) :
  (Builtin.copy_ #[dT,sT] ty #[.slice d dLen dCap,.slice a sLen sCap]).run P w=.ok (goInt 0) w:=by
 cases hq:P.info? elem with
 | none=>simp [hq] at hs
 | some i =>
  have hl:∀ (x:Addr),(loadCells x 0).run P w=.ok #[] w:=λ x=>by simpa using run_loadCells_list (P:=P) w x [] (by simp)
  cases d <;> cases a <;> simp [Builtin.copy_,run_underlying hu,Builtin.lenOf,Builtin.firstCells,sizeOf,typeInfo,hq,hn,storeCells,hl]
theorem tK {α:Type} {s:Nat}:∀ {zs:List (List α)} (n:Nat),(∀ z ∈ zs,z.length=s)->(zs.drop n).flatten=zs.flatten.drop (n*s)
 | _,0,_=>by simp
 | [],n+1,_=>by simp
 | z::zs,n+1,h=>by
  have hz:=h z aO
  rw [List.drop_succ_cons,tK n (λ y hy=>h y (aN _ hy)),List.flatten_cons,Nat.succ_mul,Nat.add_comm,← List.drop_drop,List.drop_left' hz]
theorem nB {α:Type} {s:Nat}:∀ {zs:List (List α)} (n:Nat),(∀ z ∈ zs,z.length=s)->(zs.take n).flatten=zs.flatten.take (n*s)
 | _,0,_=>by simp
 | [],n+1,_=>by simp
 | z::zs,n+1,h=>by
  have hz:=h z aO
  rw [List.take_succ_cons,List.flatten_cons,nB n (λ y hy=>h y (aN _ hy)),List.flatten_cons,Nat.succ_mul,List.take_append,hz,Nat.add_sub_cancel,List.take_of_length_le (l:=z) (by omega)]
theorem aJy {α:Type} {cur cK vals:List α} {a b L:Nat} (h:cur.take L=vals) (hL:L≤cur.length) (hab:a+b≤L) (hn:cK.length=b):(cur.take a++cK++cur.drop (a+b)).take L=vals.take a++cK++vals.drop (a+b):=by
 subst h
 rw [List.take_append,List.take_of_length_le (by simp only [aG,List.length_take]; omega),List.take_take,Nat.min_eq_left (by omega),aG,List.length_take,hn,Nat.min_eq_left (by omega),List.drop_take]
def aIw (P:Program) (ts:List TypeId) (xs:List AV) (h:Nat->Option Blk) (K:AV->List (Nat × Blk)->List Nat->Prop):Prop :=
 match ts,xs with
 | [t,_],[.mw k s q0 eo n _,y]=>(match P.underlying t with
  | some (.slice e)=>(match P.info? e with
   | some i=>cond (Nat.beq i.size s&&Nat.blt e 1000000) (aMv h s y λ ys rd=>(match h k with
     | some (.row e' s' xs)=>cond (Nat.beq e e'&&Nat.beq s s') (chk (q0=xs.length∧eo+n≤xs.length) (K (.int .i64 ((Nat.min ys.length n:Nat):Int)) [(k,.row e s (xs.take eo++ys.take (Nat.min ys.length n)++xs.drop (eo+Nat.min ys.length n)))] (k::rd))) False
     | _=>False)) False
   | none=>False)
  | _=>False)
 | _,_=>False
theorem zR {st0:St} {nt:Nat} {o:Oper} {c:Call} {ev:Operand->AV} {h:Nat->Option Blk} {K:AV->List (Nat × Blk)->List Nat->Prop} (ho:o.op=.call c) (hc:c.callee=.builtin .copy) (hd:cU nt o.dst=true)
  (H:aIw P c.argTypes.toList (c.args.toList.map ev) h K):∃ r u rd,K r u rd∧(∀ p ∈ u,p.1 ∉ rd->fresh kp st0 p.1=true)∧kU P E nt o ev h r u rd:=by
 unfold aIw at H
 split at H
 ·rename_i t t' k s q0 eo n f y hts hxs
  split at H
  ·rename_i e ht
   split at H
   ·rename_i i hi
    obtain ⟨hb,H3⟩:=aW H
    clear H
    simp only [aC] at hb
    have hsz:i.size=s:=aA hb.1
    have hle:e < 1000000:=aK hb.2
    have hs1:(P.info? e).map (·.size)=some s:=by rw [hi]; simp [hsz]
    obtain ⟨ys,rd,H4,hsrc⟩:=gC H3
    clear H3
    obtain ⟨ox,oy,hargs,hox,hoy⟩:∃ ox oy,c.args.toList=[ox,oy]∧ev ox=.mw k s q0 eo n f∧ev oy=y:=by
     cases hq:c.args.toList with
     | nil=>rw [hq] at hxs; simp at hxs
     | cons p l =>
      cases l with
      | nil=>rw [hq] at hxs; simp at hxs
      | cons q l =>
       cases l with
       | nil=>rw [hq] at hxs; simp at hxs; exact ⟨p,q,rfl,hxs.1,hxs.2⟩
       | cons r l=>rw [hq] at hxs; simp at hxs
    have hargsA:c.args=#[ox,oy]:=by rw [← Array.toArray_toList (xs:=c.args),hargs]
    have htsA:c.argTypes=#[t,t']:=by rw [← Array.toArray_toList (xs:=c.argTypes),hts]
    have mx:ox ∈ o.op.operands:=by rw [ho]; simp [Op.operands,Call.operands,hc,hargsA]
    have my:oy ∈ o.op.operands:=by rw [ho]; simp [Op.operands,Call.operands,hc,hargsA]
    have hrun:∀ (a:Act) (w:World) (r:Value) (w':World),(Builtin.copy_ #[t,t'] o.type #[a.eval ox,a.eval oy]).run P w=.ok r w'->(execOp a.eval o).run P w=.ok (.value r) w':=by
     intro a w r w' hr
     simp [execOp,ho,resolve,hc,invoke,builtin,hargsA,htsA,hr]
    split at H4
    ·rename_i e' s' xs hk
     obtain ⟨hb2,H5⟩:=aW H4
     simp only [aC] at hb2
     obtain ⟨b1,b3⟩:=hb2
     have b1:=aA b1
     have b3:=aA b3
     obtain ⟨⟨hnx,hfit⟩,H6⟩:=aZ.1 H5
     refine ⟨_,_,_,H6,λ p hp hnot=>by simp at hp; subst hp; exact absurd (aO) hnot,bI hd λ G kp st a w S m hG hR he hrd hfr=>?_⟩
     have hx:=he ox mx
     have hy:=he oy my
     rw [hox] at hx
     rw [hoy] at hy
     have hks:lk st.heap k=some (.row e' s' xs):=by rw [hrd k (by simp)]; exact hk
     subst b1
     have hheld:=hR.held k _ hks
     rw [← b3] at hheld
     obtain ⟨A,c0,h1,h2,h3,h4,h5,vals,h6,h7,h8,h9,h10⟩:=hheld.vals
     simp only [CV] at hx
     obtain ⟨Ax,cx,hxv,hxc,hxm,hxn,hxs',_,A1,q1,c1,p1,p2,p3⟩:=hx
     rw [h1] at p1
     injection p1 with p1
     injection p1 with _ p1
     injection p1 with e1 e2 e3
     subst e1; subst e3
     obtain ⟨B,d,hv,hyd,hzl2,cK,hnl,hnc,hn1,hnA⟩:=hsrc G kp st a w S m _ hR (λ j hj=>hrd j (aN _ hj)) hy
     by_cases hm0:Nat.min ys.length n=0
     ·refine ⟨goInt 0,w,S,m,hrun a w _ _ ?_,?_,?_⟩
      ·rw [hxv,hv]; exact rR (P:=P) w t t' o.type e s Ax B n cx ys.length d ht hs1 hm0
      ·refine hR.congr' (λ t=>rfl) (λ j=>?_)
       simp only [St.blks,St.blk,bS]
       by_cases e:j=k
       ·subst e; rw [if_pos rfl,hks,b3,hm0,List.take_zero,List.append_nil,Nat.add_zero,List.take_append_drop]
       ·rw [if_neg e]
      ·simp only [CV]; rw [hm0]; exact ⟨rfl,by decide,by decide⟩
     have hy1:1≤ys.length:=Nat.pos_of_ne_zero λ e=>hm0 (by rw [e]; exact Nat.zero_min n)
     have hn1':1≤n:=Nat.pos_of_ne_zero λ e=>hm0 (by rw [e]; exact Nat.min_zero _)
     obtain ⟨g0,eA,eAx⟩:=p3 (by omega) (by omega)
     subst eA; subst eAx
     rcases hnA with ⟨rfl,rfl⟩ | ⟨ad,rfl,hcell⟩
     ·omega
     ·have hc0:c0≠0:=by omega
      obtain ⟨g,cur,fr,eg,r2,rf,r3,r4⟩:=h5.resolve_left (λ e=>hc0 e.2)
      injection eg with eg
      injection eg with eg
      subst eg
      obtain ⟨g',cur',fr',q1',q2,_,_,q6⟩:=h9.resolve_left (λ e=>hc0 e.2)
      injection q1' with q1'
      injection q1' with q1'
      subst q1'
      rw [r2] at q2
      injection q2 with q2
      injection q2 with q2
      subst q2
      have hfr0:=rf.lt hle
      subst hfr0
      rw [cA hle] at r2
      obtain ⟨M,hM⟩:∃ M,M=Nat.min ys.length n:=⟨_,rfl⟩
      have hMy:M≤ys.length:=by rw [hM]; exact Nat.min_le_left _ _
      have hMn:M≤n:=by rw [hM]; exact Nat.min_le_right _ _
      have hcl:cur.toList.length=c0*s:=by rw [Array.length_toList]; exact r3
      have hMs:M*s≤ys.length*s:=Nat.mul_le_mul_right s hMy
      have hab:eo*s+M*s≤xs.length*s:=by rw [← Nat.add_mul]; exact Nat.mul_le_mul_right s (by omega)
      have hxc:xs.length*s≤c0*s:=Nat.mul_le_mul_right s h2
      have hml:(cK.take (M*s)).length=M*s:=by rw [List.length_take,hnl]; omega
      have hmin:(cK.take (M*s)).length=Nat.min ys.length n*s:=by rw [hml,← hM]
      have hr:=uH (P:=P) w t t' o.type e s g0 (eo*s) n cx ad ys.length d cur e (cK.take (M*s)) ht hs1 r2 hmin (λ j v hj=>by
       rw [List.getElem?_take] at hj
       split at hj
       ·exact hcell j v hj
       ·cases hj) (by rw [hml]; omega) (λ v hv=>hn1 v (List.mem_of_mem_take hv))
      refine ⟨goInt ((Nat.min ys.length n:Nat):Int),_,S,m,hrun a w _ _ (by rw [hxv,hv]; exact hr),?_,?_⟩
      ·rw [bG (Nat.lt_trans hle (by decide))] at h7
       rw [← hM]
       have hz':∀ z ∈ xs.take eo++ys.take M++xs.drop (eo+M),z.length=s:=λ z hz=>by
        rcases List.mem_append.1 hz with hz | hz
        ·rcases List.mem_append.1 hz with hz | hz
         ·exact h4 z (List.mem_of_mem_take hz)
         ·exact hzl2 z (List.mem_of_mem_take hz)
        ·exact h4 z (List.mem_of_mem_drop hz)
       have hct:CVl S (xs.take eo++ys.take M++xs.drop (eo+M)).flatten dE (vals.take (eo*s)++cK.take (M*s)++vals.drop (eo*s+M*s)):=by
        rw [List.flatten_append,List.flatten_append,tK _ h4,nB _ h4,nB _ hzl2,Nat.add_mul]
        exact ((h7.take _).append (hnc.take _)).append (h7.drop _)
       have hon:∀ v ∈ vals.take (eo*s)++cK.take (M*s)++vals.drop (eo*s+M*s),v.oneCell'=true:=λ v hv=>by
        rcases List.mem_append.1 hv with hv | hv
        ·rcases List.mem_append.1 hv with hv | hv
         ·exact h8 v (List.mem_of_mem_take hv)
         ·exact hn1 v (List.mem_of_mem_take hv)
        ·exact h8 v (List.mem_of_mem_drop hv)
       have hlen2:(xs.take eo++ys.take M++xs.drop (eo+M)).length=xs.length:=by simp; omega
       have htk:(cur.toList.take (eo*s)++cK.take (M*s)++cur.toList.drop (eo*s+(cK.take (M*s)).length)).toArray.toList.take ((xs.take eo++ys.take M++xs.drop (eo+M)).length*s)=vals.take (eo*s)++cK.take (M*s)++vals.drop (eo*s+M*s):=by
        rw [hlen2,hml]
        exact aJy q6 (by rw [hcl]; omega) hab hml
       refine hR.writeR hks h1 hc0 rfl rfl rfl (by simp [World.setRow]) (λ j hne=>setRow_other w g0 j _ hne) r4 ⟨_,c0,by rw [hlen2]; exact h1,by rw [hlen2]; exact h2,h3,.inr ⟨g0,_,(0,0),rfl,by rw [cA hle]; exact setRow_heap w g0 cur _ e (0,0) r2,.none,?_,r4,by rw [bG (Nat.lt_trans hle (by decide))]; exact cE hz' hct hon htk⟩⟩
       simp only [List.size_toArray,aG,List.length_drop,hml]
       rw [List.length_take,hcl,Nat.min_eq_left (by omega)]
       omega
      ·simp only [CV]
       refine ⟨rfl,by omega,?_⟩
       rw [← hM]
       unfold maxLen at h3
       omega
    ·exact H4.elim
   ·exact H.elim
  ·exact H.elim
 ·exact H.elim
def aIx (P:Program) (ts:List TypeId) (xs:List AV) (h:Nat->Option Blk) (K:AV->List (Nat × Blk)->List Nat->Prop):Prop :=
 match xs with
 | [.mw k s q eo n f,y]=>cond (Nat.beq s 1) (aIv P ts [.mw k s q eo n f,y] h K) (aIw P ts [.mw k s q eo n f,y] h K)
 | xs=>aPA P ts xs h K
theorem zS {st0:St} {nt:Nat} {o:Oper} {c:Call} {ev:Operand->AV} {h:Nat->Option Blk} {K:AV->List (Nat × Blk)->List Nat->Prop} (ho:o.op=.call c) (hc:c.callee=.builtin .copy) (hd:cU nt o.dst=true)
  (H:aIx P c.argTypes.toList (c.args.toList.map ev) h K):∃ r u rd,K r u rd∧(∀ p ∈ u,p.1 ∉ rd->fresh kp st0 p.1=true)∧kU P E nt o ev h r u rd:=by
 unfold aIx at H
 split at H
 ·rename_i k s q eo n f y e
  cases hb:Nat.beq s 1 with
  | true=>rw [hb] at H; exact zQ ho hc hd (by rw [e]; exact H)
  | false=>rw [hb] at H; exact zR ho hc hd (by rw [e]; exact H)
 ·exact aBY ho hc hd H
def aXc (P:Program) (e:TypeId) (s:Nat):Bool:=match P.info? e with
 | some i=>(match i.zero with | some z=>Nat.beq z.cells.size s&&z.cells.toList.all (λ v=>match v with | .int .i64 n=>decide (n=0) | _=>false) | none=>false)
 | none=>false
def aW7 (P:Program) (ts:List TypeId) (xs:List AV) (h:Nat->Option Blk) (K:AV->List (Nat × Blk)->List Nat->Prop):Prop :=
 match ts,xs with
 | [t],[.mw k s q eo n _]=>(match P.underlying t with
  | some (.slice e)=>(match h k with
   | some (.row e' s' xs)=>cond (Nat.beq e e'&&Nat.beq s s'&&Nat.blt e 1000000&&aXc P e s) (chk (q=xs.length∧eo+n=xs.length) (K (.tup []) [(k,.row e s (xs.take eo++List.replicate n (List.replicate s (.int .i64 0))))] [k])) False
   | _=>False)
  | _=>False)
 | _,_=>False
theorem aU6 {a:Array Value} {V:Value} (h:∀ v ∈ a.toList,v=V) (n:Nat):(Builtin.zeroCells a n).toList=List.replicate (n*a.size) V:=by
 unfold Builtin.zeroCells
 apply List.ext_getElem
 ·simp
 ·intro i h1 h2
  simp only [List.length_replicate] at h2
  have h0:0 < a.size:=by
   rcases Nat.eq_zero_or_pos a.size with h | h
   ·rw [h] at h2; omega
   ·exact h
  have hm:i % a.size < a.size:=Nat.mod_lt _ h0
  simp only [Array.toList_map,List.getElem_map,Array.toList_range,List.getElem_range,List.getElem_replicate]
  rw [getElem!_pos a _ hm]
  exact h _ (by rw [← Array.getElem_toList]; exact List.getElem_mem _)
theorem CVl.zeros:∀ n:Nat,CVl S (List.replicate n (.int .i64 0)) m (List.replicate n (.int .i64 0))
 | 0=>by simp only [List.replicate,CVl]
 | n+1=>by
  simp only [List.replicate,CVl,CV]
  exact ⟨_,_,rfl,⟨rfl,by decide⟩,CVl.zeros n⟩
theorem aC1 (s:Nat) (V:AV):∀ n:Nat,(List.replicate n (List.replicate s V)).flatten=List.replicate (n*s) V
 | 0=>by simp
 | n+1=>by
  rw [List.replicate_succ,List.flatten_cons,aC1 s V n,List.replicate_append_replicate,Nat.succ_mul,Nat.add_comm]
theorem tJ {α:Type} {s:Nat}:∀ {zs:List (List α)} (n:Nat),(∀ z ∈ zs,z.length=s)->(zs.take n).flatten=zs.flatten.take (n*s)
 | _,0,_=>by simp
 | [],n+1,_=>by simp
 | z::zs,n+1,h=>by
  have hz:=h z aO
  have ih:=tJ (zs:=zs) n (λ y hy=>h y (aN _ hy))
  rw [List.take_succ_cons,List.flatten_cons,List.flatten_cons,ih,Nat.succ_mul,Nat.add_comm,← hz,List.take_length_add_append]
theorem CVl.take':∀ (n:Nat) {xs:List AV} {vs:List Value},CVl S xs m vs->CVl S (xs.take n) m (vs.take n)
 | 0,_,_,_=>by simp only [List.take_zero,CVl]
 | n+1,[],vs,h=>by simp only [CVl] at h; subst h; simp only [List.take_nil,CVl]
 | n+1,x::xs,vs,h=>by
  simp only [CVl] at h
  obtain ⟨u,us,rfl,h1,h2⟩:=h
  simp only [List.take_succ_cons,CVl]
  exact ⟨u,_,rfl,h1,CVl.take' n h2⟩
theorem sz3 {a b l c:Nat} (h:a+b≤l) (k:l=c):min a l+b+(l - (a+b))=c:=by omega
theorem aEd {st0:St} {nt:Nat} {o:Oper} {c:Call} {ev:Operand->AV} {h:Nat->Option Blk} {K:AV->List (Nat × Blk)->List Nat->Prop} (ho:o.op=.call c) (hc:c.callee=.builtin .clear) (hd:cU nt o.dst=true)
  (H:aW7 P c.argTypes.toList (c.args.toList.map ev) h K):∃ r u rd,K r u rd∧(∀ p ∈ u,p.1 ∉ rd->fresh kp st0 p.1=true)∧kU P E nt o ev h r u rd:=by
 unfold aW7 at H
 split at H
 ·rename_i t k s q eo n f hts hxs
  split at H
  ·rename_i e ht
   split at H
   ·rename_i e' s' xs hk
    obtain ⟨hb,H1⟩:=aW H
    simp only [aC] at hb
    obtain ⟨⟨⟨b1,b2⟩,b3⟩,b4⟩:=hb
    have b1:=aA b1
    have b2:=aA b2
    subst b1; subst b2
    have hle:e < 1000000:=aK b3
    obtain ⟨⟨hq,hn⟩,H2⟩:=aZ.1 H1
    obtain ⟨ox,hargs,hox⟩:∃ ox,c.args.toList=[ox]∧ev ox=.mw k s q eo n f:=by
     cases hq:c.args.toList with
     | nil=>rw [hq] at hxs; simp at hxs
     | cons p l =>
      cases l with
      | nil=>rw [hq] at hxs; simp at hxs; exact ⟨p,rfl,hxs⟩
      | cons r l=>rw [hq] at hxs; simp at hxs
    have hargsA:c.args=#[ox]:=by rw [← Array.toArray_toList (xs:=c.args),hargs]
    have htsA:c.argTypes=#[t]:=by rw [← Array.toArray_toList (xs:=c.argTypes),hts]
    have mx:ox ∈ o.op.operands:=by rw [ho]; simp [Op.operands,Call.operands,hc,hargsA]
    have hrun:∀ (a:Act) (w:World) (r:Value) (w':World),(Builtin.clear_ #[t] o.type #[a.eval ox]).run P w=.ok r w'->(execOp a.eval o).run P w=.ok (.value r) w':=by
     intro a w r w' hr
     simp [execOp,ho,resolve,hc,invoke,builtin,hargsA,htsA,hr]
    refine ⟨_,_,_,H2,λ p hp hnot=>by simp at hp; subst hp; exact absurd (List.mem_singleton.2 rfl) hnot,bI hd λ G kp st a w S m hG hR he hrd hfr=>?_⟩
    have hx:=he ox mx
    rw [hox] at hx
    have hks:lk st.heap k=some (.row e s xs):=by rw [hrd k (by simp)]; exact hk
    have hheld:=hR.held k _ hks
    obtain ⟨A1,c1,h1,h2,h3,h4,h5,vals,h6,h7,h8,h9,h10⟩:=hheld.vals
    simp only [CV] at hx
    obtain ⟨A,cc,hv,p1,p2,p3,p4,p5,A2,q2,c2,p6,p7,p8⟩:=hx
    rw [h1] at p6
    simp only [aJ,Value.iface.injEq,Value.slice.injEq,true_and] at p6
    obtain ⟨rfl,rfl,rfl⟩:=p6
    by_cases hn0:n=0
    ·subst hn0
     refine ⟨.tuple #[],w,S,m,hrun a w _ _ (by rw [hv]; cases A <;> simp [Builtin.clear_,run_underlying ht]),?_,by simp only [CV,CVl]; exact ⟨#[],rfl,rfl⟩⟩
     refine hR.congr' (λ t=>rfl) (λ j=>?_)
     simp only [St.blks,St.blk,bS]
     by_cases e1:j=k
     ·subst e1; rw [if_pos rfl,hks,List.replicate_zero,List.append_nil,List.take_of_length_le (by omega)]
     ·rw [if_neg e1]
    ·have hnx:n≤xs.length:=by rw [← hn]; exact Nat.le_add_left n eo
     have hcc:cc≠0:=λ e=>hn0 (Nat.le_zero.1 (e ▸ p1))
     have hc1:c1≠0:=λ e=>hn0 (Nat.le_zero.1 (e ▸ Nat.le_trans hnx h2))
     obtain ⟨g,rfl,rfl⟩:=p8 hq hcc
     obtain ⟨g',cur,fr,q1,r2,rf,r3,r4⟩:=h5.resolve_left (λ e=>hc1 e.2)
     injection q1 with q1
     injection q1 with q1
     subst q1
     have hfr0:=rf.lt hle
     subst hfr0
     rw [cA hle] at r2
     obtain ⟨g',cur',fr',q1,q2,_,_,q6⟩:=h9.resolve_left (λ e=>hc1 e.2)
     injection q1 with q1
     injection q1 with q1
     subst q1
     rw [cA hle,r2] at q2
     injection q2 with q2
     injection q2 with q2
     subst q2
     rw [bG (Nat.lt_trans hle (by decide))] at h7
     unfold aXc at b4
     split at b4
     ·rename_i i hi
      split at b4
      ·rename_i z hz
       simp only [aC,List.all_eq_true] at b4
       have hzs:=aA b4.1
       have hzv:∀ v ∈ z.cells.toList,v=.int .i64 0:=by
        intro v hv
        have:=b4.2 v hv
        cases v with
        | int kk nn=>cases kk <;> simp at this; subst this; rfl
        | _=>simp at this
       have hzz:(zeroValue e).run P w=.ok z w:=by simp [zeroValue,typeInfo,hi,hz]
       have hcl:cur.toList.length=c1*s:=by rw [Array.length_toList]; exact r3
       have hlen:eo*s+n*s=xs.length*s:=by rw [← Nat.add_mul,hn]
       have hxc:xs.length*s≤c1*s:=Nat.mul_le_mul_right s h2
       have hst:=run_storeCells_at (P:=P) g (eo*s) e (List.replicate (n*s) (Value.int .i64 0)) 0 cur w r2 (by rw [List.length_replicate]; omega) (λ v hv=>by rw [List.eq_of_mem_replicate hv]; rfl)
       simp only [Nat.add_zero,List.length_replicate] at hst
       have hcr:(Builtin.clear_ #[t] o.type #[.slice (some ⟨g,eo*s,none⟩) n cc]).run P w=.ok (.tuple #[]) (w.setRow g (cur.toList.take (eo*s)++List.replicate (n*s) (Value.int .i64 0)++cur.toList.drop (eo*s+n*s)).toArray):=by
        have hz2:=aU6 hzv n
        rw [hzs] at hz2
        obtain ⟨n',rfl⟩:=Nat.exists_eq_succ_of_ne_zero hn0
        simp [Builtin.clear_,run_underlying ht,hzz,hz2,hst]
       refine ⟨.tuple #[],_,S,m,hrun a w _ _ (by rw [hv]; exact hcr),?_,by simp only [CV,CVl]; exact ⟨#[],rfl,rfl⟩⟩
       have hz':∀ y ∈ xs.take eo++List.replicate n (List.replicate s (AV.int .i64 0)),y.length=s:=λ y hy=>by
        rcases List.mem_append.1 hy with hy | hy
        ·exact h4 y (List.mem_of_mem_take hy)
        ·rw [List.eq_of_mem_replicate hy,List.length_replicate]
       have hct:CVl S (xs.take eo++List.replicate n (List.replicate s (AV.int .i64 0))).flatten dE (vals.take (eo*s)++List.replicate (n*s) (Value.int .i64 0)):=by
        rw [List.flatten_append,tJ _ h4,aC1]
        exact (h7.take' _).append (CVl.zeros _)
       have hon:∀ v ∈ vals.take (eo*s)++List.replicate (n*s) (Value.int .i64 0),v.oneCell'=true:=λ v hv=>by
        rcases List.mem_append.1 hv with hv | hv
        ·exact h8 v (List.mem_of_mem_take hv)
        ·rw [List.eq_of_mem_replicate hv]; rfl
       have hlen2:(xs.take eo++List.replicate n (List.replicate s (AV.int .i64 0))).length=xs.length:=by simp; omega
       have htk:(cur.toList.take (eo*s)++List.replicate (n*s) (Value.int .i64 0)++cur.toList.drop (eo*s+n*s)).toArray.toList.take ((xs.take eo++List.replicate n (List.replicate s (AV.int .i64 0))).length*s)=vals.take (eo*s)++List.replicate (n*s) (Value.int .i64 0):=by
        rw [hlen2,← q6]
        simp only
        have l1:(cur.toList.take (eo*s)++List.replicate (n*s) (Value.int .i64 0)).length=xs.length*s:=by
         simp only [aG,List.length_take,List.length_replicate]; omega
        rw [List.take_append_of_le_length (by omega),List.take_of_length_le (by omega),List.take_take,Nat.min_eq_left (by omega)]
       refine hR.writeR hks h1 hc1 rfl rfl rfl (by simp [World.setRow]) (λ j hne=>setRow_other w g j _ hne) r4 ⟨_,c1,by rw [hlen2]; exact h1,by rw [hlen2]; exact h2,h3,.inr ⟨g,_,(0,0),rfl,by rw [cA hle]; exact setRow_heap w g cur _ e (0,0) r2,.none,?_,r4,by rw [bG (Nat.lt_trans hle (by decide))]; exact cE hz' hct hon htk⟩⟩
       simp only [List.size_toArray,aG,List.length_take,List.length_drop,List.length_replicate,Array.length_toList]
       exact sz3 (by rw [hlen,r3]; exact hxc) r3
      ·cases b4
     ·cases b4
   ·exact H.elim
  ·exact H.elim
 ·exact H.elim
open Go.RowKit (Below)
variable {P:Program} {S:Pin} {m:Nm} {w:World} {a:Act} {G:Gh} {kp:List Nat} {st:St} {E:Env}
def zI (s:Nat):Nat->List AV->(LL->Prop)->Prop
 | 0,[],k=>k []
 | 0,_::_,_=>False
 | n+1,cs,k=>aAn s cs λ x=>zI s n (cs.drop s) λ l=>k (x::l)
theorem oC {s:Nat}:∀ {n:Nat} {cs:List AV} {k:LL->Prop},zI s n cs k->∃ xs,k xs∧xs.flatten=cs∧xs.length=n∧∀ z ∈ xs,z.length=s
 | 0,[],k,h=>⟨[],h,rfl,rfl,by simp⟩
 | 0,_::_,k,h=>by simp [zI] at h
 | n+1,cs,k,h=>by
  simp only [zI] at h
  obtain ⟨h1,h2⟩:=kK h
  obtain ⟨xs,h3,h4,h5,h6⟩:=oC h1
  refine ⟨_,h3,by rw [List.flatten_cons,h4,List.take_append_drop],by simp [h5],λ z hz=>?_⟩
  rcases List.mem_cons.1 hz with rfl | hz
  ·simp; omega
  ·exact h6 z hz
def aQ3:Nat->List AV
 | 0=>[]
 | n+1=>.dead::aQ3 n
theorem aFg:∀ (n:Nat) (vs:List Value),vs.length=n->CVl S (aQ3 n) m vs
 | 0,vs,h=>by simp only [aQ3,CVl]; exact List.eq_nil_of_length_eq_zero h
 | n+1,[],h=>by simp at h
 | n+1,v::vs,h=>by simp only [aQ3,CVl]; exact ⟨v,vs,rfl,by simp only [CV],aFg n vs (by simpa using h)⟩
theorem Rel.newRowW {w w':World} (hR:Rel G kp st a w S m) {nm:Nat} (hf:fresh kp st nm=true) {e s c:Nat} {fr:Nat × Nat} {xs:LL} {cur:Array Value} (hb:Below w.heap.size w w')
  (hw:w'.heap[w.heap.size]?=some (.cells cur (gF e) fr)) (hfr:dW e cur.size fr) (hcell:∀ b o,b < w.heap.size->w'.cell? ⟨b,o,none⟩=w.cell? ⟨b,o,none⟩) (h1:xs.length≤c) (h2:c≤maxLen) (h3:cur.size=c*s)
  (h4:∀ (j:Nat) (x:List AV),xs[j]?=some x->x.length=s∧∀ (i:Nat) (y:AV),x[i]?=some y->∃ v,cur[j*s+i]?=some v∧v.oneCell'=true∧CV S y (dM e (m.set nm (.iface 0 (.slice (some ⟨w.heap.size,0,none⟩) xs.length c)))) v) :
  Rel G kp (st.blk nm (.row e s xs)) a w' S (m.set nm (.iface 0 (.slice (some ⟨w.heap.size,0,none⟩) xs.length c)))∧CV S (.rw nm s xs.length) (m.set nm (.iface 0 (.slice (some ⟨w.heap.size,0,none⟩) xs.length c))) (.slice (some ⟨w.heap.size,0,none⟩) xs.length c):=by
 refine ⟨hR.fresh_ hf hb (Ext.refl _) (λ _ _ _=>rfl) ?_ (λ g hg=>by simp [bk] at hg; omega) ?_,CV.rw_mk (Nm.set_same _ _ _) h1 h2 (.inr ⟨_,rfl⟩)⟩
 ·intro b o v e
  refine ⟨?_,(hR.agree b o v e).2⟩
  rw [hcell b o (hR.agree.lt e)]
  exact (hR.agree b o v e).1
 ·refine ⟨_,c,Nm.set_same _ _ _,h1,h2,.inr ⟨w.heap.size,cur,fr,rfl,hw,hfr,h3,λ o=>?_,h4⟩⟩
  cases e:S w.heap.size o with
  | none=>rfl
  | some v=>have:=hR.agree.lt e; omega
theorem Rel.newRow (hR:Rel G kp st a w S m) {nm:Nat} (hf:fresh kp st nm=true) {e s c:Nat} {o:Bool} (he:e < 1000000) {xs:LL} {cur:Array Value} (h1:xs.length≤c) (h2:c≤maxLen) (h3:cur.size=c*s)
  (h4:∀ (j:Nat) (x:List AV),xs[j]?=some x->x.length=s∧∀ (i:Nat) (y:AV),x[i]?=some y->∃ v,cur[j*s+i]?=some v∧v.oneCell'=true∧CV S y (dM (tyO o e) (m.set nm (.iface 0 (.slice (some ⟨w.heap.size,0,none⟩) xs.length c)))) v) :
  Rel G kp (st.blk nm (.row (tyO o e) s xs)) a (w.alloc (.cells cur e)) S (m.set nm (.iface 0 (.slice (some ⟨w.heap.size,0,none⟩) xs.length c)))∧CV S (.rw nm s xs.length) (m.set nm (.iface 0 (.slice (some ⟨w.heap.size,0,none⟩) xs.length c))) (.slice (some ⟨w.heap.size,0,none⟩) xs.length c) :=
 hR.newRowW hf ((Below.refl _ _).alloc (Nat.le_refl _) _) (by rw [iR he]; exact heap_alloc_new w _) .none (λ b o h=>World.cell?_alloc_lt _ _ _ h) h1 h2 h3 h4
mutual
def aXS:AV->Bool
 | .ptr _ _=>true
 | .ms _ _ _ _ _=>true
 | .rw _ _ _=>true
 | .mw _ _ _ _ _ _=>true
 | .prw _ _ _ _ _=>true
 | .mpv _=>true
 | .agg cs=>hasNl cs
 | .tup cs=>hasNl cs
 | .fn _ cs=>hasNl cs
 | _=>false
def hasNl:List AV->Bool
 | []=>false
 | x::xs=>aXS x||hasNl xs
end
def aB1 (P:Program) (nm:Nat) (t:TypeId) (len:Nat) (parts:List (Nat × AV)) (K:AV->List (Nat × Blk)->List Nat->Prop):Prop :=
 match P.underlying t with
 | some (.slice e)=>(match P.info? e with
  | some i=>cond (Nat.ble (len*i.size) 16777216&&Nat.ble len 9223372036854775807&&Nat.blt e 1000000) (aAe P e λ _=>aDV (λ q=>some (q*i.size,i.size)) (aQ3 (len*i.size)) parts λ cs=>cond (cW cs&&(!(hasNl cs)||nnl nm cs)) (aCd (tyO (hasNl cs) e) cs λ cs'=>zI i.size len cs' λ xs=>fcN (hasNl cs) (tyO (hasNl cs) e) λ e2=>K (.rw nm i.size len) [(nm,.row e2 i.size xs)] []) False) False
  | none=>False)
 | _=>False
theorem xF {nt nm:Nat} {o:Oper} {t:TypeId} {len:Nat} {parts:Array (Nat × Operand)} {ev:Operand->AV} {h:Nat->Option Blk} {K:AV->List (Nat × Blk)->List Nat->Prop} (ho:o.op=.buildSlice t len parts) (hd:cU nt o.dst=true)
    (H:aB1 P nm t len (parts.toList.map λ p=>(p.1,ev p.2)) K):∃ r b,K r [(nm,b)] []∧kU P E nt o ev h r [(nm,b)] []:=by
  unfold aB1 at H
  split at H
  · rename_i e ht
    split at H
    · rename_i i hi
      obtain ⟨hb,H1⟩:=aW H
      simp only [aC] at hb
      have hle:=aK hb.1.1
      have hl63:=aK hb.1.2
      have hle:e < 1000000:=aK hb.2
      obtain ⟨i',z,hi',hz,H2,hzr⟩:=eW H1
      rw [hi] at hi'
      injection hi' with hi'
      subst hi'
      obtain ⟨cs,H3,hfill⟩:=iA _ _ _ H2
      obtain ⟨hone,H4⟩:=aW H3
      simp only [aC] at hone
      obtain ⟨hone,hnn⟩:=hone
      generalize hop:hasNl cs=op at H4 hnn
      obtain ⟨cs',H5,hstrip⟩:=nO H4
      have hsame:2000000≤tyO op e->nnl nm cs=true:=λ q=>by
        cases op with
        | false=>exact absurd (Nat.lt_of_lt_of_le hle (Nat.le_trans (by decide) (show 2000000≤e from q))) (Nat.lt_irrefl _)
        | true=>simpa using hnn
      obtain ⟨xs,H6,hfl,hxl,hxs⟩:=oC H5
      simp only [aHy,hop] at H6
      refine ⟨_,_,H6,bI hd λ G kp st a w S m hG hR he hrd hf=>?_⟩
      have hnz:¬ len*i.size > 2 ^ 24:=by omega
      have fin:∀ (zero:Array Value),∃ out,Instr.fill (λ q=>some (q*i.size,i.size)) ((Array.range (len*i.size)).map (zero[· % zero.size]!)) (parts.map λ p=>(p.1,a.eval p.2)).toList=some out∧CVl S cs m out.toList:=by
        intro zero
        refine hfill S m _ _ (aFg _ _ (by simp)) (by simp) (λ j p q hp hq=>?_)
        simp only [List.getElem?_map,Array.toList_map] at hp hq
        cases hj:parts.toList[j]? with
        | none=>simp [hj] at hp
        | some u =>
          simp only [hj,Option.map_some,aJ] at hp hq
          subst hp hq
          exact ⟨rfl,he u.2 (by rw [ho]; simp only [Op.operands,List.mem_toArray,List.mem_map]; exact ⟨u,aL hj,rfl⟩)⟩
      obtain ⟨zero,hzero⟩:∃ zero:Array Value,(len*i.size=0∧zero=#[])∨(¬ len*i.size=0∧zero=z.cells):=by
        by_cases h0:len*i.size=0
        · exact ⟨_,.inl ⟨h0,rfl⟩⟩
        · exact ⟨_,.inr ⟨h0,rfl⟩⟩
      obtain ⟨out,hout,hcv⟩:=fin zero
      have hcv':=hstrip S m _ hcv
      have hol:=hcv'.len
      have hcl:cs'.length=len*i.size:=by rw [← hfl,aC2 hxs,hxl]
      simp only [Array.length_toList] at hol
      have hcvS:∀ u,CVl S cs' (dM (tyO op e) (m.set nm u)) out.toList:=λ u=>by
        by_cases q:tyO op e < 2000000
        · rw [bG q] at hcv' ⊢; exact hcv'
        · exact hstrip S (m.set nm u) _ (hcv.set (hsame (Nat.le_of_not_lt q)))
      have hrow:=cE (cur:=out) (vals:=out.toList) hxs (by rw [hfl]; exact hcvS (.iface 0 (.slice (some ⟨w.heap.size,0,none⟩) xs.length len))) (gQ hcv hone) (by rw [hxl,List.take_of_length_le (by simp; omega)])
      have hnew:=hR.newRow (e:=e) (o:=op) (c:=len) (cur:=out) (hf (nm,.row (tyO op e) i.size xs) (by simp) (by simp)) hle (by omega) (by unfold maxLen; omega) (by omega) hrow
      rw [hxl] at hnew
      refine ⟨.slice (some ⟨w.heap.size,0,none⟩) len len,w.alloc (.cells out e),S,_,?_,hnew.1,hnew.2⟩
      have hrun:(Instr.buildSlice t len (parts.map λ p=>(p.1,a.eval p.2))).run P w=.ok (.slice (some ⟨w.heap.size,0,none⟩) len len) (w.alloc (.cells out e)):=by
        unfold Instr.buildSlice
        simp only [Sem.run_bind,run_underlying ht,Result.andThen_ok,sizeOf,typeInfo,run_program,hi,Sem.run_pure,hnz,if_false]
        rcases hzero with ⟨h0,rfl⟩ | ⟨h0,rfl⟩
        · rw [if_pos h0]
          simp only [Sem.run_bind,Sem.run_pure,Result.andThen_ok,hout]
          simp [newRow]
        · rw [if_neg h0]
          simp only [Sem.run_bind,hzr,Sem.run_pure,Result.andThen_ok,hout]
          simp [newRow]
      simp only [execOp,ho]
      simp [hrun]
    · exact H.elim
  · exact H.elim
def aIf (P:Program) (nm:Nat) (t:TypeId) (l c:AV) (K:AV->List (Nat × Blk)->List Nat->Prop):Prop :=
 match P.underlying t with
 | some (.slice e)=>(match P.info? e with
  | some i=>aEn l λ l=>aEn c λ c=>chk (0≤l∧l≤c∧(i.bytes:Int)*c≤281474976710656∧c≤9223372036854775807) (aAe P e λ zs=>cond (Nat.beq zs.length i.size&&cW zs&&Nat.blt e 1000000) (eE zs λ zs=>K (.rw nm i.size l.toNat) [(nm,.row e i.size (List.replicate l.toNat zs))] []) False)
  | none=>False)
 | _=>False
theorem zO {nt nm:Nat} {o:Oper} {t:TypeId} {ol oc:Operand} {ev:Operand->AV} {h:Nat->Option Blk} {K:AV->List (Nat × Blk)->List Nat->Prop} (ho:o.op=.makeSlice t ol oc) (hd:cU nt o.dst=true)
  (H:aIf P nm t (ev ol) (ev oc) K):∃ r b,K r [(nm,b)] []∧kU P E nt o ev h r [(nm,b)] []:=by
 unfold aIf at H
 split at H
 ·rename_i e ht
  split at H
  ·rename_i i hi
   obtain ⟨l,H1,hl⟩:=cT H
   obtain ⟨c,H2,hc⟩:=cT H1
   obtain ⟨⟨q1,q2,q3,q4⟩,H3⟩:=aZ.1 H2
   obtain ⟨i',z,hi',hz,H4,hzr⟩:=eW H3
   rw [hi] at hi'
   injection hi' with hi'
   subst hi'
   obtain ⟨hb,H5⟩:=aW H4
   simp only [aC] at hb
   have hzl:=aA hb.1.1
   have hle:e < 1000000:=aK hb.2
   obtain ⟨zs,H6,hst⟩:=cO _ _ H5
   refine ⟨_,_,H6,bI hd λ G kp st a w S m hG hR he hrd hf=>?_⟩
   obtain ⟨kl,hvl⟩:=hl S m _ (he ol (by rw [ho]; simp [Op.operands]))
   obtain ⟨kc,hvc⟩:=hc S m _ (he oc (by rw [ho]; simp [Op.operands]))
   have hzc:=kL S m z.cells.toList
   have hz1:=gQ hzc hb.1.2
   have hz2:=hst S m _ hzc
   have hzsz:=hzc.len
   have hzs2:=hz2.len
   simp only [Array.length_toList] at hzsz hzs2
   have hrun:=run_make (P:=P) w t e i z ht hi hz kl kc l c q1 q2 q3 q4
   have hrow:∀ (j:Nat) (x:List AV),(List.replicate l.toNat zs)[j]?=some x->x.length=i.size∧∀ (p:Nat) (y:AV),x[p]?=some y->∃ v,(madeCells z.cells (c.toNat*i.size))[j*i.size+p]?=some v∧v.oneCell'=true∧CV S y dE v:=by
    intro j x hx
    rw [List.getElem?_replicate] at hx
    split at hx
    ·rename_i hj
     injection hx with hx
     subst hx
     refine ⟨by omega,λ p y hy=>?_⟩
     obtain ⟨v,hv1,hv2⟩:=hz2.get hy
     have hp:p < i.size:=by have:=(aF.1 hy).1; omega
     have hlt:j*i.size+p < c.toNat*i.size:=by
      have:(j+1)*i.size≤c.toNat*i.size:=Nat.mul_le_mul_right _ (by omega)
      rw [Nat.succ_mul] at this; omega
     refine ⟨v,?_,hz1 v (aL hv1),hv2⟩
     have hmod:(j*i.size+p) % z.cells.size=p:=by
      rw [show z.cells.size=i.size by omega,Nat.add_comm,Nat.add_mul_mod_self_right,Nat.mod_eq_of_lt hp]
     have hv3:z.cells[p]?=some v:=by simpa using hv1
     unfold madeCells
     simp only [Array.getElem?_map]
     rw [Array.getElem?_range,if_pos hlt]
     simp only [Option.map_some,hmod]
     rw [getElem!_def,hv3]
    ·cases hx
   have hnew:=hR.newRow (e:=e) (o:=false) (s:=i.size) (xs:=List.replicate l.toNat zs) (c:=c.toNat) (cur:=madeCells z.cells (c.toNat*i.size)) (hf (nm,.row e i.size (List.replicate l.toNat zs)) (by simp) (by simp)) hle (by simp; omega) (by unfold maxLen; omega) (size_madeCells _ _) (by rw [bG (show tyO false e < 2000000 from Nat.lt_trans hle (by decide))]; exact hrow)
   rw [List.length_replicate] at hnew
   exact ⟨_,_,S,_,by simp [execOp,ho,hvl,hvc,hrun],hnew.1,hnew.2⟩
  ·exact H.elim
 ·exact H.elim
open Go.RowKit (Below)
variable {P:Program} {S:Pin} {m:Nm} {w:World} {a:Act} {G:Gh} {kp:List Nat} {st:St} {E:Env}
mutual
def oG (k s:Nat) (xs:LL):AV->AV
 | .rw j s' n=>cond (Nat.beq j k) (cond (Nat.beq s s') (.frz k s n xs) .dead) (.rw j s' n)
 | .mw j s' q eo n f=>cond (Nat.beq j k) .dead (.mw j s' q eo n f)
 | .prw j s' q i fo=>cond (Nat.beq j k) .dead (.prw j s' q i fo)
 | .agg cs=>.agg (aAd k s xs cs)
 | .tup cs=>.tup (aAd k s xs cs)
 | .fn f cs=>.fn f (aAd k s xs cs)
 | .acc j s' ys=>cond (Nat.beq j k) .dead (.acc j s' ys)
 | .frz j s' n ys=>cond (Nat.beq j k) .dead (.frz j s' n ys)
 | .ptr j o=>cond (Nat.beq j k) .dead (.ptr j o)
 | .ms j o n c s'=>cond (Nat.beq j k) .dead (.ms j o n c s')
 | .mpv j=>cond (Nat.beq j k) .dead (.mpv j)
 | .int q n=>.int q n
 | .bool b=>.bool b
 | .str b=>.str b
 | .sl s f ys=>.sl s f ys
 | .nils=>.nils
 | .ro cs=>.ro cs
 | .nilp=>.nilp
 | .undef=>.undef
 | .dead=>.dead
def aAd (k s:Nat) (xs:LL):List AV->List AV
 | []=>[]
 | y::ys=>oG k s xs y::aAd k s xs ys
end
def aUU (k s:Nat) (xs:LL):List (Nat × AV)->List (Nat × AV)
 | []=>[]
 | (t,y)::l=>(t,oG k s xs y)::aUU k s xs l
def vX (k s:Nat) (xs:LL):LL->LL
 | []=>[]
 | y::ys=>aAd k s xs y::vX k s xs ys
theorem aGY (k s:Nat) (xs:LL):∀ (l:List AV) (i:Nat),(aAd k s xs l)[i]?=(l[i]?).map (oG k s xs)
 | [],i=>by simp [aAd]
 | y::l,0=>by simp [aAd]
 | y::l,i+1=>by simp only [aAd,List.getElem?_cons_succ]; exact aGY k s xs l i
theorem aCX (k s:Nat) (xs:LL):∀ (l:LL) (i:Nat),(vX k s xs l)[i]?=(l[i]?).map (aAd k s xs)
 | [],i=>by simp [vX]
 | y::l,0=>by simp [vX]
 | y::l,i+1=>by simp only [vX,List.getElem?_cons_succ]; exact aCX k s xs l i
theorem aCW (k s:Nat) (xs:LL):∀ (l:List AV),(aAd k s xs l).length=l.length
 | []=>rfl
 | y::l=>by simp [aAd,aCW k s xs l]
theorem qG (k s:Nat) (xs:LL):∀ (l:LL),(vX k s xs l).length=l.length
 | []=>rfl
 | y::l=>by simp [vX,qG k s xs l]
def aCY (k s:Nat) (xs:LL):AV->AV
 | .rw j s' n=>if j=k then (if s'=s∧n=xs.length then .sl s false xs else .dead) else .rw j s' n
 | x=>cond (nn k x) x .dead
def kC (f:AV->AV) (xs:LL):LL:=xs.map λ x=>x.map f
theorem yG (f:AV->AV) (xs:LL):(kC f xs).length=xs.length:=by simp [kC]
theorem aCE {f:AV->AV} {xs:LL} {j:Nat} {x:List AV} (h:(kC f xs)[j]?=some x):∃ x0,xs[j]?=some x0∧x=x0.map f:=by
 unfold kC at h
 rw [List.getElem?_map] at h
 cases q:xs[j]? with
 | none=>rw [q] at h; cases h
 | some x0=>rw [q] at h; simp only [Option.map_some,aJ] at h; exact ⟨x0,rfl,h.symm⟩
def rmN (k:Nat):List Nat->List Nat
 | []=>[]
 | j::l=>cond (Nat.beq j k) (rmN k l) (j::rmN k l)
theorem aCk {k i:Nat}:∀ {l:List Nat},inL i l=true->i≠k->inL i (rmN k l)=true
 | [],h,_=>by cases h
 | j::l,h,hn=>by
  simp only [inL,Bool.or_eq_true] at h
  simp only [rmN]
  cases hj:Nat.beq j k with
  | true =>
   have:=aA hj
   subst this
   rcases h with h | h
   ·exact absurd (aA h).symm hn
   ·exact aCk h hn
  | false =>
   simp only [cond_false,inL,Bool.or_eq_true]
   rcases h with h | h
   ·exact .inl h
   ·exact .inr (aCk h hn)
theorem kT.mapA {S S':Pin} {m m':Nm} {k k' e s:Nat} {xs:LL} (f:AV->AV) (h:kT S m w k e s xs) (hk:m' k'=m k) (hS:∀ u g,m k=some u->bk u=some g->∀ o,S' g o=S g o)
  (hf:∀ (j i:Nat) (x:List AV) (y:AV),xs[j]?=some x->x[i]?=some y->∀ v,CV S y (dM e m) v->CV S' (f y) (dM e m') v):kT S' m' w k' e s (kC f xs):=by
 obtain ⟨A,c,p1,p2,p3,p4⟩:=h
 refine ⟨A,c,by rw [yG,hk]; exact p1,by rw [yG]; exact p2,p3,?_⟩
 rcases p4 with p4 | ⟨g,cur,fr,rfl,p5,p6,p7,p8,p9⟩
 ·exact .inl p4
 ·refine .inr ⟨g,cur,fr,rfl,p5,p6,p7,λ o=>(hS _ g p1 rfl o).trans (p8 o),λ j x hx=>?_⟩
  obtain ⟨x0,hy,rfl⟩:=aCE hx
  obtain ⟨r1,r2⟩:=p9 j x0 hy
  refine ⟨by rw [List.length_map]; exact r1,λ i y hi=>?_⟩
  rw [List.getElem?_map] at hi
  cases hz:x0[i]? with
  | none=>rw [hz] at hi; cases hi
  | some y0 =>
   rw [hz] at hi
   simp only [Option.map_some,aJ] at hi
   subst hi
   obtain ⟨v,q1,q2,q3⟩:=r2 i y0 hz
   exact ⟨v,q1,q2,hf j i x0 y0 hy hz v q3⟩
theorem aEj.mapA {ks ks':List Nat} {xs:LL} {f:AV->AV} (h:aEj ks xs) (hf:∀ y k,(∀ j,nn j y=false->inL j ks=true)->nn k (f y)=false->inL k ks'=true):aEj ks' (kC f xs):=by
 intro j i x y hx hy k hk
 obtain ⟨x0,h0,rfl⟩:=aCE hx
 rw [List.getElem?_map] at hy
 cases hz:x0[i]? with
 | none=>rw [hz] at hy; cases hy
 | some y0 =>
  rw [hz] at hy
  simp only [Option.map_some,aJ] at hy
  subst hy
  exact hf y0 k (h j i x0 y0 h0 hz) hk
theorem aNY {k j:Nat} {x:AV} (h:nn j (cond (nn k x) x .dead)=false):nn j x=false∧j≠k:=by
 cases q:nn k x with
 | true=>rw [q] at h; simp only [cond_true] at h; exact ⟨h,λ e=>by subst e; rw [q] at h; cases h⟩
 | false=>rw [q] at h; cases h
theorem aWf {k:Nat} {x:AV} {v:Value} (h:nn k x=true->CV S x m v):CV S (cond (nn k x) x .dead) m v:=by
 cases q:nn k x with
 | true=>exact h q
 | false=>simp only [cond_false,CV]
theorem aG1 {k s:Nat} {zs:LL} {y:AV} {j:Nat} (h:nn j (aCY k s zs y)=false):nn j y=false∧j≠k:=by
 cases y with
 | rw i s' n =>
  simp only [aCY] at h
  split at h
  ·split at h <;> cases h
  ·rename_i hi
   refine ⟨h,λ e=>?_⟩
   subst e
   simp only [nn,Bool.not_eq_false'] at h
   exact hi (aA h)
 | _=>exact aNY (by simpa only [aCY] using h)
def aG0 (k s:Nat) (xs:LL):Blk->Blk
 | .cells cs=>.cells (aAd k s xs cs)
 | .row e s' ys=>cond (Nat.blt e 2000000) (.row e s' ys) (.row e s' (vX k s xs ys))
 | .nrow e s' ks ys=>cond (inL k ks) (.nrow e s' (rmN k ks) (kC (aCY k s xs) ys)) (.nrow e s' ks ys)
 | b=>b
def aPR (k s:Nat) (xs:LL):List (Nat × Blk)->List (Nat × Blk)
 | []=>[]
 | (j,b)::l=>(j,aG0 k s xs b)::aPR k s xs l
theorem aGW (k s:Nat) (xs:LL) (t:Nat):∀ (l:List (Nat × AV)),lk (aUU k s xs l) t=(lk l t).map (oG k s xs)
 | []=>rfl
 | (j,y)::l=>by
  simp only [aUU,lk]
  cases Nat.beq j t with
  | true=>rfl
  | false=>exact aGW k s xs t l
theorem aGZ (k s:Nat) (xs:LL) (t:Nat):∀ (l:List (Nat × Blk)),lk (aPR k s xs l) t=(lk l t).map (aG0 k s xs)
 | []=>rfl
 | (j,y)::l=>by
  simp only [aPR,lk]
  cases Nat.beq j t with
  | true=>rfl
  | false=>exact aGZ k s xs t l
mutual
theorem aBm {S S':Pin} {m m':Nm} {k s:Nat} {xs:LL} (hS:Ext S S') (hm:∀ j,j≠k->m' j=m j)
  (hk:∀ n v,CV S (.rw k s n) m v->CV S' (.frz k s n xs) m' v):∀ (x:AV) (v:Value),CV S x m v->CV S' (oG k s xs x) m' v
 | .rw j s' n,v,h=>by
  simp only [oG]
  cases hj:Nat.beq j k with
  | true =>
   have:=aA hj
   subst this
   simp only [cond_true]
   cases hs:Nat.beq s s' with
   | true =>
    have:=aA hs
    subst this
    exact hk n v h
   | false=>simp only [cond_false,CV]
  | false =>
   simp only [cond_false]
   exact CV.mono hS _ m m' v (λ i u hi e=>⟨u,by
    have:i≠k:=by
     rintro rfl
     simp only [nn,Bool.not_eq_false'] at hi
     rw [hi] at hj; cases hj
    rw [hm i this]; exact e,.refl u⟩) h
 | .mw j s' q eo n f,v,h=>by
  simp only [oG]
  cases hj:Nat.beq j k with
  | true=>simp only [cond_true,CV]
  | false =>
   simp only [cond_false]
   exact CV.mono hS _ m m' v (λ i u hi e=>⟨u,by
    have:i≠k:=by
     rintro rfl
     simp only [nn,Bool.not_eq_false'] at hi
     rw [hi] at hj; cases hj
    rw [hm i this]; exact e,.refl u⟩) h
 | .prw j s' q p fo,v,h=>by
  simp only [oG]
  cases hj:Nat.beq j k with
  | true=>simp only [cond_true,CV]
  | false =>
   simp only [cond_false]
   exact CV.mono hS _ m m' v (λ i u hi e=>⟨u,by
    have:i≠k:=by
     rintro rfl
     simp only [nn,Bool.not_eq_false'] at hi
     rw [hi] at hj; cases hj
    rw [hm i this]; exact e,.refl u⟩) h
 | .mpv j,v,h=>by
  simp only [oG]
  cases hj:Nat.beq j k with
  | true=>simp only [cond_true,CV]
  | false =>
   simp only [cond_false]
   exact CV.mono hS _ m m' v (λ i u hi e=>⟨u,by
    have:i≠k:=by
     rintro rfl
     simp only [nn,Bool.not_eq_false'] at hi
     rw [hi] at hj; cases hj
    rw [hm i this]; exact e,.refl u⟩) h
 | .acc j s' ys,v,h=>by
  simp only [oG]
  cases hj:Nat.beq j k with
  | true=>simp only [cond_true,CV]
  | false =>
   simp only [cond_false]
   exact CV.mono hS _ m m' v (λ i u hi e=>⟨u,by
    have:i≠k:=by
     rintro rfl
     simp only [nn,Bool.not_eq_false'] at hi
     rw [hi] at hj; cases hj
    rw [hm i this]; exact e,.refl u⟩) h
 | .frz j s' n ys,v,h=>by
  simp only [oG]
  cases hj:Nat.beq j k with
  | true=>simp only [cond_true,CV]
  | false =>
   simp only [cond_false]
   exact CV.mono hS _ m m' v (λ i u hi e=>⟨u,by
    have:i≠k:=by
     rintro rfl
     simp only [nn,Bool.not_eq_false'] at hi
     rw [hi] at hj; cases hj
    rw [hm i this]; exact e,.refl u⟩) h
 | .ptr j o,v,h=>by
  simp only [oG]
  cases hj:Nat.beq j k with
  | true=>simp only [cond_true,CV]
  | false =>
   simp only [cond_false]
   exact CV.mono hS _ m m' v (λ i u hi e=>⟨u,by
    have:i≠k:=by
     rintro rfl
     simp only [nn,Bool.not_eq_false'] at hi
     rw [hi] at hj; cases hj
    rw [hm i this]; exact e,.refl u⟩) h
 | .ms j o n c s',v,h=>by
  simp only [oG]
  cases hj:Nat.beq j k with
  | true=>simp only [cond_true,CV]
  | false =>
   simp only [cond_false]
   exact CV.mono hS _ m m' v (λ i u hi e=>⟨u,by
    have:i≠k:=by
     rintro rfl
     simp only [nn,Bool.not_eq_false'] at hi
     rw [hi] at hj; cases hj
    rw [hm i this]; exact e,.refl u⟩) h
 | .agg cs,v,h=>by
  simp only [oG,CV] at h ⊢
  obtain ⟨us,e,hu⟩:=h
  exact ⟨us,e,qF hS hm hk cs _ hu⟩
 | .tup cs,v,h=>by
  simp only [oG,CV] at h ⊢
  obtain ⟨us,e,hu⟩:=h
  exact ⟨us,e,qF hS hm hk cs _ hu⟩
 | .fn f cs,v,h=>by
  simp only [oG,CV] at h ⊢
  obtain ⟨us,e,hu⟩:=h
  exact ⟨us,e,qF hS hm hk cs _ hu⟩
 | .int _ _,v,h=>by simp only [oG]; exact CV.mono hS _ m m' v (λ i u hi e=>by simp [nn] at hi) h
 | .bool _,v,h=>by simp only [oG]; exact CV.mono hS _ m m' v (λ i u hi e=>by simp [nn] at hi) h
 | .str _,v,h=>by simp only [oG]; exact CV.mono hS _ m m' v (λ i u hi e=>by simp [nn] at hi) h
 | .sl _ _ _,v,h=>by simp only [oG]; exact CV.mono hS _ m m' v (λ i u hi e=>by simp [nn] at hi) h
 | .nils,v,h=>by simp only [oG]; exact CV.mono hS _ m m' v (λ i u hi e=>by simp [nn] at hi) h
 | .ro _,v,h=>by simp only [oG]; exact CV.mono hS _ m m' v (λ i u hi e=>by simp [nn] at hi) h
 | .nilp,v,h=>by simp only [oG]; exact CV.mono hS _ m m' v (λ i u hi e=>by simp [nn] at hi) h
 | .undef,v,h=>by simp only [oG]; exact CV.mono hS _ m m' v (λ i u hi e=>by simp [nn] at hi) h
 | .dead,v,h=>by simp only [oG,CV]
theorem qF {S S':Pin} {m m':Nm} {k s:Nat} {xs:LL} (hS:Ext S S') (hm:∀ j,j≠k->m' j=m j)
  (hk:∀ n v,CV S (.rw k s n) m v->CV S' (.frz k s n xs) m' v):∀ (ys:List AV) (vs:List Value),CVl S ys m vs->CVl S' (aAd k s xs ys) m' vs
 | [],vs,h=>by simp only [aAd,CVl] at h ⊢; exact h
 | y::ys,vs,h=>by
  simp only [aAd,CVl] at h ⊢
  obtain ⟨u,us,e,h1,h2⟩:=h
  exact ⟨u,us,e,aBm hS hm hk y u h1,qF hS hm hk ys us h2⟩
end
def aPQ (kp:List Nat) (st:St) (k:Nat) (K:St->Prop):Prop :=
 match lk st.heap k with
 | some (.row e s xs)=>cond (inL k kp||!(Nat.blt e 2000000)) False (K ⟨aUU k s xs st.tmps,ins (aPR k s xs st.heap) k (.tok e s xs.length)⟩)
 | _=>False
theorem tD (h:Rel G kp st a w S m) {k:Nat} {K:St->Prop} (H:aPQ kp st k K):∃ st' S' m',K st'∧Rel G kp st' a w S' m':=by
 unfold aPQ at H
 split at H
 ·rename_i e s xs hk
  cases hin0:(inL k kp||!(Nat.blt e 2000000)) with
  | true=>rw [hin0] at H; exact H.elim
  | false =>
   rw [hin0] at H
   simp only [cond_false] at H
   simp only [Bool.or_eq_false_iff,Bool.not_eq_false'] at hin0
   obtain ⟨hin,hcl⟩:=hin0
   have hcl:e < 2000000:=aK hcl
   have hheld:=h.held k _ hk
   obtain ⟨A,c,h1,h2,h3,hlen,h4,vals,h5,h6,h7,_,h8⟩:=hheld.vals
   rw [bG hcl] at h6
   let S':Pin:=λ b o=>if A=some ⟨b,0,none⟩∧o < vals.length then vals[o]? else S b o
   let m':Nm:=m.set k (.slice A xs.length c)
   have hun:∀ b,A=some ⟨b,0,none⟩->∀ o,S b o=none:=by
    intro b hb o
    rcases h4 with ⟨e1,_⟩ | ⟨g,cur,fr,e1,_,_,_,e2⟩
    ·rw [hb] at e1; cases e1
    ·rw [hb] at e1
     injection e1 with e1
     injection e1 with e1
     subst e1
     exact e2 o
   have hS:Ext S S':=by
    intro b o v e1
    show (if A=some ⟨b,0,none⟩∧o < vals.length then vals[o]? else S b o)=some v
    rw [if_neg]
    ·exact e1
    ·rintro ⟨hb,_⟩
     rw [hun b hb] at e1; cases e1
   have hfar:∀ b,A≠some ⟨b,0,none⟩->∀ o,S' b o=S b o:=by
    intro b hb o
    show (if A=some ⟨b,0,none⟩∧o < vals.length then vals[o]? else S b o)=S b o
    rw [if_neg (λ q=>hb q.1)]
   have hm:∀ j,j≠k->m' j=m j:=λ j hj=>Nm.set_ne m _ hj
   have hkk:∀ n v,CV S (.rw k s n) m v->CV S' (.frz k s n xs) m' v:=by
    intro n v hv
    simp only [CV] at hv ⊢
    obtain ⟨⟨B,d,rfl,p1,p2,p3,p4⟩,A1,q1,c1,p5,p6,p7⟩:=hv
    refine ⟨⟨B,d,rfl⟩,λ hn=>?_⟩
    rw [h1] at p5
    injection p5 with p5
    injection p5 with _ p5
    injection p5 with e1 e2 e3
    subst e1; subst e3
    have hv:=p7 (by omega)
    injection hv with e1 e3 e4
    subst e1; subst e4
    refine ⟨⟨B,d,by rw [hn],h2,h3,p3,λ ad had=>?_⟩,B,xs.length,d,Nm.set_same _ _ _,Nat.le_refl _,λ _=>by rw [hn]⟩
    obtain ⟨g,eg⟩:=p4 ad had
    subst eg
    refine ⟨λ _=>rfl,CE.mk λ j x hj=>?_⟩
    have hxl:=hlen x (aL hj)
    refine ⟨hxl,CC.mk λ i y hi=>?_⟩
    obtain ⟨u,hu,hy⟩:=h6.get (jX hlen hj hi)
    have hlt:j*s+i < vals.length:=(aF.1 hu).1
    refine ⟨u,?_,hy.ext hS (MLe.refl _)⟩
    show (if B=some ⟨g,0,none⟩∧0+j*s+i < vals.length then vals[0+j*s+i]? else S g (0+j*s+i))=some u
    rw [Nat.zero_add,if_pos ⟨had,hlt⟩]
    exact hu
   refine ⟨_,S',m',H,?_⟩
   have hl2:∀ j,lk (ins (aPR k s xs st.heap) k (.tok e s xs.length)) j=if j=k then some (.tok e s xs.length) else (lk st.heap j).map (aG0 k s xs):=by
    intro j; rw [bS]; split
    ·rfl
    ·exact aGZ k s xs j _
   have hbk:∀ u' u g,m' k=some u'->m k=some u->bk u'=some g->bk u=some g:=by
    intro u' u g e1 e2 hg
    have hmk:m' k=some (.slice A xs.length c):=Nm.set_same _ _ _
    rw [hmk] at e1
    rw [h1] at e2
    injection e1 with e1
    injection e2 with e2
    subst e1; subst e2
    cases A with
    | none=>simp [bk] at hg
    | some ad=>simpa [bk] using hg
   have hlk:∀ j b,lk (ins (aPR k s xs st.heap) k (.tok e s xs.length)) j=some b->∃ b0,lk st.heap j=some b0:=by
    intro j b hj
    rw [hl2] at hj
    split at hj
    ·rename_i e; subst e; exact ⟨_,hk⟩
    ·cases hq:lk st.heap j with
     | none=>rw [hq] at hj; cases hj
     | some b0=>exact ⟨b0,rfl⟩
   have hbm:∀ j u g,(∃ b0,lk st.heap j=some b0)->m' j=some u->bk u=some g->∃ u0,m j=some u0∧bk u0=some g:=by
    intro j u g _ hj hg
    by_cases e:j=k
    ·subst e; exact ⟨_,h1,hbk u _ g hj h1 hg⟩
    ·exact ⟨u,by rw [← hm j e]; exact hj,hg⟩
   refine { h with defers:=h.defers,pin0:=h.pin0.trans hS,pinNew:=?_,agree:=?_,tmps:=?_,held:=?_,inj:=?_,own:=?_,m0:=?_ }
   ·intro b o hb hM
    by_cases hA:A=some ⟨b,0,none⟩
    ·rcases h.own k _ _ b hk h1 (by rw [hA]; rfl) with q | q
     ·omega
     ·exact absurd q hM
    ·rw [hfar b hA]; exact h.pinNew b o hb hM
   ·intro b o v e1
    by_cases hA:A=some ⟨b,0,none⟩∧o < vals.length
    ·have e2:vals[o]?=some v:=by
      have:S' b o=vals[o]?:=by show (if A=some ⟨b,0,none⟩∧o < vals.length then vals[o]? else S b o)=_; rw [if_pos hA]
      rw [← this]; exact e1
     exact ⟨h8 b hA.1 o v e2,h7 v (aL e2)⟩
    ·have:S' b o=S b o:=by show (if A=some ⟨b,0,none⟩∧o < vals.length then vals[o]? else S b o)=_; rw [if_neg hA]
     rw [this] at e1
     exact h.agree b o v e1
   ·intro t
    have:=h.tmps t
    unfold St.get at this ⊢
    simp only [aGW]
    cases hq:lk st.tmps t with
    | none=>simp only [Option.map_none,CV]
    | some y=>rw [hq] at this; exact aBm hS hm hkk y _ this
   ·intro j b hj
    simp only at hj
    rw [hl2] at hj
    split at hj
    ·rename_i ejk
     subst ejk
     injection hj with hj
     subst hj
     refine ⟨A,c,Nm.set_same _ _ _,h2,h3,?_⟩
     rcases h4 with h4 | ⟨g,cur,fr,e1,e2,ef,e3,e4⟩
     ·exact .inl h4
     ·refine .inr ⟨g,cur,fr,e1,e2,ef,e3,λ o ho=>?_⟩
      have hlt:¬ o < vals.length:=by omega
      show (if A=some ⟨g,0,none⟩∧o < vals.length then vals[o]? else S g o)=none
      rw [if_neg (λ q=>hlt q.2)]
      exact e4 o
    ·rename_i ejk
     cases hq:lk st.heap j with
     | none=>rw [hq] at hj; cases hj
     | some b0 =>
      rw [hq] at hj
      simp only [Option.map_some,aJ] at hj
      subst hj
      have hh:=h.held j b0 hq
      have far:∀ u g,m j=some u->bk u=some g->w.heap[g]?=w.heap[g]?∧∀ o,S' g o=S g o:=by
       intro u g hu hg
       refine ⟨rfl,hfar g (λ hA=>?_)⟩
       exact h.inj k j _ _ _ u g hk hq (λ q=>ejk q.symm) h1 hu (by rw [hA]; rfl) hg
      cases b0 with
      | cells cs =>
       obtain ⟨g,arr,t,p1,p2,p3,p4⟩:=hh
       exact ⟨g,arr,t,by rw [hm j ejk]; exact p1,p2,qF hS hm hkk cs _ p3,λ o=>((far _ g p1 rfl).2 o).trans (p4 o)⟩
      | row e' s' ys =>
       cases hbb:Nat.blt e' 2000000 with
       | true =>
        have he':e' < 2000000:=aK hbb
        have e1:aG0 k s xs (.row e' s' ys)=.row e' s' ys:=by simp only [aG0,hbb,cond_true]
        rw [e1]
        exact hh.keep hS (λ cs vs q=>absurd q.1 (by omega)) (hm j ejk) far
       | false =>
        have he':¬ e' < 2000000:=λ q=>by
         have:Nat.blt e' 2000000=true:=Nat.ble_eq_true_of_le q
         rw [hbb] at this; cases this
        have e1:aG0 k s xs (.row e' s' ys)=.row e' s' (vX k s xs ys):=by simp only [aG0,hbb,cond_false]
        rw [e1]
        obtain ⟨A',c',p1,p2,p3,p4⟩:=hh
        refine ⟨A',c',by rw [hm j ejk,qG]; exact p1,by rw [qG]; exact p2,p3,?_⟩
        rcases p4 with p4 | ⟨g,cur,fr,rfl,p5,p6,p7,p8,p9⟩
        ·exact .inl p4
        ·refine .inr ⟨g,cur,fr,rfl,p5,p6,p7,λ o=>((far _ g p1 rfl).2 o).trans (p8 o),λ j' x hx=>?_⟩
         rw [aCX] at hx
         cases hy:ys[j']? with
         | none=>rw [hy] at hx; cases hx
         | some x0 =>
          rw [hy] at hx
          simp only [Option.map_some,aJ] at hx
          subst hx
          obtain ⟨r1,r2⟩:=p9 j' x0 hy
          refine ⟨by rw [aCW]; exact r1,λ i y hi=>?_⟩
          rw [aGY] at hi
          cases hz:x0[i]? with
          | none=>rw [hz] at hi; cases hi
          | some y0 =>
           rw [hz] at hi
           simp only [Option.map_some,aJ] at hi
           subst hi
           obtain ⟨v,q1,q2,q3⟩:=r2 i y0 hz
           refine ⟨v,q1,q2,?_⟩
           rw [bN he'] at q3 ⊢
           exact aBm hS hm hkk y0 v q3
      | nrow e' s' ks ys =>
       cases hin2:inL k ks with
       | false =>
        have e1:aG0 k s xs (.nrow e' s' ks ys)=.nrow e' s' ks ys:=by simp only [aG0,hin2,cond_false]
        rw [e1]
        refine hh.keep hS (λ cs vs q hc=>?_) (hm j ejk) far
        obtain ⟨y,rfl,hy⟩:=q
        refine CVl.mono hS _ m m' _ (λ i u hi e=>⟨u,?_,.refl u⟩) hc
        rw [hm i (λ e=>?_)]
        ·exact e
        ·subst e
         simp only [nnl,Bool.and_true] at hi
         rw [hy _ hi] at hin2; cases hin2
       | true =>
        have e1:aG0 k s xs (.nrow e' s' ks ys)=.nrow e' s' (rmN k ks) (kC (aCY k s xs) ys):=by simp only [aG0,hin2,cond_true]
        rw [e1]
        refine ⟨hh.1.mapA _ (hm j ejk) (λ u g hu hg=>(far u g hu hg).2) (λ _ _ _ y _ _ v hv=>?_),hh.2.mapA (λ y i hy hn=>aCk (hy i (aG1 hn).1) (aG1 hn).2)⟩
        rw [bN (by omega)] at hv ⊢
        have gen:∀ y,nn k y=true->CV S y m v->CV S' y m' v:=λ y hy hv=>CV.mono hS y m m' v (λ i u hi e=>⟨u,by
         rw [hm i (λ e=>by subst e; rw [hy] at hi; cases hi)]; exact e,.refl u⟩) hv
        cases y with
        | rw i s2 n =>
         simp only [aCY]
         split
         ·rename_i hik
          subst hik
          split
          ·rename_i hq
           obtain ⟨rfl,hq⟩:=hq
           have h9:=hkk n v hv
           simp only [CV] at h9 ⊢
           obtain ⟨⟨A1,c1,e3,g1,g2,g3,g4⟩,_⟩:=h9.2 hq
           exact ⟨A1,c1,e3,g1,g2,(λ q=>by cases q),g3,g4⟩
          ·simp only [CV]
         ·rename_i hik
          exact gen _ (by simp only [nn]; rw [nbeq_ne hik]; rfl) hv
        | _=>simp only [aCY]; exact aWf λ hq=>gen _ hq hv
      | tok e' s' n'=>exact hh.keep hS (λ cs vs q=>q.elim) (hm j ejk) far
      | mp kt et l=>exact hh.keep hS (λ cs vs q=>q.elim) (hm j ejk) far
      | gone=>exact hh.keep hS (λ cs vs q=>q.elim) (hm j ejk) far
   ·intro j j' b b' u u' g hj hj' hne hu hu' hg hg'
    obtain ⟨b0,hb0⟩:=hlk j b hj
    obtain ⟨b1,hb1⟩:=hlk j' b' hj'
    obtain ⟨u0,hu0,hg0⟩:=hbm j u g ⟨b0,hb0⟩ hu hg
    obtain ⟨u1,hu1,hg1⟩:=hbm j' u' g ⟨b1,hb1⟩ hu' hg'
    exact h.inj j j' b0 b1 u0 u1 g hb0 hb1 hne hu0 hu1 hg0 hg1
   ·intro j b u g hj hu hg
    obtain ⟨b0,hb0⟩:=hlk j b hj
    obtain ⟨u0,hu0,hg0⟩:=hbm j u g ⟨b0,hb0⟩ hu hg
    exact h.own j b0 u0 g hb0 hu0 hg0
   ·intro j u hj
    obtain ⟨u',hu',hg⟩:=h.m0 j u hj
    have:j≠k:=λ e=>gZ hin (e ▸ h.keep j u hj)
    exact ⟨u',by rw [hm j this]; exact hu',hg⟩
 ·exact H.elim
def uC:LL->(LL->Prop)->Prop
 | [],k=>k []
 | x::xs,k=>eE x λ y=>uC xs λ l=>k (y::l)
theorem lA:∀ (xs:LL) (k:LL->Prop),uC xs k->∃ ys,k ys∧ys.length=xs.length∧∀ (j:Nat) (x y:List AV),xs[j]?=some x->ys[j]?=some y->∀ S m vs,CVl S x m vs->CVl S y dE vs
 | [],k,h=>⟨[],h,rfl,λ j x y e=>by simp at e⟩
 | x::xs,k,h=>by
  simp only [uC] at h
  obtain ⟨y,h1,h2⟩:=cO x _ h
  obtain ⟨l,h3,h4,h5⟩:=lA xs _ h1
  refine ⟨_,h3,by simp [h4],λ j a b e1 e2=>?_⟩
  cases j with
  | zero=>simp at e1 e2; subst e1; subst e2; exact h2
  | succ j=>simp at e1 e2; exact h5 j a b e1 e2
def aNf (st:St) (k:Nat) (K:St->Prop):Prop:=match lk st.heap k with
 | some (.row e s xs)=>cond (Nat.blt e 1000000) (K (st.blk k (.row (Nat.add e 2000000) s xs))) (K st)
 | _=>K st
theorem aAR (h:Rel G kp st a w S m) {k:Nat} {K:St->Prop} (H:aNf st k K):∃ st',K st'∧Rel G kp st' a w S m:=by
 unfold aNf at H
 split at H
 ·rename_i e s xs hk
  cases hb:Nat.blt e 1000000 with
  | false=>rw [hb] at H; exact ⟨st,H,h⟩
  | true =>
   rw [hb] at H
   have he:e < 1000000:=aK hb
   refine ⟨_,H,h.weaken (λ t v hv=>hv) (λ j b hj=>?_)⟩
   simp only [St.blk,bS] at hj
   by_cases ej:j=k
   ·subst ej
    rw [if_pos rfl] at hj
    injection hj with hj
    subst hj
    refine ⟨⟨_,hk⟩,?_⟩
    obtain ⟨A,c,p1,p2,p3,p4⟩:=h.held j _ hk
    refine ⟨A,c,p1,p2,p3,?_⟩
    rcases p4 with p4 | ⟨g,cur,fr,rfl,p5,p6,p7,p8,p9⟩
    ·exact .inl p4
    ·refine .inr ⟨g,cur,fr,rfl,?_,.inl (p6.lt he),p7,p8,λ q y hy=>⟨(p9 q y hy).1,λ i z hz=>?_⟩⟩
     ·rw [show Nat.add e 2000000=e+2000000 from rfl,lC,← cA he]; exact p5
     ·obtain ⟨v,hv,ho,hc⟩:=(p9 q y hy).2 i z hz
      rw [bG (show e < 2000000 by omega)] at hc
      rw [bN (show ¬ Nat.add e 2000000 < 2000000 by show ¬ e+2000000 < 2000000; omega)]
      exact ⟨v,hv,ho,hc.ext (Ext.refl S) (MLe.no m)⟩
   ·rw [if_neg ej] at hj
    exact ⟨⟨_,hj⟩,h.held j b hj⟩
 ·exact ⟨st,H,h⟩
def nzA:AV->AV
 | .nils=>.sl 1 false []
 | x=>x
def aV2 (st:St) (k:Nat) (K:St->Prop):Prop:=match lk st.heap k with
 | some (.row e s xs)=>cond (Nat.blt e 1000000) (K (st.blk k (.row e s (xs.map λ x=>x.map nzA)))) (K st)
 | _=>K st
theorem aRz:∀ {x:AV} {v:Value},CV S x m v->CV S (nzA x) m v:=λ {x v} h=>by
 cases x with
 | nils =>
  simp only [CV] at h
  subst h
  simp only [nzA,CV]
  exact ⟨none,0,rfl,Nat.le_refl 0,Nat.zero_le _,(λ e=>by cases e),λ _=>rfl,λ a e=>by cases e⟩
 | _=>exact h
theorem aDN (h:Rel G kp st a w S m) {k:Nat} {K:St->Prop} (H:aV2 st k K):∃ st',K st'∧Rel G kp st' a w S m:=by
 unfold aV2 at H
 split at H
 ·rename_i e s xs hk
  cases hb:Nat.blt e 1000000 with
  | false=>rw [hb] at H; exact ⟨st,H,h⟩
  | true =>
   rw [hb] at H
   refine ⟨_,H,h.weaken (λ t v hv=>hv) (λ j b hj=>?_)⟩
   simp only [St.blk,bS] at hj
   by_cases ej:j=k
   ·subst ej
    rw [if_pos rfl] at hj
    injection hj with hj
    subst hj
    refine ⟨⟨_,hk⟩,?_⟩
    obtain ⟨A,c,p1,p2,p3,p4⟩:=h.held j _ hk
    refine ⟨A,c,by rw [List.length_map]; exact p1,by rw [List.length_map]; exact p2,p3,?_⟩
    rcases p4 with p4 | ⟨g,cur,fr,rfl,p5,p6,p7,p8,p9⟩
    ·exact .inl p4
    ·refine .inr ⟨g,cur,fr,rfl,p5,p6,p7,p8,λ q y hy=>?_⟩
     rw [List.getElem?_map] at hy
     cases hq:xs[q]? with
     | none=>rw [hq] at hy; cases hy
     | some y0 =>
      rw [hq] at hy
      simp only [Option.map_some,aJ] at hy
      subst hy
      refine ⟨by rw [List.length_map]; exact (p9 q y0 hq).1,λ i z hz=>?_⟩
      rw [List.getElem?_map] at hz
      cases hi:y0[i]? with
      | none=>rw [hi] at hz; cases hz
      | some z0 =>
       rw [hi] at hz
       simp only [Option.map_some,aJ] at hz
       subst hz
       obtain ⟨v,hv,ho,hc⟩:=(p9 q y0 hq).2 i z0 hi
       exact ⟨v,hv,ho,aRz hc⟩
   ·rw [if_neg ej] at hj
    exact ⟨⟨_,hj⟩,h.held j b hj⟩
 ·exact ⟨st,H,h⟩
def aDc (st:St) (k:Nat) (K:St->Prop):Prop:=match lk st.heap k with
 | some (.row e s xs)=>cond (Nat.blt e 2000000) (K st) (cond (Nat.blt e 3000000) (uC xs λ xs'=>K (st.blk k (.row (Nat.sub e 2000000) s xs'))) False)
 | _=>K st
theorem oB (h:Rel G kp st a w S m) {k:Nat} {K:St->Prop} (H:aDc st k K):∃ st',K st'∧Rel G kp st' a w S m:=by
 unfold aDc at H
 split at H
 ·rename_i e s xs hk
  cases hb:Nat.blt e 2000000 with
  | true=>rw [hb] at H; exact ⟨st,H,h⟩
  | false =>
   rw [hb] at H
   have he:¬ e < 2000000:=λ q=>by
    have:Nat.blt e 2000000=true:=Nat.ble_eq_true_of_le q
    rw [hb] at this; cases this
   obtain ⟨h3,H⟩:=aW H
   have h3:e < 3000000:=aK h3
   obtain ⟨ys,h1,h2,h4⟩:=lA _ _ H
   refine ⟨_,h1,h.weaken (λ t v hv=>hv) (λ j b hj=>?_)⟩
   simp only [St.blk,bS] at hj
   by_cases ej:j=k
   ·subst ej
    rw [if_pos rfl] at hj
    injection hj with hj
    subst hj
    refine ⟨⟨_,hk⟩,?_⟩
    obtain ⟨A,c,p1,p2,p3,p4⟩:=h.held j _ hk
    have hsub:Nat.sub e 2000000=e - 2000000:=rfl
    rw [hsub]
    refine ⟨A,c,by rw [h2]; exact p1,by rw [h2]; exact p2,p3,?_⟩
    rcases p4 with p4 | ⟨g,cur,fr,rfl,p5,p6,p7,p8,p9⟩
    ·exact .inl p4
    ·have hfr:fr=(0,0):=p6.resolve_right (by omega)
     have hty:gF e=gF (e - 2000000):=by unfold gF; rw [if_neg (by omega),if_neg he,if_pos (by omega)]
     rw [hty] at p5
     refine .inr ⟨g,cur,fr,rfl,p5,.inl hfr,p7,p8,λ q y hy=>?_⟩
     have hq:q < xs.length:=by have:=(aF.1 hy).1; omega
     have hx:xs[q]?=some xs[q]:=aD hq
     obtain ⟨r1,r2⟩:=p9 q _ hx
     rw [bN he] at r2
     have hle:q*s+s≤cur.size:=by rw [p7,← Nat.succ_mul]; exact Nat.mul_le_mul_right s (by omega)
     have hcv:CVl S xs[q] m ((cur.toList.drop (q*s)).take s):=CVl.mk (by rw [r1,List.length_take,List.length_drop,Array.length_toList]; omega) (λ i y v e1 e2=>by
      obtain ⟨u,hu,_,hy⟩:=r2 i y e1
      rw [List.getElem?_take] at e2
      split at e2
      ·rw [List.getElem?_drop] at e2
       have:cur[q*s+i]?=some v:=by simpa using e2
       rw [hu] at this
       injection this with this
       subst this; exact hy
      ·cases e2)
     have hcn:=h4 q _ _ hx hy S m _ hcv
     have hyl:y.length=s:=by have e1:=hcn.len; have e2:=hcv.len; omega
     refine ⟨hyl,λ i z hz=>?_⟩
     obtain ⟨v,hv,hzv⟩:=hcn.get hz
     have hi:i < s:=by have:=(aF.1 hz).1; omega
     obtain ⟨u,hu,hone,_⟩:=r2 i _ (aD (show i < (xs[q]).length by omega))
     rw [List.getElem?_take,if_pos hi,List.getElem?_drop] at hv
     have hv:cur[q*s+i]?=some v:=by simpa using hv
     rw [hu] at hv
     injection hv with hv
     subst hv
     rw [bG (show e - 2000000 < 2000000 by omega)]
     exact ⟨u,hu,hone,hzv⟩
   ·rw [if_neg ej] at hj
    exact ⟨⟨b,hj⟩,h.held j b hj⟩
 ·exact ⟨st,H,h⟩
open Go.RowKit (Below)
mutual
def rnA (f:Nat->Option Nat):AV->(AV->Prop)->Prop
 | .rw j s n,k=>match f j with | some i=>k (.rw i s n) | none=>False
 | .mw j s q eo n b,k=>match f j with | some i=>k (.mw i s q eo n b) | none=>False
 | .prw j s q p fo,k=>match f j with | some i=>k (.prw i s q p fo) | none=>False
 | .agg cs,k=>rnL f cs λ l=>k (.agg l)
 | .tup cs,k=>rnL f cs λ l=>k (.tup l)
 | .fn g cs,k=>rnL f cs λ l=>k (.fn g l)
 | .acc _ s ys,k=>k (.sl s false ys)
 | .frz _ s n ys,k=>chk (n=ys.length) (k (.sl s false ys))
 | .ptr j o,k=>match f j with | some i=>k (.ptr i o) | none=>False
 | .mpv j,k=>match f j with | some i=>k (.mpv i) | none=>False
 | .ms j o n c s,k=>match f j with | some i=>k (.ms i o n c s) | none=>False
 | .int q n,k=>k (.int q n)
 | .bool b,k=>k (.bool b)
 | .str b,k=>k (.str b)
 | .sl s b ys,k=>k (.sl s b ys)
 | .nils,k=>k .nils
 | .ro cs,k=>k (.ro cs)
 | .nilp,k=>k .nilp
 | .undef,k=>k .undef
 | .dead,k=>k .dead
def rnL (f:Nat->Option Nat):List AV->(List AV->Prop)->Prop
 | [],k=>k []
 | x::xs,k=>rnA f x λ y=>rnL f xs λ l=>k (y::l)
end
def Rn (f:Nat->Option Nat) (m m':Nm):Prop:=∀ i j,f i=some j->m' j=m i
mutual
theorem lF {f:Nat->Option Nat}:∀ (x:AV) (k:AV->Prop),rnA f x k->∃ y,k y∧∀ S m m' v,Rn f m m'->CV S x m v->CV S y m' v
 | .rw j s n,k,h=>by
  simp only [rnA] at h
  split at h
  ·rename_i i hi
   refine ⟨_,h,λ S m m' v hf hv=>?_⟩
   simp only [CV] at hv ⊢
   rw [hf j i hi]; exact hv
  ·exact h.elim
 | .mpv j,k,h=>by
  simp only [rnA] at h
  split at h
  ·rename_i i hi
   refine ⟨_,h,λ S m m' v hf hv=>?_⟩
   simp only [CV] at hv ⊢
   rw [hf j i hi]; exact hv
  ·exact h.elim
 | .mw j s q eo n b,k,h=>by
  simp only [rnA] at h
  split at h
  ·rename_i i hi
   refine ⟨_,h,λ S m m' v hf hv=>?_⟩
   simp only [CV] at hv ⊢
   rw [hf j i hi]; exact hv
  ·exact h.elim
 | .prw j s q p fo,k,h=>by
  simp only [rnA] at h
  split at h
  ·rename_i i hi
   refine ⟨_,h,λ S m m' v hf hv=>?_⟩
   simp only [CV] at hv ⊢
   rw [hf j i hi]; exact hv
  ·exact h.elim
 | .ptr j o,k,h=>by
  simp only [rnA] at h
  split at h
  ·rename_i i hi
   refine ⟨_,h,λ S m m' v hf hv=>?_⟩
   simp only [CV] at hv ⊢
   rw [hf j i hi]; exact hv
  ·exact h.elim
 | .ms j o n c s,k,h=>by
  simp only [rnA] at h
  split at h
  ·rename_i i hi
   refine ⟨_,h,λ S m m' v hf hv=>?_⟩
   simp only [CV] at hv ⊢
   rw [hf j i hi]; exact hv
  ·exact h.elim
 | .agg cs,k,h=>by
  simp only [rnA] at h
  obtain ⟨l,h1,h2⟩:=fA cs _ h
  refine ⟨_,h1,λ S m m' v hf hv=>?_⟩
  simp only [CV] at hv ⊢
  obtain ⟨us,e,hu⟩:=hv
  exact ⟨us,e,h2 S m m' _ hf hu⟩
 | .tup cs,k,h=>by
  simp only [rnA] at h
  obtain ⟨l,h1,h2⟩:=fA cs _ h
  refine ⟨_,h1,λ S m m' v hf hv=>?_⟩
  simp only [CV] at hv ⊢
  obtain ⟨us,e,hu⟩:=hv
  exact ⟨us,e,h2 S m m' _ hf hu⟩
 | .fn g cs,k,h=>by
  simp only [rnA] at h
  obtain ⟨l,h1,h2⟩:=fA cs _ h
  refine ⟨_,h1,λ S m m' v hf hv=>?_⟩
  simp only [CV] at hv ⊢
  obtain ⟨us,e,hu⟩:=hv
  exact ⟨us,e,h2 S m m' _ hf hu⟩
 | .acc j s ys,k,h=>by
  simp only [rnA] at h
  refine ⟨_,h,λ S m m' v hf hv=>?_⟩
  simp only [CV] at hv ⊢
  obtain ⟨⟨A,c,e,h1,h2,h3,h4⟩,_⟩:=hv
  exact ⟨A,c,e,h1,h2,(λ q=>by cases q),h3,h4⟩
 | .frz j s n ys,k,h=>by
  simp only [rnA] at h
  obtain ⟨hn,h'⟩:=aZ.1 h
  refine ⟨_,h',λ S m m' v hf hv=>?_⟩
  simp only [CV] at hv ⊢
  obtain ⟨⟨A,c,e,h1,h2,h3,h4⟩,_⟩:=hv.2 hn
  exact ⟨A,c,e,h1,h2,(λ q=>by cases q),h3,h4⟩
 | .int q n,k,h=>by simp only [rnA] at h; exact ⟨_,h,λ S m m' v hf hv=>by simp only [CV] at hv ⊢; exact hv⟩
 | .bool b,k,h=>by simp only [rnA] at h; exact ⟨_,h,λ S m m' v hf hv=>by simp only [CV] at hv ⊢; exact hv⟩
 | .str b,k,h=>by simp only [rnA] at h; exact ⟨_,h,λ S m m' v hf hv=>by simp only [CV] at hv ⊢; exact hv⟩
 | .sl s b ys,k,h=>by simp only [rnA] at h; exact ⟨_,h,λ S m m' v hf hv=>by simp only [CV] at hv ⊢; exact hv⟩
 | .nils,k,h=>by simp only [rnA] at h; exact ⟨_,h,λ S m m' v hf hv=>by simp only [CV] at hv ⊢; exact hv⟩
 | .ro cs,k,h=>by simp only [rnA] at h; exact ⟨_,h,λ S m m' v hf hv=>by simp only [CV] at hv ⊢; exact hv⟩
 | .nilp,k,h=>by simp only [rnA] at h; exact ⟨_,h,λ S m m' v hf hv=>by simp only [CV] at hv ⊢; exact hv⟩
 | .undef,k,h=>by simp only [rnA] at h; exact ⟨_,h,λ S m m' v hf hv=>by simp only [CV] at hv ⊢; exact hv⟩
 | .dead,k,h=>by simp only [rnA] at h; exact ⟨_,h,λ S m m' v hf hv=>by simp only [CV]⟩
theorem fA {f:Nat->Option Nat}:∀ (xs:List AV) (k:List AV->Prop),rnL f xs k->∃ l,k l∧∀ S m m' vs,Rn f m m'->CVl S xs m vs->CVl S l m' vs
 | [],k,h=>by
  simp only [rnL] at h
  exact ⟨_,h,λ S m m' vs hf hv=>by simp only [CVl] at hv ⊢; exact hv⟩
 | x::xs,k,h=>by
  simp only [rnL] at h
  obtain ⟨y,h1,h2⟩:=lF x _ h
  obtain ⟨l,h3,h4⟩:=fA xs _ h1
  refine ⟨_,h3,λ S m m' vs hf hv=>?_⟩
  simp only [CVl] at hv ⊢
  obtain ⟨u,us,e,hu,hus⟩:=hv
  exact ⟨u,us,e,h2 S m m' u hf hu,h4 S m m' us hf hus⟩
end
def aUH (f:Nat->Option Nat):LL->(LL->Prop)->Prop
 | [],k=>k []
 | x::xs,k=>rnL f x λ y=>aUH f xs λ ys=>k (y::ys)
theorem sI {f:Nat->Option Nat}:∀ (xs:LL) (k:LL->Prop),aUH f xs k->∃ ys,k ys∧ys.length=xs.length∧∀ (q:Nat) (x y:List AV),xs[q]?=some x->ys[q]?=some y->∀ S m m' vs,Rn f m m'->CVl S x m vs->CVl S y m' vs
 | [],k,h=>⟨[],h,rfl,λ q x y e=>by simp at e⟩
 | x::xs,k,h=>by
  simp only [aUH] at h
  obtain ⟨y,h1,h2⟩:=fA x _ h
  obtain ⟨ys,h3,h4,h5⟩:=sI xs _ h1
  refine ⟨_,h3,by simp [h4],λ q a b e1 e2=>?_⟩
  cases q with
  | zero=>simp at e1 e2; subst e1; subst e2; exact h2
  | succ q=>simp at e1 e2; exact h5 q a b e1 e2
def noN:AV->Bool
 | .int _ _=>true
 | .bool _=>true
 | .str _=>true
 | .sl _ _ _=>true
 | .nils=>true
 | .ro _=>true
 | .nilp=>true
 | .undef=>true
 | .dead=>true
 | _=>false
theorem aLw {x:AV} (h:noN x=true) (k:Nat):nn k x=true:=by cases x <;> first | rfl | cases h
def rnT (f:Nat->Option Nat):AV->AV
 | .rw j s n=>(match f j with | some i=>.rw i s n | none=>.dead)
 | x=>cond (noN x) x .dead
def aUI (f:Nat->Option Nat):List Nat->(List Nat->Prop)->Prop
 | [],k=>k []
 | j::l,k=>match f j with | some i=>aWF i λ i=>aUI f l λ l'=>k (i::l') | none=>False
def rnP:List Nat->List Nat->Nat->Option Nat
 | a::l,b::l',j=>cond (Nat.beq a j) (some b) (rnP l l' j)
 | _,_,_=>none
theorem sM {f:Nat->Option Nat}:∀ (l:List Nat) (k:List Nat->Prop),aUI f l k->∃ l',k l'∧(∀ j,inL j l=true->∃ i,rnP l l' j=some i∧inL i l'=true)∧∀ j i,rnP l l' j=some i->f j=some i
 | [],k,h=>⟨[],h,(λ j h=>by cases h),(λ j i h=>by cases h)⟩
 | a::l,k,h=>by
  simp only [aUI] at h
  split at h
  ·rename_i i hi
   rw [aG5] at h
   obtain ⟨l',h1,h2,h5⟩:=sM l _ h
   refine ⟨_,h1,λ j hj=>?_,λ j i' hj=>?_⟩
   ·simp only [rnP]
    cases ha:Nat.beq a j with
    | true=>exact ⟨i,rfl,by simp only [inL,aY,Bool.true_or]⟩
    | false =>
     simp only [inL,ha,Bool.false_or] at hj
     obtain ⟨i',h3,h4⟩:=h2 j hj
     exact ⟨i',h3,by simp only [inL,h4,Bool.or_true]⟩
   ·simp only [rnP] at hj
    cases ha:Nat.beq a j with
    | true =>
     rw [ha] at hj
     simp only [cond_true,aJ] at hj
     have:=aA ha
     subst this; subst hj; exact hi
    | false=>rw [ha] at hj; exact h5 j i' hj
  ·exact h.elim
theorem aRD {x:AV} {S:Pin} {m:Nm} {v:Value} (h:noN x=true->CV S x m v):CV S (cond (noN x) x .dead) m v:=by
 cases q:noN x with
 | true=>exact h q
 | false=>simp only [cond_false,CV]
theorem aRC {x:AV} {k:Nat}:nn k (cond (noN x) x .dead)=true:=by
 cases q:noN x with
 | true=>exact aLw q k
 | false=>rfl
theorem aQW {f:Nat->Option Nat} {ks ks':List Nat} (h:∀ j,inL j ks=true->∃ i,f j=some i∧inL i ks'=true) (y:AV) (k:Nat) (hy:∀ j,nn j y=false->inL j ks=true) (hk:nn k (rnT f y)=false):inL k ks'=true:=by
 cases y with
 | rw j s n =>
  obtain ⟨i,h1,h2⟩:=h j (hy j (by simp only [nn,aY]; rfl))
  simp only [rnT,h1] at hk
  simp only [nn,Bool.not_eq_false'] at hk
  have:=aA hk
  subst this; exact h2
 | _=>rw [show ∀ z,nn k (rnT f z)=nn k (rnT f z) from λ _=>rfl] at hk; simp only [rnT] at hk; rw [aRC] at hk; cases hk
theorem aQX {f:Nat->Option Nat} {S:Pin} {m m':Nm} (hf:Rn f m m') (y:AV) (v:Value) (hv:CV S y m v):CV S (rnT f y) m' v:=by
 cases y with
 | rw j s n =>
  simp only [rnT]
  split
  ·rename_i i hi
   simp only [CV] at hv ⊢
   rw [hf j i hi]; exact hv
  ·simp only [CV]
 | _=>simp only [rnT]; exact aRD λ hq=>CV.mono (Ext.refl S) _ m m' v (λ i u hi e=>by rw [aLw hq] at hi; cases hi) hv
def rnB (f:Nat->Option Nat):Blk->(Blk->Prop)->Prop
 | .cells cs,k=>rnL f cs λ l=>k (.cells l)
 | .row e s xs,k=>cond (Nat.blt e 2000000) (k (.row e s xs)) (aUH f xs λ ys=>k (.row e s ys))
 | .tok e s n,k=>k (.tok e s n)
 | .mp kt et l,k=>k (.mp kt et l)
 | .nrow e s ks xs,k=>aUI f ks λ ks'=>k (.nrow e s ks' (kC (rnT (rnP ks ks')) xs))
 | .gone,k=>k .gone
theorem aFc {f:Nat->Option Nat} (b:Blk) (k:Blk->Prop) (h:rnB f b k):∃ b',k b'∧∀ S m m' w i j,Rn f m m'->f i=some j->fJ S m w i b->fJ S m' w j b':=by
 cases b with
 | cells cs =>
  simp only [rnB] at h
  obtain ⟨l,h1,h2⟩:=fA cs _ h
  refine ⟨_,h1,λ S m m' w i j hf hij hh=>?_⟩
  obtain ⟨g,arr,t,p1,p2,p3,p4⟩:=hh
  exact ⟨g,arr,t,by rw [hf i j hij]; exact p1,p2,h2 S m m' _ hf p3,p4⟩
 | row e s xs =>
  simp only [rnB] at h
  cases hb:Nat.blt e 2000000 with
  | true =>
   rw [hb] at h
   have he:e < 2000000:=aK hb
   refine ⟨_,h,λ S m m' w i j hf hij hh=>?_⟩
   obtain ⟨A,c,p1,p2⟩:=hh
   rw [bG he] at p2
   exact ⟨A,c,by rw [hf i j hij]; exact p1,by rw [bG he]; exact p2⟩
  | false =>
   rw [hb] at h
   have he:¬ e < 2000000:=λ q=>by
    have:Nat.blt e 2000000=true:=Nat.ble_eq_true_of_le q
    rw [hb] at this; cases this
   obtain ⟨ys,h1,h2,h4⟩:=sI _ _ h
   refine ⟨_,h1,λ S m m' w i j hf hij hh=>?_⟩
   obtain ⟨A,c,p1,p2,p3,p4⟩:=hh
   refine ⟨A,c,by rw [hf i j hij,h2]; exact p1,by rw [h2]; exact p2,p3,?_⟩
   rcases p4 with p4 | ⟨g,cur,fr,rfl,p5,p6,p7,p8,p9⟩
   ·exact .inl p4
   ·refine .inr ⟨g,cur,fr,rfl,p5,p6,p7,p8,λ q y hy=>?_⟩
    have hq:q < xs.length:=by have:=(aF.1 hy).1; omega
    have hx:xs[q]?=some xs[q]:=aD hq
    obtain ⟨r1,r2⟩:=p9 q _ hx
    rw [bN he] at r2
    have hle:q*s+s≤cur.size:=by rw [p7,← Nat.succ_mul]; exact Nat.mul_le_mul_right s (by omega)
    have hcv:CVl S xs[q] m ((cur.toList.drop (q*s)).take s):=CVl.mk (by rw [r1,List.length_take,List.length_drop,Array.length_toList]; omega) (λ i y v e1 e2=>by
     obtain ⟨u,hu,_,hy⟩:=r2 i y e1
     rw [List.getElem?_take] at e2
     split at e2
     ·rw [List.getElem?_drop] at e2
      have:cur[q*s+i]?=some v:=by simpa using e2
      rw [hu] at this
      injection this with this
      subst this; exact hy
     ·cases e2)
    have hcn:=h4 q _ _ hx hy S m m' _ hf hcv
    have hyl:y.length=s:=by have e1:=hcn.len; have e2:=hcv.len; omega
    refine ⟨hyl,λ i z hz=>?_⟩
    obtain ⟨v,hv,hzv⟩:=hcn.get hz
    have hi:i < s:=by have:=(aF.1 hz).1; omega
    obtain ⟨u,hu,hone,_⟩:=r2 i _ (aD (show i < (xs[q]).length by omega))
    rw [List.getElem?_take,if_pos hi,List.getElem?_drop] at hv
    have hv:cur[q*s+i]?=some v:=by simpa using hv
    rw [hu] at hv
    injection hv with hv
    subst hv
    rw [bN he]
    exact ⟨u,hu,hone,hzv⟩
 | gone =>
  refine ⟨_,h,λ S m m' w i j hf hij hh=>?_⟩
  obtain ⟨u,p1,p2⟩:=hh
  exact ⟨u,by rw [hf i j hij]; exact p1,p2⟩
 | nrow e s ks xs =>
  simp only [rnB] at h
  obtain ⟨ks',h1,h2,h5⟩:=sM _ _ h
  refine ⟨_,h1,λ S m m' w i j hf hij hh=>?_⟩
  have hf2:Rn (rnP ks ks') m m':=λ a b hab=>hf a b (h5 a b hab)
  refine ⟨hh.1.mapA _ (hf i j hij) (λ _ _ _ _ _=>rfl) (λ _ _ _ y _ _ v hv=>?_),hh.2.mapA λ y k hy hk=>aQW h2 y k hy hk⟩
  rw [bN (by omega)] at hv ⊢
  exact aQX hf2 y v hv
 | mp kt et l =>
  refine ⟨_,h,λ S m m' w i j hf hij hh=>?_⟩
  obtain ⟨g,D,p1,p2⟩:=hh
  exact ⟨g,D,by rw [hf i j hij]; exact p1,p2⟩
 | tok e s n =>
  refine ⟨_,h,λ S m m' w i j hf hij hh=>?_⟩
  obtain ⟨A,c,p1,p2⟩:=hh
  exact ⟨A,c,by rw [hf i j hij]; exact p1,p2⟩
def aPK (f:Nat->Option Nat):List Blk->(List Blk->Prop)->Prop
 | [],k=>k []
 | b::bs,k=>rnB f b λ c=>aPK f bs λ l=>k (c::l)
theorem gG {f:Nat->Option Nat}:∀ (bs:List Blk) (k:List Blk->Prop),aPK f bs k->∃ cs,k cs∧cs.length=bs.length∧∀ (q:Nat) (b c:Blk),bs[q]?=some b->cs[q]?=some c->∀ S m m' w i j,Rn f m m'->f i=some j->fJ S m w i b->fJ S m' w j c
 | [],k,h=>⟨[],h,rfl,λ q b c e=>by simp at e⟩
 | b::bs,k,h=>by
  simp only [aPK] at h
  obtain ⟨c,h1,h2⟩:=aFc b _ h
  obtain ⟨cs,h3,h4,h5⟩:=gG bs _ h1
  refine ⟨_,h3,by simp [h4],λ q b' c' e1 e2=>?_⟩
  cases q with
  | zero=>simp at e1 e2; subst e1; subst e2; exact h2
  | succ q=>simp at e1 e2; exact h5 q b' c' e1 e2
def idx (k:Nat):List Nat->Nat->Option Nat
 | [],_=>none
 | j::l,i=>cond (Nat.beq j k) (some i) (idx k l (i+1))
theorem mY {k:Nat}:∀ {l:List Nat} {i p:Nat},idx k l i=some p->i≤p∧l[p - i]?=some k
 | [],_,_,h=>by simp [idx] at h
 | j::l,i,p,h=>by
  simp only [idx] at h
  cases hj:Nat.beq j k with
  | true =>
   rw [hj] at h
   simp only [cond_true,aJ] at h
   subst h
   have:=aA hj
   subst this
   exact ⟨Nat.le_refl _,by simp⟩
  | false =>
   rw [hj] at h
   simp only [cond_false] at h
   obtain ⟨h1,h2⟩:=mY h
   refine ⟨by omega,?_⟩
   rw [show p - i=(p - (i+1))+1 by omega]; simpa using h2
mutual
def aLz:AV->List Nat
 | .rw j _ _=>[j]
 | .mw j _ _ _ _ _=>[j]
 | .prw j _ _ _ _=>[j]
 | .ptr j _=>[j]
 | .ms j _ _ _ _=>[j]
 | .mpv j=>[j]
 | .agg cs=>aLy cs
 | .tup cs=>aLy cs
 | .fn _ cs=>aLy cs
 | _=>[]
def aLy:List AV->List Nat
 | []=>[]
 | x::xs=>aLz x++aLy xs
end
def jG:List Nat->List Nat->List Nat
 | [],acc=>acc
 | k::l,acc=>cond (inL k acc) (jG l acc) (jG l (acc++[k]))
theorem dU:∀ (l acc:List Nat),acc.Nodup->(jG l acc).Nodup
 | [],acc,h=>h
 | k::l,acc,h=>by
  simp only [jG]
  cases hk:inL k acc with
  | true=>exact dU l acc h
  | false =>
   refine dU l _ ?_
   rw [List.nodup_append]
   refine ⟨h,by simp,λ a ha b hb=>?_⟩
   simp at hb
   subst hb
   rintro rfl
   exact gZ hk ha
def aXM:Blk->List Nat
 | .cells cs=>aLy cs
 | .row e _ xs=>cond (Nat.blt e 2000000) [] (xs.flatMap aLy)
 | .nrow _ _ ks _=>ks
 | _=>[]
def aIR (h:Nat->Option Blk):Nat->List Nat->List Nat
 | 0,ks=>ks
 | n+1,ks=>aIR h n (jG (ks.flatMap λ k=>match h k with | some b=>aXM b | none=>[]) ks)
theorem jW (h:Nat->Option Blk):∀ (n:Nat) (ks:List Nat),ks.Nodup->(aIR h n ks).Nodup
 | 0,ks,hk=>hk
 | n+1,ks,hk=>jW h n _ (dU _ _ hk)
def zJ (h:Nat->Option Blk):List Nat->(List Blk->Prop)->Prop
 | [],k=>k []
 | i::is,k=>match h i with | some b=>zJ h is λ l=>k (b::l) | none=>False
theorem fR {h:Nat->Option Blk}:∀ (ks:List Nat) (k:List Blk->Prop),zJ h ks k->∃ bs,k bs∧bs.length=ks.length∧∀ (q i:Nat),ks[q]?=some i->∃ b,bs[q]?=some b∧h i=some b
 | [],k,H=>⟨[],H,rfl,λ q i e=>by simp at e⟩
 | j::is,k,H=>by
  simp only [zJ] at H
  split at H
  ·rename_i b hb
   obtain ⟨bs,h1,h2,h3⟩:=fR is _ H
   refine ⟨_,h1,by simp [h2],λ q i e=>?_⟩
   cases q with
   | zero=>simp at e; subst e; exact ⟨b,rfl,hb⟩
   | succ q=>simp at e; obtain ⟨c,hc,hd⟩:=h3 q i e; exact ⟨c,by simpa using hc,hd⟩
  ·exact H.elim
open Go.RowKit (Below)
def tP:List Nat->List Blk->List (Nat × Blk)
 | k::ks,b::bs=>(k,b)::tP ks bs
 | _,_=>[]
theorem gS:∀ (l:List Nat) (cs:List Blk) (st:St) (k:Nat),k ∉ l->lk (st.blks (tP l cs)).heap k=lk st.heap k
 | [],cs,st,k,_=>by cases cs <;> rfl
 | j::l,[],st,k,_=>rfl
 | j::l,b::cs,st,k,h=>by
  simp only [List.mem_cons,not_or] at h
  simp only [tP,St.blks]
  rw [gS l cs _ k h.2]
  simp only [St.blk,bS]
  rw [if_neg h.1]
theorem aB2:∀ (l:List Nat) (cs:List Blk) (st:St) (q k:Nat) (b:Blk),l.Nodup->l[q]?=some k->cs[q]?=some b->lk (st.blks (tP l cs)).heap k=some b
 | [],cs,st,q,k,b,_,e,_=>by simp at e
 | j::l,[],st,q,k,b,_,_,e=>by simp at e
 | j::l,c::cs,st,q,k,b,hn,e1,e2=>by
  rw [List.nodup_cons] at hn
  simp only [tP,St.blks]
  cases q with
  | zero =>
   simp at e1 e2
   subst e1; subst e2
   rw [gS l cs _ j hn.1]
   simp only [St.blk,bS,if_true]
  | succ q =>
   simp at e1 e2
   exact aB2 l cs _ q k b hn.2 e1 e2
theorem rW:∀ (l:List Nat) (cs:List Blk) (p:Nat × Blk),p ∈ tP l cs->p.1 ∈ l
 | [],cs,p,h=>by cases cs <;> simp [tP] at h
 | j::l,[],p,h=>by simp [tP] at h
 | j::l,c::cs,p,h=>by
  simp only [tP,List.mem_cons] at h
  rcases h with rfl | h
  ·simp
  ·exact aN _ (rW l cs p h)
theorem aDf:∀ (u:List (Nat × Blk)) (st:St) (t:Nat),(st.blks u).get t=st.get t
 | [],st,t=>rfl
 | (i,b)::u,st,t=>by simp only [St.blks]; rw [aDf u]; rfl
theorem Rel.callH {G:Gh} {kp:List Nat} {st:St} {a:Act} {w:World} {S:Pin} {m:Nm} (h:Rel G kp st a w S m) {ks nw:List Nat} {cs:List Blk} (hnd:(ks++nw).Nodup)
  (hks:∀ k,k ∈ ks->∃ b,lk st.heap k=some b) (hfr:∀ k,k ∈ nw->fresh kp st k=true) (hlen:cs.length=(ks++nw).length) {w':World} {S':Pin} {m':Nm}
  (hos:w'.os=w.os) (htp:w'.tape=w.tape) (hou:w'.output=w.output) (hsz:w.heap.size≤w'.heap.size) (hS:Ext S S')
  (hfm:∀ b,b < w.heap.size->(¬ ∃ k u,k ∈ ks∧m k=some u∧bk u=some b)->w'.heap[b]?=w.heap[b]?∧∀ o,S' b o=S b o) (hA:dX S' w')
  (hheld:∀ (q k:Nat) (b:Blk),(ks++nw)[q]?=some k->cs[q]?=some b->fJ S' m' w' k b)
  (hold:∀ k,k ∉ ks->k ∉ nw->m' k=m k) (hmle:∀ k,k ∈ ks->∀ u,m k=some u->∃ u',m' k=some u'∧rM u u')
  (hinj:∀ k k' u u' g,k ∈ ks++nw->k' ∈ ks++nw->k≠k'->m' k=some u->m' k'=some u'->bk u=some g->bk u'≠some g)
  (hown:∀ k u g,k ∈ ks++nw->m' k=some u->bk u=some g->w.heap.size≤g∨∃ j v,j ∈ ks∧m j=some v∧bk v=some g) :
  Rel G kp (st.blks (tP (ks++nw) cs)) a w' S' m':=by
 have hin:∀ k,k ∈ ks++nw->∃ (q:Nat) (b:Blk),(ks++nw)[q]?=some k∧cs[q]?=some b∧lk (st.blks (tP (ks++nw) cs)).heap k=some b:=by
  intro k hk
  obtain ⟨q,hq⟩:=List.getElem?_of_mem hk
  have hl:q < cs.length:=by rw [hlen]; exact (aF.1 hq).1
  exact ⟨q,cs[q],hq,by simp [hl],aB2 _ _ _ q k _ hnd hq (by simp [hl])⟩
 have hgoes:∀ k,(k ∈ nw->False)->∀ u,m k=some u->∃ u',m' k=some u'∧rM u u':=by
  intro k hk u hu
  by_cases e:k ∈ ks
  ·exact hmle k e u hu
  ·exact ⟨u,by rw [hold k e hk]; exact hu,.refl u⟩
 have hM:∀ b,(∃ k u,k ∈ ks∧m k=some u∧bk u=some b)->G.w0.heap.size≤b∨G.M b:=by
  rintro b ⟨k,u,hk,hu,hb⟩
  obtain ⟨c,hc⟩:=hks k hk
  exact h.own k c u b hc hu hb
 refine { h with defers:=h.defers,pin0:=h.pin0.trans hS,pinNew:=?_,agree:=hA,tmps:=?_,held:=?_,inj:=?_,own:=?_,os:=hos.trans h.os,tape:=htp.trans h.tape,output:=hou.trans h.output,size:=Nat.le_trans h.size hsz,frame:=?_,m0:=?_ }
 ·intro b o h1 h2
  have hn:¬ ∃ k u,k ∈ ks∧m k=some u∧bk u=some b:=λ q=>by
   rcases hM b q with h3 | h3
   ·omega
   ·exact h2 h3
  exact ((hfm b (Nat.lt_of_lt_of_le h1 h.size) hn).2 o).trans (h.pinNew b o h1 h2)
 ·intro t
  rw [aDf]
  refine CV.mono hS _ m m' _ (λ k u hk hu=>hgoes k (λ hq=>?_) u hu) (h.tmps t)
  have:=qH (hfr k hq) t
  rw [hk] at this; cases this
 ·intro k b hk
  by_cases e:k ∈ ks++nw
  ·obtain ⟨q,c,h1,h2,h3⟩:=hin k e
   rw [hk] at h3
   injection h3 with h3
   subst h3
   exact hheld q k b h1 h2
  ·rw [gS _ _ _ _ e] at hk
   simp only [List.mem_append,not_or] at e
   refine (h.held k b hk).keep hS (λ ds vs hb hv=>?_) (hold k e.1 e.2) (λ u g hu hg=>?_)
   ·refine CVl.mono hS ds m m' vs (λ j u hj hu=>hgoes j (λ hq=>?_) u hu) hv
    have hf:=hfr j hq
    simp only [fresh,aC] at hf
    have:=aFT (uZ hf.1.2 hk (λ q=>e.2 (q ▸ hq))) hb
    rw [hj] at this; cases this
   ·refine hfm g ((h.held k b hk).lt hu hg) ?_
    rintro ⟨j,v,hj,hv,hb⟩
    obtain ⟨c,hc⟩:=hks j hj
    exact h.inj j k c b v u g hc hk (λ q=>e.1 (q ▸ hj)) hv hu hb hg
 ·intro k k' b b' u u' g hk hk' hne hu hu' hg hg'
  by_cases e:k ∈ ks++nw
  ·by_cases e':k' ∈ ks++nw
   ·exact hinj k k' u u' g e e' hne hu hu' hg hg'
   ·rw [gS _ _ _ _ e'] at hk'
    simp only [List.mem_append,not_or] at e'
    rw [hold k' e'.1 e'.2] at hu'
    rcases hown k u g e hu hg with h1 | ⟨j,v,hj,hv,hb⟩
    ·have:=(h.held k' b' hk').lt hu' hg'; omega
    ·obtain ⟨c,hc⟩:=hks j hj
     exact h.inj j k' c b' v u' g hc hk' (λ q=>e'.1 (q ▸ hj)) hv hu' hb hg'
  ·rw [gS _ _ _ _ e] at hk
   simp only [List.mem_append,not_or] at e
   rw [hold k e.1 e.2] at hu
   by_cases e':k' ∈ ks++nw
   ·rcases hown k' u' g e' hu' hg' with h1 | ⟨j,v,hj,hv,hb⟩
    ·have:=(h.held k b hk).lt hu hg; omega
    ·obtain ⟨c,hc⟩:=hks j hj
     exact h.inj j k c b v u g hc hk (λ q=>e.1 (q ▸ hj)) hv hu hb hg
   ·rw [gS _ _ _ _ e'] at hk'
    simp only [List.mem_append,not_or] at e'
    rw [hold k' e'.1 e'.2] at hu'
    exact h.inj k k' b b' u u' g hk hk' hne hu hu' hg hg'
 ·intro k b u g hk hu hg
  by_cases e:k ∈ ks++nw
  ·rcases hown k u g e hu hg with h1 | h1
   ·exact .inl (Nat.le_trans h.size h1)
   ·exact hM g h1
  ·rw [gS _ _ _ _ e] at hk
   simp only [List.mem_append,not_or] at e
   rw [hold k e.1 e.2] at hu
   exact h.own k b u g hk hu hg
 ·intro b h1 h2
  have hn:¬ ∃ k u,k ∈ ks∧m k=some u∧bk u=some b:=λ q=>by
   rcases hM b q with h3 | h3
   ·omega
   ·exact h2 h3
  exact ((hfm b (Nat.lt_of_lt_of_le h1 h.size) hn).1).trans (h.frame b h1 h2)
 ·intro k u hu
  obtain ⟨v,hv,hg⟩:=h.m0 k u hu
  obtain ⟨v',hv',hg'⟩:=hgoes k (λ hq=>by
   have hf:=hfr k hq
   simp only [fresh,aC,Bool.not_eq_true'] at hf
   exact gZ hf.2 (h.keep k u hu)) v hv
  exact ⟨v',hv',hg.trans hg'⟩
open Go.RowKit (Below)
def aW9 (P:Program) (src dst:TypeId) (h:Nat->Option Blk) (hint:Bool) (x:AV) (K:AV->List Nat->Prop):Prop:=False
theorem aEg {P:Program} {E:Env} {nt:Nat} {o:Oper} {src dst:TypeId} {y:Operand} {ev:Operand->AV} {h:Nat->Option Blk} {hint:Bool} {K:AV->List Nat->Prop} (ho:o.op=.convert src dst y) (hd:cU nt o.dst=true)
  (H:aW9 P src dst h hint (ev y) K):∃ r rd,K r rd∧kU P E nt o ev h r [] rd:=by
 unfold aW9 at H
 exact H.elim
open Go.RowKit (Below)
def aWW (P:Program) (nm:Nat) (src dst:TypeId) (x:AV) (K:AV->List (Nat × Blk)->List Nat->Prop):Prop:=False
theorem aD6 {P:Program} {E:Env} {nt nm:Nat} {o:Oper} {src dst:TypeId} {y:Operand} {ev:Operand->AV} {h:Nat->Option Blk} {K:AV->List (Nat × Blk)->List Nat->Prop} (ho:o.op=.convert src dst y) (hd:cU nt o.dst=true)
  (H:aWW P nm src dst (ev y) K):∃ r b,K r [(nm,b)] []∧kU P E nt o ev h r [(nm,b)] []:=by
 unfold aWW at H
 exact H.elim
theorem aDJ {P:Program} {t:TypeId} {cs:List AV} {off:Nat} {r:AV} (h:rK P t (cs.drop off) r) :
  ∀ (us:Array Value) w S m,CVl S cs m us.toList->∃ v,(part t us off).run P w=.ok v w∧CV S r m v:=by
 rcases h with ⟨d,i,h1,h2,h3,h4,rfl⟩ | ⟨d,h1,h2,h3⟩
 ·refine λ us w S m hc=>⟨.agg (us.extract off (off+i.size)),?_,?_⟩
  ·simp [part,gE h1,h2,sH h3]
  ·simp only [CV]
   refine ⟨_,rfl,?_⟩
   have hl:=hc.len
   refine CVl.mk ?_ λ j x v e1 e2=>?_
   ·simp at h4 ⊢; simp at hl; omega
   ·rw [List.getElem?_take] at e1
    split at e1
    ·rename_i hj
     rw [List.getElem?_drop] at e1
     obtain ⟨v',hv',hx⟩:=hc.get e1
     have:v=v':=by
      simp only [Array.toList_extract,List.extract_eq_take_drop,List.getElem?_take,List.getElem?_drop] at e2
      rw [if_pos (by omega)] at e2
      exact Option.some.inj (e2.symm.trans hv')
     subst this; exact hx
    ·cases e1
 ·intro us w S m hc
  rw [List.getElem?_drop] at h3
  obtain ⟨v,hv,hx⟩:=hc.get h3
  refine ⟨v,?_,hx⟩
  have hv':us[off]?=some v:=by simpa using hv
  simp [part,gE h1,h2,hv']
def aW6 (P:Program) (E:Env) (d:Option Nat) (t:TypeId) (x i:AV) (K:AV->Prop):Prop :=
 match P.underlying t with
 | some (.array n e)=>(match x,P.info? e with
  | .agg cs,some inf=>aEn i λ j=>chk (0≤j∧j < n) (aA6 P E d e (cs.drop (j.toNat*inf.size)) K)
  | _,_=>False)
 | _=>False
theorem aEa {P:Program} {E:Env} {d:Option Nat} {o:Oper} {t:TypeId} {x i:Operand} {ev:Operand->AV} {K:AV->Prop} (ho:o.op=.index t x i) (h:aW6 P E d t (ev x) (ev i) K):∃ r,K r∧PG P o ev r:=by
 unfold aW6 at h
 split at h
 ·rename_i n e hd
  split at h
  ·rename_i cs inf hx hi
   obtain ⟨j,h,hj⟩:=cT h
   obtain ⟨hb,h⟩:=aZ.1 h
   obtain ⟨r,h1,h2⟩:=cP h
   refine ⟨r,h1,λ a w S m he=>?_⟩
   have hv:=he x (by simp [ho,Op.operands])
   have hu:=he i (by simp [ho,Op.operands])
   rw [hx] at hv
   simp only [CV] at hv
   obtain ⟨us,hv,hus⟩:=hv
   obtain ⟨q,hu⟩:=hj S m _ hu
   obtain ⟨z,h3,h4⟩:=aDJ h2 us w S m hus
   exact ⟨z,by simp [execOp,ho,hv,hu,Instr.index,asIntOf,run_underlying hd,hb,sizeOf,typeInfo,hi,h3],h4⟩
  ·exact h.elim
 ·exact h.elim
def aWV (P:Program) (src dst:TypeId) (x:AV) (h:Nat->Option Blk) (K:AV->List (Nat × Blk)->List Nat->Prop):Prop:=False
theorem aD5 {P:Program} {E:Env} {nt:Nat} {o:Oper} {src dst:TypeId} {y:Operand} {ev:Operand->AV} {h:Nat->Option Blk} {K:AV->List (Nat × Blk)->List Nat->Prop} (ho:o.op=.convert src dst y) (hd:cU nt o.dst=true)
  (H:aWV P src dst (ev y) h K):∃ r u rd,K r u rd∧(∀ p ∈ u,p.1 ∈ rd)∧kU P E nt o ev h r u rd:=by
 unfold aWV at H
 exact H.elim
open Go.Maps (Tidy IsMap int_keyed keyOf_int_mk)
variable {P:Program} {S:Pin} {m:Nm} {w:World} {a:Act} {G:Gh} {kp:List Nat} {st:St} {E:Env}
theorem oP (n:Int):∀ (l:List (Int × AV)) (q:Int),q ∈ (yJ l n).map Prod.fst->q≠n∧q ∈ l.map Prod.fst
 | [],q,h=>by simp [yJ] at h
 | (k,x)::l,q,h=>by
  simp only [yJ] at h
  by_cases e:k=n
  ·rw [decide_eq_true e] at h
   obtain ⟨h1,h2⟩:=oP n l q h
   exact ⟨h1,by simp only [List.map_cons,List.mem_cons]; exact .inr h2⟩
  ·rw [decide_eq_false e] at h
   simp only [cond_false,List.map_cons,List.mem_cons] at h
   rcases h with rfl | h
   ·exact ⟨e,by simp⟩
   ·obtain ⟨h1,h2⟩:=oP n l q h
    exact ⟨h1,by simp only [List.map_cons,List.mem_cons]; exact .inr h2⟩
theorem aA3 (n:Int):∀ {l:List (Int × AV)},(l.map Prod.fst).Nodup->((yJ l n).map Prod.fst).Nodup
 | [],_=>by simp [yJ]
 | (k,x)::l,h=>by
  simp only [List.map_cons,List.nodup_cons] at h
  simp only [yJ]
  by_cases e:k=n
  ·rw [decide_eq_true e]; exact aA3 n h.2
  ·rw [decide_eq_false e]
   simp only [cond_false,List.map_cons,List.nodup_cons]
   exact ⟨λ q=>h.1 (oP n l k q).2,aA3 n h.2⟩
theorem aNT {l:List (Int × AV)} (h:(l.map Prod.fst).Nodup) (n:Int) (x:AV):((aDQ l n x).map Prod.fst).Nodup:=by
 unfold aDQ
 simp only [List.map_cons,List.nodup_cons]
 exact ⟨λ q=>(oP n l n q).1 rfl,aA3 n h⟩
theorem yI {n:Int}:∀ {l:List (Int × AV)},n ∉ l.map Prod.fst->yJ l n=l
 | [],_=>rfl
 | (k,x)::l,h=>by
  simp only [List.map_cons,List.mem_cons,not_or] at h
  simp only [yJ]
  rw [decide_eq_false (λ e=>h.1 e.symm)]
  simp only [cond_false]
  rw [yI h.2]
theorem aCG (n:Int):∀ {l:List (Int × AV)},(l.map Prod.fst).Nodup->(yJ l n).length+(cond (oF l n).isSome 1 0)=l.length
 | [],_=>rfl
 | (k,x)::l,h=>by
  simp only [List.map_cons,List.nodup_cons] at h
  simp only [yJ,oF]
  by_cases e:k=n
  ·rw [decide_eq_true e]
   subst e
   simp only [cond_true]
   rw [yI h.1]
   rfl
  ·rw [decide_eq_false e]
   have:=aCG n h.2
   simp only [cond_false,List.length_cons]
   omega
theorem vM {n q:Int} (hq:q≠n):∀ (l:List (Int × AV)),oF (yJ l n) q=oF l q
 | []=>rfl
 | (k,x)::l=>by
  simp only [yJ,oF]
  by_cases e:k=n
  ·rw [decide_eq_true e,decide_eq_false (λ w=>hq (w.symm.trans e))]
   exact vM hq l
  ·rw [decide_eq_false e]
   simp only [cond_false,oF]
   rw [vM hq l]
theorem vL (l:List (Int × AV)) (n q:Int) (x:AV):oF (aDQ l n x) q=if n=q then some x else oF l q:=by
 unfold aDQ
 simp only [oF]
 by_cases e:n=q
 ·rw [decide_eq_true e,if_pos e]; rfl
 ·rw [decide_eq_false e,if_neg e]; exact vM (λ w=>e w.symm) l
def vK (l:List (Int × AV)) (n:Int):Int:=match oF l n with | some (.int _ z)=>z | _=>0
def aNU (l:List (Int × AV)) (n:Int):Bool:=match oF l n with | some (.bool b)=>b | _=>false
def aXP (l:List (Int × AV)) (n:Int):Bool:=(oF l n).isSome
def pU (P:Program) (t:TypeId):Bool:=match P.underlying t with | some (.int .i64)=>true | _=>false
def aUT (P:Program) (t:TypeId):Bool:=match P.underlying t with | some .bool=>true | _=>false
theorem dG {t:TypeId} (h:pU P t=true):P.underlying t=some (.int .i64):=by
 unfold pU at h
 split at h
 ·rename_i e; exact e
 ·cases h
theorem vP {t:TypeId} (h:aUT P t=true):P.underlying t=some .bool:=by
 unfold aUT at h
 split at h
 ·rename_i e; exact e
 ·cases h
def kOk (P:Program) (kt:TypeId):Bool:=cond (skT kt) true (pU P kt)
def kcA:AV->Option Int
 | .int .i64 n=>some n
 | .agg [.int .i64 a,.int .i64 b,.int .i64 c,.int .i64 d]=>some (qX [a,b,c,d])
 | _=>none
def aNZ (P:Program) (kt:TypeId):AV->Bool
 | .int .i64 _=>cond (skT kt) false (pU P kt)
 | .agg _=>skT kt
 | _=>false
theorem aAX {n:Int} (h:rng .i64 n):(Lit.int .i64 n).wf=true:=WalkArith.wf_i64 h
theorem aFv:Go.Maps.Keyed Tryz.prog 27 :=
 Go.Maps.Keyed.of_law (deep_law_gate (by kernel_rfl) (of_decide_eq_true (by kernel_rfl)) (of_decide_eq_true (by kernel_rfl)) (by kernel_rfl) (by kernel_rfl))
def fs4 (P:Program) (T:TypeId):Option TypeDesc->Bool
 | some (.struct fs)=>(match fs.toList with
  | f::g::h::k::[]=>Nat.beq f.offset 0&&Nat.beq g.offset 1&&Nat.beq h.offset 2&&Nat.beq k.offset 3&&pU P f.type&&pU P g.type&&pU P h.type&&pU P k.type &&
   Nat.beq (P.cellsOf f.type) 1&&Nat.beq (P.cellsOf g.type) 1&&Nat.beq (P.cellsOf h.type) 1&&Nat.beq (P.cellsOf k.type) 1&&Nat.beq (P.cellsOf T) 4&&(fs.all (·.name != "_"))&&P.keyType T&&Nat.ble 1 P.types.size
  | _=>false)
 | _=>false
theorem aXQ {T:TypeId} (h:fs4 P T (P.underlying T)=true) {a b c d:Int} (ha:rng .i64 a) (hb:rng .i64 b) (hc:rng .i64 c) (hd:rng .i64 d):∃ L,keyOf P T (.agg #[.int .i64 a,.int .i64 b,.int .i64 c,.int .i64 d])=some L:=by
 cases hu:P.underlying T with
 | none=>rw [hu] at h; cases h
 | some dd =>
  rw [hu] at h
  cases dd with
  | struct fs =>
   obtain ⟨l⟩:=fs
   simp only [fs4] at h
   split at h
   ·rename_i x f g q k
    simp only [aC] at h
    obtain ⟨⟨⟨⟨⟨⟨⟨⟨⟨⟨⟨⟨⟨⟨⟨o1,o2⟩,o3⟩,o4⟩,t1⟩,t2⟩,t3⟩,t4⟩,z1⟩,z2⟩,z3⟩,z4⟩,zz⟩,nm⟩,hk⟩,hs⟩:=h
    have o1:=aA o1
    have o2:=aA o2
    have o3:=aA o3
    have o4:=aA o4
    have z1:=aA z1
    have z2:=aA z2
    have z3:=aA z3
    have z4:=aA z4
    have zz:=aA zz
    have t1:=dG t1
    have t2:=dG t2
    have t3:=dG t3
    have t4:=dG t4
    have hp:∀ (t:TypeId) (n:Int),P.underlying t=some (.int .i64)->rng .i64 n->P.keyLits P.types.size t [.int .i64 n]=some [.int .i64 n]:=by
     intro t n ht hn
     obtain ⟨m,hm⟩:∃ m,P.types.size=m+1:=⟨P.types.size - 1,by have:=aK hs; omega⟩
     rw [hm]
     simp [Program.keyLits,ht,aAX hn]
    have hf:(Value.agg #[.int .i64 a,.int .i64 b,.int .i64 c,.int .i64 d]).formed P T=true:=by
     simp [Value.formed,hu,zz]
    unfold keyOf
    rw [hu]
    simp only [hk,hf,Bool.and_self,if_true]
    unfold Program.keyLits
    rw [hu]
    rw [show (Value.agg #[.int .i64 a,.int .i64 b,.int .i64 c,.int .i64 d]).cells.toList=[.int .i64 a,.int .i64 b,.int .i64 c,.int .i64 d] from rfl]
    have nm2:¬f.name= "_"∧¬g.name= "_"∧¬q.name= "_"∧¬k.name= "_":=by simpa using nm
    simp [zz,nm2,o1,o2,o3,o4,z1,z2,z3,z4,hp _ _ t1 ha,hp _ _ t2 hb,hp _ _ t3 hc,hp _ _ t4 hd]
   ·cases h
  | _=>simp [fs4] at h
theorem aM9 {a b c d:Int} (ha:rng .i64 a) (hb:rng .i64 b) (hc:rng .i64 c) (hd:rng .i64 d):∃ L,keyOf Tryz.prog 27 (.agg #[.int .i64 a,.int .i64 b,.int .i64 c,.int .i64 d])=some L :=
 aXQ (by kernel_rfl) ha hb hc hd
theorem aEX {t:Nat} (h:skT t=true):t=27:=aA h
theorem sZ {kt:TypeId} {x:AV} (h:aNZ Tryz.prog kt x=true):Go.Maps.Keyed Tryz.prog kt:=by
 cases e:skT kt with
 | true=>rw [aEX e]; exact aFv
 | false =>
  unfold aNZ at h
  split at h
  ·simp only [e,cond_false] at h; exact int_keyed (dG h)
  ·rw [e] at h; cases h
  ·cases h
theorem aCN {kt:TypeId} {x:AV} {n:Int} (h:aNZ Tryz.prog kt x=true) (hc:kcA x=some n) {v:Value} (hv:CV S x m v):nF kt v n∧∃ L,keyOf Tryz.prog kt v=some L:=by
 unfold kcA at hc
 split at hc
 ·rename_i q
  injection hc with hc; subst hc
  simp only [CV] at hv
  obtain ⟨rfl,hr⟩:=hv
  cases e:skT kt with
  | true=>simp only [aNZ,e,cond_true] at h; cases h
  | false =>
   simp only [aNZ,e,cond_false] at h
   exact ⟨.inl ⟨e,rfl,hr⟩,_,keyOf_int_mk (dG h) (aAX hr)⟩
 ·rename_i a b c d
  injection hc with hc; subst hc
  have h:skT kt=true:=h
  simp only [CV] at hv
  obtain ⟨us,rfl,hl⟩:=hv
  simp only [CVl] at hl
  obtain ⟨u,l1,e1,⟨rfl,r1⟩,u,l2,rfl,⟨rfl,r2⟩,u,l3,rfl,⟨rfl,r3⟩,u,l4,rfl,⟨rfl,r4⟩,rfl⟩:=hl
  have e1:us=#[.int .i64 a,.int .i64 b,.int .i64 c,.int .i64 d]:=by rw [← Array.toArray_toList (xs:=us),e1]
  subst e1
  obtain ⟨L,hL⟩:=aM9 r1 r2 r3 r4
  have ek:=aEX h
  refine ⟨.inr ⟨h,a,b,c,d,rfl,r1,r2,r3,r4,rfl⟩,L,?_⟩
  rw [ek]; exact hL
 ·cases hc
def aWX (P:Program) (nm:Nat) (t:TypeId) (K:AV->List (Nat × Blk)->List Nat->Prop):Prop :=
 match P.underlying t with
 | some (.map kt et)=>cond (kOk P kt) (K (.mpv nm) [(nm,.mp kt et [])] []) False
 | _=>False
theorem aD7 {nt nm:Nat} {o:Oper} {t:TypeId} {ev:Operand->AV} {h:Nat->Option Blk} {K:AV->List (Nat × Blk)->List Nat->Prop} (ho:o.op=.makeMap t none) (hd:cU nt o.dst=true)
  (H:aWX P nm t K):∃ r b,K r [(nm,b)] []∧kU P E nt o ev h r [(nm,b)] []:=by
 unfold aWX at H
 split at H
 ·rename_i kt et ht
  obtain ⟨hk,H'⟩:=aW H
  refine ⟨_,_,H',bI hd λ G kp st a w S m hG hR he hrd hf=>?_⟩
  refine ⟨.map (some w.heap.size),w.alloc (.map #[] 0),S,m.set nm (.map (some w.heap.size)),?_,?_,?_⟩
  ·have hmk:(Instr.makeMap t none).run P w=.ok (.map (some w.heap.size)) (w.alloc (.map #[] 0)):=rfl
   simp [execOp,ho,hmk]
  ·refine hR.fresh_ (hf (nm,.mp kt et []) (by simp) (by simp)) ((Go.RowKit.Below.refl _ _).alloc (Nat.le_refl _) _) (Ext.refl S) (λ _ _ _=>rfl) ?_ ?_ ?_
   ·intro b q v e
    refine ⟨?_,(hR.agree b q v e).2⟩
    rw [World.cell?_alloc_lt w _ _ (hR.agree.lt e)]
    exact (hR.agree b q v e).1
   ·intro g hg
    simp only [bk,aJ] at hg
    omega
   ·refine ⟨w.heap.size,.map [],Nm.set_same _ _ _,World.ownsMap_made w _ _ _,⟨rfl,λ _ _ _ _ _=>rfl,λ _ _ _ _ _ _ e=>by simp [oF] at e,by simp,λ n x e=>by simp [oF] at e⟩⟩
  ·simp only [CV]
   exact ⟨_,Nm.set_same _ _ _,rfl⟩
 ·exact H.elim
def aUM (P:Program) (et:TypeId):AV->Bool
 | .int .i64 _=>pU P et
 | .bool _=>aUT P et
 | _=>false
def aWS (P:Program) (t:TypeId) (mv k x:AV) (h:Nat->Option Blk) (K:List (Nat × Blk)->List Nat->Prop):Prop :=
 match mv,kcA k with
 | .mpv j,some n=>(match h j,P.underlying t with
  | some (.mp kt et l),some (.map kt' et')=>cond (Nat.beq kt kt'&&Nat.beq et et'&&aNZ P kt k&&aUM P et x) (chk (l.length≤140737488355327) (K [(j,.mp kt et (aDQ l n x))] [j])) False
  | _,_=>False)
 | _,_=>False
theorem aD3 (hP:P=Tryz.prog) {nt:Nat} {o:Oper} {t:TypeId} {mv k x:Operand} {ev:Operand->AV} {h:Nat->Option Blk} {K:List (Nat × Blk)->List Nat->Prop} (ho:o.op=.mapUpdate t mv k x) (hd:o.dst=none)
  (H:aWS P t (ev mv) (ev k) (ev x) h K):∃ u rd,K u rd∧(∀ p ∈ u,p.1 ∈ rd)∧kU P E nt o ev h .undef u rd:=by
 unfold aWS at H
 split at H
 ·rename_i j n hj hk
  split at H
  ·rename_i kt et l kt' et' hl ht
   obtain ⟨hb,H0⟩:=aW H
   simp only [aC] at hb
   obtain ⟨⟨⟨b1,b2⟩,b3⟩,b4⟩:=hb
   have b1:=aA b1
   have b2:=aA b2
   subst b1; subst b2
   subst hP
   obtain ⟨hlen,H1⟩:=aZ.1 H0
   refine ⟨_,_,H1,by simp,lU hd λ G kp st a w S m hG hR he hrd hf=>?_⟩
   have vm:=he mv (by rw [ho]; simp [Op.operands])
   have vk:=he k (by rw [ho]; simp [Op.operands])
   have vx:=he x (by rw [ho]; simp [Op.operands])
   rw [hj] at vm
   obtain ⟨hkv,Lk,hkey⟩:=aCN b3 hk vk
   simp only [CV] at vm
   obtain ⟨g,hm,vm⟩:=vm
   have hks:lk st.heap j=some (.mp kt et l):=by rw [hrd j (by simp)]; exact hl
   obtain ⟨g',D,e1,e2,e3⟩:=hR.held j _ hks
   rw [hm] at e1
   injection e1 with e1
   injection e1 with e1
   injection e1 with e1
   subst e1
   have hel:∃ d,plainElem (H:=Unit) Tryz.prog et (a.eval x)=some (d,[])∧d=avD (ev x)∧((∃ z,ev x=.int .i64 z∧rng .i64 z∧Tryz.prog.underlying et=some (.int .i64))∨(∃ b,ev x=.bool b∧Tryz.prog.underlying et=some .bool)):=by
    generalize hx:ev x=y at vx b4
    cases y with
    | int q z =>
     cases q <;> simp only [aUM,Bool.false_eq_true] at b4
     simp only [CV] at vx
     rw [vx.1]
     exact ⟨_,plainElem_int (dG b4) (aAX vx.2),rfl,.inl ⟨z,rfl,vx.2,dG b4⟩⟩
    | bool b =>
     simp only [aUM] at b4
     simp only [CV] at vx
     rw [vx]
     exact ⟨_,plainElem_bool (vP b4) b,rfl,.inr ⟨b,rfl,vP b4⟩⟩
    | _=>simp only [aUM,Bool.false_eq_true] at b4
   obtain ⟨d,hd1,rfl,hkind⟩:=hel
   have K:=sZ b3
   have lne:∀ v q L,nF kt v q->keyOf Tryz.prog kt v=some L->n≠q->L≠Lk:=λ v q L h1 h2 h3 e=>h3 (by subst e; have:=K.inj h2 hkey; subst this; exact hkv.fn h1)
   have tidy:=e2.tidy K
   obtain ⟨w',hrun,o1,o2⟩:=e2.store K ht (show l.length < maxLen from by unfold maxLen; omega) hkey hd1
   have hgr:=o2.grown
   have hsz:Maps.size (D.put Lk (avD (ev x)))=(aDQ l n (ev x)).length:=by
    rw [Maps.size_put tidy,e3.has _ n Lk hkv hkey,e3.size]
    have:=aCG n e3.nd
    unfold aDQ
    cases hq:(oF l n).isSome with
    | true=>rw [hq] at this; simp only [cond_true] at this; simp; omega
    | false=>rw [hq] at this; simp only [cond_false] at this; simp; omega
   have own2:w'.ownsMap Tryz.prog kt (plainElem (H:=Unit) Tryz.prog et) g (aDQ l n (ev x)).length (D.put Lk (avD (ev x))):=by
    obtain ⟨es,clock,q1,q2,q3,q4⟩:=o1
    refine ⟨es,clock,q1,q2,?_,q4⟩
    rw [← hsz,q4]
    simp [Maps.size,length_sorted]
   refine ⟨w',S,m,by simp [execOp,ho,vm,hrun],?_⟩
   have hSn:∀ q,S g q=none:=by
    intro q
    cases e:S g q with
    | none=>rfl
    | some v =>
     have:=(hR.agree _ _ _ e).1
     obtain ⟨es,clock,q1,_⟩:=e2
     simp [World.cell?,q1] at this
   refine hR.writeM hks hm hgr.os hgr.tape hgr.output ?_ ?_ hSn ⟨g,_,hm,own2,hsz,λ v q L hv hL=>?_,λ v q L y hv hL e z=>?_,aNT e3.nd n _,λ q y e=>?_⟩
   ·obtain ⟨es,clock,es',clock',_,rfl⟩:=o2
    simp [Go.ChangeMaps.setBlock]
   ·obtain ⟨es,clock,es',clock',hb,rfl⟩:=o2
    intro i hi
    exact Go.ChangeMaps.heap_setBlock_other hb _ hi
   ·rw [vL]
    by_cases e:n=q
    ·subst e
     have:=hv.inj hkv
     subst this
     have hL:L=Lk:=Option.some.inj (hL.symm.trans hkey)
     subst hL
     rw [if_pos rfl,Maps.has_put_same e2.isMap (K.key hkey)]; rfl
    ·rw [if_neg e,Maps.has_put_other (lne v q L hv hL e),e3.has v q L hv hL]
   ·rw [vL] at e
    by_cases e':n=q
    ·subst e'
     rw [if_pos rfl] at e
     have e:=Option.some.inj e
     subst e
     have:=hv.inj hkv
     subst this
     have hL:L=Lk:=Option.some.inj (hL.symm.trans hkey)
     subst hL
     exact Maps.atKey_put_same e2.isMap (K.key hkey) _ _
    ·rw [if_neg e'] at e
     rw [Maps.atKey_put_other (lne v q L hv hL e')]
     exact e3.get v q L y hv hL e z
   ·rw [vL] at e
    by_cases e':n=q
    ·rw [if_pos e'] at e
     have e:=Option.some.inj e
     subst e
     exact hkind
    ·rw [if_neg e'] at e
     exact e3.kind q y e
  ·exact H.elim
 ·exact H.elim
theorem fO {H:Type} {e:TypeId} (he:P.underlying e=some .bool) {v:Value} {z:DataW H × List MemPlace} (h:plainElem P e v=some z):∃ b,v=.bool b∧z=(.lit (.bool b),[]):=by
 unfold plainElem at h
 rw [he] at h
 cases v <;> simp at h
 subst h
 exact ⟨_,rfl,rfl⟩
def aUy (P:Program) (t:TypeId):Bool:=match P.info? t with
 | some i=>(match i.zero with | some (.int .i64 z)=>decide (z=0) | _=>false)
 | none=>false
def aU7 (P:Program) (t:TypeId):Bool:=match P.info? t with
 | some i=>(match i.zero with | some (.bool false)=>true | _=>false)
 | none=>false
theorem aIU {t:TypeId} (h:aUy P t=true) (w:World):(zeroValue t).run P w=.ok (.int .i64 0) w:=by
 unfold aUy at h
 split at h
 ·rename_i i hi
  split at h
  ·rename_i z hz
   have:=of_decide_eq_true h
   subst this
   simp [zeroValue,typeInfo,hi,hz]
  ·cases h
 ·cases h
theorem aIV {t:TypeId} (h:aU7 P t=true) (w:World):(zeroValue t).run P w=.ok (.bool false) w:=by
 unfold aU7 at h
 split at h
 ·rename_i i hi
  split at h
  ·rename_i hz
   simp [zeroValue,typeInfo,hi,hz]
  ·cases h
 ·cases h
theorem MapD.int {kt et:Nat} {D:DataW Unit} {l:List (Int × AV)} (h:MapD kt et D l) (he:Tryz.prog.underlying et=some (.int .i64)) {v:Value} {n:Int} {L:Lit} (hv:nF kt v n) (hL:keyOf Tryz.prog kt v=some L):D.atKey L (.lit (.int .i64 0))=.lit (.int .i64 (vK l n))∧rng .i64 (vK l n):=by
 unfold vK
 cases hq:oF l n with
 | none =>
  have:=h.has v n L hv hL
  rw [hq] at this
  exact ⟨Maps.atKey_of_not_has this _,by decide⟩
 | some x =>
  rcases h.kind n x hq with ⟨z,rfl,hz,_⟩ | ⟨b,rfl,hb⟩
  ·exact ⟨h.get v n L _ hv hL hq _,hz⟩
  ·rw [he] at hb; cases hb
theorem MapD.bool {kt et:Nat} {D:DataW Unit} {l:List (Int × AV)} (h:MapD kt et D l) (he:Tryz.prog.underlying et=some .bool) {v:Value} {n:Int} {L:Lit} (hv:nF kt v n) (hL:keyOf Tryz.prog kt v=some L):D.atKey L (.lit (.bool false))=.lit (.bool (aNU l n)):=by
 unfold aNU
 cases hq:oF l n with
 | none =>
  have:=h.has v n L hv hL
  rw [hq] at this
  exact Maps.atKey_of_not_has this _
 | some x =>
  rcases h.kind n x hq with ⟨z,rfl,hz,hb⟩ | ⟨b,rfl,_⟩
  ·rw [he] at hb; cases hb
  ·exact h.get v n L _ hv hL hq _
def aUz (ok:Bool) (v:AV) (l:List (Int × AV)) (n:Int):AV:=cond ok (.tup [v,.bool (aXP l n)]) v
def aW0 (P:Program) (t:TypeId) (mv k:AV) (ok:Bool) (h:Nat->Option Blk) (K:AV->List Nat->Prop):Prop :=
 match mv,kcA k with
 | .mpv j,some n=>(match h j,P.underlying t with
  | some (.mp kt et l),some (.map kt' et')=>cond (Nat.beq kt kt'&&Nat.beq et et'&&aNZ P kt k) (cond (pU P et&&aUy P et) (kG (aUz ok (.int .i64 (vK l n)) l n) λ r=>K r [j]) (cond (aUT P et&&aU7 P et) (kG (aUz ok (.bool (aNU l n)) l n) λ r=>K r [j]) False)) False
  | _,_=>False)
 | _,_=>False
theorem aD9 (hP:P=Tryz.prog) {nt:Nat} {o:Oper} {t:TypeId} {mv k:Operand} {ok:Bool} {ev:Operand->AV} {h:Nat->Option Blk} {K:AV->List Nat->Prop} (ho:o.op=.lookup t mv k ok) (hd:cU nt o.dst=true)
  (H:aW0 P t (ev mv) (ev k) ok h K):∃ r rd,K r rd∧kU P E nt o ev h r [] rd:=by
 unfold aW0 at H
 split at H
 ·rename_i j n hj hk
  split at H
  ·rename_i kt et l kt' et' hl ht
   obtain ⟨hb,H0⟩:=aW H
   simp only [aC] at hb
   obtain ⟨⟨b1,b2⟩,b3⟩:=hb
   have b1:=aA b1
   have b2:=aA b2
   subst b1; subst b2
   have Kd:Go.Maps.Keyed P kt:=by rw [hP] at b3 ⊢; exact sZ b3
   have go:∀ (v:AV),(∀ (w:World) (S:Pin) (m:Nm) (D:DataW Unit) (g:Nat) (vk:Value) (L:Lit),nF kt vk n->keyOf P kt vk=some L->w.ownsMap P kt (plainElem (H:=Unit) P et) g l.length D->MapD kt et D l ->
     (∃ u,(Instr.lookup t (.map (some g)) vk false).run P w=.ok u w∧CV S v m u)∧(∃ u,(Instr.lookup t (.map (some g)) vk true).run P w=.ok (.tuple #[u,.bool (Maps.has D L)]) w∧CV S v m u))->K (aUz ok v l n) [j]->∃ r rd,K r rd∧kU P E nt o ev h r [] rd:=by
    intro v hv hK
    subst hP
    refine ⟨_,_,hK,bI hd λ G kp st a w S m hG hR he hrd hf=>?_⟩
    have vm:=he mv (by rw [ho]; simp [Op.operands])
    have vk:=he k (by rw [ho]; simp [Op.operands])
    rw [hj] at vm
    obtain ⟨hkv,Lk,hkey⟩:=aCN b3 hk vk
    simp only [CV] at vm
    obtain ⟨g,hm,vm⟩:=vm
    have hks:lk st.heap j=some (.mp kt et l):=by rw [hrd j (by simp)]; exact hl
    obtain ⟨g',D,e1,e2,e3⟩:=hR.held j _ hks
    rw [hm] at e1
    have e1:=Option.some.inj (Value.map.inj (Option.some.inj e1))
    subst e1
    obtain ⟨⟨u,r1,c1⟩,⟨u2,r2,c2⟩⟩:=hv w S m D g _ Lk hkv hkey e2 e3
    cases ok with
    | false=>exact ⟨u,w,S,m,by simp [execOp,ho,vm,r1],hR,c1⟩
    | true =>
     refine ⟨.tuple #[u2,.bool (Maps.has D Lk)],w,S,m,by simp [execOp,ho,vm,r2],hR,?_⟩
     simp only [aUz,cond_true,CV]
     refine ⟨_,rfl,?_⟩
     simp only [CVl]
     exact ⟨u2,_,rfl,c2,_,[],rfl,by simp only [CV]; rw [e3.has _ n Lk hkv hkey]; rfl,rfl⟩
   cases hi:(pU P et&&aUy P et) with
   | true =>
    rw [hi] at H0
    simp only [cond_true,dH] at H0
    simp only [aC] at hi
    have hu:=dG hi.1
    refine go _ (λ w S m D g vk L hkv hkey e2 e3=>?_) H0
    have hz:=aIU hi.2 w
    have hzd:=plainElem_int (H:=Unit) hu (a:=0) (by decide)
    obtain ⟨q1,q2⟩:=e3.int (hP ▸ hu) hkv (hP ▸ hkey)
    refine ⟨?_,?_⟩
    ·obtain ⟨v,ps,r1,r2⟩:=e2.lookup Kd ht hz hzd hkey
     obtain ⟨c,rfl,hc,_⟩:=plainElem_int_inv hu r2
     rw [q1] at hc
     simp only [Prod.mk.injEq,DataW.lit.injEq,Lit.int.injEq,true_and] at hc
     exact ⟨_,r1,by simp only [CV]; exact ⟨by rw [hc.1],q2⟩⟩
    ·obtain ⟨v,ps,r1,r2⟩:=e2.look_ok Kd ht hz hzd hkey
     obtain ⟨c,rfl,hc,_⟩:=plainElem_int_inv hu r2
     rw [q1] at hc
     simp only [Prod.mk.injEq,DataW.lit.injEq,Lit.int.injEq,true_and] at hc
     exact ⟨_,r1,by simp only [CV]; exact ⟨by rw [hc.1],q2⟩⟩
   | false =>
    rw [hi] at H0
    simp only [cond_false] at H0
    obtain ⟨hbb,H1⟩:=aW H0
    simp only [dH] at H1
    simp only [aC] at hbb
    have hu:=vP hbb.1
    refine go _ (λ w S m D g vk L hkv hkey e2 e3=>?_) H1
    have hz:=aIV hbb.2 w
    have hzd:=plainElem_bool (H:=Unit) hu false
    have q1:=e3.bool (hP ▸ hu) hkv (hP ▸ hkey)
    refine ⟨?_,?_⟩
    ·obtain ⟨v,ps,r1,r2⟩:=e2.lookup Kd ht hz hzd hkey
     obtain ⟨c,rfl,hc⟩:=fO hu r2
     rw [q1] at hc
     simp only [Prod.mk.injEq,DataW.lit.injEq,Lit.bool.injEq] at hc
     exact ⟨_,r1,by simp only [CV]; rw [hc.1]⟩
    ·obtain ⟨v,ps,r1,r2⟩:=e2.look_ok Kd ht hz hzd hkey
     obtain ⟨c,rfl,hc⟩:=fO hu r2
     rw [q1] at hc
     simp only [Prod.mk.injEq,DataW.lit.injEq,Lit.bool.injEq] at hc
     exact ⟨_,r1,by simp only [CV]; rw [hc.1]⟩
  ·exact H.elim
 ·exact H.elim
def aPq (P:Program) (ts:List TypeId) (xs:List AV) (h:Nat->Option Blk) (K:AV->List Nat->Prop):Prop:=False
theorem aBX (hP:P=Tryz.prog) {nt:Nat} {o:Oper} {c:Call} {ev:Operand->AV} {h:Nat->Option Blk} {K:AV->List Nat->Prop} (ho:o.op=.call c) (hc:c.callee=.builtin .len) (hd:cU nt o.dst=true)
  (H:aPq P c.argTypes.toList (c.args.toList.map ev) h K):∃ r rd,K r rd∧kU P E nt o ev h r [] rd:=by
 unfold aPq at H
 exact H.elim
open Go.RowKit (Below)
variable {P:Program} {S:Pin} {m:Nm} {w:World} {a:Act} {G:Gh} {kp:List Nat} {st:St} {E:Env}
abbrev aX:=Nat->Option (List AV)
def GOKg (gl:aX) (S:Pin):Prop:=∀ g cs,gl g=some cs->CC S cs g 0
def PureC (P:Program) (gl:aX) (f:FuncId) (xs:List AV) (r:AV):Prop :=
 ∀ (w:World) (S:Pin) (vs:Array Value),GOKg gl S->dX S w->CVl S xs dE vs.toList ->
  Calls P f vs w λ e w'=>∃ u S',e=.returned u∧Below w.heap.size w w'∧Ext S S'∧(∀ b o,b < w.heap.size->S' b o=S b o)∧dX S' w'∧CV S' r dE u
def Fok (P:Program) (f:FuncId):Prop:=∃ fn,P.funcs[f]?=some fn∧fn.name≠ "runtime.NumGoroutine"∧¬ fn.body=none
def Mof (r:Nat) (m:Nm) (g:Nat):Prop:=∃ q u,q < r∧m q=some u∧bk u=some g
def aU5 (r:Nat) (m:Nm):Prop:=∀ q q' u u' g,q < r->q' < r->q≠q'->m q=some u->m q'=some u'->bk u=some g->bk u'≠some g
def HC (P:Program) (gl:aX) (f:FuncId) (xs:List AV) (bs:List Blk) (r:AV) (bs':List Blk):Prop :=
 ∀ (w:World) (S:Pin) (m:Nm) (vs:Array Value),GOKg gl S->dX S w->(∀ k u,m k=some u->k < bs.length)->(∀ (q:Nat) (b:Blk),bs[q]?=some b->fJ S m w q b)->aU5 bs.length m->CVl S xs m vs.toList ->
  Calls P f vs w λ e w'=>∃ u S' m',e=.returned u∧w'.os=w.os∧w'.tape=w.tape∧w'.output=w.output∧w.heap.size≤w'.heap.size∧Ext S S' ∧
   (∀ b,b < w.heap.size->¬ Mof bs.length m b->w'.heap[b]?=w.heap[b]?∧∀ o,S' b o=S b o)∧dX S' w' ∧
   (∀ (q:Nat) (b:Blk),bs'[q]?=some b->fJ S' m' w' q b)∧aU5 bs'.length m'∧(∀ q u g,q < bs'.length->m' q=some u->bk u=some g->w.heap.size≤g∨Mof bs.length m g)∧MLe m m'∧CV S' r m' u
def aUx (P:Program) (f:FuncId):Prop:=∃ fn,P.funcs[f]?=some fn∧(fn.name == "runtime.NumGoroutine")=false∧fn.body.isNone=true∧Extern.findNext fn=none∧Extern.find fn=some add64Entry
def XOK (P:Program):Option FuncId->Prop
 | none=>True
 | some f=>aUx P f
def cF (P:Program) (E:Env):Prop :=
 (∀ f sp,E.spec f=some sp->Fok P f∧∀ xs pre r,sp xs=some (pre,r)->pre->PureC P E.glob f xs r) ∧
 (∀ f sp,E.specH f=some sp->Fok P f∧∀ xs bs pre r bs',sp xs bs=some (pre,r,bs')->pre->HC P E.glob f xs bs r bs')∧XOK P E.add64 ∧
 (∀ f sp,E.specQ f=some sp->Fok P f∧∀ xs bs T,sp xs bs=some T->∀ K,T K->∃ r bs',K r bs'∧HC P E.glob f xs bs r bs')∧P=Tryz.prog
def yC:List Nat->Bool
 | []=>true
 | k::l=>!(inL k l)&&yC l
theorem nT:∀ {l:List Nat},yC l=true->l.Nodup
 | [],_=>by simp
 | k::l,h=>by
  simp only [yC,aC,Bool.not_eq_true'] at h
  rw [List.nodup_cons]
  exact ⟨gZ h.1,nT h.2⟩
def yR (kp:List Nat) (st:St):List Nat->Bool
 | []=>true
 | k::l=>fresh kp st k&&yR kp st l
theorem tE:∀ {l:List Nat} {k:Nat},yR kp st l=true->k ∈ l->fresh kp st k=true
 | [],k,_,hk=>by simp at hk
 | j::l,k,h,hk=>by
  simp only [yR,aC] at h
  rcases List.mem_cons.1 hk with rfl | hk
  ·exact h.1
  ·exact tE h.2 hk
def nth:List Nat->Nat->Option Nat
 | [],_=>none
 | k::l,q=>match q with | 0=>some k | q+1=>nth l q
theorem aFL:∀ (l:List Nat) (q:Nat),nth l q=l[q]?
 | [],q=>by simp [nth]
 | k::l,0=>by simp [nth]
 | k::l,q+1=>by simp [nth,aFL l q]
theorem iV {k:Nat}:∀ {l:List Nat} {p q:Nat},l.Nodup->l[p]?=some k->l[q]?=some k->p=q
 | [],p,q,_,e,_=>by simp at e
 | j::l,p,q,hn,e1,e2=>by
  rw [List.nodup_cons] at hn
  cases p with
  | zero =>
   cases q with
   | zero=>rfl
   | succ q=>simp at e1 e2; subst e1; exact absurd (aL e2) hn.1
  | succ p =>
   cases q with
   | zero=>simp at e1 e2; subst e2; exact absurd (aL e1) hn.1
   | succ q=>simp at e1 e2; rw [iV hn.2 e1 e2]
def cK (b:Nat):Nat->List Blk->List Nat
 | 0,[]=>[]
 | 0,_::l=>b::cK (Nat.add b 1000) 0 l
 | _+1,[]=>[]
 | n+1,_::l=>cK b n l
theorem vA (b:Nat):∀ (n:Nat) (l:List Blk),(cK b n l).length=l.length - n
 | 0,[]=>rfl
 | 0,_::l=>by simp [cK,vA _ 0 l]
 | n+1,[]=>by simp [cK]
 | n+1,_::l=>by simp [cK,vA b n l]
def aIB (wf:Bool) (E:Env) (kp:List Nat) (st:St) (nm:Nat) (g:FuncId) (xs:List AV) (K:AV->List (Nat × Blk)->List Nat->Prop):Prop :=
 match E.specH g with
 | some sp=>(λ ks=>rnL (λ k=>idx k ks 0) xs λ xs'=>zJ (lk st.heap) ks λ bs=>aPK (λ k=>idx k ks 0) bs λ bs'=>match sp xs' bs' with
  | some (pre,r,cs)=>pre∧(λ nw=>cond (Nat.ble ks.length cs.length&&yC (ks++nw)&&yR kp st nw) (rnA (nth (ks++nw)) r λ r2=>aPK (nth (ks++nw)) cs λ cs2=>cond wf (wfA r2->K r2 (tP (ks++nw) cs2) ks) (K r2 (tP (ks++nw) cs2) ks)) False) (cK nm ks.length cs)
  | none=>False) (aIR (lk st.heap) 3 (jG (aLy xs) []))
 | none=>False
theorem aDZ {nt:Nat} {o:Oper} {ev:Operand->AV} {kp0:List Nat} {st0:St} {nm:Nat} {g:FuncId} {xs:List AV} (hd:cU nt o.dst=true)
  (hrun:∀ (a:Act) (w:World) (S:Pin) (m:Nm),(∀ x ∈ o.op.operands,CV S (ev x) m (a.eval x))->∃ vs,CVl S xs m vs.toList∧(execOp a.eval o).run P w=.ok (.enter g vs) w)
  {ks nw:List Nat} (hknd:ks.Nodup) {xs':List AV} {bs bs' cs cs2:List Blk} {r r2:AV}
  (hxs:∀ S m m' vs,Rn (λ k=>idx k ks 0) m m'->CVl S xs m vs->CVl S xs' m' vs) (hbl:bs.length=ks.length) (hbs:∀ (q i:Nat),ks[q]?=some i->∃ b,bs[q]?=some b∧lk st0.heap i=some b)
  (hbl':bs'.length=bs.length) (hbs':∀ (q:Nat) (b c:Blk),bs[q]?=some b->bs'[q]?=some c->∀ S m m' w i j,Rn (λ k=>idx k ks 0) m m'->idx i ks 0=some j->fJ S m w i b->fJ S m' w j c)
  (hC:HC P E.glob g xs' bs' r cs) (hnw:cK nm ks.length cs=nw) (hc:(Nat.ble ks.length cs.length=true∧yC (ks++nw)=true)∧yR kp0 st0 nw=true)
  (hr2:∀ S m m' v,Rn (nth (ks++nw)) m m'->CV S r m v->CV S r2 m' v) (hcl:cs2.length=cs.length)
  (hcs:∀ (q:Nat) (b c:Blk),cs[q]?=some b->cs2[q]?=some c->∀ S m m' w i j,Rn (nth (ks++nw)) m m'->nth (ks++nw) i=some j->fJ S m w i b->fJ S m' w j c) :
  kU P E nt o ev (lk st0.heap) r2 (tP (ks++nw) cs2) ks∧∀ p ∈ tP (ks++nw) cs2,p.1 ∉ ks->fresh kp0 st0 p.1=true:=by
 have hle:=aK hc.1.1
 have hnd:=nT hc.1.2
 have hnl:(ks++nw).length=cs.length:=by rw [aG,← hnw,vA]; omega
 refine ⟨?_,λ p hp hq=>?_⟩
 ·skip
  intro G kp st a w S m next Q hG hR hn he hk hfr hnext
  obtain ⟨vs,hvs,hexec⟩:=hrun a w S m (λ x hx=>he x hx ▸ nY hG hR x)
  let m1:Nm:=λ q=>(ks[q]?).bind m
  have hRn:Rn (λ k=>idx k ks 0) m m1:=by
   intro i j hij
   have:=(mY hij).2
   simp only [Nat.sub_zero] at this
   simp only [m1,this,Option.bind_some]
  have hcall:=hC w S m1 vs (λ q cs e=>CC.mono hR.pin0 cs q 0 (hG q cs e)) hR.agree
   (λ k u hu=>by
    simp only [m1] at hu
    cases e:ks[k]? with
    | none=>rw [e] at hu; cases hu
    | some i=>rw [hbl',hbl]; exact (aF.1 e).1)
   (λ q b hb=>by
    have hql:q < ks.length:=by rw [← hbl,← hbl']; exact (aF.1 hb).1
    obtain ⟨b0,hb0,hh⟩:=hbs q ks[q] (by simp [hql])
    have hidx:idx ks[q] ks 0=some q:=by
     have key:∀ (l:List Nat) (q i:Nat) (h:q < l.length),l.Nodup->idx l[q] l i=some (i+q):=by
      intro l
      induction l with
      | nil=>intro q i h; simp at h
      | cons j l ih =>
       intro q i h hn
       rw [List.nodup_cons] at hn
       cases q with
       | zero=>simp [idx,aY]
       | succ q =>
        simp at h
        simp only [idx,List.getElem_cons_succ]
        rw [nbeq_ne (λ e=>hn.1 (by rw [e]; exact List.getElem_mem h))]
        simp only [cond_false]
        rw [ih q (i+1) h hn.2]
        congr 1; omega
     simpa using key ks q 0 hql hknd
    have hst:lk st.heap ks[q]=some b0:=(hk ks[q] (List.getElem_mem hql)).trans hh
    exact hbs' q b0 b hb0 hb S m m1 w ks[q] q hRn hidx (hR.held _ _ hst))
   (λ q q' u u' g hq hq' hne hu hu' hg hg'=>by
    simp only [m1] at hu hu'
    cases e:ks[q]? with
    | none=>rw [e] at hu; cases hu
    | some i =>
     cases e':ks[q']? with
     | none=>rw [e'] at hu'; cases hu'
     | some j =>
      rw [e] at hu; rw [e'] at hu'
      simp only [Option.bind_some] at hu hu'
      obtain ⟨b0,_,hh⟩:=hbs q i e
      obtain ⟨b1,_,hh'⟩:=hbs q' j e'
      refine hR.inj i j b0 b1 u u' g ((hk i (aL e)).trans hh) ((hk j (aL e')).trans hh') ?_ hu hu' hg hg'
      rintro rfl
      exact hne (iV hknd e e'))
   (hxs S m m1 _ hRn hvs)
  unfold Oper.wp
  rw [hexec,Oper.upon_enter]
  refine hcall.mono ?_
  rintro e w' ⟨u,S',m1',rfl,hos,htp,hou,hsz,hE,hfm,hA,hheld,hinj,hown,hmle,hu⟩
  let m':Nm:=λ k=>match idx k (ks++nw) 0 with | some q=>m1' q | none=>m k
  have hidx:∀ (q k:Nat),(ks++nw)[q]?=some k->m' k=m1' q:=by
   intro q k e
   simp only [m']
   cases e2:idx k (ks++nw) 0 with
   | none =>
    exfalso
    have key:∀ (l:List Nat) (i:Nat),k ∈ l->idx k l i≠none:=by
     intro l
     induction l with
     | nil=>intro i h; simp at h
     | cons j l ih =>
      intro i h
      simp only [idx]
      cases hj:Nat.beq j k with
      | true=>simp
      | false =>
       simp only [cond_false]
       rcases List.mem_cons.1 h with rfl | h
       ·rw [aY] at hj; cases hj
       ·exact ih _ h
    exact key _ 0 (aL e) e2
   | some p =>
    have:=(mY e2).2
    simp only [Nat.sub_zero] at this
    have:p=q:=iV hnd this e
    simp only [this]
  have hRn':Rn (nth (ks++nw)) m1' m':=λ q k e=>hidx q k (by rw [← aFL]; exact e)
  have hno:∀ k,k ∉ ks++nw->m' k=m k:=by
   intro k hk
   simp only [m']
   cases e2:idx k (ks++nw) 0 with
   | none=>rfl
   | some p=>exact absurd (aL (mY e2).2) hk
  have hksl:∀ (q:Nat),q < ks.length->(ks++nw)[q]?=ks[q]?:=λ q hq=>List.getElem?_append_left hq
  have hmof:∀ b,Mof bs'.length m1 b↔∃ k u,k ∈ ks∧m k=some u∧bk u=some b:=by
   intro b
   constructor
   ·rintro ⟨q,u,_,hu,hb⟩
    simp only [m1] at hu
    cases e:ks[q]? with
    | none=>rw [e] at hu; cases hu
    | some i=>rw [e] at hu; exact ⟨i,u,aL e,hu,hb⟩
   ·rintro ⟨k,u,hk,hu,hb⟩
    obtain ⟨q,hq⟩:=List.getElem?_of_mem hk
    exact ⟨q,u,by rw [hbl',hbl]; exact (aF.1 hq).1,by simp only [m1,hq,Option.bind_some]; exact hu,hb⟩
  have hR2:Rel G kp (st.blks (tP (ks++nw) cs2)) a w' S' m':=by
   refine hR.callH hnd (λ k hk'=>?_) (λ k hk'=>?_) (by rw [hcl,hnl]) hos htp hou hsz hE (λ b hb hn=>hfm b hb (λ q=>hn ((hmof b).1 q))) hA ?_ (λ k h1 h2=>hno k (by simp [h1,h2])) ?_ ?_ ?_
   ·obtain ⟨q,hq⟩:=List.getElem?_of_mem hk'
    obtain ⟨b,_,hb⟩:=hbs q k hq
    exact ⟨b,(hk k hk').trans hb⟩
   ·obtain ⟨q,hq⟩:=List.getElem?_of_mem (List.mem_append_right ks hk')
    have hql:q < cs2.length:=by rw [hcl,← hnl]; exact (aF.1 hq).1
    refine hfr (k,cs2[q]) ?_ (λ hkk=>?_)
    ·have key:∀ (l:List Nat) (cs:List Blk) (q:Nat) (k:Nat) (b:Blk),l[q]?=some k->cs[q]?=some b->(k,b) ∈ tP l cs:=by
      intro l
      induction l with
      | nil=>intro cs q k b e; simp at e
      | cons j l ih =>
       intro cs q k b e1 e2
       cases cs with
       | nil=>simp at e2
       | cons c cs =>
        simp only [tP,List.mem_cons]
        cases q with
        | zero=>simp at e1 e2; subst e1; subst e2; exact .inl rfl
        | succ q=>simp at e1 e2; exact .inr (ih cs q k b e1 e2)
     exact key _ _ q k _ hq (by simp [hql])
    ·rw [List.nodup_append] at hnd
     exact hnd.2.2 k hkk k hk' rfl
   ·intro q k b e1 e2
    have hql:q < cs.length:=by rw [← hnl]; exact (aF.1 e1).1
    exact hcs q cs[q] b (by simp [hql]) e2 S' m1' m' w' q k hRn' (by rw [aFL]; exact e1) (hheld q cs[q] (by simp [hql]))
   ·intro k hk' v hv
    obtain ⟨q,hq⟩:=List.getElem?_of_mem hk'
    obtain ⟨v',h1,h2⟩:=hmle q v (by simp only [m1,hq,Option.bind_some]; exact hv)
    exact ⟨v',by rw [hidx q k (by rw [hksl q (aF.1 hq).1]; exact hq)]; exact h1,h2⟩
   ·intro k k' v v' g hk1 hk2 hne hv hv' hg hg'
    obtain ⟨q,hq⟩:=List.getElem?_of_mem hk1
    obtain ⟨q',hq'⟩:=List.getElem?_of_mem hk2
    rw [hidx q k hq] at hv
    rw [hidx q' k' hq'] at hv'
    refine hinj q q' v v' g (by rw [← hnl]; exact (aF.1 hq).1) (by rw [← hnl]; exact (aF.1 hq').1) ?_ hv hv' hg hg'
    rintro rfl
    rw [hq] at hq'
    injection hq' with hq'
    exact hne hq'
   ·intro k v g hk1 hv hg
    obtain ⟨q,hq⟩:=List.getElem?_of_mem hk1
    rw [hidx q k hq] at hv
    rcases hown q v g (by rw [← hnl]; exact (aF.1 hq).1) hv hg with h1 | h1
    ·exact .inl h1
    ·exact .inr ((hmof g).1 h1)
  refine hnext u w' S' m' (aB5 _ _ _ (hr2 S' m1' m' u hRn' hu)) ?_
  unfold St.upd
  cases e:o.dst with
  | none=>exact hR2
  | some t =>
   refine hR2.put (hr2 S' m1' m' u hRn' hu) ?_
   rw [hn]
   rw [e] at hd
   exact aK hd
 ·have:=rW _ _ p hp
  simp only [List.mem_append] at this
  exact tE hc.2 (this.resolve_left hq)
theorem zW {nt:Nat} {wf:Bool} (hS:cF P E) {o:Oper} {ev:Operand->AV} {st0:St} {nm:Nat} {g:FuncId} {xs:List AV} {K:AV->List (Nat × Blk)->List Nat->Prop} (hd:cU nt o.dst=true)
  (hrun:Fok P g->∀ (a:Act) (w:World) (S:Pin) (m:Nm),(∀ x ∈ o.op.operands,CV S (ev x) m (a.eval x))->∃ vs,CVl S xs m vs.toList∧(execOp a.eval o).run P w=.ok (.enter g vs) w)
  (H:aIB wf E kp st0 nm g xs K):∃ r u rd,((wf=true->wfA r)->K r u rd)∧kU P E nt o ev (lk st0.heap) r u rd∧∀ p ∈ u,p.1 ∉ rd->fresh kp st0 p.1=true:=by
 unfold aIB at H
 split at H
 ·rename_i sp hsp
  generalize hksd:aIR (lk st0.heap) 3 (jG (aLy xs) [])=ks at H
  have hknd:ks.Nodup:=by rw [← hksd]; exact jW _ _ _ (dU _ _ (by simp))
  obtain ⟨xs',H1,hxs⟩:=fA _ _ H
  obtain ⟨bs,H2,hbl,hbs⟩:=fR _ _ H1
  obtain ⟨bs',H3,hbl',hbs'⟩:=gG _ _ H2
  split at H3
  ·rename_i pre r cs hspr
   obtain ⟨hpre,H4⟩:=H3
   generalize hnw:cK nm ks.length cs=nw at H4
   obtain ⟨hc,H5⟩:=aW H4
   simp only [aC] at hc
   obtain ⟨r2,H6,hr2⟩:=lF _ _ H5
   obtain ⟨cs2,H7,hcl,hcs⟩:=gG _ _ H6
   obtain ⟨hfok,hspec⟩:=hS.2.1 g sp hsp
   have hC:=hspec xs' bs' pre r cs hspr hpre
   refine ⟨r2,tP (ks++nw) cs2,ks,λ hw=>?_,aDZ hd (hrun hfok) hknd hxs hbl hbs hbl' hbs' hC hnw hc hr2 hcl hcs⟩
   ·cases wf with
    | true=>exact H7 (hw rfl)
    | false=>exact H7
  ·exact H3.elim
 ·exact H.elim
def aIA (E:Env) (kp:List Nat) (st:St) (nm:Nat) (g:FuncId) (xs:List AV) (K:AV->List (Nat × Blk)->List Nat->Prop):Prop:=False
theorem zV {nt:Nat} {wf:Bool} (hS:cF P E) {o:Oper} {ev:Operand->AV} {st0:St} {nm:Nat} {g:FuncId} {xs:List AV} {K:AV->List (Nat × Blk)->List Nat->Prop} (hd:cU nt o.dst=true)
  (hrun:Fok P g->∀ (a:Act) (w:World) (S:Pin) (m:Nm),(∀ x ∈ o.op.operands,CV S (ev x) m (a.eval x))->∃ vs,CVl S xs m vs.toList∧(execOp a.eval o).run P w=.ok (.enter g vs) w)
  (H:aIA E kp st0 nm g xs K):∃ r u rd,((wf=true->wfA r)->K r u rd)∧kU P E nt o ev (lk st0.heap) r u rd∧∀ p ∈ u,p.1 ∉ rd->fresh kp st0 p.1=true:=by
 unfold aIA at H
 exact H.elim
def aOb (E:Env) (g:FuncId):Bool:=match E.add64 with | some h=>Nat.beq h g | none=>false
def aXy (xs:List AV) (K:AV->Prop):Prop:=match xs with
 | [.int .u64 x,.int .u64 y,.int .u64 c]=>chk (0≤c∧c≤1) (K (.tup [.int .u64 ((x+y+c) % 18446744073709551616),.int .u64 ((x+y+c) / 18446744073709551616)]))
 | _=>False
theorem aWD (h:Rel G kp st a w S m) {k e s:Nat} {xs:LL} (hk:lk st.heap k=some (.row e s xs)) (hcl:e < 2000000) :
  ∃ S',Ext S S'∧Rel G kp (st.blk k .gone) a w S' m∧∀ n v,n=xs.length->CV S (.rw k s n) m v->CV S' (.sl s false xs) m v:=by
 have hheld:=h.held k _ hk
 obtain ⟨A,c,h1,h2,h3,hlen,h4,vals,h5,h6,h7,_,h8⟩:=hheld.vals
 rw [bG hcl] at h6
 let S':Pin:=λ b o=>if A=some ⟨b,0,none⟩∧o < vals.length then vals[o]? else S b o
 have hun:∀ b,A=some ⟨b,0,none⟩->∀ o,S b o=none:=by
  intro b hb o
  rcases h4 with ⟨e1,_⟩ | ⟨g,cur,fr,e1,_,_,_,e2⟩
  ·rw [hb] at e1; cases e1
  ·rw [hb] at e1
   injection e1 with e1
   injection e1 with e1
   subst e1
   exact e2 o
 have hS:Ext S S':=by
  intro b o v e1
  show (if A=some ⟨b,0,none⟩∧o < vals.length then vals[o]? else S b o)=some v
  rw [if_neg]
  ·exact e1
  ·rintro ⟨hb,_⟩
   rw [hun b hb] at e1; cases e1
 have hfar:∀ b,A≠some ⟨b,0,none⟩->∀ o,S' b o=S b o:=by
  intro b hb o
  show (if A=some ⟨b,0,none⟩∧o < vals.length then vals[o]? else S b o)=S b o
  rw [if_neg (λ q=>hb q.1)]
 have hl2:∀ j,lk (st.blk k .gone).heap j=if j=k then some .gone else lk st.heap j:=by
  intro j; simp only [St.blk,bS]
 have hlk:∀ j b,lk (st.blk k .gone).heap j=some b->∃ b0,lk st.heap j=some b0:=by
  intro j b hj
  rw [hl2] at hj
  split at hj
  ·rename_i e; subst e; exact ⟨_,hk⟩
  ·exact ⟨b,hj⟩
 refine ⟨S',hS,?_,?_⟩
 ·refine { h with defers:=h.defers,pin0:=h.pin0.trans hS,pinNew:=?_,agree:=?_,tmps:=λ t=>(h.tmps t).ext hS (MLe.refl m),held:=?_,inj:=?_,own:=?_,m0:=h.m0 }
  ·intro b o hb hM
   by_cases hA:A=some ⟨b,0,none⟩
   ·rcases h.own k _ _ b hk h1 (by rw [hA]; rfl) with q | q
    ·omega
    ·exact absurd q hM
   ·rw [hfar b hA]; exact h.pinNew b o hb hM
  ·intro b o v e1
   by_cases hA:A=some ⟨b,0,none⟩∧o < vals.length
   ·have e2:vals[o]?=some v:=by
     have:S' b o=vals[o]?:=by show (if A=some ⟨b,0,none⟩∧o < vals.length then vals[o]? else S b o)=_; rw [if_pos hA]
     rw [← this]; exact e1
    exact ⟨h8 b hA.1 o v e2,h7 v (aL e2)⟩
   ·have:S' b o=S b o:=by show (if A=some ⟨b,0,none⟩∧o < vals.length then vals[o]? else S b o)=_; rw [if_neg hA]
    rw [this] at e1
    exact h.agree b o v e1
  ·intro j b hj
   rw [hl2] at hj
   split at hj
   ·rename_i ejk
    subst ejk
    injection hj with hj
    subst hj
    exact ⟨_,h1,λ g hg=>hheld.lt h1 hg⟩
   ·rename_i ejk
    refine (h.held j b hj).keep hS (λ _ _ _ hc=>hc.ext hS (MLe.refl m)) rfl λ u g hu hg=>⟨rfl,λ o=>hfar g (λ hA=>?_) o⟩
    exact h.inj j k b _ u _ g hj hk ejk hu h1 hg (by rw [hA]; rfl)
  ·intro j j' b b' u u' g hj hj' hne hu hu' hg
   obtain ⟨b0,hb0⟩:=hlk j b hj
   obtain ⟨b1,hb1⟩:=hlk j' b' hj'
   exact h.inj j j' b0 b1 u u' g hb0 hb1 hne hu hu' hg
  ·intro j b u g hj hu hg
   obtain ⟨b0,hb0⟩:=hlk j b hj
   exact h.own j b0 u g hb0 hu hg
 ·intro n v hn hv
  subst hn
  simp only [CV] at hv ⊢
  obtain ⟨⟨B,d,rfl,p1,p2,p3,p4⟩,A1,q1,c1,p5,p6,p7⟩:=hv
  rw [h1] at p5
  injection p5 with p5
  injection p5 with _ p5
  injection p5 with e1 e2 e3
  subst e1; subst e3
  have hv:=p7 (by omega)
  injection hv with e1 e3 e4
  subst e1; subst e4
  refine ⟨B,d,rfl,h2,h3,(λ q=>by cases q),p3,λ ad had=>?_⟩
  obtain ⟨g,eg⟩:=p4 ad had
  subst eg
  refine ⟨λ _=>rfl,CE.mk λ j x hj=>?_⟩
  have hxl:=hlen x (aL hj)
  refine ⟨hxl,CC.mk λ i y hi=>?_⟩
  obtain ⟨u,hu,hy⟩:=h6.get (jX hlen hj hi)
  have hlt:j*s+i < vals.length:=(aF.1 hu).1
  refine ⟨u,?_,hy.ext hS (MLe.refl _)⟩
  show (if B=some ⟨g,0,none⟩∧0+j*s+i < vals.length then vals[0+j*s+i]? else S g (0+j*s+i))=some u
  rw [Nat.zero_add,if_pos ⟨had,hlt⟩]
  exact hu
def qE (h:Nat->Option Blk):List AV->(List AV->List Nat->Prop)->Prop
 | .rw k s n::l,K=>(match h k with
  | some (.row e s' xs)=>cond (Nat.blt e 2000000&&Nat.beq s s') (chk (n=xs.length) (qE h l λ l' ks=>cond (inL k ks) False (K (.sl s false xs::l') (k::ks)))) (qE h l λ l' ks=>K (.rw k s n::l') ks)
  | _=>qE h l λ l' ks=>K (.rw k s n::l') ks)
 | x::l,K=>qE h l λ l' ks=>K (x::l') ks
 | [],K=>K [] []
def rT:List Nat->List (Nat × Blk)
 | []=>[]
 | k::l=>(k,.gone)::rT l
theorem qC:∀ {ks:List Nat} {p:Nat × Blk},p ∈ rT ks->p.1 ∈ ks
 | k::l,p,h=>by
  simp only [rT,List.mem_cons] at h
  rcases h with rfl | h
  ·simp
  ·simp [qC h]
theorem vG {k:Nat}:∀ {l:List Nat},k ∈ l->inL k l=true
 | j::l,h=>by
  simp only [inL,Bool.or_eq_true]
  rcases List.mem_cons.1 h with rfl | h
  ·exact .inl (aY _)
  ·exact .inr (vG h)
theorem qD {h:Nat->Option Blk}:∀ (xs:List AV) (K:List AV->List Nat->Prop),qE h xs K->∃ xs' ks,K xs' ks ∧
  ∀ (G:Gh) (kp:List Nat) (st:St) (a:Act) (w:World) (S:Pin) (m:Nm) (vs:List Value),(∀ k ∈ ks,lk st.heap k=h k)->Rel G kp st a w S m->CVl S xs m vs->∃ S',Ext S S'∧Rel G kp (st.blks (rT ks)) a w S' m∧CVl S' xs' m vs:=by
 intro xs
 induction xs with
 | nil=>exact λ K H=>⟨[],[],by simpa only [qE] using H,λ G kp st a w S m vs _ hR hv=>⟨S,Ext.refl S,hR,hv⟩⟩
 | cons x l ih =>
  intro K H
  have plain:qE h l (λ l' ks=>K (x::l') ks)->∃ xs' ks,K xs' ks ∧
    ∀ (G:Gh) (kp:List Nat) (st:St) (a:Act) (w:World) (S:Pin) (m:Nm) (vs:List Value),(∀ k ∈ ks,lk st.heap k=h k)->Rel G kp st a w S m->CVl S (x::l) m vs->∃ S',Ext S S'∧Rel G kp (st.blks (rT ks)) a w S' m∧CVl S' xs' m vs:=by
   intro H
   obtain ⟨l',ks,h1,h2⟩:=ih _ H
   refine ⟨x::l',ks,h1,λ G kp st a w S m vs hks hR hv=>?_⟩
   simp only [CVl] at hv
   obtain ⟨u,us,rfl,hu,hus⟩:=hv
   obtain ⟨S',q1,q2,q3⟩:=h2 G kp st a w S m us hks hR hus
   exact ⟨S',q1,q2,by simp only [CVl]; exact ⟨u,us,rfl,hu.ext q1 (MLe.refl m),q3⟩⟩
  cases x with
  | rw k s n =>
   simp only [qE] at H
   split at H
   ·rename_i e s' xs hk
    cases hb:(Nat.blt e 2000000&&Nat.beq s s') with
    | false=>rw [hb] at H; exact plain H
    | true =>
     rw [hb] at H
     simp only [cond_true] at H
     simp only [aC] at hb
     have hss:=aA hb.2
     subst hss
     obtain ⟨hn,H⟩:=aZ.1 H
     obtain ⟨l',ks,h1,h2⟩:=ih _ H
     cases hin:inL k ks with
     | true=>rw [hin] at h1; exact h1.elim
     | false =>
      rw [hin] at h1
      refine ⟨_,_,h1,λ G kp st a w S m vs hks hR hv=>?_⟩
      simp only [CVl] at hv
      obtain ⟨u,us,rfl,hu,hus⟩:=hv
      obtain ⟨S1,q1,q2,q3⟩:=aWD hR ((hks k (by simp)).trans hk) (aK hb.1)
      obtain ⟨S2,r1,r2,r3⟩:=h2 G kp (st.blk k .gone) a w S1 m us (λ j hj=>by
       simp only [St.blk,bS]
       rw [if_neg (λ e=>by subst e; rw [vG hj] at hin; cases hin)]
       exact hks j (by simp [hj])) q2 (hus.ext q1 (MLe.refl m))
      exact ⟨S2,q1.trans r1,r2,by simp only [CVl]; exact ⟨u,us,rfl,(q3 n u hn hu).ext r1 (MLe.refl m),r3⟩⟩
   ·exact plain H
  | _=>exact plain (by simpa only [qE] using H)
def aPC (wf:Bool) (E:Env) (kp:List Nat) (st:St) (nm:Nat) (c:Call) (ev:Operand->AV) (K:AV->List (Nat × Blk)->List Nat->Prop):Prop :=
 match c.callee with
 | .value f=>(match ev f with
  | .fn g caps=>cond (Nat.blt g fnB) (match E.spec g with
   | some sp=>qE (lk st.heap) (c.args.toList.map ev++caps) λ xs ks=>eE xs λ xs=>(match sp xs with
    | some (pre,r)=>pre∧cond wf (wfA r->K r (rT ks) ks) (K r (rT ks) ks)
    | none=>False)
   | none=>cond (aOb E g) (aXy (c.args.toList.map ev++caps) λ r=>K r [] []) (match E.specQ g with | some _=>aIA E kp st nm g (c.args.toList.map ev++caps) K | none=>aIB wf E kp st nm g (c.args.toList.map ev++caps) K)) False
  | _=>False)
 | _=>False
theorem aBZ {nt:Nat} {wf:Bool} (hS:cF P E) {o:Oper} {c:Call} {ev:Operand->AV} {st0:St} {nm:Nat} {K:AV->List (Nat × Blk)->List Nat->Prop} (ho:o.op=.call c) (hd:cU nt o.dst=true)
  (H:aPC wf E kp st0 nm c ev K):∃ r u rd,((wf=true->wfA r)->K r u rd)∧kU P E nt o ev (lk st0.heap) r u rd∧∀ p ∈ u,p.1 ∉ rd->fresh kp st0 p.1=true:=by
 unfold aPC at H
 split at H
 ·rename_i f hf
  split at H
  ·rename_i g caps hg
   obtain ⟨hgb,H⟩:=aW H
   have enter:Fok P g->∀ (a:Act) (w:World) (S:Pin) (m:Nm),(∀ x ∈ o.op.operands,CV S (ev x) m (a.eval x))->∃ vs,CVl S (c.args.toList.map ev++caps) m vs.toList∧(execOp a.eval o).run P w=.ok (.enter g vs) w:=by
    rintro ⟨fn,hfn,hname,hbody⟩ a w S m hcv
    rw [ho] at hcv
    have hfv:=hcv f (by simp [Op.operands,Call.operands,hf])
    rw [hg] at hfv
    simp only [CV] at hfv
    obtain ⟨us,hfe,hus⟩:=hfv
    rw [qJ hgb] at hfe
    refine ⟨c.args.map a.eval++us,?_,?_⟩
    ·rw [Array.toList_append,Array.toList_map]
     exact (CVl.map _ (λ x hx=>hcv x (by simp [Op.operands,Call.operands,hf]; exact .inr (Array.mem_toList_iff.1 hx)))).append hus
    ·simp [execOp,ho,resolve,hf,hfe,Deferred.ofValue,invoke,callFunc,hfn,hname,hbody]
   split at H
   ·rename_i sp hsp
    obtain ⟨xs0,ks,H,hgo⟩:=qD _ _ H
    obtain ⟨xs,H1,hx⟩:=cO _ _ H
    split at H1
    ·rename_i pre r hr
     obtain ⟨hfok,hsound⟩:=hS.1 g sp hsp
     have hC:=hsound xs pre r hr H1.1
     refine ⟨r,rT ks,ks,λ hw=>?_,?_,λ p hp hn=>absurd (qC hp) hn⟩
     ·cases wf with
      | true=>exact H1.2 (hw rfl)
      | false=>exact H1.2
     ·intro G kp st a w S m next Q hG hR hn he hk hfr hnext
      obtain ⟨vs,hargs,hrun⟩:=enter hfok a w S m (λ x hx=>he x hx ▸ nY hG hR x)
      obtain ⟨S1,hS1,hR1,hargs1⟩:=hgo G kp st a w S m _ hk hR hargs
      have hcall:=hC w S1 vs (λ q cs e=>CC.mono (hR.pin0.trans hS1) cs q 0 (hG q cs e)) hR1.agree (hx S1 m _ hargs1)
      unfold Oper.wp
      rw [hrun,Oper.upon_enter]
      refine hcall.mono ?_
      rintro e w' ⟨u,S',rfl,hb,hE,hp,hA,hu⟩
      refine hnext u w' S' m (aB5 _ _ _ hu) ?_
      have hR':=hR1.next hb hE hp hA
      unfold St.upd
      cases e:o.dst with
      | none=>exact hR'
      | some t =>
       refine hR'.put (hu.ext (Ext.refl _) (MLe.no m)) ?_
       rw [hn]
       rw [e] at hd
       exact aK hd
    ·exact H1.elim
   ·cases hx:aOb E g with
    | false =>
     rw [hx] at H
     simp only [cond_false] at H
     split at H
     ·exact zV hS hd enter H
     ·exact zW hS hd enter H
    | true =>
     rw [hx] at H
     simp only [cond_true] at H
     have hadd:aUx P g:=by
      unfold aOb at hx
      split at hx
      ·next h e =>
       have:=aA hx
       subst this
       have h3:=hS.2.2.1
       rw [e] at h3
       exact h3
      ·cases hx
     obtain ⟨fn,k1,k2,k3,k4,k5⟩:=hadd
     unfold aXy at H
     split at H
     ·rename_i x y z hxs
      obtain ⟨hz,H1⟩:=aZ.1 H
      refine ⟨_,[],[],λ _=>H1,yP hd λ a w S m hcv=>?_,by simp⟩
      rw [ho] at hcv
      have hfv:=hcv f (by simp [Op.operands,Call.operands,hf])
      rw [hg] at hfv
      simp only [CV] at hfv
      obtain ⟨us,hfe,hus⟩:=hfv
      rw [qJ hgb] at hfe
      have hall:CVl S (c.args.toList.map ev++caps) m (c.args.map a.eval++us).toList:=by
       rw [Array.toList_append,Array.toList_map]
       exact (CVl.map _ (λ x hx=>hcv x (by simp [Op.operands,Call.operands,hf]; exact .inr (Array.mem_toList_iff.1 hx)))).append hus
      rw [hxs] at hall
      simp only [CVl,CV] at hall
      obtain ⟨_,_,e1,⟨rfl,r1⟩,_,_,rfl,⟨rfl,r2⟩,_,_,rfl,⟨rfl,r3⟩,rfl⟩:=hall
      have e2:c.args.map a.eval++us=#[.int .u64 x,.int .u64 y,.int .u64 z]:=by
       rw [← Array.toArray_toList (xs:=c.args.map a.eval++us),e1]
      simp only [rng] at r1 r2 r3
      refine ⟨.tuple #[.int .u64 ((x+y+z) % 18446744073709551616),.int .u64 ((x+y+z) / 18446744073709551616)],?_,?_⟩
      ·have h1:=run_callFunc_extern k1 k2 k3 k4 k5 #[.int .u64 x,.int .u64 y,.int .u64 z] w
       rw [run_add64 x y z r1.1 r2.1 hz.1 hz.2 w] at h1
       simp [execOp,ho,resolve,hf,hfe,Deferred.ofValue,invoke,e2,h1]
      ·simp only [CV,CVl]
       refine ⟨_,rfl,_,_,rfl,⟨rfl,?_⟩,_,_,rfl,⟨rfl,?_⟩,rfl⟩
       ·simp only [rng]; omega
       ·simp only [rng]; omega
     ·exact H.elim
  ·exact H.elim
 ·exact H.elim
end Go.Proofs.YtgbbmadjdaphnaaGreatDoor
