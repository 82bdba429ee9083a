import Derived.Test.YtgbbmadjdaphnaaGreatDoorTPa
import Derived.Laws.AppendOwnNone
import Derived.Laws.MakeOwn
import Derived.Laws.CopyRow
import Derived.Laws.IdiomCopy
import Derived.Laws.BytesArg
import Derived.Lib.ConvBytes
import Derived.DeepKeys5
set_option maxRecDepth 100000
namespace Go.Proofs.YtgbbmadjdaphnaaGreatDoor
open Go
open Go.RowKit (Below)
set_option linter.unusedVariables false
set_option linter.unusedSimpArgs false
theorem CVl.append {S:Pin} {m:Nm}:∀ {xs ys:List AV} {us vs:List Value},CVl S xs m us→CVl S ys m vs→CVl S (xs++ys) m (us++vs)
 | [],ys,us,vs,h,k=>by simp only [CVl] at h; subst h; exact k
 | x::xs,ys,us,vs,h,k=>by
  simp only [CVl] at h
  obtain ⟨u,us',rfl,h1,h2⟩:=h
  simp only [List.cons_append,CVl]
  exact ⟨u,us'++vs,rfl,h1,CVl.append h2 k⟩
theorem flat_len {α:Type} {s:Nat}:∀ {zs:List (List α)},(∀ z ∈ zs,z.length=s)→zs.flatten.length=zs.length*s
 | [],_=>by simp
 | z::zs,h=>by
  simp only [List.flatten_cons,List.length_append,List.length_cons,Nat.succ_mul]
  rw [flat_len (fun y hy=>h y (List.mem_cons_of_mem _ hy)),h z List.mem_cons_self]; omega
theorem flat_get {α:Type} {s:Nat}:∀ {zs:List (List α)},(∀ z ∈ zs,z.length=s)→∀ {j i:Nat} {x:List α} {y:α},zs[j]?=some x→x[i]?=some y→zs.flatten[j*s+i]?=some y
 | [],_,j,i,x,y,h,_=>by simp at h
 | z::zs,h,j,i,x,y,hj,hi=>by
  have hz:=h z List.mem_cons_self
  cases j with
  | zero =>
   simp at hj
   subst hj
   have:i < z.length:=(List.getElem?_eq_some_iff.1 hi).1
   simp only [List.flatten_cons,Nat.zero_mul,Nat.zero_add]
   rw [List.getElem?_append_left this]; exact hi
  | succ j =>
   simp at hj
   simp only [List.flatten_cons]
   rw [List.getElem?_append_right (by rw [hz,Nat.succ_mul]; omega),hz,show (j+1)*s+i - s=j*s+i by rw [Nat.succ_mul]; omega]
   exact flat_get (fun y hy=>h y (List.mem_cons_of_mem _ hy)) hj hi
theorem CVl_flat {S:Pin} {m:Nm} {s:Nat}:∀ {zs:List (List AV)} {vals:List Value},vals.length=zs.length*s→(∀ (j:Nat) (x:List AV),zs[j]?=some x→x.length=s∧∀ (i:Nat) (y:AV),x[i]?=some y→∃ v,vals[j*s+i]?=some v∧CV S y m v)→CVl S zs.flatten m vals
 | [],vals,hl,_=>by
  have:vals=[]:=List.eq_nil_of_length_eq_zero (by simpa using hl)
  subst this
  simp only [List.flatten_nil,CVl]
 | z::zs,vals,hl,h=>by
  have h0:=h 0 z rfl
  simp only [List.length_cons,Nat.succ_mul] at hl
  have e:vals=vals.take s++vals.drop s:=(List.take_append_drop s vals).symm
  rw [List.flatten_cons,e]
  have a1:CVl S z m (vals.take s):=by
   refine CVl.mk (by simp; omega) (fun i y v e1 e2=>?_)
   obtain ⟨u,hu,hy⟩:=h0.2 i y e1
   rw [List.getElem?_take] at e2
   split at e2
   ·simp only [Nat.zero_mul,Nat.zero_add] at hu
    rw [hu] at e2
    injection e2 with e2
    subst e2; exact hy
   ·cases e2
  have a2:CVl S zs.flatten m (vals.drop s):=CVl_flat (s:=s) (by simp; omega) (fun j x hj=>by
   have:=h (j+1) x (by simpa using hj)
   refine ⟨this.1,fun i y hi=>?_⟩
   obtain ⟨v,hv,hy⟩:=this.2 i y hi
   refine ⟨v,?_,hy⟩
   rw [List.getElem?_drop,← hv]
   congr 1
   rw [Nat.succ_mul]; omega)
  clear e
  exact a1.append a2
theorem CE.vals {S:Pin}:∀ {xs:List (List AV)} {s b o:Nat},CE S xs s b o→(∀ z ∈ xs,z.length=s)∧∃ vs:List Value,vs.length=xs.length*s∧CVl S xs.flatten noNm vs∧∀ (j:Nat) (v:Value),vs[j]?=some v→S b (o+j)=some v
 | [],_,_,_,_=>⟨by simp,[],by simp,by simp only [List.flatten_nil,CVl],by simp⟩
 | x::xs,s,b,o,h=>by
  simp only [CE] at h
  obtain ⟨h1,h2,h3⟩:=h
  obtain ⟨vs,e1,e2⟩:=h2.vals
  obtain ⟨hl,us,e3,e4,e5⟩:=CE.vals h3
  have hvl:=e2.len
  refine ⟨fun z hz=>?_,vs++us,?_,?_,fun j v e=>?_⟩
  ·rcases List.mem_cons.1 hz with rfl | hz
   ·exact h1
   ·exact hl z hz
  ·simp only [List.length_append,List.length_cons,Nat.succ_mul]; omega
  ·rw [List.flatten_cons]
   exact e2.append e4
  ·by_cases hj:j < vs.length
   ·rw [List.getElem?_append_left hj] at e
    exact e1 j v e
   ·rw [List.getElem?_append_right (by omega)] at e
    have:=e5 _ v e
    rw [← this]
    congr 1
    omega
theorem row_of_flat {S:Pin} {s:Nat} {zs:List (List AV)} (hz:∀ z ∈ zs,z.length=s) {cur:Array Value} {vals:List Value} {m0:Nm} (hc:CVl S zs.flatten m0 vals) (h1:∀ v ∈ vals,v.oneCell'=true) (ht:cur.toList.take (zs.length*s)=vals) :
  ∀ (j:Nat) (x:List AV),zs[j]?=some x→x.length=s∧∀ (i:Nat) (y:AV),x[i]?=some y→∃ v,cur[j*s+i]?=some v∧v.oneCell'=true∧CV S y m0 v:=by
 intro j x hj
 refine ⟨hz x (List.mem_of_getElem? hj),fun i y hi=>?_⟩
 obtain ⟨v,hv,hy⟩:=hc.get (flat_get hz hj hi)
 refine ⟨v,?_,h1 v (List.mem_of_getElem? hv),hy⟩
 rw [← ht,List.getElem?_take] at hv
 split at hv
 ·simpa using hv
 ·cases hv
theorem all_len {s:Nat} {xs:List (List AV)} (h:∀ (j:Nat) (x:List AV),xs[j]?=some x→x.length=s):∀ z ∈ xs,z.length=s:=by
 intro z hz
 obtain ⟨j,hj,rfl⟩:=List.getElem_of_mem hz
 exact h j _ (List.getElem?_eq_getElem hj)
theorem Held.vals {S:Pin} {m:Nm} {w:World} {k e s:Nat} {xs:List (List AV)} (h:Held S m w k (.row e s xs)) :
  ∃ A c,m k=some (.iface 0 (.slice A xs.length c))∧xs.length≤c∧c≤maxLen∧(∀ z ∈ xs,z.length=s)∧((A=none∧c=0)∨∃ g cur fr,A=some ⟨g,0,none⟩∧w.heap[g]?=some (.cells cur (rowTy e) fr)∧RowMk e cur.size fr∧cur.size=c*s∧(∀ o,S g o=none)) ∧
   ∃ vals,vals.length=xs.length*s∧CVl S xs.flatten (rowNm e m) vals∧(∀ v ∈ vals,v.oneCell'=true)∧((A=none∧c=0)∨∃ g cur fr,A=some ⟨g,0,none⟩∧w.heap[g]?=some (.cells cur (rowTy e) fr)∧RowMk e cur.size fr∧cur.size=c*s∧cur.toList.take (xs.length*s)=vals)∧∀ g,A=some ⟨g,0,none⟩→∀ (j:Nat) (v:Value),vals[j]?=some v→w.cell? ⟨g,j,none⟩=some v:=by
 obtain ⟨A,c,h1,h2,h3,h4⟩:=h
 refine ⟨A,c,h1,h2,h3,?_⟩
 rcases h4 with ⟨rfl,rfl⟩ | ⟨g,cur,fr,rfl,h5,hfr,h6,h7,h8⟩
 ·have hx:xs=[]:=List.eq_nil_of_length_eq_zero (by omega)
  subst hx
  exact ⟨by simp,.inl ⟨rfl,rfl⟩,[],by simp,by simp only [List.flatten_nil,CVl],by simp,.inl ⟨rfl,rfl⟩,fun g e=>by cases e⟩
 ·have hlen:=all_len (fun j x hj=>(h8 j x hj).1)
  have hle:xs.length*s≤cur.size:=by rw [h6]; exact Nat.mul_le_mul_right s h2
  have hl:(cur.toList.take (xs.length*s)).length=xs.length*s:=by have h9:=Array.length_toList (xs:=cur); rw [List.length_take]; omega
  refine ⟨hlen,.inr ⟨g,cur,fr,rfl,h5,hfr,h6,h7⟩,cur.toList.take (xs.length*s),hl,CVl_flat hl (fun j x hj=>⟨(h8 j x hj).1,fun i y hi=>?_⟩),?_,.inr ⟨g,cur,fr,rfl,h5,hfr,h6,rfl⟩,fun g' e j v hv=>?_⟩
  ·obtain ⟨v,hv,_,hy⟩:=(h8 j x hj).2 i y hi
   refine ⟨v,?_,hy⟩
   have hjl:j < xs.length:=(List.getElem?_eq_some_iff.1 hj).1
   have hil:i < s:=by have:=(List.getElem?_eq_some_iff.1 hi).1; rw [(h8 j x hj).1] at this; exact this
   have:j*s+s≤xs.length*s:=by rw [← Nat.succ_mul]; exact Nat.mul_le_mul_right s hjl
   rw [List.getElem?_take,if_pos (by omega)]
   simpa using hv
  ·intro v hv
   obtain ⟨p,hp,rfl⟩:=List.getElem_of_mem hv
   rw [hl] at hp
   have hs:0 < s:=by
    rcases Nat.eq_zero_or_pos s with h | h
    ·subst h; simp at hp
    ·exact h
   have hj:p / s < xs.length:=Nat.div_lt_of_lt_mul (by rw [Nat.mul_comm]; exact hp)
   have hi:p % s < s:=Nat.mod_lt _ hs
   have e1:=List.getElem?_eq_getElem hj
   obtain ⟨hz,hc⟩:=h8 _ _ e1
   have e2:=List.getElem?_eq_getElem (show p % s < (xs[p / s]).length by rw [hz]; exact hi)
   obtain ⟨u,hu,ho,_⟩:=hc _ _ e2
   have hp2:p / s*s+p % s=p:=Nat.div_add_mod' p s
   rw [hp2] at hu
   have:(cur.toList.take (xs.length*s))[p]'(by rw [hl]; exact hp)=u:=by
    have h9:(cur.toList.take (xs.length*s))[p]?=some u:=by
     rw [List.getElem?_take,if_pos hp]; simpa using hu
    rw [List.getElem?_eq_getElem (by rw [hl]; exact hp)] at h9
    exact Option.some.inj h9
   rw [this]; exact ho
  ·injection e with e
   injection e with e
   subst e
   rw [cell_of_row w g j cur _ fr h5]
   rw [List.getElem?_take] at hv
   split at hv
   ·simpa using hv
   ·cases hv
theorem flat_sub {α:Type} {s:Nat}:∀ (l:List (List α)) (p q:Nat),(∀ z ∈ l,z.length=s)→((l.drop p).take q).flatten=(l.flatten.drop (p*s)).take (q*s)
 | [],p,q,_=>by simp
 | z::l,0,0,_=>by simp
 | z::l,0,q+1,hl=>by
  have hz:=hl z List.mem_cons_self
  have:=flat_sub l 0 q (fun y hy=>hl y (List.mem_cons_of_mem _ hy))
  simp only [List.drop_zero,Nat.zero_mul] at this ⊢
  rw [List.take_succ_cons,List.flatten_cons,List.flatten_cons,this,List.take_append,hz,Nat.succ_mul,show q*s+s - s=q*s by omega]
  rw [List.take_of_length_le (l:=z) (by rw [hz]; omega)]
 | z::l,p+1,q,hl=>by
  have hz:=hl z List.mem_cons_self
  have:=flat_sub l p q (fun y hy=>hl y (List.mem_cons_of_mem _ hy))
  rw [List.drop_succ_cons,this,List.flatten_cons,List.drop_append,hz,Nat.succ_mul,show p*s+s - s=p*s by omega]
  rw [@List.drop_eq_nil_of_le _ z _ (by rw [hz]; omega),List.nil_append]
def srcK (h:Nat→Option Blk) (s:Nat):AV→(List (List AV)→List Nat→Prop)→Prop
 | .nils,k=>k [] []
 | .rw j s' n,k=>(match h j with | some (.row e2 s2 xs)=>cond (Nat.beq s s'&&Nat.beq s s2&&Nat.blt e2 2000000) (chk (n=xs.length) (k xs [j])) False | _=>False)
 | .mw j s' q eo n _,k=>(match h j with | some (.row e2 s2 xs)=>cond (Nat.beq s s'&&Nat.beq s s2&&Nat.blt e2 2000000) (chk (q=xs.length∧eo+n≤xs.length) (k ((xs.drop eo).take n) [j])) False | _=>False)
 | x,k=>viewS x fun s' _ ys=>cond (Nat.beq s s') (k ys []) False
def Src (S:Pin) (m0:Nm) (w:World) (s:Nat) (ys:List (List AV)) (v:Value):Prop :=
 ∃ A c,v=.slice A ys.length c∧ys.length≤c∧(∀ z ∈ ys,z.length=s)∧∃ news:List Value,news.length=ys.length*s∧CVl S ys.flatten m0 news∧(∀ u ∈ news,u.oneCell'=true) ∧
  ((A=none∧c=0)∨∃ a,A=some a∧∀ (j:Nat) (u:Value),news[j]?=some u→w.cell? (a.add j)=some u)
theorem srcK_sound {h:Nat→Option Blk} {s:Nat} {x:AV} {k:List (List AV)→List Nat→Prop} (H:srcK h s x k):∃ ys rd,k ys rd∧∀ (G:Gh) (kp:List Nat) (st:St) (a:Act) (w:World) (S:Pin) (m:Nm) (v:Value),Rel G kp st a w S m→(∀ j ∈ rd,lk st.heap j=h j)→CV S x m v→Src S noNm w s ys v:=by
 have view:∀ {x:AV},viewS x (fun s' _ ys=>cond (Nat.beq s s') (k ys []) False)→∃ ys rd,k ys rd∧∀ (G:Gh) (kp:List Nat) (st:St) (a:Act) (w:World) (S:Pin) (m:Nm) (v:Value),Rel G kp st a w S m→(∀ j ∈ rd,lk st.heap j=h j)→CV S x m v→Src S noNm w s ys v:=by
  intro x H
  obtain ⟨s',f,ys,H,hx⟩:=viewS_sound H
  obtain ⟨hs,H1⟩:=cond_F H
  have hs:=Nat.eq_of_beq_eq_true hs
  subst hs
  refine ⟨ys,[],H1,fun G kp st a w S m v hR _ hv=>?_⟩
  obtain ⟨A,c,rfl,h1,h2,h3,h4,h5⟩:=hx S m v hv
  cases A with
  | none =>
   have hc:=h4 rfl
   have hy:ys=[]:=List.eq_nil_of_length_eq_zero (by omega)
   subst hy
   exact ⟨none,c,rfl,by simp,by simp,[],by simp,by simp only [List.flatten_nil,CVl],by simp,.inl ⟨rfl,hc⟩⟩
  | some ad =>
   obtain ⟨p1,p2⟩:=h5 ad rfl
   obtain ⟨q1,news,q2,q3,q4⟩:=p2.vals
   refine ⟨some ad,c,rfl,h1,q1,news,q2,q3,fun u hu=>?_,.inr ⟨ad,rfl,fun j u hj=>?_⟩⟩
   ·obtain ⟨j,hj,rfl⟩:=List.getElem_of_mem hu
    exact (hR.agree _ _ _ (q4 j _ (List.getElem?_eq_getElem hj))).2
   ·have p1:=p1 (by
     intro hc0
     have hy:ys.length=0:=by omega
     have:=(List.getElem?_eq_some_iff.1 hj).1
     rw [q2,hy] at this
     omega)
    obtain ⟨b,o,sp⟩:=ad
    simp only at p1
    subst p1
    rw [add_none]
    exact (hR.agree _ _ _ (q4 j u hj)).1
 unfold srcK at H
 split at H
 ·refine ⟨[],[],H,fun G kp st a w S m v hR _ hv=>?_⟩
  simp only [CV] at hv
  subst hv
  exact ⟨none,0,rfl,by simp,by simp,[],by simp,by simp only [List.flatten_nil,CVl],by simp,.inl ⟨rfl,rfl⟩⟩
 ·rename_i j s' n
  split at H
  ·rename_i e s2 xs hj
   obtain ⟨hs,H0⟩:=cond_F H
   simp only [Bool.and_eq_true] at hs
   have hs1:=Nat.eq_of_beq_eq_true hs.1.1
   have hs2:=Nat.eq_of_beq_eq_true hs.1.2
   have hs3:e < 2000000:=Nat.le_of_ble_eq_true hs.2
   subst hs1; subst hs2
   obtain ⟨hn,H1⟩:=chk_iff.1 H0
   refine ⟨xs,[j],H1,fun G kp st a w S m v hR hrd hv=>?_⟩
   obtain ⟨A,c,h1,h2,h3,h4,h5,vals,h6,h7,h8,h9,h10⟩:=(hR.held j _ ((hrd j (by simp)).trans hj)).vals
   rw [rowNm_lo hs3] at h7
   simp only [CV] at hv
   obtain ⟨_,A1,q,c1,p1,p2,p3⟩:=hv
   rw [h1] at p1
   injection p1 with p1
   injection p1 with _ p1
   injection p1 with e1 e2 e3
   subst e1; subst e3
   have hv:=p3 (by omega)
   subst hv
   refine ⟨A,c,by rw [← e2],h2,h4,vals,h6,h7,h8,?_⟩
   rcases h5 with ⟨rfl,rfl⟩ | ⟨g,cur,fr,rfl,_⟩
   ·exact .inl ⟨rfl,rfl⟩
   ·exact .inr ⟨_,rfl,fun i u hi=>by rw [add_none,Nat.zero_add]; exact h10 g rfl i u hi⟩
  ·exact H.elim
 ·rename_i j s' q eo n f
  split at H
  ·rename_i e s2 xs hj
   obtain ⟨hs,H0⟩:=cond_F H
   simp only [Bool.and_eq_true] at hs
   have hs1:=Nat.eq_of_beq_eq_true hs.1.1
   have hs2:=Nat.eq_of_beq_eq_true hs.1.2
   have hs3:e < 2000000:=Nat.le_of_ble_eq_true hs.2
   subst hs1; subst hs2
   obtain ⟨⟨hq,hn⟩,H1⟩:=chk_iff.1 H0
   have hlen:((xs.drop eo).take n).length=n:=by simp; omega
   refine ⟨_,[j],H1,fun G kp st a w S m v hR hrd hv=>?_⟩
   obtain ⟨A,c,h1,h2,h3,h4,h5,vals,h6,h7,h8,h9,h10⟩:=(hR.held j _ ((hrd j (by simp)).trans hj)).vals
   rw [rowNm_lo hs3] at h7
   simp only [CV] at hv
   obtain ⟨A2,c2,rfl,p1,p2,p3,p4,p5,A1,q1,c1,p6,p7,p8⟩:=hv
   rw [h1] at p6
   injection p6 with p6
   injection p6 with _ p6
   injection p6 with e1 e2 e3
   subst e1; subst e3
   have hz':∀ z ∈ (xs.drop eo).take n,z.length=s:=fun z hz=>h4 z (List.mem_of_mem_drop (List.mem_of_mem_take hz))
   by_cases hc2:c2=0
   ·have hn0:n=0:=by omega
    subst hn0
    refine ⟨A2,c2,by rw [hlen],by rw [hlen]; exact p1,hz',[],by simp,by simp only [List.take_zero,List.flatten_nil,CVl],by simp,?_⟩
    cases A2 with
    | none=>exact .inl ⟨rfl,hc2⟩
    | some ad=>exact .inr ⟨ad,rfl,by simp⟩
   ·obtain ⟨g,e4,e5⟩:=p8 (by omega) hc2
    subst e4; subst e5
    have hfl:((xs.drop eo).take n).flatten=(xs.flatten.drop (eo*s)).take (n*s):=by
     exact flat_sub xs eo n h4
    have hpn:eo*s+n*s≤xs.length*s:=by rw [← Nat.add_mul]; exact Nat.mul_le_mul_right s hn
    refine ⟨_,c2,by rw [hlen],by rw [hlen]; exact p1,hz',(vals.drop (eo*s)).take (n*s),by rw [hlen]; simp; omega,by rw [hfl]; exact (h7.drop _).take _,fun u hu=>h8 u (List.mem_of_mem_drop (List.mem_of_mem_take hu)),.inr ⟨_,rfl,fun i u hi=>?_⟩⟩
    rw [add_none]
    rw [List.getElem?_take] at hi
    split at hi
    ·rw [List.getElem?_drop] at hi
     exact h10 g rfl _ u hi
    ·cases hi
  ·exact H.elim
 ·exact view H
def srcO (h:Nat→Option Blk) (s:Nat):AV→(List (List AV)→List Nat→Prop)→Prop
 | .rw j s' n,k=>(match h j with | some (.row _ s2 xs)=>cond (Nat.beq s s'&&Nat.beq s s2&&Nat.blt 0 xs.length) (chk (n=xs.length) (k xs [j])) False | _=>False)
 | _,_=>False
theorem srcO_sound {h:Nat→Option Blk} {s:Nat} {x:AV} {k:List (List AV)→List Nat→Prop} (H:srcO h s x k):∃ ys rd,k ys rd∧0 < ys.length∧∀ (G:Gh) (kp:List Nat) (st:St) (a:Act) (w:World) (S:Pin) (m:Nm) (v:Value),Rel G kp st a w S m→(∀ j ∈ rd,lk st.heap j=h j)→CV S x m v→Src S m w s ys v:=by
 unfold srcO at H
 split at H
 ·rename_i j s' n
  split at H
  ·rename_i e s2 xs hj
   obtain ⟨hs,H0⟩:=cond_F H
   simp only [Bool.and_eq_true] at hs
   have hs1:=Nat.eq_of_beq_eq_true hs.1.1
   have hs2:=Nat.eq_of_beq_eq_true hs.1.2
   have hs3:0 < xs.length:=Nat.le_of_ble_eq_true hs.2
   subst hs1; subst hs2
   obtain ⟨hn,H1⟩:=chk_iff.1 H0
   refine ⟨xs,[j],H1,hs3,fun G kp st a w S m v hR hrd hv=>?_⟩
   obtain ⟨A,c,h1,h2,h3,h4,h5,vals,h6,h7,h8,h9,h10⟩:=(hR.held j _ ((hrd j (by simp)).trans hj)).vals
   have h7:=h7.ext (Ext.refl S) (rowNm_le e m)
   simp only [CV] at hv
   obtain ⟨_,A1,q,c1,p1,p2,p3⟩:=hv
   rw [h1] at p1
   injection p1 with p1
   injection p1 with _ p1
   injection p1 with e1 e2 e3
   subst e1; subst e3
   have hv:=p3 (by omega)
   subst hv
   refine ⟨A,c,by rw [← e2],h2,h4,vals,h6,h7,h8,?_⟩
   rcases h5 with ⟨rfl,rfl⟩ | ⟨g,cur,fr,rfl,_⟩
   ·exact .inl ⟨rfl,rfl⟩
   ·exact .inr ⟨_,rfl,fun i u hi=>by rw [add_none,Nat.zero_add]; exact h10 g rfl i u hi⟩
  ·exact H.elim
 ·exact H.elim
def opnB (h:Nat→Option Blk):AV→Bool
 | .rw j _ _=>(match h j with | some (.row e _ _)=>Nat.ble 2000000 e | _=>false)
 | _=>false
def forceNk (n:Nat) (k:Nat→Prop):Prop:=match n with | 0=>k 0 | m+1=>k (Nat.succ m)
theorem forceNk_eq (n:Nat) (k:Nat→Prop):forceNk n k=k n:=by cases n <;> rfl
def forceAL:List AV→(List AV→Prop)→Prop
 | [],k=>k []
 | x::l,k=>forceA x fun x=>forceAL l fun l=>k (x::l)
theorem forceAL_eq:∀ (l:List AV) (k:List AV→Prop),forceAL l k=k l
 | [],k=>rfl
 | x::l,k=>by simp only [forceAL,forceA_eq]; exact forceAL_eq l _
def forceLL:List (List AV)→(List (List AV)→Prop)→Prop
 | [],k=>k []
 | x::l,k=>forceAL x fun x=>forceLL l fun l=>k (x::l)
theorem forceLL_eq:∀ (l:List (List AV)) (k:List (List AV)→Prop),forceLL l k=k l
 | [],k=>rfl
 | x::l,k=>by simp only [forceLL,forceAL_eq]; exact forceLL_eq l _
def fcL (o:Bool) (l:List (List AV)) (k:List (List AV)→Prop):Prop:=cond o (forceLL l k) (k l)
theorem fcL_eq (o:Bool) (l:List (List AV)) (k:List (List AV)→Prop):fcL o l k=k l:=by cases o <;> simp only [fcL,cond_true,cond_false,forceLL_eq]
def fcN (o:Bool) (n:Nat) (k:Nat→Prop):Prop:=cond o (forceNk n k) (k n)
theorem fcN_eq (o:Bool) (n:Nat) (k:Nat→Prop):fcN o n k=k n:=by cases o <;> simp only [fcN,cond_true,cond_false,forceNk_eq]
def tyO (o:Bool) (e:Nat):Nat:=cond o (Nat.add e 2000000) e
def srcG (o:Bool) (h:Nat→Option Blk) (s:Nat) (y:AV) (k:List (List AV)→List Nat→Prop):Prop:=cond o (srcO h s y k) (srcK h s y k)
theorem srcG_sound {o:Bool} {e:Nat} (he:e < 1000000) {h:Nat→Option Blk} {s:Nat} {x:AV} {k:List (List AV)→List Nat→Prop} (H:srcG o h s x k):∃ ys rd,k ys rd∧(o=true→0 < ys.length)∧∀ (G:Gh) (kp:List Nat) (st:St) (a:Act) (w:World) (S:Pin) (m:Nm) (v:Value),Rel G kp st a w S m→(∀ j ∈ rd,lk st.heap j=h j)→CV S x m v→Src S (rowNm (tyO o e) m) w s ys v:=by
 unfold srcG at H
 cases o with
 | true =>
  obtain ⟨ys,rd,h1,h2,h3⟩:=srcO_sound H
  refine ⟨ys,rd,h1,fun _=>h2,fun G kp st a w S m v hR hrd hv=>?_⟩
  rw [rowNm_hi (by show ¬ e+2000000 < 2000000; omega)]
  exact h3 G kp st a w S m v hR hrd hv
 | false =>
  obtain ⟨ys,rd,h1,h3⟩:=srcK_sound H
  refine ⟨ys,rd,h1,(fun q=>by cases q),fun G kp st a w S m v hR hrd hv=>?_⟩
  rw [rowNm_lo (show tyO false e < 2000000 from Nat.lt_trans he (by decide))]
  exact h3 G kp st a w S m v hR hrd hv
theorem rowTy_tyO {e:Nat} (he:e < 1000000) (o:Bool):rowTy (tyO o e)=e:=by
 cases o with
 | true=>exact rowTy_op
 | false=>exact rowTy_lt he
theorem RowMk.tyO {e n:Nat} {fr:Nat × Nat} (he:e < 1000000) {o:Bool} (h:RowMk (tyO o e) n fr):fr=(0,0):=by
 cases o with
 | true=>exact RowMk.op h
 | false=>exact h.lt he
theorem rowNm_set {S:Pin} {e k:Nat} {m:Nm} {u:Value} {xs:List AV} {vs:List Value} (h:CVl S xs (rowNm e m) vs) (hn:2000000≤e→nnl k xs=true):CVl S xs (rowNm e (m.set k u)) vs:=by
 by_cases he:e < 2000000
 ·rw [rowNm_lo he] at h ⊢; exact h
 ·rw [rowNm_hi he] at h ⊢; exact h.set (hn (by omega))
theorem nnl_app {k:Nat}:∀ (a b:List AV),nnl k a=true→nnl k b=true→nnl k (a++b)=true
 | [],b,_,hb=>hb
 | z::a,b,ha,hb=>by
  simp only [nnl,Bool.and_eq_true] at ha
  simp only [List.cons_append,nnl,Bool.and_eq_true]
  exact ⟨ha.1,nnl_app a b ha.2 hb⟩
theorem nnll_flat {k:Nat}:∀ {xs:List (List AV)},nnll k xs=true→nnl k xs.flatten=true
 | [],_=>rfl
 | x::l,h=>by
  simp only [nnll,Bool.and_eq_true] at h
  rw [List.flatten_cons]
  exact nnl_app _ _ h.1 (nnll_flat h.2)
theorem grow_le {m:Nm} {k:Nat} {A A':Option Addr} {n n' c c':Nat} (hm:m k=some (.iface 0 (.slice A n c))) (hlt:n < n'):MLe m (m.set k (.iface 0 (.slice A' n' c'))):=by
 intro j u hj
 by_cases e:j=k
 ·subst e
  rw [hm] at hj
  injection hj with hj
  subst hj
  exact ⟨_,Nm.set_same _ _ _,.inr ⟨_,_,_,_,_,_,hlt,.inr ⟨rfl,rfl⟩⟩⟩
 ·exact ⟨u,by rw [Nm.set_ne m _ e]; exact hj,.refl u⟩
theorem Rel.congr' {G:Gh} {kp:List Nat} {st st':St} {a:Act} {w:World} {S:Pin} {m:Nm} (h:Rel G kp st a w S m) (h1:∀ t,st'.get t=st.get t) (h2:∀ k,lk st'.heap k=lk st.heap k):Rel G kp st' a w S m :=
 h.weaken (fun t v hv=>by rw [h1]; exact hv) (fun k b hk=>by rw [h2] at hk; exact ⟨⟨b,hk⟩,h.held k b hk⟩)
theorem run_append_zero {P:Program} {w:World} {t ty e:TypeId} {i:TypeInfo} (ht:P.underlying t=some (.slice e)) (hi:P.info? e=some i) (A:Option Addr) (n c:Nat) (hn:n≤c) (B:Option Addr) (d:Nat) :
  (Builtin.append_ #[t,t] ty #[.slice A n c,.slice B 0 d]).run P w=.ok (.slice A n c) w:=by
 have hf:(Builtin.firstCells i.size 0 (.slice B 0 d)).run P w=.ok #[] w:=by
  cases B with
  | none=>simp [Builtin.firstCells]
  | some b=>simp [Builtin.firstCells,loadCells,loadCellsFrom]
 cases A with
 | none=>simp [Builtin.append_,run_underlying ht,sizeOf,typeInfo,hi,Builtin.lenOf,hn,hf]
 | some a=>simp [Builtin.append_,run_underlying ht,sizeOf,typeInfo,hi,Builtin.lenOf,hn,hf,storeCells]
theorem row_append {P:Program} {w:World} {t ty e:TypeId} {i:TypeInfo} {z:Value} (ht:P.underlying t=some (.slice e)) (hi:P.info? e=some i) (hz:i.zero=some z) (hzs:z.cells.size=i.size)
  {A:Option Addr} {n c:Nat} {vals:List Value} (hn:n≤c) (hl:vals.length=n*i.size)
  (hA:(A=none∧c=0)∨∃ g cur,A=some ⟨g,0,none⟩∧w.heap[g]?=some (.cells cur e (0,0))∧cur.size=c*i.size∧cur.toList.take (n*i.size)=vals)
  {a:Addr} {m d:Nat} {news:List Value} (hm:news.length=m*i.size) (hnews:∀ j u,news[j]?=some u→w.cell? (a.add j)=some u) (h1:∀ u ∈ news,u.oneCell'=true) (h0:0 < m) (h63:n+m≤maxLen) (hb:(n+m)*i.bytes≤140737488355328) :
  ∃ A' c' w' cur',(Builtin.append_ #[t,t] ty #[.slice A n c,.slice (some a) m d]).run P w=.ok (.slice A' (n+m) c') w'∧n+m≤c'∧c'≤max c maxLen∧cur'.size=c'*i.size∧cur'.toList.take ((n+m)*i.size)=vals++news ∧
   ((∃ g,A=some ⟨g,0,none⟩∧A'=A∧c'=c∧w'=w.setRow g cur')∨(A'=some ⟨w.heap.size,0,none⟩∧w'=w.drew.alloc (.cells cur' e))):=by
 have h63':n+m≤9223372036854775807:=by unfold maxLen at h63; omega
 have tk:∀ (old:Nat),old < n+m→∀ (us:Array Value),us.toList=vals++news→(us++Builtin.zeroCells z.cells (grownCap w (n+m) old e - (n+m))).size=grownCap w (n+m) old e*i.size∧(us++Builtin.zeroCells z.cells (grownCap w (n+m) old e - (n+m))).toList.take ((n+m)*i.size)=vals++news:=by
  intro old ho us hus
  have hge:=grownCap_ge w (n+m) old e
  have hul:us.size=(n+m)*i.size:=by have:us.toList.length=us.size:=rfl; rw [← this,hus,List.length_append,hl,hm,Nat.add_mul]
  refine ⟨?_,?_⟩
  ·rw [Array.size_append,hul,size_zeroCells,hzs,← Nat.add_mul]
   congr 1; omega
  ·rw [Array.toList_append,List.take_append_of_le_length (by simp; omega),List.take_of_length_le (by simp; omega),hus]
 rcases hA with ⟨rfl,rfl⟩ | ⟨g,cur,rfl,h2,h3,h4⟩
 ·have hn0:n=0:=by omega
  subst hn0
  have hv:vals=[]:=List.eq_nil_of_length_eq_zero (by simpa using hl)
  subst hv
  have hr:=run_append_nil (P:=P) w t ty e i z ht hi hz a m d news hm hnews h0 (by omega) (by simp at hb; omega)
  obtain ⟨q1,q2⟩:=tk 0 (by omega) news.toArray (by simp)
  simp only [Nat.zero_add] at q1 q2 ⊢
  exact ⟨_,_,_,_,hr,grownCap_ge w m 0 e,Nat.le_trans (grownCap_le_maxLen w m 0 e (by omega)) (Nat.le_max_right _ _),q1,q2,.inr ⟨rfl,rfl⟩⟩
 ·by_cases hroom:n+m≤c
  ·have hfit:n*i.size+news.length≤cur.size:=by rw [hm,h3,← Nat.add_mul]; exact Nat.mul_le_mul_right _ hroom
   have hr:=run_append_room (P:=P) w t ty e i ht hi g n c cur h2 a m d news hm hnews h1 hroom hfit
   refine ⟨_,_,_,_,hr,hroom,Nat.le_max_left _ _,?_,?_,.inl ⟨g,rfl,rfl,rfl,rfl⟩⟩
   ·have:=Array.length_toList (xs:=cur)
    simp; omega
   ·have hlen:(cur.toList.take (n*i.size)++news).length=(n+m)*i.size:=by
     rw [h4,List.length_append,hl,hm,Nat.add_mul]
    show ((cur.toList.take (n*i.size)++news)++cur.toList.drop (n*i.size+news.length)).take ((n+m)*i.size)=_
    rw [List.take_append_of_le_length (by omega),List.take_of_length_le (by omega),h4]
  ·have hr:=run_append_grow (P:=P) w t ty e i z ht hi hz ⟨g,0,none⟩ n c vals hl (fun j u hj=>by
    rw [add_none,Nat.zero_add,cell_of_row w g j cur e (0,0) h2]
    rw [← h4,List.getElem?_take] at hj
    split at hj
    ·simpa using hj
    ·cases hj) a m d news hm hnews (by omega) (by omega) (growslice_fits (by omega) hb)
   obtain ⟨q1,q2⟩:=tk c (by omega) (vals.toArray++news.toArray) (by simp)
   exact ⟨_,_,_,_,hr,grownCap_ge w _ _ _,Nat.le_trans (grownCap_le_maxLen w _ _ _ h63) (Nat.le_max_right _ _),q1,q2,.inr ⟨rfl,rfl⟩⟩
theorem full_append {P:Program} {w:World} {t ty e:TypeId} {i:TypeInfo} {z:Value} (ht:P.underlying t=some (.slice e)) (hi:P.info? e=some i) (hz:i.zero=some z) (hzs:z.cells.size=i.size)
  {A:Option Addr} {n:Nat} {vals:List Value} (hl:vals.length=n*i.size)
  (hA:(A=none∧n=0)∨∃ a0,A=some a0∧∀ (j:Nat) (u:Value),vals[j]?=some u→w.cell? (a0.add j)=some u)
  {a:Addr} {m d:Nat} {news:List Value} (hm:news.length=m*i.size) (hnews:∀ j u,news[j]?=some u→w.cell? (a.add j)=some u) (h0:0 < m) (h63:n+m≤maxLen) (hb:(n+m)*i.bytes≤140737488355328) :
  ∃ c' cur',(Builtin.append_ #[t,t] ty #[.slice A n n,.slice (some a) m d]).run P w=.ok (.slice (some ⟨w.heap.size,0,none⟩) (n+m) c') (w.drew.alloc (.cells cur' e))∧n+m≤c'∧c'≤maxLen∧cur'.size=c'*i.size∧cur'.toList.take ((n+m)*i.size)=vals++news:=by
 have h63':n+m≤9223372036854775807:=by unfold maxLen at h63; omega
 have tk:∀ (old:Nat),old < n+m→∀ (us:Array Value),us.toList=vals++news→(us++Builtin.zeroCells z.cells (grownCap w (n+m) old e - (n+m))).size=grownCap w (n+m) old e*i.size∧(us++Builtin.zeroCells z.cells (grownCap w (n+m) old e - (n+m))).toList.take ((n+m)*i.size)=vals++news:=by
  intro old ho us hus
  have hge:=grownCap_ge w (n+m) old e
  have hul:us.size=(n+m)*i.size:=by have:us.toList.length=us.size:=rfl; rw [← this,hus,List.length_append,hl,hm,Nat.add_mul]
  refine ⟨?_,?_⟩
  ·rw [Array.size_append,hul,size_zeroCells,hzs,← Nat.add_mul]
   congr 1; omega
  ·rw [Array.toList_append,List.take_append_of_le_length (by simp; omega),List.take_of_length_le (by simp; omega),hus]
 rcases hA with ⟨rfl,rfl⟩ | ⟨a0,rfl,hold⟩
 ·have hv:vals=[]:=List.eq_nil_of_length_eq_zero (by simpa using hl)
  subst hv
  have hr:=run_append_nil (P:=P) w t ty e i z ht hi hz a m d news hm hnews h0 (by omega) (by simp at hb; omega)
  obtain ⟨q1,q2⟩:=tk 0 (by omega) news.toArray (by simp)
  simp only [Nat.zero_add] at q1 q2 ⊢
  exact ⟨_,_,hr,grownCap_ge w m 0 e,grownCap_le_maxLen w m 0 e (by omega),q1,q2⟩
 ·have hr:=run_append_grow (P:=P) w t ty e i z ht hi hz a0 n n vals hl hold a m d news hm hnews (by omega) (by omega) (growslice_fits (by omega) hb)
  obtain ⟨q1,q2⟩:=tk n (by omega) (vals.toArray++news.toArray) (by simp)
  exact ⟨_,_,hr,grownCap_ge w _ _ _,grownCap_le_maxLen w _ _ _ h63,q1,q2⟩
theorem Rel.regrow {G:Gh} {kp:List Nat} {st:St} {a:Act} {w:World} {S:Pin} {m:Nm} (h:Rel G kp st a w S m) {k:Nat} {b b':Blk} (hk:lk st.heap k=some b) {A A':Option Addr} {n n' c c':Nat} (hm:m k=some (.iface 0 (.slice A n c))) (hlt:n < n') {w':World}
  (hos:w'.os=w.os) (htp:w'.tape=w.tape) (hou:w'.output=w.output) (hsz:w.heap.size≤w'.heap.size) (hb:∀ i,i < w.heap.size→bk (.iface 0 (.slice A n c))≠some i→w'.heap[i]?=w.heap[i]?)
  (hn:∀ g,bk (.iface 0 (.slice A n c))=some g→∀ o,S g o=none) (hA:A'=A∨A'=some ⟨w.heap.size,0,none⟩) (hh:Held S (m.set k (.iface 0 (.slice A' n' c'))) w' k b'):Rel G kp (st.blk k b') a w' S (m.set k (.iface 0 (.slice A' n' c'))):=by
 have hle:MLe m (m.set k (.iface 0 (.slice A' n' c'))):=by
  intro j u hj
  by_cases e:j=k
  ·subst e
   rw [hm] at hj
   injection hj with hj
   subst hj
   exact ⟨_,Nm.set_same _ _ _,.inr ⟨_,_,_,_,_,_,hlt,.inr ⟨rfl,rfl⟩⟩⟩
  ·exact ⟨u,by rw [Nm.set_ne m _ e]; exact hj,.refl u⟩
 have hbk:∀ g,bk (.iface 0 (.slice A' n' c'))=some g→bk (.iface 0 (.slice A n c))=some g∨g=w.heap.size:=by
  intro g hg
  rcases hA with rfl | rfl
  ·left
   cases A' with
   | none=>simp [bk] at hg
   | some ad=>simpa [bk] using hg
  ·right; simp [bk] at hg; exact hg.symm
 have hlk:∀ j,(∃ c,lk (st.blk k b').heap j=some c)→∃ c,lk st.heap j=some c:=by
  rintro j ⟨c,hj⟩
  simp only [St.blk,lk_ins] at hj
  by_cases e:j=k
  ·subst e; exact ⟨b,hk⟩
  ·rw [if_neg e] at hj; exact ⟨c,hj⟩
 have hold:∀ j,j≠k→(m.set k (.iface 0 (.slice A' n' c'))) j=m j:=fun j e=>Nm.set_ne m _ e
 refine { h with defers:=h.defers,agree:=?_,tmps:=fun t=>(h.tmps t).ext (Ext.refl S) hle,held:=?_,inj:=?_,own:=?_,os:=hos.trans h.os,tape:=htp.trans h.tape,output:=hou.trans h.output,size:=Nat.le_trans h.size hsz,frame:=?_,m0:=h.m0.trans hle }
 ·intro c o v e
  refine ⟨?_,(h.agree c o v e).2⟩
  have hne:bk (.iface 0 (.slice A n _))≠some c:=fun q=>by rw [hn c q] at e; cases e
  rw [← (h.agree c o v e).1]
  exact World.cell?_of_block (w:=w) (hb c (h.agree.lt e) hne)
 ·intro j d hj
  simp only [St.blk,lk_ins] at hj
  by_cases e:j=k
  ·subst e
   rw [if_pos rfl] at hj
   injection hj with hj
   subst hj; exact hh
  ·rw [if_neg e] at hj
   refine (h.held j d hj).keep (Ext.refl _) (fun _ _ _ hv=>hv.ext (Ext.refl S) hle) (hold j e) (fun u q hu hq=>⟨hb q ((h.held j d hj).lt hu hq) ?_,fun _=>rfl⟩)
   intro hq'
   exact h.inj k j b d _ u q hk hj (fun e'=>e e'.symm) hm hu hq' hq
 ·intro j j' d d' v v' q hj hj' hne hv hv' hq hq'
  obtain ⟨f,hf⟩:=hlk j ⟨d,hj⟩
  obtain ⟨f',hf'⟩:=hlk j' ⟨d',hj'⟩
  by_cases e:j=k
  ·subst e
   rw [Nm.set_same] at hv
   injection hv with hv
   subst hv
   rw [hold j' (fun q=>hne q.symm)] at hv'
   rcases hbk q hq with h1 | h1
   ·exact h.inj j j' f f' _ v' q hf hf' hne hm hv' h1 hq'
   ·have:=(h.held j' f' hf').lt hv' hq'
    omega
  ·rw [hold j e] at hv
   by_cases e':j'=k
   ·subst e'
    rw [Nm.set_same] at hv'
    injection hv' with hv'
    subst hv'
    rcases hbk q hq' with h1 | h1
    ·exact h.inj j j' f f' v _ q hf hf' hne hv hm hq h1
    ·have:=(h.held j f hf).lt hv hq
     omega
   ·rw [hold j' e'] at hv'
    exact h.inj j j' f f' v v' q hf hf' hne hv hv' hq hq'
 ·intro j d v q hj hv hq
  obtain ⟨f,hf⟩:=hlk j ⟨d,hj⟩
  by_cases e:j=k
  ·subst e
   rw [Nm.set_same] at hv
   injection hv with hv
   subst hv
   rcases hbk q hq with h1 | h1
   ·exact h.own j f _ q hf hm h1
   ·subst h1; exact .inl h.size
  ·rw [hold j e] at hv
   exact h.own j f v q hf hv hq
 ·intro d h1 h2
  have hne:bk (.iface 0 (.slice A n _))≠some d:=fun q=>by
   rcases h.own k b _ d hk hm q with h3 | h3
   ·omega
   ·exact h2 h3
  exact (hb d (Nat.lt_of_lt_of_le h1 h.size) hne).trans (h.frame d h1 h2)
def aapp (P:Program) (kp:List Nat) (st:St) (nm:Nat) (ts:List TypeId) (xs:List AV) (h:Nat→Option Blk) (K:AV→List (Nat × Blk)→List Nat→Prop):Prop :=
 match ts,xs with
 | [t,t'],[x,y]=>(match P.underlying t with
  | some (.slice e)=>(match P.info? e with
   | some i=>cond (Nat.beq t t'&&Nat.blt 0 i.size&&Nat.blt e 1000000) (zeroA P e fun zs=>cond (Nat.beq zs.length i.size) (srcG (opnB h y) h i.size y fun ys rd=>(match x with
    | .nils=>cond (fresh kp st nm&&!(inL nm rd)&&(!(opnB h y)||nnll nm ys)) (chk (ys.length≤9223372036854775807∧ys.length*i.bytes≤140737488355328) (fcN (opnB h y) ys.length fun n=>fcN (opnB h y) (tyO (opnB h y) e) fun e2=>K (.rw nm i.size n) [(nm,.row e2 i.size ys)] rd)) False
    | .rw k s n=>(match h k with
     | some (.row e' s' xs)=>cond ((Nat.beq e e'||(opnB h y&&Nat.beq (tyO (opnB h y) e) e'))&&Nat.beq i.size s&&Nat.beq i.size s') (chk (n=xs.length∧xs.length+ys.length≤9223372036854775807∧(xs.length+ys.length)*i.bytes≤140737488355328) (fcL (opnB h y) (xs++ys) fun zs=>fcN (opnB h y) zs.length fun n=>fcN (opnB h y) (tyO (opnB h y) e) fun e2=>K (.rw k i.size n) [(k,.row e2 i.size zs)] (k::rd))) False
     | some (.nrow e' s' ks xs)=>cond (opnB h y&&Nat.beq e e'&&Nat.beq i.size s&&Nat.beq i.size s') (chk (n=xs.length∧xs.length+ys.length≤9223372036854775807∧(xs.length+ys.length)*i.bytes≤140737488355328) (match ys with
      | [y0]=>keepR y0 ks fun y1 ks'=>K (.rw k i.size (xs++[y1]).length) [(k,.nrow e i.size ks' (xs++[y1]))] (k::rd)
      | _=>False)) False
     | _=>False)
    | .sl s f zs=>cond (f&&fresh kp st nm&&!(inL nm rd)&&!(opnB h y)&&Nat.beq i.size s) (chk (0 < ys.length∧zs.length+ys.length≤9223372036854775807∧(zs.length+ys.length)*i.bytes≤140737488355328) (K (.rw nm i.size (zs++ys).length) [(nm,.row e i.size (zs++ys))] rd)) False
    | _=>False)) False) False
   | none=>False)
  | _=>False)
 | _,_=>False
theorem CV.rw_mk {S:Pin} {m:Nm} {k s n:Nat} {A:Option Addr} {c:Nat} (hm:m k=some (.iface 0 (.slice A n c))) (h1:n≤c) (h2:c≤maxLen) (hA:(A=none∧c=0)∨∃ g,A=some ⟨g,0,none⟩):CV S (.rw k s n) m (.slice A n c):=by
 simp only [CV]
 refine ⟨⟨A,c,rfl,h1,h2,fun e=>?_,fun a e=>?_⟩,A,n,c,hm,Nat.le_refl _,fun _=>rfl⟩
 ·rcases hA with h | ⟨g,h⟩
  ·exact h.2
  ·rw [h] at e; cases e
 ·rcases hA with h | ⟨g,h⟩
  ·rw [h.1] at e; cases e
  ·rw [h] at e; injection e with e; exact ⟨g,e.symm⟩
theorem NmIn.app {ks ks':List Nat} {xs:List (List AV)} {y1:List AV} (h:NmIn ks xs) (hsub:∀ j,inL j ks=true→inL j ks'=true) (hin:∀ (i:Nat) (y:AV),y1[i]?=some y→∀ j,nn j y=false→inL j ks'=true):NmIn ks' (xs++[y1]):=by
 intro j i x y hx hy k hk
 rw [List.getElem?_append] at hx
 split at hx
 ·exact hsub k (h j i x y hx hy k hk)
 ·cases hq:j - xs.length with
  | zero=>rw [hq] at hx; simp at hx; subst hx; exact hin i y hy k hk
  | succ q=>rw [hq] at hx; simp at hx
theorem aapp_sound {P:Program} {E:Env} {kp:List Nat} {st0:St} {nt nm:Nat} {o:Oper} {c:Call} {ev:Operand→AV} {h:Nat→Option Blk} {K:AV→List (Nat × Blk)→List Nat→Prop} (ho:o.op=.call c) (hc:c.callee=.builtin .append) (hd:dstOk nt o.dst=true)
  (H:aapp P kp st0 nm c.argTypes.toList (c.args.toList.map ev) h K):∃ r u rd,K r u rd∧(∀ p ∈ u,p.1 ∉ rd→fresh kp st0 p.1=true)∧Good P E nt o ev h r u rd:=by
 unfold aapp at H
 split at H
 ·rename_i t t' x y hts hxs
  split at H
  ·rename_i e ht
   split at H
   ·rename_i i hi
    obtain ⟨hb,H1⟩:=cond_F H
    clear H
    simp only [Bool.and_eq_true] at hb
    have ett:=Nat.eq_of_beq_eq_true hb.1.1
    subst ett
    have hpos:0 < i.size:=Nat.le_of_ble_eq_true hb.1.2
    have hle:e < 1000000:=Nat.le_of_ble_eq_true hb.2
    obtain ⟨i',z,hi',hz,H2,_⟩:=zeroA_sound H1
    clear H1
    rw [hi] at hi'
    injection hi' with hi'
    subst hi'
    obtain ⟨hzl,H3⟩:=cond_F H2
    clear H2
    have hzs:z.cells.size=i.size:=by
     have:=Nat.eq_of_beq_eq_true hzl
     have h9:=(ofVs_cv (fun _ _=>none) noNm z.cells.toList).len
     simp only [Array.length_toList] at h9
     omega
    generalize opnB h y=op at H3
    obtain ⟨ys,rd,H4,hopn,hsrc⟩:=srcG_sound hle H3
    clear H3
    obtain ⟨ox,oy,hargs,hox,hoy⟩:∃ ox oy,c.args.toList=[ox,oy]∧ev ox=x∧ev oy=y:=by
     cases hq:c.args.toList with
     | nil=>rw [hq] at hxs; simp at hxs
     | cons p l =>
      cases l with
      | nil=>rw [hq] at hxs; simp at hxs
      | cons q l =>
       cases l with
       | nil=>rw [hq] at hxs; simp at hxs; exact ⟨p,q,rfl,hxs.1,hxs.2⟩
       | cons r l=>rw [hq] at hxs; simp at hxs
    have hargsA:c.args=#[ox,oy]:=by rw [← Array.toArray_toList (xs:=c.args),hargs]
    have htsA:c.argTypes=#[t,t]:=by rw [← Array.toArray_toList (xs:=c.argTypes),hts]
    have mx:ox ∈ o.op.operands:=by rw [ho]; simp [Op.operands,Call.operands,hc,hargsA]
    have my:oy ∈ o.op.operands:=by rw [ho]; simp [Op.operands,Call.operands,hc,hargsA]
    have hrun:∀ (a:Act) (w:World) (r:Value) (w':World),(Builtin.append_ #[t,t] o.type #[a.eval ox,a.eval oy]).run P w=.ok r w'→(execOp a.eval o).run P w=.ok (.value r) w':=by
     intro a w r w' hr
     simp [execOp,ho,resolve,hc,invoke,builtin,hargsA,htsA,hr]
    split at H4
    ·
     obtain ⟨hf0,H5⟩:=cond_F H4
     simp only [Bool.and_eq_true,Bool.not_eq_true'] at hf0
     obtain ⟨⟨hf,hnrd⟩,hnnm⟩:=hf0
     have hnnm:2000000≤tyO op e→nnl nm ys.flatten=true:=fun q=>by
      cases op with
      | false=>exact absurd (Nat.lt_of_lt_of_le hle (Nat.le_trans (by decide) (show 2000000≤e from q))) (Nat.lt_irrefl _)
      | true=>exact nnll_flat (by simpa using hnnm)
     obtain ⟨⟨hlen,hby⟩,H6⟩:=chk_iff.1 H5
     simp only [fcN_eq] at H6
     refine ⟨_,_,_,H6,fun p hp _=>by simp at hp; subst hp; exact hf,good_value hd fun G kp st a w S m hG hR he hrd hfr=>?_⟩
     have hx:=he ox mx
     have hy:=he oy my
     rw [hox] at hx
     rw [hoy] at hy
     simp only [CV] at hx
     have hfr':fresh kp st nm=true:=hfr (nm,.row (tyO op e) i.size ys) (by simp) (inL_mem hnrd)
     obtain ⟨A,d,hv,hyd,hzl2,news,hnl,hnc,hn1,hnA⟩:=hsrc G kp st a w S m _ hR hrd hy
     have hSn:∀ g,w.heap.size≤g→∀ o,S g o=none:=by
      intro g hg o
      cases e:S g o with
      | none=>rfl
      | some v=>have:=hR.agree.lt e; omega
     by_cases hm0:ys.length=0
     ·have hys:ys=[]:=List.eq_nil_of_length_eq_zero hm0
      subst hys
      refine ⟨.slice none 0 0,w,S,m.set nm (.iface 0 (.slice none 0 0)),hrun a w _ _ ?_,?_,?_⟩
      ·rw [hx,hv]; exact run_append_zero ht hi none 0 0 (Nat.le_refl _) A d
      ·refine hR.fresh_ hfr' (Below.refl _ _) (Ext.refl _) (fun _ _ _=>rfl) hR.agree (fun g hg=>by simp [bk] at hg) ?_
       exact ⟨none,0,Nm.set_same _ _ _,Nat.le_refl _,by unfold maxLen; omega,.inl ⟨rfl,rfl⟩⟩
      ·exact CV.rw_mk (Nm.set_same _ _ _) (Nat.le_refl _) (by unfold maxLen; omega) (.inl ⟨rfl,rfl⟩)
     ·rcases hnA with ⟨rfl,rfl⟩ | ⟨ad,rfl,hcell⟩
      ·omega
      ·obtain ⟨A',c',w',cur',hr,q1,q2,q3,q4,q5⟩:=row_append (ty:=o.type) (w:=w) ht hi hz hzs (A:=none) (n:=0) (c:=0) (vals:=[]) (Nat.le_refl _) (by simp) (.inl ⟨rfl,rfl⟩) hnl hcell hn1 (by omega) (by unfold maxLen; omega) (by rw [Nat.zero_add]; exact hby)
       rcases q5 with ⟨g,hg,_⟩ | ⟨rfl,rfl⟩
       ·cases hg
       ·simp only [Nat.zero_add,List.nil_append] at hr q1 q4
        have hmx:c'≤maxLen:=by simpa using q2
        refine ⟨_,_,S,m.set nm (.iface 0 (.slice (some ⟨w.heap.size,0,none⟩) ys.length c')),hrun a w _ _ (by rw [hx,hv]; exact hr),?_,?_⟩
        ·refine hR.fresh_ hfr' (((Below.refl _ _).drew).alloc (Nat.le_refl _) _) (Ext.refl _) (fun _ _ _=>rfl) ?_ (fun g hg=>by simp [bk] at hg; omega) ?_
         ·intro b o v e
          refine ⟨?_,(hR.agree b o v e).2⟩
          rw [World.cell?_alloc_lt _ _ _ (by simpa using hR.agree.lt e)]
          exact (hR.agree b o v e).1
         ·exact ⟨_,c',Nm.set_same _ _ _,q1,hmx,.inr ⟨w.heap.size,cur',(0,0),rfl,by rw [rowTy_tyO hle]; exact heap_alloc_new w.drew _,.none,q3,hSn _ (Nat.le_refl _),row_of_flat hzl2 (rowNm_set hnc hnnm) hn1 q4⟩⟩
        ·exact CV.rw_mk (Nm.set_same _ _ _) q1 hmx (.inr ⟨_,rfl⟩)
    ·rename_i k s n
     split at H4
     ·rename_i e' s' xs hk
      obtain ⟨hb2,H5⟩:=cond_F H4
      simp only [Bool.and_eq_true] at hb2
      obtain ⟨⟨b1,b2⟩,b3⟩:=hb2
      have b1:e'=e∨(op=true∧e'=tyO op e):=by
       simp only [Bool.or_eq_true,Bool.and_eq_true] at b1
       rcases b1 with b1 | b1
       ·exact .inl (Nat.eq_of_beq_eq_true b1).symm
       ·exact .inr ⟨b1.1,(Nat.eq_of_beq_eq_true b1.2).symm⟩
      have b2:=Nat.eq_of_beq_eq_true b2
      have b3:=Nat.eq_of_beq_eq_true b3
      obtain ⟨⟨hnx,hlen,hby⟩,H6⟩:=chk_iff.1 H5
      simp only [fcN_eq,fcL_eq] at H6
      refine ⟨_,_,_,H6,fun p hp hnot=>by simp at hp; subst hp; exact absurd (List.mem_cons_self) hnot,good_value hd fun G kp st a w S m hG hR he hrd hfr=>?_⟩
      have hx:=he ox mx
      have hy:=he oy my
      rw [hox] at hx
      rw [hoy] at hy
      have hks:lk st.heap k=some (.row e' s' xs):=by rw [hrd k (by simp)]; exact hk
      have hty:rowTy e'=e:=by
       rcases b1 with b1 | b1
       ·rw [b1]; exact rowTy_lt hle
       ·rw [b1.2]; exact rowTy_tyO hle op
      have hfr1:∀ {n:Nat} {fr:Nat × Nat},RowMk e' n fr→fr=(0,0):=fun rf=>by
       rcases b1 with b1 | b1
       ·exact RowMk.lt (b1 ▸ rf) hle
       ·exact RowMk.tyO hle (b1.2 ▸ rf)
      have hnm:∀ m:Nm,MLe (rowNm e' m) (rowNm (tyO op e) m):=fun m=>by
       rcases b1 with b1 | b1
       ·rw [b1,rowNm_lo (Nat.lt_trans hle (by decide))]; exact MLe.no _
       ·rw [b1.2]; exact MLe.refl _
      have hheld:=hR.held k _ hks
      rw [← b3] at hheld
      obtain ⟨A,c0,h1,h2,h3,h4,h5,vals,h6,h7,h8,h9,h10⟩:=hheld.vals
      have h7:=h7.ext (Ext.refl S) (hnm m)
      simp only [CV] at hx
      obtain ⟨_,A1,q,c1,p1,p2,p3⟩:=hx
      rw [h1] at p1
      injection p1 with p1
      injection p1 with _ p1
      injection p1 with e1 e2 e3
      subst e1; subst e3
      have hxv:=p3 (by omega)
      rw [← e2] at hxv
      obtain ⟨B,d,hv,hyd,hzl2,news,hnl,hnc,hn1,hnA⟩:=hsrc G kp st a w S m _ hR (fun j hj=>hrd j (List.mem_cons_of_mem _ hj)) hy
      have hz':∀ z ∈ xs++ys,z.length=i.size:=fun z hz=>by
       rcases List.mem_append.1 hz with hz | hz
       ·exact h4 z hz
       ·exact hzl2 z hz
      have hAr:(A=none∧c0=0)∨∃ g,A=some ⟨g,0,none⟩:=by
       rcases h5 with h | ⟨g,_,_,h,_⟩
       ·exact .inl h
       ·exact .inr ⟨g,h⟩
      by_cases hm0:ys.length=0
      ·have hys:ys=[]:=List.eq_nil_of_length_eq_zero hm0
       subst hys
       rw [List.append_nil]
       refine ⟨.slice A xs.length c0,w,S,m,hrun a w _ _ ?_,?_,?_⟩
       ·rw [hxv,hv]; exact run_append_zero ht hi A xs.length c0 h2 B d
       ·refine hR.congr' (fun t=>rfl) (fun j=>?_)
        simp only [St.blks,St.blk,lk_ins]
        by_cases e:j=k
        ·subst e
         have hop:op=false:=by
          cases op with
          | false=>rfl
          | true=>exact absurd (hopn rfl) (by simp)
         rw [if_pos rfl,hks,b3]
         subst hop
         rcases b1 with b1 | b1
         ·rw [b1]; rfl
         ·cases b1.1
        ·rw [if_neg e]
       ·exact CV.rw_mk h1 h2 h3 hAr
      ·rcases hnA with ⟨rfl,rfl⟩ | ⟨ad,rfl,hcell⟩
       ·omega
       ·have hA':(A=none∧c0=0)∨∃ g cur,A=some ⟨g,0,none⟩∧w.heap[g]?=some (.cells cur e (0,0))∧cur.size=c0*i.size∧cur.toList.take (xs.length*i.size)=vals:=by
         rcases h9 with h9 | ⟨g,cur,fr,q1,r2,rf,r5,r6⟩
         ·exact .inl h9
         ·have:=hfr1 rf
          subst this
          rw [hty] at r2
          exact .inr ⟨g,cur,q1,r2,r5,r6⟩
        obtain ⟨A',c',w',cur',hr,q1,q2,q3,q4,q5⟩:=row_append (ty:=o.type) (w:=w) ht hi hz hzs h2 h6 hA' hnl hcell hn1 (by omega) (by unfold maxLen; omega) hby
        have hmx:c'≤maxLen:=Nat.le_trans q2 (by rw [Nat.max_eq_right h3]; exact Nat.le_refl _)
        have hct:CVl S (xs++ys).flatten (rowNm (tyO op e) m) (vals++news):=by rw [List.flatten_append]; exact h7.append hnc
        have hon:∀ v ∈ vals++news,v.oneCell'=true:=fun v hv=>by
         rcases List.mem_append.1 hv with hv | hv
         ·exact h8 v hv
         ·exact hn1 v hv
        have hq4:cur'.toList.take ((xs++ys).length*i.size)=vals++news:=by rw [List.length_append]; exact q4
        refine ⟨_,w',S,m.set k (.iface 0 (.slice A' (xs.length+ys.length) c')),hrun a w _ _ (by rw [hxv,hv]; exact hr),?_,?_⟩
        ·rcases q5 with ⟨g,rfl,rfl,rfl,rfl⟩ | ⟨rfl,rfl⟩
         ·obtain ⟨g2,cur,fr,r1,r2,rf,r3,r4⟩:=h5.resolve_left (fun e=>by cases e.1)
          have hfr0:=hfr1 rf
          subst hfr0
          rw [hty] at r2
          injection r1 with r1
          injection r1 with r1
          subst r1
          refine hR.regrow hks h1 (Nat.lt_add_of_pos_right (Nat.pos_of_ne_zero hm0)) rfl rfl rfl (by simp) (fun j hj hne=>setRow_other w g j _ (fun e=>hne (by subst e; rfl))) (fun g' hg' o=>?_) (.inl rfl) ⟨_,c',by rw [List.length_append]; exact Nm.set_same _ _ _,by rw [List.length_append]; exact q1,hmx,.inr ⟨g,cur',(0,0),rfl,by rw [rowTy_tyO hle]; exact setRow_heap w g cur cur' e (0,0) r2,.none,q3,r4,row_of_flat hz' (hct.ext (Ext.refl S) (rowNm_mono _ (grow_le h1 (Nat.lt_add_of_pos_right (Nat.pos_of_ne_zero hm0))))) hon hq4⟩⟩
          simp [bk] at hg'
          subst hg'
          exact r4 o
         ·refine hR.regrow hks h1 (Nat.lt_add_of_pos_right (Nat.pos_of_ne_zero hm0)) rfl rfl rfl (by simp) (fun j hj hne=>Below.heap_alloc w.drew _ j (by simpa using hj)) (fun g' hg' o=>?_) (.inr rfl) ⟨_,c',by rw [List.length_append]; exact Nm.set_same _ _ _,by rw [List.length_append]; exact q1,hmx,.inr ⟨w.heap.size,cur',(0,0),rfl,by rw [rowTy_tyO hle]; exact heap_alloc_new w.drew _,.none,q3,fun o=>?_,row_of_flat hz' (hct.ext (Ext.refl S) (rowNm_mono _ (grow_le h1 (Nat.lt_add_of_pos_right (Nat.pos_of_ne_zero hm0))))) hon hq4⟩⟩
          ·rcases h5 with ⟨rfl,_⟩ | ⟨g2,cur,fr,rfl,r2,rf,r3,r4⟩
           ·simp [bk] at hg'
           ·simp [bk] at hg'
            subst hg'
            exact r4 o
          ·cases e:S w.heap.size o with
           | none=>rfl
           | some v=>have:=hR.agree.lt e; omega
        ·rw [List.length_append]
         refine CV.rw_mk (Nm.set_same _ _ _) q1 hmx ?_
         rcases q5 with ⟨g,h,rfl,_⟩ | ⟨h,_⟩
         ·exact .inr ⟨g,h⟩
         ·exact .inr ⟨_,h⟩
     ·rename_i e' s' ks xs hk
      obtain ⟨hb2,H5⟩:=cond_F H4
      simp only [Bool.and_eq_true] at hb2
      obtain ⟨⟨⟨hop,b1⟩,b2⟩,b3⟩:=hb2
      subst hop
      have b1:=Nat.eq_of_beq_eq_true b1
      subst b1
      have b2:=Nat.eq_of_beq_eq_true b2
      have b3:=Nat.eq_of_beq_eq_true b3
      obtain ⟨⟨hnx,hlen,hby⟩,H6⟩:=chk_iff.1 H5
      split at H6
      ·rename_i y0
       obtain ⟨y1,ks',h11,hyl,hsub,hin',hysc⟩:=keepR_sound _ _ _ H6
       refine ⟨_,_,_,h11,fun p hp hnot=>by simp at hp; subst hp; exact absurd (List.mem_cons_self) hnot,good_value hd fun G kp st a w S m hG hR he hrd hfr=>?_⟩
       have hx:=he ox mx
       have hy:=he oy my
       rw [hox] at hx
       rw [hoy] at hy
       have hks:lk st.heap k=some (.nrow e s' ks xs):=by rw [hrd k (by simp)]; exact hk
       have hty:rowTy (e+2000000)=e:=rowTy_op
       have hheld0:=hR.held k _ hks
       have hnmi:NmIn ks xs:=hheld0.2
       have hheld:=hheld0.open
       rw [← b3] at hheld
       obtain ⟨A,c0,h1,h2,h3,h4,h5,vals,h6,h7,h8,h9,h10⟩:=hheld.vals
       simp only [CV] at hx
       obtain ⟨_,A1,q,c1,p1,p2,p3⟩:=hx
       rw [h1] at p1
       injection p1 with p1
       injection p1 with _ p1
       injection p1 with e1 e2 e3
       subst e1; subst e3
       have hxv:=p3 (by omega)
       rw [← e2] at hxv
       obtain ⟨B,d,hv,hyd,hzl2,news,hnl,hnc,hn1,hnA⟩:=hsrc G kp st a w S m _ hR (fun j hj=>hrd j (List.mem_cons_of_mem _ hj)) hy
       have hnc0:CVl S y0 (rowNm (tyO true e) m) news:=by simpa using hnc
       have hnc1:CVl S y1 (rowNm (e+2000000) m) news:=hysc S (rowNm (e+2000000) m) news hnc0
       have hy1:y1.length=i.size:=by rw [hyl]; exact hzl2 y0 (by simp)
       have hz':∀ z ∈ xs++[y1],z.length=i.size:=fun z hz=>by
        rcases List.mem_append.1 hz with hz | hz
        ·exact h4 z hz
        ·simp at hz; subst hz; exact hy1
       have hAr:(A=none∧c0=0)∨∃ g,A=some ⟨g,0,none⟩:=by
        rcases h5 with h | ⟨g,_,_,h,_⟩
        ·exact .inl h
        ·exact .inr ⟨g,h⟩
       have hone1:([y0]:List (List AV)).length=1:=rfl
       rw [hone1] at hlen hby hv hnl hyd
       rcases hnA with ⟨rfl,hz0⟩ | ⟨ad,rfl,hcell⟩
       ·omega
       ·have hA':(A=none∧c0=0)∨∃ g cur,A=some ⟨g,0,none⟩∧w.heap[g]?=some (.cells cur e (0,0))∧cur.size=c0*i.size∧cur.toList.take (xs.length*i.size)=vals:=by
         rcases h9 with h9 | ⟨g,cur,fr,q1,r2,rf,r5,r6⟩
         ·exact .inl h9
         ·have:=RowMk.op rf
          subst this
          rw [hty] at r2
          exact .inr ⟨g,cur,q1,r2,r5,r6⟩
        obtain ⟨A',c',w',cur',hr,q1,q2,q3,q4,q5⟩:=row_append (ty:=o.type) (w:=w) ht hi hz hzs h2 h6 hA' hnl hcell hn1 (by omega) (by unfold maxLen; omega) hby
        have hmx:c'≤maxLen:=Nat.le_trans q2 (by rw [Nat.max_eq_right h3]; exact Nat.le_refl _)
        have hct:CVl S (xs++[y1]).flatten (rowNm (e+2000000) m) (vals++news):=by rw [List.flatten_append]; exact h7.append (by simpa using hnc1)
        have hon:∀ v ∈ vals++news,v.oneCell'=true:=fun v hv=>by
         rcases List.mem_append.1 hv with hv | hv
         ·exact h8 v hv
         ·exact hn1 v hv
        have hxl:(xs++[y1]).length=xs.length+1:=by simp
        have hq4:cur'.toList.take ((xs++[y1]).length*i.size)=vals++news:=by rw [hxl]; exact q4
        have hnmi':=hnmi.app hsub hin'
        refine ⟨_,w',S,m.set k (.iface 0 (.slice A' (xs.length+1) c')),hrun a w _ _ (by rw [hxv,hv]; exact hr),?_,?_⟩
        ·rcases q5 with ⟨g,rfl,rfl,rfl,rfl⟩ | ⟨rfl,rfl⟩
         ·obtain ⟨g2,cur,fr,r1,r2,rf,r3,r4⟩:=h5.resolve_left (fun e=>by cases e.1)
          have hfr0:=RowMk.op rf
          subst hfr0
          rw [hty] at r2
          injection r1 with r1
          injection r1 with r1
          subst r1
          refine hR.regrow hks h1 (Nat.lt_succ_self _) rfl rfl rfl (by simp) (fun j hj hne=>setRow_other w g j _ (fun e=>hne (by subst e; rfl))) (fun g' hg' o=>?_) (.inl rfl) ⟨⟨_,c',by rw [hxl]; exact Nm.set_same _ _ _,by rw [hxl]; exact q1,hmx,.inr ⟨g,cur',(0,0),rfl,by rw [hty]; exact setRow_heap w g cur cur' e (0,0) r2,.none,q3,r4,row_of_flat hz' (hct.ext (Ext.refl S) (rowNm_mono _ (grow_le h1 (Nat.lt_succ_self _)))) hon hq4⟩⟩,hnmi'⟩
          simp [bk] at hg'
          subst hg'
          exact r4 o
         ·refine hR.regrow hks h1 (Nat.lt_succ_self _) rfl rfl rfl (by simp) (fun j hj hne=>Below.heap_alloc w.drew _ j (by simpa using hj)) (fun g' hg' o=>?_) (.inr rfl) ⟨⟨_,c',by rw [hxl]; exact Nm.set_same _ _ _,by rw [hxl]; exact q1,hmx,.inr ⟨w.heap.size,cur',(0,0),rfl,by rw [hty]; exact heap_alloc_new w.drew _,.none,q3,fun o=>?_,row_of_flat hz' (hct.ext (Ext.refl S) (rowNm_mono _ (grow_le h1 (Nat.lt_succ_self _)))) hon hq4⟩⟩,hnmi'⟩
          ·rcases h5 with ⟨rfl,_⟩ | ⟨g2,cur,fr,rfl,r2,rf,r3,r4⟩
           ·simp [bk] at hg'
           ·simp [bk] at hg'
            subst hg'
            exact r4 o
          ·cases e:S w.heap.size o with
           | none=>rfl
           | some v=>have:=hR.agree.lt e; omega
        ·rw [hxl]
         refine CV.rw_mk (Nm.set_same _ _ _) q1 hmx ?_
         rcases q5 with ⟨g,h,rfl,_⟩ | ⟨h,_⟩
         ·exact .inr ⟨g,h⟩
         ·exact .inr ⟨_,h⟩
      ·exact H6.elim
     ·exact H4.elim
    ·
     rename_i s f zs
     obtain ⟨hb2,H5⟩:=cond_F H4
     simp only [Bool.and_eq_true,Bool.not_eq_true'] at hb2
     obtain ⟨⟨⟨⟨rfl,hf⟩,hnrd⟩,hop⟩,hs⟩:=hb2
     have hs:=Nat.eq_of_beq_eq_true hs
     subst hs
     subst hop
     obtain ⟨⟨hm0,hlen,hby⟩,H6⟩:=chk_iff.1 H5
     refine ⟨_,_,_,H6,fun p hp _=>by simp at hp; subst hp; exact hf,good_value hd fun G kp st a w S m hG hR he hrd hfr=>?_⟩
     have hx:=he ox mx
     have hy:=he oy my
     rw [hox] at hx
     rw [hoy] at hy
     have hfr':fresh kp st nm=true:=hfr (nm,.row e i.size (zs++ys)) (by simp) (inL_mem hnrd)
     obtain ⟨zs',_,⟨e1,_⟩,hsx⟩:=srcK_sound (h:=h) (s:=i.size) (x:=.sl i.size true zs) (k:=fun a b=>a=zs∧b=[]) (by simp [srcK,viewS])
     subst e1
     obtain ⟨A0,c0,hv0,hyd0,hzl0,olds,hol,hoc,ho1,hoA⟩:=hsx G kp st a w S m _ hR (fun j hj=>by simp_all) hx
     simp only [CV] at hx
     obtain ⟨A9,c9,hv9,_,_,hfull,_⟩:=hx
     rw [hv0] at hv9
     injection hv9 with e1 e2 e3
     have hc0:c0=zs'.length:=by rw [e3]; exact hfull trivial
     subst hc0
     obtain ⟨A,d,hv,hyd,hzl2,news,hnl,hnc,hn1,hnA⟩:=hsrc G kp st a w S m _ hR hrd hy
     have hSn:∀ g,w.heap.size≤g→∀ o,S g o=none:=by
      intro g hg o
      cases e:S g o with
      | none=>rfl
      | some v=>have:=hR.agree.lt e; omega
     have hlo:tyO false e < 2000000:=Nat.lt_trans hle (by decide)
     rw [rowNm_lo hlo] at hnc
     rcases hnA with ⟨rfl,rfl⟩ | ⟨ad,rfl,hcell⟩
     ·omega
     ·obtain ⟨c',cur',hr,q1,q2,q3,q4⟩:=full_append (ty:=o.type) (w:=w) ht hi hz hzs (A:=A0) (n:=zs'.length) (vals:=olds) hol hoA hnl hcell hm0 (by unfold maxLen; omega) hby
      refine ⟨_,_,S,m.set nm (.iface 0 (.slice (some ⟨w.heap.size,0,none⟩) (zs'++ys).length c')),hrun a w _ _ (by rw [hv0,hv]; exact hr),?_,?_⟩
      ·refine hR.fresh_ hfr' (((Below.refl _ _).drew).alloc (Nat.le_refl _) _) (Ext.refl _) (fun _ _ _=>rfl) ?_ (fun g hg=>by simp [bk] at hg; omega) ?_
       ·intro b o v e
        refine ⟨?_,(hR.agree b o v e).2⟩
        rw [World.cell?_alloc_lt _ _ _ (by simpa using hR.agree.lt e)]
        exact (hR.agree b o v e).1
       ·refine ⟨_,c',Nm.set_same _ _ _,by rw [List.length_append]; exact q1,q2,.inr ⟨w.heap.size,cur',(0,0),rfl,by rw [rowTy_lt hle]; exact heap_alloc_new w.drew _,.none,q3,hSn _ (Nat.le_refl _),row_of_flat (vals:=olds++news) (fun z hz=>?_) (by rw [rowNm_lo (Nat.lt_trans hle (by decide)),List.flatten_append]; exact hoc.append hnc) (fun v hv=>?_) (by rw [List.length_append]; exact q4)⟩⟩
        ·rcases List.mem_append.1 hz with hz | hz
         ·exact hzl0 z hz
         ·exact hzl2 z hz
        ·rcases List.mem_append.1 hv with hv | hv
         ·exact ho1 v hv
         ·exact hn1 v hv
      ·rw [← List.length_append]
       exact CV.rw_mk (Nm.set_same _ _ _) (by rw [List.length_append]; exact q1) q2 (.inr ⟨_,rfl⟩)
    ·exact H4.elim
   ·exact H.elim
  ·exact H.elim
 ·exact H.elim
def acopy (P:Program) (ts:List TypeId) (xs:List AV) (h:Nat→Option Blk) (K:AV→List (Nat × Blk)→List Nat→Prop):Prop :=
 match ts,xs with
 | [t,_],[x,y]=>(match P.underlying t with
  | some (.slice e)=>(match P.info? e with
   | some i=>cond (Nat.beq i.size 1&&Nat.blt e 1000000) (srcK h 1 y fun ys rd=>(match x with
    | .rw k s n=>(match h k with
     | some (.row e' s' xs)=>cond (Nat.beq e e'&&Nat.beq 1 s&&Nat.beq 1 s') (chk (n=xs.length∧ys.length≤xs.length) (K (.int .i64 ys.length) [(k,.row e 1 (ys++xs.drop ys.length))] (k::rd))) False
     | _=>False)
    | _=>False)) False
   | none=>False)
  | _=>False)
 | _,_=>False
theorem flat_drop {α:Type}:∀ {zs:List (List α)} (n:Nat),(∀ z ∈ zs,z.length=1)→(zs.drop n).flatten=zs.flatten.drop n
 | _,0,_=>rfl
 | [],n+1,_=>by simp
 | z::zs,n+1,h=>by
  have hz:=h z List.mem_cons_self
  match z,hz with
  | [a],_=>simpa using flat_drop n (fun y hy=>h y (List.mem_cons_of_mem _ hy))
theorem acopy_sound {P:Program} {E:Env} {kp:List Nat} {st0:St} {nt:Nat} {o:Oper} {c:Call} {ev:Operand→AV} {h:Nat→Option Blk} {K:AV→List (Nat × Blk)→List Nat→Prop} (ho:o.op=.call c) (hc:c.callee=.builtin .copy) (hd:dstOk nt o.dst=true)
  (H:acopy P c.argTypes.toList (c.args.toList.map ev) h K):∃ r u rd,K r u rd∧(∀ p ∈ u,p.1 ∉ rd→fresh kp st0 p.1=true)∧Good P E nt o ev h r u rd:=by
 unfold acopy at H
 split at H
 ·rename_i t t' x y hts hxs
  split at H
  ·rename_i e ht
   split at H
   ·rename_i i hi
    obtain ⟨hb,H3⟩:=cond_F H
    clear H
    simp only [Bool.and_eq_true] at hb
    have hsz:i.size=1:=Nat.eq_of_beq_eq_true hb.1
    have hle:e < 1000000:=Nat.le_of_ble_eq_true hb.2
    have hs1:(P.info? e).map (·.size)=some 1:=by rw [hi]; simp [hsz]
    obtain ⟨ys,rd,H4,hsrc⟩:=srcK_sound H3
    clear H3
    obtain ⟨ox,oy,hargs,hox,hoy⟩:∃ ox oy,c.args.toList=[ox,oy]∧ev ox=x∧ev oy=y:=by
     cases hq:c.args.toList with
     | nil=>rw [hq] at hxs; simp at hxs
     | cons p l =>
      cases l with
      | nil=>rw [hq] at hxs; simp at hxs
      | cons q l =>
       cases l with
       | nil=>rw [hq] at hxs; simp at hxs; exact ⟨p,q,rfl,hxs.1,hxs.2⟩
       | cons r l=>rw [hq] at hxs; simp at hxs
    have hargsA:c.args=#[ox,oy]:=by rw [← Array.toArray_toList (xs:=c.args),hargs]
    have htsA:c.argTypes=#[t,t']:=by rw [← Array.toArray_toList (xs:=c.argTypes),hts]
    have mx:ox ∈ o.op.operands:=by rw [ho]; simp [Op.operands,Call.operands,hc,hargsA]
    have my:oy ∈ o.op.operands:=by rw [ho]; simp [Op.operands,Call.operands,hc,hargsA]
    have hrun:∀ (a:Act) (w:World) (r:Value) (w':World),(Builtin.copy_ #[t,t'] o.type #[a.eval ox,a.eval oy]).run P w=.ok r w'→(execOp a.eval o).run P w=.ok (.value r) w':=by
     intro a w r w' hr
     simp [execOp,ho,resolve,hc,invoke,builtin,hargsA,htsA,hr]
    split at H4
    ·rename_i k s n
     split at H4
     ·rename_i e' s' xs hk
      obtain ⟨hb2,H5⟩:=cond_F H4
      simp only [Bool.and_eq_true] at hb2
      obtain ⟨⟨b1,b2⟩,b3⟩:=hb2
      have b1:=Nat.eq_of_beq_eq_true b1
      have b2:=Nat.eq_of_beq_eq_true b2
      have b3:=Nat.eq_of_beq_eq_true b3
      obtain ⟨⟨hnx,hlen⟩,H6⟩:=chk_iff.1 H5
      refine ⟨_,_,_,H6,fun p hp hnot=>by simp at hp; subst hp; exact absurd (List.mem_cons_self) hnot,good_value hd fun G kp st a w S m hG hR he hrd hfr=>?_⟩
      have hx:=he ox mx
      have hy:=he oy my
      rw [hox] at hx
      rw [hoy] at hy
      have hks:lk st.heap k=some (.row e' s' xs):=by rw [hrd k (by simp)]; exact hk
      subst b1
      have hheld:=hR.held k _ hks
      rw [← b3] at hheld
      obtain ⟨A,c0,h1,h2,h3,h4,h5,vals,h6,h7,h8,h9,h10⟩:=hheld.vals
      simp only [CV] at hx
      obtain ⟨_,A1,q,c1,p1,p2,p3⟩:=hx
      rw [h1] at p1
      injection p1 with p1
      injection p1 with _ p1
      injection p1 with e1 e2 e3
      subst e1; subst e3
      have hxv:=p3 (by omega)
      rw [← e2] at hxv
      obtain ⟨B,d,hv,hyd,hzl2,news,hnl,hnc,hn1,hnA⟩:=hsrc G kp st a w S m _ hR (fun j hj=>hrd j (List.mem_cons_of_mem _ hj)) hy
      by_cases hm0:ys.length=0
      ·have hys:ys=[]:=List.eq_nil_of_length_eq_zero hm0
       subst hys
       refine ⟨goInt 0,w,S,m,hrun a w _ _ ?_,?_,?_⟩
       ·rw [hxv,hv]; exact run_copy_none (P:=P) w t t' o.type e A B xs.length c0 0 d ht hs1 (by simp)
       ·refine hR.congr' (fun t=>rfl) (fun j=>?_)
        simp only [St.blks,St.blk,lk_ins]
        by_cases e:j=k
        ·subst e; rw [if_pos rfl,hks,b3]; rfl
        ·rw [if_neg e]
       ·simp only [CV]; exact ⟨rfl,by decide,by decide⟩
      ·rcases hnA with ⟨rfl,rfl⟩ | ⟨ad,rfl,hcell⟩
       ·omega
       ·have hc0:c0≠0:=fun z=>hm0 (Nat.le_zero.1 (Nat.le_trans hlen (z ▸ h2)))
        obtain ⟨g,cur,fr,rfl,r2,rf,r3,r4⟩:=h5.resolve_left (fun e=>hc0 e.2)
        obtain ⟨g',cur',fr',q1,q2,_,_,q6⟩:=h9.resolve_left (fun e=>hc0 e.2)
        injection q1 with q1
        injection q1 with q1
        subst q1
        rw [r2] at q2
        injection q2 with q2
        injection q2 with q2
        subst q2
        have hfr0:=rf.lt hle
        subst hfr0
        rw [rowTy_lt hle] at r2
        rw [Nat.mul_one] at r3 q6 hnl h6
        have hcl:cur.toList.length=c0:=by rw [Array.length_toList]; exact r3
        have hmin:news.length=Nat.min ys.length xs.length:=by rw [hnl]; exact (Nat.min_eq_left hlen).symm
        have hr:=run_copy_row (P:=P) w t t' o.type e g 0 xs.length c0 ad ys.length d cur e news ht hs1 r2 hmin hcell (by omega) hn1
        refine ⟨goInt news.length,_,S,m,hrun a w _ _ (by rw [hxv,hv]; exact hr),?_,?_⟩
        ·rw [rowNm_lo (Nat.lt_trans hle (by decide))] at h7
         have hz':∀ z ∈ ys++xs.drop ys.length,z.length=1:=fun z hz=>by
          rcases List.mem_append.1 hz with hz | hz
          ·exact hzl2 z hz
          ·exact h4 z (List.mem_of_mem_drop hz)
         have hct:CVl S (ys++xs.drop ys.length).flatten noNm (news++vals.drop ys.length):=by
          rw [List.flatten_append,flat_drop _ h4]
          exact hnc.append (h7.drop _)
         have hon:∀ v ∈ news++vals.drop ys.length,v.oneCell'=true:=fun v hv=>by
          rcases List.mem_append.1 hv with hv | hv
          ·exact hn1 v hv
          ·exact h8 v (List.mem_of_mem_drop hv)
         have hlen2:(ys++xs.drop ys.length).length=xs.length:=by simp; omega
         have htk:(cur.toList.take 0++news++cur.toList.drop (0+news.length)).toArray.toList.take ((ys++xs.drop ys.length).length*1)=news++vals.drop ys.length:=by
          rw [hlen2,← q6,hnl]
          simp only [List.take_zero,List.nil_append,Nat.zero_add,Nat.mul_one]
          rw [List.take_append,List.take_of_length_le (by omega),List.drop_take,hnl]
         refine hR.writeR hks h1 hc0 rfl rfl rfl (by simp [World.setRow]) (fun j hne=>setRow_other w g j _ hne) r4 ⟨_,c0,by rw [hlen2]; exact h1,by rw [hlen2]; exact h2,h3,.inr ⟨g,_,(0,0),rfl,by rw [rowTy_lt hle]; exact setRow_heap w g cur _ e (0,0) r2,.none,?_,r4,by rw [rowNm_lo (Nat.lt_trans hle (by decide))]; exact row_of_flat hz' hct hon htk⟩⟩
         simp
         omega
        ·simp only [CV]
         rw [hnl]
         refine ⟨rfl,by omega,?_⟩
         unfold maxLen at h3
         omega
     ·exact H4.elim
    ·exact H4.elim
   ·exact H.elim
  ·exact H.elim
 ·exact H.elim
def acopyW (P:Program) (ts:List TypeId) (xs:List AV) (h:Nat→Option Blk) (K:AV→List (Nat × Blk)→List Nat→Prop):Prop :=
 match ts,xs with
 | [t,_],[.mw k s q0 eo n _,y]=>(match P.underlying t with
  | some (.slice e)=>(match P.info? e with
   | some i=>cond (Nat.beq i.size 1&&Nat.blt e 1000000) (srcK h 1 y fun ys rd=>(match h k with
     | some (.row e' s' xs)=>cond (Nat.beq e e'&&Nat.beq 1 s&&Nat.beq 1 s') (chk (q0=xs.length∧eo+n≤xs.length∧1≤n∧1≤ys.length) (K (.int .i64 ((Nat.min ys.length n:Nat):Int)) [(k,.row e 1 (xs.take eo++ys.take (Nat.min ys.length n)++xs.drop (eo+Nat.min ys.length n)))] (k::rd))) False
     | _=>False)) False
   | none=>False)
  | _=>False)
 | _,_=>False
theorem flat_take {α:Type}:∀ {zs:List (List α)} (n:Nat),(∀ z ∈ zs,z.length=1)→(zs.take n).flatten=zs.flatten.take n
 | _,0,_=>by simp
 | [],n+1,_=>by simp
 | z::zs,n+1,h=>by
  have hz:=h z List.mem_cons_self
  match z,hz with
  | [a],_=>simpa using flat_take n (fun y hy=>h y (List.mem_cons_of_mem _ hy))
theorem acopyW_sound {P:Program} {E:Env} {kp:List Nat} {st0:St} {nt:Nat} {o:Oper} {c:Call} {ev:Operand→AV} {h:Nat→Option Blk} {K:AV→List (Nat × Blk)→List Nat→Prop} (ho:o.op=.call c) (hc:c.callee=.builtin .copy) (hd:dstOk nt o.dst=true)
  (H:acopyW P c.argTypes.toList (c.args.toList.map ev) h K):∃ r u rd,K r u rd∧(∀ p ∈ u,p.1 ∉ rd→fresh kp st0 p.1=true)∧Good P E nt o ev h r u rd:=by
 unfold acopyW at H
 split at H
 ·rename_i t t' k s q0 eo n f y hts hxs
  split at H
  ·rename_i e ht
   split at H
   ·rename_i i hi
    obtain ⟨hb,H3⟩:=cond_F H
    clear H
    simp only [Bool.and_eq_true] at hb
    have hsz:i.size=1:=Nat.eq_of_beq_eq_true hb.1
    have hle:e < 1000000:=Nat.le_of_ble_eq_true hb.2
    have hs1:(P.info? e).map (·.size)=some 1:=by rw [hi]; simp [hsz]
    obtain ⟨ys,rd,H4,hsrc⟩:=srcK_sound H3
    clear H3
    obtain ⟨ox,oy,hargs,hox,hoy⟩:∃ ox oy,c.args.toList=[ox,oy]∧ev ox=.mw k s q0 eo n f∧ev oy=y:=by
     cases hq:c.args.toList with
     | nil=>rw [hq] at hxs; simp at hxs
     | cons p l =>
      cases l with
      | nil=>rw [hq] at hxs; simp at hxs
      | cons q l =>
       cases l with
       | nil=>rw [hq] at hxs; simp at hxs; exact ⟨p,q,rfl,hxs.1,hxs.2⟩
       | cons r l=>rw [hq] at hxs; simp at hxs
    have hargsA:c.args=#[ox,oy]:=by rw [← Array.toArray_toList (xs:=c.args),hargs]
    have htsA:c.argTypes=#[t,t']:=by rw [← Array.toArray_toList (xs:=c.argTypes),hts]
    have mx:ox ∈ o.op.operands:=by rw [ho]; simp [Op.operands,Call.operands,hc,hargsA]
    have my:oy ∈ o.op.operands:=by rw [ho]; simp [Op.operands,Call.operands,hc,hargsA]
    have hrun:∀ (a:Act) (w:World) (r:Value) (w':World),(Builtin.copy_ #[t,t'] o.type #[a.eval ox,a.eval oy]).run P w=.ok r w'→(execOp a.eval o).run P w=.ok (.value r) w':=by
     intro a w r w' hr
     simp [execOp,ho,resolve,hc,invoke,builtin,hargsA,htsA,hr]
    split at H4
    ·rename_i e' s' xs hk
     obtain ⟨hb2,H5⟩:=cond_F H4
     simp only [Bool.and_eq_true] at hb2
     obtain ⟨⟨b1,b2⟩,b3⟩:=hb2
     have b1:=Nat.eq_of_beq_eq_true b1
     have b2:=Nat.eq_of_beq_eq_true b2
     have b3:=Nat.eq_of_beq_eq_true b3
     obtain ⟨⟨hnx,hfit,hn1',hy1⟩,H6⟩:=chk_iff.1 H5
     refine ⟨_,_,_,H6,fun p hp hnot=>by simp at hp; subst hp; exact absurd (List.mem_cons_self) hnot,good_value hd fun G kp st a w S m hG hR he hrd hfr=>?_⟩
     have hx:=he ox mx
     have hy:=he oy my
     rw [hox] at hx
     rw [hoy] at hy
     have hks:lk st.heap k=some (.row e' s' xs):=by rw [hrd k (by simp)]; exact hk
     subst b1
     have hheld:=hR.held k _ hks
     rw [← b3] at hheld
     obtain ⟨A,c0,h1,h2,h3,h4,h5,vals,h6,h7,h8,h9,h10⟩:=hheld.vals
     simp only [CV] at hx
     obtain ⟨Ax,cx,hxv,hxc,hxm,hxn,hxs',_,A1,q1,c1,p1,p2,p3⟩:=hx
     rw [h1] at p1
     injection p1 with p1
     injection p1 with _ p1
     injection p1 with e1 e2 e3
     subst e1; subst e3
     obtain ⟨g0,eA,eAx⟩:=p3 (by omega) (by omega)
     subst eA; subst eAx
     obtain ⟨B,d,hv,hyd,hzl2,news,hnl,hnc,hn1,hnA⟩:=hsrc G kp st a w S m _ hR (fun j hj=>hrd j (List.mem_cons_of_mem _ hj)) hy
     rcases hnA with ⟨rfl,rfl⟩ | ⟨ad,rfl,hcell⟩
     ·omega
     ·have hc0:c0≠0:=by omega
      obtain ⟨g,cur,fr,eg,r2,rf,r3,r4⟩:=h5.resolve_left (fun e=>hc0 e.2)
      injection eg with eg
      injection eg with eg
      subst eg
      obtain ⟨g',cur',fr',q1',q2,_,_,q6⟩:=h9.resolve_left (fun e=>hc0 e.2)
      injection q1' with q1'
      injection q1' with q1'
      subst q1'
      rw [r2] at q2
      injection q2 with q2
      injection q2 with q2
      subst q2
      have hfr0:=rf.lt hle
      subst hfr0
      rw [rowTy_lt hle] at r2
      rw [Nat.mul_one] at r3 q6 hnl h6
      obtain ⟨M,hM⟩:∃ M,M=Nat.min ys.length n:=⟨_,rfl⟩
      have hMy:M≤ys.length:=by rw [hM]; exact Nat.min_le_left _ _
      have hMn:M≤n:=by rw [hM]; exact Nat.min_le_right _ _
      have hcl:cur.toList.length=c0:=by rw [Array.length_toList]; exact r3
      have hmin:(news.take M).length=Nat.min ys.length n:=by rw [List.length_take,hnl,← hM]; omega
      have hml:(news.take M).length=M:=by rw [hmin,hM]
      have hs1':s=1:=b2.symm
      have hr:=run_copy_row (P:=P) w t t' o.type e g0 (eo*s) n cx ad ys.length d cur e (news.take M) ht hs1 r2 hmin (fun j v hj=>by
       rw [List.getElem?_take] at hj
       split at hj
       ·exact hcell j v hj
       ·cases hj) (by rw [hml,hs1']; omega) (fun v hv=>hn1 v (List.mem_of_mem_take hv))
      refine ⟨goInt (news.take M).length,_,S,m,hrun a w _ _ (by rw [hxv,hv]; exact hr),?_,?_⟩
      ·rw [rowNm_lo (Nat.lt_trans hle (by decide))] at h7
       rw [← hM]
       have hz':∀ z ∈ xs.take eo++ys.take M++xs.drop (eo+M),z.length=1:=fun z hz=>by
        rcases List.mem_append.1 hz with hz | hz
        ·rcases List.mem_append.1 hz with hz | hz
         ·exact h4 z (List.mem_of_mem_take hz)
         ·exact hzl2 z (List.mem_of_mem_take hz)
        ·exact h4 z (List.mem_of_mem_drop hz)
       have hct:CVl S (xs.take eo++ys.take M++xs.drop (eo+M)).flatten noNm (vals.take eo++news.take M++vals.drop (eo+M)):=by
        rw [List.flatten_append,List.flatten_append,flat_drop _ h4,flat_take _ h4,flat_take _ hzl2]
        exact ((h7.take _).append (hnc.take _)).append (h7.drop _)
       have hon:∀ v ∈ vals.take eo++news.take M++vals.drop (eo+M),v.oneCell'=true:=fun v hv=>by
        rcases List.mem_append.1 hv with hv | hv
        ·rcases List.mem_append.1 hv with hv | hv
         ·exact h8 v (List.mem_of_mem_take hv)
         ·exact hn1 v (List.mem_of_mem_take hv)
        ·exact h8 v (List.mem_of_mem_drop hv)
       have hlen2:(xs.take eo++ys.take M++xs.drop (eo+M)).length=xs.length:=by simp; omega
       have htk:(cur.toList.take (eo*s)++news.take M++cur.toList.drop (eo*s+(news.take M).length)).toArray.toList.take ((xs.take eo++ys.take M++xs.drop (eo+M)).length*1)=vals.take eo++news.take M++vals.drop (eo+M):=by
        rw [hlen2,← q6,hs1',hml]
        simp only [Nat.mul_one]
        rw [List.take_append,List.take_of_length_le (by simp only [List.length_append,List.length_take]; omega),List.take_take,Nat.min_eq_left (by omega),List.length_append,List.length_take,hml,Nat.min_eq_left (by omega),List.drop_take]
       refine hR.writeR hks h1 hc0 rfl rfl rfl (by simp [World.setRow]) (fun j hne=>setRow_other w g0 j _ hne) r4 ⟨_,c0,by rw [hlen2]; exact h1,by rw [hlen2]; exact h2,h3,.inr ⟨g0,_,(0,0),rfl,by rw [rowTy_lt hle]; exact setRow_heap w g0 cur _ e (0,0) r2,.none,?_,r4,by rw [rowNm_lo (Nat.lt_trans hle (by decide))]; exact row_of_flat hz' hct hon htk⟩⟩
       rw [hs1',Nat.mul_one]
       simp only [List.size_toArray,List.length_append,List.length_drop,hml]
       rw [List.length_take,hcl,Nat.min_eq_left (by omega)]
       omega
      ·simp only [CV]
       rw [hml,← hM]
       refine ⟨rfl,by omega,?_⟩
       unfold maxLen at h3
       omega
    ·exact H4.elim
   ·exact H.elim
  ·exact H.elim
 ·exact H.elim
def acopyB (P:Program) (ts:List TypeId) (xs:List AV) (h:Nat→Option Blk) (K:AV→List (Nat × Blk)→List Nat→Prop):Prop :=
 match xs with
 | [.mw k s q eo n f,y]=>acopyW P ts [.mw k s q eo n f,y] h K
 | xs=>acopy P ts xs h K
theorem acopyB_sound {P:Program} {E:Env} {kp:List Nat} {st0:St} {nt:Nat} {o:Oper} {c:Call} {ev:Operand→AV} {h:Nat→Option Blk} {K:AV→List (Nat × Blk)→List Nat→Prop} (ho:o.op=.call c) (hc:c.callee=.builtin .copy) (hd:dstOk nt o.dst=true)
  (H:acopyB P c.argTypes.toList (c.args.toList.map ev) h K):∃ r u rd,K r u rd∧(∀ p ∈ u,p.1 ∉ rd→fresh kp st0 p.1=true)∧Good P E nt o ev h r u rd:=by
 unfold acopyB at H
 split at H
 ·rename_i e
  exact acopyW_sound ho hc hd (by rw [e]; exact H)
 ·exact acopy_sound ho hc hd H
def zerR (P:Program) (e:TypeId) (s:Nat):Bool:=match P.info? e with
 | some i=>(match i.zero with | some z=>Nat.beq z.cells.size s&&z.cells.toList.all (fun v=>match v with | .int .i64 n=>decide (n=0) | _=>false) | none=>false)
 | none=>false
def aclr (P:Program) (ts:List TypeId) (xs:List AV) (h:Nat→Option Blk) (K:AV→List (Nat × Blk)→List Nat→Prop):Prop :=
 match ts,xs with
 | [t],[.mw k s q eo n _]=>(match P.underlying t with
  | some (.slice e)=>(match h k with
   | some (.row e' s' xs)=>cond (Nat.beq e e'&&Nat.beq s s'&&Nat.blt e 1000000&&zerR P e s) (chk (q=xs.length∧eo+n=xs.length) (K (.tup []) [(k,.row e s (xs.take eo++List.replicate n (List.replicate s (.int .i64 0))))] [k])) False
   | _=>False)
  | _=>False)
 | _,_=>False
theorem zeroC {a:Array Value} {V:Value} (h:∀ v ∈ a.toList,v=V) (n:Nat):(Builtin.zeroCells a n).toList=List.replicate (n*a.size) V:=by
 unfold Builtin.zeroCells
 apply List.ext_getElem
 ·simp
 ·intro i h1 h2
  simp only [List.length_replicate] at h2
  have h0:0 < a.size:=by
   rcases Nat.eq_zero_or_pos a.size with h | h
   ·rw [h] at h2; omega
   ·exact h
  have hm:i % a.size < a.size:=Nat.mod_lt _ h0
  simp only [Array.toList_map,List.getElem_map,Array.toList_range,List.getElem_range,List.getElem_replicate]
  rw [getElem!_pos a _ hm]
  exact h _ (by rw [← Array.getElem_toList]; exact List.getElem_mem _)
theorem CVl.zeros {S:Pin} {m:Nm}:∀ n:Nat,CVl S (List.replicate n (.int .i64 0)) m (List.replicate n (.int .i64 0))
 | 0=>by simp only [List.replicate,CVl]
 | n+1=>by
  simp only [List.replicate,CVl,CV]
  exact ⟨_,_,rfl,⟨rfl,by decide⟩,CVl.zeros n⟩
theorem flat_rep (s:Nat) (V:AV):∀ n:Nat,(List.replicate n (List.replicate s V)).flatten=List.replicate (n*s) V
 | 0=>by simp
 | n+1=>by
  rw [List.replicate_succ,List.flatten_cons,flat_rep s V n,List.replicate_append_replicate,Nat.succ_mul,Nat.add_comm]
theorem flat_takeS {α:Type} {s:Nat}:∀ {zs:List (List α)} (n:Nat),(∀ z ∈ zs,z.length=s)→(zs.take n).flatten=zs.flatten.take (n*s)
 | _,0,_=>by simp
 | [],n+1,_=>by simp
 | z::zs,n+1,h=>by
  have hz:=h z List.mem_cons_self
  have ih:=flat_takeS (zs:=zs) n (fun y hy=>h y (List.mem_cons_of_mem _ hy))
  rw [List.take_succ_cons,List.flatten_cons,List.flatten_cons,ih,Nat.succ_mul,Nat.add_comm,← hz,List.take_length_add_append]
theorem CVl.take' {S:Pin} {m:Nm}:∀ (n:Nat) {xs:List AV} {vs:List Value},CVl S xs m vs→CVl S (xs.take n) m (vs.take n)
 | 0,_,_,_=>by simp only [List.take_zero,CVl]
 | n+1,[],vs,h=>by simp only [CVl] at h; subst h; simp only [List.take_nil,CVl]
 | n+1,x::xs,vs,h=>by
  simp only [CVl] at h
  obtain ⟨u,us,rfl,h1,h2⟩:=h
  simp only [List.take_succ_cons,CVl]
  exact ⟨u,_,rfl,h1,CVl.take' n h2⟩
theorem sz3 {a b l c:Nat} (h:a+b≤l) (k:l=c):min a l+b+(l - (a+b))=c:=by omega
theorem aclr_sound {P:Program} {E:Env} {kp:List Nat} {st0:St} {nt:Nat} {o:Oper} {c:Call} {ev:Operand→AV} {h:Nat→Option Blk} {K:AV→List (Nat × Blk)→List Nat→Prop} (ho:o.op=.call c) (hc:c.callee=.builtin .clear) (hd:dstOk nt o.dst=true)
  (H:aclr P c.argTypes.toList (c.args.toList.map ev) h K):∃ r u rd,K r u rd∧(∀ p ∈ u,p.1 ∉ rd→fresh kp st0 p.1=true)∧Good P E nt o ev h r u rd:=by
 unfold aclr at H
 split at H
 ·rename_i t k s q eo n f hts hxs
  split at H
  ·rename_i e ht
   split at H
   ·rename_i e' s' xs hk
    obtain ⟨hb,H1⟩:=cond_F H
    simp only [Bool.and_eq_true] at hb
    obtain ⟨⟨⟨b1,b2⟩,b3⟩,b4⟩:=hb
    have b1:=Nat.eq_of_beq_eq_true b1
    have b2:=Nat.eq_of_beq_eq_true b2
    subst b1; subst b2
    have hle:e < 1000000:=Nat.le_of_ble_eq_true b3
    obtain ⟨⟨hq,hn⟩,H2⟩:=chk_iff.1 H1
    obtain ⟨ox,hargs,hox⟩:∃ ox,c.args.toList=[ox]∧ev ox=.mw k s q eo n f:=by
     cases hq:c.args.toList with
     | nil=>rw [hq] at hxs; simp at hxs
     | cons p l =>
      cases l with
      | nil=>rw [hq] at hxs; simp at hxs; exact ⟨p,rfl,hxs⟩
      | cons r l=>rw [hq] at hxs; simp at hxs
    have hargsA:c.args=#[ox]:=by rw [← Array.toArray_toList (xs:=c.args),hargs]
    have htsA:c.argTypes=#[t]:=by rw [← Array.toArray_toList (xs:=c.argTypes),hts]
    have mx:ox ∈ o.op.operands:=by rw [ho]; simp [Op.operands,Call.operands,hc,hargsA]
    have hrun:∀ (a:Act) (w:World) (r:Value) (w':World),(Builtin.clear_ #[t] o.type #[a.eval ox]).run P w=.ok r w'→(execOp a.eval o).run P w=.ok (.value r) w':=by
     intro a w r w' hr
     simp [execOp,ho,resolve,hc,invoke,builtin,hargsA,htsA,hr]
    refine ⟨_,_,_,H2,fun p hp hnot=>by simp at hp; subst hp; exact absurd (List.mem_singleton.2 rfl) hnot,good_value hd fun G kp st a w S m hG hR he hrd hfr=>?_⟩
    have hx:=he ox mx
    rw [hox] at hx
    have hks:lk st.heap k=some (.row e s xs):=by rw [hrd k (by simp)]; exact hk
    have hheld:=hR.held k _ hks
    obtain ⟨A1,c1,h1,h2,h3,h4,h5,vals,h6,h7,h8,h9,h10⟩:=hheld.vals
    simp only [CV] at hx
    obtain ⟨A,cc,hv,p1,p2,p3,p4,p5,A2,q2,c2,p6,p7,p8⟩:=hx
    rw [h1] at p6
    simp only [Option.some.injEq,Value.iface.injEq,Value.slice.injEq,true_and] at p6
    obtain ⟨rfl,rfl,rfl⟩:=p6
    by_cases hn0:n=0
    ·subst hn0
     refine ⟨.tuple #[],w,S,m,hrun a w _ _ (by rw [hv]; cases A <;> simp [Builtin.clear_,run_underlying ht]),?_,by simp only [CV,CVl]; exact ⟨#[],rfl,rfl⟩⟩
     refine hR.congr' (fun t=>rfl) (fun j=>?_)
     simp only [St.blks,St.blk,lk_ins]
     by_cases e1:j=k
     ·subst e1; rw [if_pos rfl,hks,List.replicate_zero,List.append_nil,List.take_of_length_le (by omega)]
     ·rw [if_neg e1]
    ·have hnx:n≤xs.length:=by rw [← hn]; exact Nat.le_add_left n eo
     have hcc:cc≠0:=fun e=>hn0 (Nat.le_zero.1 (e ▸ p1))
     have hc1:c1≠0:=fun e=>hn0 (Nat.le_zero.1 (e ▸ Nat.le_trans hnx h2))
     obtain ⟨g,rfl,rfl⟩:=p8 hq hcc
     obtain ⟨g',cur,fr,q1,r2,rf,r3,r4⟩:=h5.resolve_left (fun e=>hc1 e.2)
     injection q1 with q1
     injection q1 with q1
     subst q1
     have hfr0:=rf.lt hle
     subst hfr0
     rw [rowTy_lt hle] at r2
     obtain ⟨g',cur',fr',q1,q2,_,_,q6⟩:=h9.resolve_left (fun e=>hc1 e.2)
     injection q1 with q1
     injection q1 with q1
     subst q1
     rw [rowTy_lt hle,r2] at q2
     injection q2 with q2
     injection q2 with q2
     subst q2
     rw [rowNm_lo (Nat.lt_trans hle (by decide))] at h7
     unfold zerR at b4
     split at b4
     ·rename_i i hi
      split at b4
      ·rename_i z hz
       simp only [Bool.and_eq_true,List.all_eq_true] at b4
       have hzs:=Nat.eq_of_beq_eq_true b4.1
       have hzv:∀ v ∈ z.cells.toList,v=.int .i64 0:=by
        intro v hv
        have:=b4.2 v hv
        cases v with
        | int kk nn=>cases kk <;> simp at this; subst this; rfl
        | _=>simp at this
       have hzz:(zeroValue e).run P w=.ok z w:=by simp [zeroValue,typeInfo,hi,hz]
       have hcl:cur.toList.length=c1*s:=by rw [Array.length_toList]; exact r3
       have hlen:eo*s+n*s=xs.length*s:=by rw [← Nat.add_mul,hn]
       have hxc:xs.length*s≤c1*s:=Nat.mul_le_mul_right s h2
       have hst:=run_storeCells_at (P:=P) g (eo*s) e (List.replicate (n*s) (Value.int .i64 0)) 0 cur w r2 (by rw [List.length_replicate]; omega) (fun v hv=>by rw [List.eq_of_mem_replicate hv]; rfl)
       simp only [Nat.add_zero,List.length_replicate] at hst
       have hcr:(Builtin.clear_ #[t] o.type #[.slice (some ⟨g,eo*s,none⟩) n cc]).run P w=.ok (.tuple #[]) (w.setRow g (cur.toList.take (eo*s)++List.replicate (n*s) (Value.int .i64 0)++cur.toList.drop (eo*s+n*s)).toArray):=by
        have hz2:=zeroC hzv n
        rw [hzs] at hz2
        obtain ⟨n',rfl⟩:=Nat.exists_eq_succ_of_ne_zero hn0
        simp [Builtin.clear_,run_underlying ht,hzz,hz2,hst]
       refine ⟨.tuple #[],_,S,m,hrun a w _ _ (by rw [hv]; exact hcr),?_,by simp only [CV,CVl]; exact ⟨#[],rfl,rfl⟩⟩
       have hz':∀ y ∈ xs.take eo++List.replicate n (List.replicate s (AV.int .i64 0)),y.length=s:=fun y hy=>by
        rcases List.mem_append.1 hy with hy | hy
        ·exact h4 y (List.mem_of_mem_take hy)
        ·rw [List.eq_of_mem_replicate hy,List.length_replicate]
       have hct:CVl S (xs.take eo++List.replicate n (List.replicate s (AV.int .i64 0))).flatten noNm (vals.take (eo*s)++List.replicate (n*s) (Value.int .i64 0)):=by
        rw [List.flatten_append,flat_takeS _ h4,flat_rep]
        exact (h7.take' _).append (CVl.zeros _)
       have hon:∀ v ∈ vals.take (eo*s)++List.replicate (n*s) (Value.int .i64 0),v.oneCell'=true:=fun v hv=>by
        rcases List.mem_append.1 hv with hv | hv
        ·exact h8 v (List.mem_of_mem_take hv)
        ·rw [List.eq_of_mem_replicate hv]; rfl
       have hlen2:(xs.take eo++List.replicate n (List.replicate s (AV.int .i64 0))).length=xs.length:=by simp; omega
       have htk:(cur.toList.take (eo*s)++List.replicate (n*s) (Value.int .i64 0)++cur.toList.drop (eo*s+n*s)).toArray.toList.take ((xs.take eo++List.replicate n (List.replicate s (AV.int .i64 0))).length*s)=vals.take (eo*s)++List.replicate (n*s) (Value.int .i64 0):=by
        rw [hlen2,← q6]
        simp only
        have l1:(cur.toList.take (eo*s)++List.replicate (n*s) (Value.int .i64 0)).length=xs.length*s:=by
         simp only [List.length_append,List.length_take,List.length_replicate]; omega
        rw [List.take_append_of_le_length (by omega),List.take_of_length_le (by omega),List.take_take,Nat.min_eq_left (by omega)]
       refine hR.writeR hks h1 hc1 rfl rfl rfl (by simp [World.setRow]) (fun j hne=>setRow_other w g j _ hne) r4 ⟨_,c1,by rw [hlen2]; exact h1,by rw [hlen2]; exact h2,h3,.inr ⟨g,_,(0,0),rfl,by rw [rowTy_lt hle]; exact setRow_heap w g cur _ e (0,0) r2,.none,?_,r4,by rw [rowNm_lo (Nat.lt_trans hle (by decide))]; exact row_of_flat hz' hct hon htk⟩⟩
       simp only [List.size_toArray,List.length_append,List.length_take,List.length_drop,List.length_replicate,Array.length_toList]
       exact sz3 (by rw [hlen,r3]; exact hxc) r3
      ·cases b4
     ·cases b4
   ·exact H.elim
  ·exact H.elim
 ·exact H.elim
end Go.Proofs.YtgbbmadjdaphnaaGreatDoor
namespace Go.Proofs.YtgbbmadjdaphnaaGreatDoor
open Go
open Go.RowKit (Below)
set_option linter.unusedVariables false
set_option linter.unusedSimpArgs false
def chunkK (s:Nat):Nat→List AV→(List (List AV)→Prop)→Prop
 | 0,[],k=>k []
 | 0,_::_,_=>False
 | n+1,cs,k=>takeK s cs fun x=>chunkK s n (cs.drop s) fun l=>k (x::l)
theorem chunkK_sound {s:Nat}:∀ {n:Nat} {cs:List AV} {k:List (List AV)→Prop},chunkK s n cs k→∃ xs,k xs∧xs.flatten=cs∧xs.length=n∧∀ z ∈ xs,z.length=s
 | 0,[],k,h=>⟨[],h,rfl,rfl,by simp⟩
 | 0,_::_,k,h=>by simp [chunkK] at h
 | n+1,cs,k,h=>by
  simp only [chunkK] at h
  obtain ⟨h1,h2⟩:=takeK_sound h
  obtain ⟨xs,h3,h4,h5,h6⟩:=chunkK_sound h1
  refine ⟨_,h3,by rw [List.flatten_cons,h4,List.take_append_drop],by simp [h5],fun z hz=>?_⟩
  rcases List.mem_cons.1 hz with rfl | hz
  ·simp; omega
  ·exact h6 z hz
def repD:Nat→List AV
 | 0=>[]
 | n+1=>.dead::repD n
theorem repD_cv {S:Pin} {m:Nm}:∀ (n:Nat) (vs:List Value),vs.length=n→CVl S (repD n) m vs
 | 0,vs,h=>by simp only [repD,CVl]; exact List.eq_nil_of_length_eq_zero h
 | n+1,[],h=>by simp at h
 | n+1,v::vs,h=>by simp only [repD,CVl]; exact ⟨v,vs,rfl,by simp only [CV],repD_cv n vs (by simpa using h)⟩
theorem Rel.newRowW {G:Gh} {kp:List Nat} {st:St} {a:Act} {w w':World} {S:Pin} {m:Nm} (hR:Rel G kp st a w S m) {nm:Nat} (hf:fresh kp st nm=true) {e s c:Nat} {fr:Nat × Nat} {xs:List (List AV)} {cur:Array Value} (hb:Below w.heap.size w w')
  (hw:w'.heap[w.heap.size]?=some (.cells cur (rowTy e) fr)) (hfr:RowMk e cur.size fr) (hcell:∀ b o,b < w.heap.size→w'.cell? ⟨b,o,none⟩=w.cell? ⟨b,o,none⟩) (h1:xs.length≤c) (h2:c≤maxLen) (h3:cur.size=c*s)
  (h4:∀ (j:Nat) (x:List AV),xs[j]?=some x→x.length=s∧∀ (i:Nat) (y:AV),x[i]?=some y→∃ v,cur[j*s+i]?=some v∧v.oneCell'=true∧CV S y (rowNm e (m.set nm (.iface 0 (.slice (some ⟨w.heap.size,0,none⟩) xs.length c)))) v) :
  Rel G kp (st.blk nm (.row e s xs)) a w' S (m.set nm (.iface 0 (.slice (some ⟨w.heap.size,0,none⟩) xs.length c)))∧CV S (.rw nm s xs.length) (m.set nm (.iface 0 (.slice (some ⟨w.heap.size,0,none⟩) xs.length c))) (.slice (some ⟨w.heap.size,0,none⟩) xs.length c):=by
 refine ⟨hR.fresh_ hf hb (Ext.refl _) (fun _ _ _=>rfl) ?_ (fun g hg=>by simp [bk] at hg; omega) ?_,CV.rw_mk (Nm.set_same _ _ _) h1 h2 (.inr ⟨_,rfl⟩)⟩
 ·intro b o v e
  refine ⟨?_,(hR.agree b o v e).2⟩
  rw [hcell b o (hR.agree.lt e)]
  exact (hR.agree b o v e).1
 ·refine ⟨_,c,Nm.set_same _ _ _,h1,h2,.inr ⟨w.heap.size,cur,fr,rfl,hw,hfr,h3,fun o=>?_,h4⟩⟩
  cases e:S w.heap.size o with
  | none=>rfl
  | some v=>have:=hR.agree.lt e; omega
theorem Rel.newRow {G:Gh} {kp:List Nat} {st:St} {a:Act} {w:World} {S:Pin} {m:Nm} (hR:Rel G kp st a w S m) {nm:Nat} (hf:fresh kp st nm=true) {e s c:Nat} {o:Bool} (he:e < 1000000) {xs:List (List AV)} {cur:Array Value} (h1:xs.length≤c) (h2:c≤maxLen) (h3:cur.size=c*s)
  (h4:∀ (j:Nat) (x:List AV),xs[j]?=some x→x.length=s∧∀ (i:Nat) (y:AV),x[i]?=some y→∃ v,cur[j*s+i]?=some v∧v.oneCell'=true∧CV S y (rowNm (tyO o e) (m.set nm (.iface 0 (.slice (some ⟨w.heap.size,0,none⟩) xs.length c)))) v) :
  Rel G kp (st.blk nm (.row (tyO o e) s xs)) a (w.alloc (.cells cur e)) S (m.set nm (.iface 0 (.slice (some ⟨w.heap.size,0,none⟩) xs.length c)))∧CV S (.rw nm s xs.length) (m.set nm (.iface 0 (.slice (some ⟨w.heap.size,0,none⟩) xs.length c))) (.slice (some ⟨w.heap.size,0,none⟩) xs.length c) :=
 hR.newRowW hf ((Below.refl _ _).alloc (Nat.le_refl _) _) (by rw [rowTy_tyO he]; exact heap_alloc_new w _) .none (fun b o h=>World.cell?_alloc_lt _ _ _ h) h1 h2 h3 h4
mutual
def hasN:AV→Bool
 | .ptr _ _=>true
 | .ms _ _ _ _ _=>true
 | .rw _ _ _=>true
 | .mw _ _ _ _ _ _=>true
 | .prw _ _ _ _ _=>true
 | .mpv _=>true
 | .agg cs=>hasNl cs
 | .tup cs=>hasNl cs
 | .fn _ cs=>hasNl cs
 | _=>false
def hasNl:List AV→Bool
 | []=>false
 | x::xs=>hasN x||hasNl xs
end
def abuildS (P:Program) (nm:Nat) (t:TypeId) (len:Nat) (parts:List (Nat × AV)) (K:AV→List (Nat × Blk)→List Nat→Prop):Prop :=
 match P.underlying t with
 | some (.slice e)=>(match P.info? e with
  | some i=>cond (Nat.ble (len*i.size) 16777216&&Nat.ble len 9223372036854775807&&Nat.blt e 1000000) (zeroA P e fun _=>fillK (fun q=>some (q*i.size,i.size)) (repD (len*i.size)) parts fun cs=>cond (allOne cs&&(!(hasNl cs)||nnl nm cs)) (stripE (tyO (hasNl cs) e) cs fun cs'=>chunkK i.size len cs' fun xs=>fcN (hasNl cs) (tyO (hasNl cs) e) fun e2=>K (.rw nm i.size len) [(nm,.row e2 i.size xs)] []) False) False
  | none=>False)
 | _=>False
theorem abuildS_sound {P:Program} {E:Env} {nt nm:Nat} {o:Oper} {t:TypeId} {len:Nat} {parts:Array (Nat × Operand)} {ev:Operand→AV} {h:Nat→Option Blk} {K:AV→List (Nat × Blk)→List Nat→Prop} (ho:o.op=.buildSlice t len parts) (hd:dstOk nt o.dst=true)
    (H:abuildS P nm t len (parts.toList.map fun p=>(p.1,ev p.2)) K):∃ r b,K r [(nm,b)] []∧Good P E nt o ev h r [(nm,b)] []:=by
  unfold abuildS at H
  split at H
  · rename_i e ht
    split at H
    · rename_i i hi
      obtain ⟨hb,H1⟩:=cond_F H
      simp only [Bool.and_eq_true] at hb
      have hle:=Nat.le_of_ble_eq_true hb.1.1
      have hl63:=Nat.le_of_ble_eq_true hb.1.2
      have hle:e < 1000000:=Nat.le_of_ble_eq_true hb.2
      obtain ⟨i',z,hi',hz,H2,hzr⟩:=zeroA_sound H1
      rw [hi] at hi'
      injection hi' with hi'
      subst hi'
      obtain ⟨cs,H3,hfill⟩:=fillK_sound _ _ _ H2
      obtain ⟨hone,H4⟩:=cond_F H3
      simp only [Bool.and_eq_true] at hone
      obtain ⟨hone,hnn⟩:=hone
      generalize hop:hasNl cs=op at H4 hnn
      obtain ⟨cs',H5,hstrip⟩:=stripE_sound H4
      have hsame:2000000≤tyO op e→nnl nm cs=true:=fun q=>by
        cases op with
        | false=>exact absurd (Nat.lt_of_lt_of_le hle (Nat.le_trans (by decide) (show 2000000≤e from q))) (Nat.lt_irrefl _)
        | true=>simpa using hnn
      obtain ⟨xs,H6,hfl,hxl,hxs⟩:=chunkK_sound H5
      simp only [fcN_eq,hop] at H6
      refine ⟨_,_,H6,good_value hd fun G kp st a w S m hG hR he hrd hf=>?_⟩
      have hnz:¬ len*i.size > 2 ^ 24:=by omega
      have fin:∀ (zero:Array Value),∃ out,Instr.fill (fun q=>some (q*i.size,i.size)) ((Array.range (len*i.size)).map (zero[· % zero.size]!)) (parts.map fun p=>(p.1,a.eval p.2)).toList=some out∧CVl S cs m out.toList:=by
        intro zero
        refine hfill S m _ _ (repD_cv _ _ (by simp)) (by simp) (fun j p q hp hq=>?_)
        simp only [List.getElem?_map,Array.toList_map] at hp hq
        cases hj:parts.toList[j]? with
        | none=>simp [hj] at hp
        | some u =>
          simp only [hj,Option.map_some,Option.some.injEq] at hp hq
          subst hp hq
          exact ⟨rfl,he u.2 (by rw [ho]; simp only [Op.operands,List.mem_toArray,List.mem_map]; exact ⟨u,List.mem_of_getElem? hj,rfl⟩)⟩
      obtain ⟨zero,hzero⟩:∃ zero:Array Value,(len*i.size=0∧zero=#[])∨(¬ len*i.size=0∧zero=z.cells):=by
        by_cases h0:len*i.size=0
        · exact ⟨_,.inl ⟨h0,rfl⟩⟩
        · exact ⟨_,.inr ⟨h0,rfl⟩⟩
      obtain ⟨out,hout,hcv⟩:=fin zero
      have hcv':=hstrip S m _ hcv
      have hol:=hcv'.len
      have hcl:cs'.length=len*i.size:=by rw [← hfl,flat_len hxs,hxl]
      simp only [Array.length_toList] at hol
      have hcvS:∀ u,CVl S cs' (rowNm (tyO op e) (m.set nm u)) out.toList:=fun u=>by
        by_cases q:tyO op e < 2000000
        · rw [rowNm_lo q] at hcv' ⊢; exact hcv'
        · exact hstrip S (m.set nm u) _ (hcv.set (hsame (Nat.le_of_not_lt q)))
      have hrow:=row_of_flat (cur:=out) (vals:=out.toList) hxs (by rw [hfl]; exact hcvS (.iface 0 (.slice (some ⟨w.heap.size,0,none⟩) xs.length len))) (allOne_cv hcv hone) (by rw [hxl,List.take_of_length_le (by simp; omega)])
      have hnew:=hR.newRow (e:=e) (o:=op) (c:=len) (cur:=out) (hf (nm,.row (tyO op e) i.size xs) (by simp) (by simp)) hle (by omega) (by unfold maxLen; omega) (by omega) hrow
      rw [hxl] at hnew
      refine ⟨.slice (some ⟨w.heap.size,0,none⟩) len len,w.alloc (.cells out e),S,_,?_,hnew.1,hnew.2⟩
      have hrun:(Instr.buildSlice t len (parts.map fun p=>(p.1,a.eval p.2))).run P w=.ok (.slice (some ⟨w.heap.size,0,none⟩) len len) (w.alloc (.cells out e)):=by
        unfold Instr.buildSlice
        simp only [Sem.run_bind,run_underlying ht,Result.andThen_ok,sizeOf,typeInfo,run_program,hi,Sem.run_pure,hnz,if_false]
        rcases hzero with ⟨h0,rfl⟩ | ⟨h0,rfl⟩
        · rw [if_pos h0]
          simp only [Sem.run_bind,Sem.run_pure,Result.andThen_ok,hout]
          simp [newRow]
        · rw [if_neg h0]
          simp only [Sem.run_bind,hzr,Sem.run_pure,Result.andThen_ok,hout]
          simp [newRow]
      simp only [execOp,ho]
      simp [hrun]
    · exact H.elim
  · exact H.elim
def amakeS (P:Program) (nm:Nat) (t:TypeId) (l c:AV) (K:AV→List (Nat × Blk)→List Nat→Prop):Prop :=
 match P.underlying t with
 | some (.slice e)=>(match P.info? e with
  | some i=>intK l fun l=>intK c fun c=>chk (0≤l∧l≤c∧(i.bytes:Int)*c≤281474976710656∧c≤9223372036854775807) (zeroA P e fun zs=>cond (Nat.beq zs.length i.size&&allOne zs&&Nat.blt e 1000000) (stripL zs fun zs=>K (.rw nm i.size l.toNat) [(nm,.row e i.size (List.replicate l.toNat zs))] []) False)
  | none=>False)
 | _=>False
theorem amakeS_sound {P:Program} {E:Env} {nt nm:Nat} {o:Oper} {t:TypeId} {ol oc:Operand} {ev:Operand→AV} {h:Nat→Option Blk} {K:AV→List (Nat × Blk)→List Nat→Prop} (ho:o.op=.makeSlice t ol oc) (hd:dstOk nt o.dst=true)
  (H:amakeS P nm t (ev ol) (ev oc) K):∃ r b,K r [(nm,b)] []∧Good P E nt o ev h r [(nm,b)] []:=by
 unfold amakeS at H
 split at H
 ·rename_i e ht
  split at H
  ·rename_i i hi
   obtain ⟨l,H1,hl⟩:=intK_sound H
   obtain ⟨c,H2,hc⟩:=intK_sound H1
   obtain ⟨⟨q1,q2,q3,q4⟩,H3⟩:=chk_iff.1 H2
   obtain ⟨i',z,hi',hz,H4,hzr⟩:=zeroA_sound H3
   rw [hi] at hi'
   injection hi' with hi'
   subst hi'
   obtain ⟨hb,H5⟩:=cond_F H4
   simp only [Bool.and_eq_true] at hb
   have hzl:=Nat.eq_of_beq_eq_true hb.1.1
   have hle:e < 1000000:=Nat.le_of_ble_eq_true hb.2
   obtain ⟨zs,H6,hst⟩:=stripL_sound _ _ H5
   refine ⟨_,_,H6,good_value hd fun G kp st a w S m hG hR he hrd hf=>?_⟩
   obtain ⟨kl,hvl⟩:=hl S m _ (he ol (by rw [ho]; simp [Op.operands]))
   obtain ⟨kc,hvc⟩:=hc S m _ (he oc (by rw [ho]; simp [Op.operands]))
   have hzc:=ofVs_cv S m z.cells.toList
   have hz1:=allOne_cv hzc hb.1.2
   have hz2:=hst S m _ hzc
   have hzsz:=hzc.len
   have hzs2:=hz2.len
   simp only [Array.length_toList] at hzsz hzs2
   have hrun:=run_make (P:=P) w t e i z ht hi hz kl kc l c q1 q2 q3 q4
   have hrow:∀ (j:Nat) (x:List AV),(List.replicate l.toNat zs)[j]?=some x→x.length=i.size∧∀ (p:Nat) (y:AV),x[p]?=some y→∃ v,(madeCells z.cells (c.toNat*i.size))[j*i.size+p]?=some v∧v.oneCell'=true∧CV S y noNm v:=by
    intro j x hx
    rw [List.getElem?_replicate] at hx
    split at hx
    ·rename_i hj
     injection hx with hx
     subst hx
     refine ⟨by omega,fun p y hy=>?_⟩
     obtain ⟨v,hv1,hv2⟩:=hz2.get hy
     have hp:p < i.size:=by have:=(List.getElem?_eq_some_iff.1 hy).1; omega
     have hlt:j*i.size+p < c.toNat*i.size:=by
      have:(j+1)*i.size≤c.toNat*i.size:=Nat.mul_le_mul_right _ (by omega)
      rw [Nat.succ_mul] at this; omega
     refine ⟨v,?_,hz1 v (List.mem_of_getElem? hv1),hv2⟩
     have hmod:(j*i.size+p) % z.cells.size=p:=by
      rw [show z.cells.size=i.size by omega,Nat.add_comm,Nat.add_mul_mod_self_right,Nat.mod_eq_of_lt hp]
     have hv3:z.cells[p]?=some v:=by simpa using hv1
     unfold madeCells
     simp only [Array.getElem?_map]
     rw [Array.getElem?_range,if_pos hlt]
     simp only [Option.map_some,hmod]
     rw [getElem!_def,hv3]
    ·cases hx
   have hnew:=hR.newRow (e:=e) (o:=false) (s:=i.size) (xs:=List.replicate l.toNat zs) (c:=c.toNat) (cur:=madeCells z.cells (c.toNat*i.size)) (hf (nm,.row e i.size (List.replicate l.toNat zs)) (by simp) (by simp)) hle (by simp; omega) (by unfold maxLen; omega) (size_madeCells _ _) (by rw [rowNm_lo (show tyO false e < 2000000 from Nat.lt_trans hle (by decide))]; exact hrow)
   rw [List.length_replicate] at hnew
   exact ⟨_,_,S,_,by simp [execOp,ho,hvl,hvc,hrun],hnew.1,hnew.2⟩
  ·exact H.elim
 ·exact H.elim
end Go.Proofs.YtgbbmadjdaphnaaGreatDoor
namespace Go.Proofs.YtgbbmadjdaphnaaGreatDoor
open Go
open Go.RowKit (Below)
set_option linter.unusedVariables false
set_option linter.unusedSimpArgs false
mutual
def frzA (k s:Nat) (xs:List (List AV)):AV→AV
 | .rw j s' n=>cond (Nat.beq j k) (cond (Nat.beq s s') (.frz k s n xs) .dead) (.rw j s' n)
 | .mw j s' q eo n f=>cond (Nat.beq j k) .dead (.mw j s' q eo n f)
 | .prw j s' q i fo=>cond (Nat.beq j k) .dead (.prw j s' q i fo)
 | .agg cs=>.agg (frzL k s xs cs)
 | .tup cs=>.tup (frzL k s xs cs)
 | .fn f cs=>.fn f (frzL k s xs cs)
 | .acc j s' ys=>cond (Nat.beq j k) .dead (.acc j s' ys)
 | .frz j s' n ys=>cond (Nat.beq j k) .dead (.frz j s' n ys)
 | .ptr j o=>cond (Nat.beq j k) .dead (.ptr j o)
 | .ms j o n c s'=>cond (Nat.beq j k) .dead (.ms j o n c s')
 | .mpv j=>cond (Nat.beq j k) .dead (.mpv j)
 | .int q n=>.int q n
 | .bool b=>.bool b
 | .str b=>.str b
 | .sl s f ys=>.sl s f ys
 | .nils=>.nils
 | .ro cs=>.ro cs
 | .nilp=>.nilp
 | .undef=>.undef
 | .dead=>.dead
def frzL (k s:Nat) (xs:List (List AV)):List AV→List AV
 | []=>[]
 | y::ys=>frzA k s xs y::frzL k s xs ys
end
def frzT (k s:Nat) (xs:List (List AV)):List (Nat × AV)→List (Nat × AV)
 | []=>[]
 | (t,y)::l=>(t,frzA k s xs y)::frzT k s xs l
def frzLL (k s:Nat) (xs:List (List AV)):List (List AV)→List (List AV)
 | []=>[]
 | y::ys=>frzL k s xs y::frzLL k s xs ys
theorem frzL_at (k s:Nat) (xs:List (List AV)):∀ (l:List AV) (i:Nat),(frzL k s xs l)[i]?=(l[i]?).map (frzA k s xs)
 | [],i=>by simp [frzL]
 | y::l,0=>by simp [frzL]
 | y::l,i+1=>by simp only [frzL,List.getElem?_cons_succ]; exact frzL_at k s xs l i
theorem frzLL_at (k s:Nat) (xs:List (List AV)):∀ (l:List (List AV)) (i:Nat),(frzLL k s xs l)[i]?=(l[i]?).map (frzL k s xs)
 | [],i=>by simp [frzLL]
 | y::l,0=>by simp [frzLL]
 | y::l,i+1=>by simp only [frzLL,List.getElem?_cons_succ]; exact frzLL_at k s xs l i
theorem frzL_len (k s:Nat) (xs:List (List AV)):∀ (l:List AV),(frzL k s xs l).length=l.length
 | []=>rfl
 | y::l=>by simp [frzL,frzL_len k s xs l]
theorem frzLL_len (k s:Nat) (xs:List (List AV)):∀ (l:List (List AV)),(frzLL k s xs l).length=l.length
 | []=>rfl
 | y::l=>by simp [frzLL,frzLL_len k s xs l]
def frsA (k s:Nat) (xs:List (List AV)):AV→AV
 | .rw j s' n=>if j=k then (if s'=s∧n=xs.length then .sl s false xs else .dead) else .rw j s' n
 | x=>cond (nn k x) x .dead
def mapLL (f:AV→AV) (xs:List (List AV)):List (List AV):=xs.map fun x=>x.map f
theorem mapLL_len (f:AV→AV) (xs:List (List AV)):(mapLL f xs).length=xs.length:=by simp [mapLL]
theorem mapLL_at {f:AV→AV} {xs:List (List AV)} {j:Nat} {x:List AV} (h:(mapLL f xs)[j]?=some x):∃ x0,xs[j]?=some x0∧x=x0.map f:=by
 unfold mapLL at h
 rw [List.getElem?_map] at h
 cases q:xs[j]? with
 | none=>rw [q] at h; cases h
 | some x0=>rw [q] at h; simp only [Option.map_some,Option.some.injEq] at h; exact ⟨x0,rfl,h.symm⟩
def rmN (k:Nat):List Nat→List Nat
 | []=>[]
 | j::l=>cond (Nat.beq j k) (rmN k l) (j::rmN k l)
theorem rmN_in {k i:Nat}:∀ {l:List Nat},inL i l=true→i≠k→inL i (rmN k l)=true
 | [],h,_=>by cases h
 | j::l,h,hn=>by
  simp only [inL,Bool.or_eq_true] at h
  simp only [rmN]
  cases hj:Nat.beq j k with
  | true =>
   have:=Nat.eq_of_beq_eq_true hj
   subst this
   rcases h with h | h
   ·exact absurd (Nat.eq_of_beq_eq_true h).symm hn
   ·exact rmN_in h hn
  | false =>
   simp only [cond_false,inL,Bool.or_eq_true]
   rcases h with h | h
   ·exact .inl h
   ·exact .inr (rmN_in h hn)
theorem HeldRow.mapA {S S':Pin} {m m':Nm} {w:World} {k k' e s:Nat} {xs:List (List AV)} (f:AV→AV) (h:HeldRow S m w k e s xs) (hk:m' k'=m k) (hS:∀ u g,m k=some u→bk u=some g→∀ o,S' g o=S g o)
  (hf:∀ (j i:Nat) (x:List AV) (y:AV),xs[j]?=some x→x[i]?=some y→∀ v,CV S y (rowNm e m) v→CV S' (f y) (rowNm e m') v):HeldRow S' m' w k' e s (mapLL f xs):=by
 obtain ⟨A,c,p1,p2,p3,p4⟩:=h
 refine ⟨A,c,by rw [mapLL_len,hk]; exact p1,by rw [mapLL_len]; exact p2,p3,?_⟩
 rcases p4 with p4 | ⟨g,cur,fr,rfl,p5,p6,p7,p8,p9⟩
 ·exact .inl p4
 ·refine .inr ⟨g,cur,fr,rfl,p5,p6,p7,fun o=>(hS _ g p1 rfl o).trans (p8 o),fun j x hx=>?_⟩
  obtain ⟨x0,hy,rfl⟩:=mapLL_at hx
  obtain ⟨r1,r2⟩:=p9 j x0 hy
  refine ⟨by rw [List.length_map]; exact r1,fun i y hi=>?_⟩
  rw [List.getElem?_map] at hi
  cases hz:x0[i]? with
  | none=>rw [hz] at hi; cases hi
  | some y0 =>
   rw [hz] at hi
   simp only [Option.map_some,Option.some.injEq] at hi
   subst hi
   obtain ⟨v,q1,q2,q3⟩:=r2 i y0 hz
   exact ⟨v,q1,q2,hf j i x0 y0 hy hz v q3⟩
theorem NmIn.mapA {ks ks':List Nat} {xs:List (List AV)} {f:AV→AV} (h:NmIn ks xs) (hf:∀ y k,(∀ j,nn j y=false→inL j ks=true)→nn k (f y)=false→inL k ks'=true):NmIn ks' (mapLL f xs):=by
 intro j i x y hx hy k hk
 obtain ⟨x0,h0,rfl⟩:=mapLL_at hx
 rw [List.getElem?_map] at hy
 cases hz:x0[i]? with
 | none=>rw [hz] at hy; cases hy
 | some y0 =>
  rw [hz] at hy
  simp only [Option.map_some,Option.some.injEq] at hy
  subst hy
  exact hf y0 k (h j i x0 y0 h0 hz) hk
theorem kl_nn {k j:Nat} {x:AV} (h:nn j (cond (nn k x) x .dead)=false):nn j x=false∧j≠k:=by
 cases q:nn k x with
 | true=>rw [q] at h; simp only [cond_true] at h; exact ⟨h,fun e=>by subst e; rw [q] at h; cases h⟩
 | false=>rw [q] at h; cases h
theorem kl_cv {k:Nat} {x:AV} {S:Pin} {m:Nm} {v:Value} (h:nn k x=true→CV S x m v):CV S (cond (nn k x) x .dead) m v:=by
 cases q:nn k x with
 | true=>exact h q
 | false=>simp only [cond_false,CV]
theorem frsA_nn {k s:Nat} {zs:List (List AV)} {y:AV} {j:Nat} (h:nn j (frsA k s zs y)=false):nn j y=false∧j≠k:=by
 cases y with
 | rw i s' n =>
  simp only [frsA] at h
  split at h
  ·split at h <;> cases h
  ·rename_i hi
   refine ⟨h,fun e=>?_⟩
   subst e
   simp only [nn,Bool.not_eq_false'] at h
   exact hi (Nat.eq_of_beq_eq_true h)
 | _=>exact kl_nn (by simpa only [frsA] using h)
def frzB (k s:Nat) (xs:List (List AV)):Blk→Blk
 | .cells cs=>.cells (frzL k s xs cs)
 | .row e s' ys=>cond (Nat.blt e 2000000) (.row e s' ys) (.row e s' (frzLL k s xs ys))
 | .nrow e s' ks ys=>cond (inL k ks) (.nrow e s' (rmN k ks) (mapLL (frsA k s xs) ys)) (.nrow e s' ks ys)
 | b=>b
def frzH (k s:Nat) (xs:List (List AV)):List (Nat × Blk)→List (Nat × Blk)
 | []=>[]
 | (j,b)::l=>(j,frzB k s xs b)::frzH k s xs l
theorem frzT_lk (k s:Nat) (xs:List (List AV)) (t:Nat):∀ (l:List (Nat × AV)),lk (frzT k s xs l) t=(lk l t).map (frzA k s xs)
 | []=>rfl
 | (j,y)::l=>by
  simp only [frzT,lk]
  cases Nat.beq j t with
  | true=>rfl
  | false=>exact frzT_lk k s xs t l
theorem frzH_lk (k s:Nat) (xs:List (List AV)) (t:Nat):∀ (l:List (Nat × Blk)),lk (frzH k s xs l) t=(lk l t).map (frzB k s xs)
 | []=>rfl
 | (j,y)::l=>by
  simp only [frzH,lk]
  cases Nat.beq j t with
  | true=>rfl
  | false=>exact frzH_lk k s xs t l
mutual
theorem frzA_cv {S S':Pin} {m m':Nm} {k s:Nat} {xs:List (List AV)} (hS:Ext S S') (hm:∀ j,j≠k→m' j=m j)
  (hk:∀ n v,CV S (.rw k s n) m v→CV S' (.frz k s n xs) m' v):∀ (x:AV) (v:Value),CV S x m v→CV S' (frzA k s xs x) m' v
 | .rw j s' n,v,h=>by
  simp only [frzA]
  cases hj:Nat.beq j k with
  | true =>
   have:=Nat.eq_of_beq_eq_true hj
   subst this
   simp only [cond_true]
   cases hs:Nat.beq s s' with
   | true =>
    have:=Nat.eq_of_beq_eq_true hs
    subst this
    exact hk n v h
   | false=>simp only [cond_false,CV]
  | false =>
   simp only [cond_false]
   exact CV.mono hS _ m m' v (fun i u hi e=>⟨u,by
    have:i≠k:=by
     rintro rfl
     simp only [nn,Bool.not_eq_false'] at hi
     rw [hi] at hj; cases hj
    rw [hm i this]; exact e,.refl u⟩) h
 | .mw j s' q eo n f,v,h=>by
  simp only [frzA]
  cases hj:Nat.beq j k with
  | true=>simp only [cond_true,CV]
  | false =>
   simp only [cond_false]
   exact CV.mono hS _ m m' v (fun i u hi e=>⟨u,by
    have:i≠k:=by
     rintro rfl
     simp only [nn,Bool.not_eq_false'] at hi
     rw [hi] at hj; cases hj
    rw [hm i this]; exact e,.refl u⟩) h
 | .prw j s' q p fo,v,h=>by
  simp only [frzA]
  cases hj:Nat.beq j k with
  | true=>simp only [cond_true,CV]
  | false =>
   simp only [cond_false]
   exact CV.mono hS _ m m' v (fun i u hi e=>⟨u,by
    have:i≠k:=by
     rintro rfl
     simp only [nn,Bool.not_eq_false'] at hi
     rw [hi] at hj; cases hj
    rw [hm i this]; exact e,.refl u⟩) h
 | .mpv j,v,h=>by
  simp only [frzA]
  cases hj:Nat.beq j k with
  | true=>simp only [cond_true,CV]
  | false =>
   simp only [cond_false]
   exact CV.mono hS _ m m' v (fun i u hi e=>⟨u,by
    have:i≠k:=by
     rintro rfl
     simp only [nn,Bool.not_eq_false'] at hi
     rw [hi] at hj; cases hj
    rw [hm i this]; exact e,.refl u⟩) h
 | .acc j s' ys,v,h=>by
  simp only [frzA]
  cases hj:Nat.beq j k with
  | true=>simp only [cond_true,CV]
  | false =>
   simp only [cond_false]
   exact CV.mono hS _ m m' v (fun i u hi e=>⟨u,by
    have:i≠k:=by
     rintro rfl
     simp only [nn,Bool.not_eq_false'] at hi
     rw [hi] at hj; cases hj
    rw [hm i this]; exact e,.refl u⟩) h
 | .frz j s' n ys,v,h=>by
  simp only [frzA]
  cases hj:Nat.beq j k with
  | true=>simp only [cond_true,CV]
  | false =>
   simp only [cond_false]
   exact CV.mono hS _ m m' v (fun i u hi e=>⟨u,by
    have:i≠k:=by
     rintro rfl
     simp only [nn,Bool.not_eq_false'] at hi
     rw [hi] at hj; cases hj
    rw [hm i this]; exact e,.refl u⟩) h
 | .ptr j o,v,h=>by
  simp only [frzA]
  cases hj:Nat.beq j k with
  | true=>simp only [cond_true,CV]
  | false =>
   simp only [cond_false]
   exact CV.mono hS _ m m' v (fun i u hi e=>⟨u,by
    have:i≠k:=by
     rintro rfl
     simp only [nn,Bool.not_eq_false'] at hi
     rw [hi] at hj; cases hj
    rw [hm i this]; exact e,.refl u⟩) h
 | .ms j o n c s',v,h=>by
  simp only [frzA]
  cases hj:Nat.beq j k with
  | true=>simp only [cond_true,CV]
  | false =>
   simp only [cond_false]
   exact CV.mono hS _ m m' v (fun i u hi e=>⟨u,by
    have:i≠k:=by
     rintro rfl
     simp only [nn,Bool.not_eq_false'] at hi
     rw [hi] at hj; cases hj
    rw [hm i this]; exact e,.refl u⟩) h
 | .agg cs,v,h=>by
  simp only [frzA,CV] at h ⊢
  obtain ⟨us,e,hu⟩:=h
  exact ⟨us,e,frzL_cv hS hm hk cs _ hu⟩
 | .tup cs,v,h=>by
  simp only [frzA,CV] at h ⊢
  obtain ⟨us,e,hu⟩:=h
  exact ⟨us,e,frzL_cv hS hm hk cs _ hu⟩
 | .fn f cs,v,h=>by
  simp only [frzA,CV] at h ⊢
  obtain ⟨us,e,hu⟩:=h
  exact ⟨us,e,frzL_cv hS hm hk cs _ hu⟩
 | .int _ _,v,h=>by simp only [frzA]; exact CV.mono hS _ m m' v (fun i u hi e=>by simp [nn] at hi) h
 | .bool _,v,h=>by simp only [frzA]; exact CV.mono hS _ m m' v (fun i u hi e=>by simp [nn] at hi) h
 | .str _,v,h=>by simp only [frzA]; exact CV.mono hS _ m m' v (fun i u hi e=>by simp [nn] at hi) h
 | .sl _ _ _,v,h=>by simp only [frzA]; exact CV.mono hS _ m m' v (fun i u hi e=>by simp [nn] at hi) h
 | .nils,v,h=>by simp only [frzA]; exact CV.mono hS _ m m' v (fun i u hi e=>by simp [nn] at hi) h
 | .ro _,v,h=>by simp only [frzA]; exact CV.mono hS _ m m' v (fun i u hi e=>by simp [nn] at hi) h
 | .nilp,v,h=>by simp only [frzA]; exact CV.mono hS _ m m' v (fun i u hi e=>by simp [nn] at hi) h
 | .undef,v,h=>by simp only [frzA]; exact CV.mono hS _ m m' v (fun i u hi e=>by simp [nn] at hi) h
 | .dead,v,h=>by simp only [frzA,CV]
theorem frzL_cv {S S':Pin} {m m':Nm} {k s:Nat} {xs:List (List AV)} (hS:Ext S S') (hm:∀ j,j≠k→m' j=m j)
  (hk:∀ n v,CV S (.rw k s n) m v→CV S' (.frz k s n xs) m' v):∀ (ys:List AV) (vs:List Value),CVl S ys m vs→CVl S' (frzL k s xs ys) m' vs
 | [],vs,h=>by simp only [frzL,CVl] at h ⊢; exact h
 | y::ys,vs,h=>by
  simp only [frzL,CVl] at h ⊢
  obtain ⟨u,us,e,h1,h2⟩:=h
  exact ⟨u,us,e,frzA_cv hS hm hk y u h1,frzL_cv hS hm hk ys us h2⟩
end
def frzK (kp:List Nat) (st:St) (k:Nat) (K:St→Prop):Prop :=
 match lk st.heap k with
 | some (.row e s xs)=>cond (inL k kp||!(Nat.blt e 2000000)) False (K ⟨frzT k s xs st.tmps,ins (frzH k s xs st.heap) k (.tok e s xs.length)⟩)
 | _=>False
theorem frzK_sound {G:Gh} {kp:List Nat} {st:St} {a:Act} {w:World} {S:Pin} {m:Nm} (h:Rel G kp st a w S m) {k:Nat} {K:St→Prop} (H:frzK kp st k K):∃ st' S' m',K st'∧Rel G kp st' a w S' m':=by
 unfold frzK at H
 split at H
 ·rename_i e s xs hk
  cases hin0:(inL k kp||!(Nat.blt e 2000000)) with
  | true=>rw [hin0] at H; exact H.elim
  | false =>
   rw [hin0] at H
   simp only [cond_false] at H
   simp only [Bool.or_eq_false_iff,Bool.not_eq_false'] at hin0
   obtain ⟨hin,hcl⟩:=hin0
   have hcl:e < 2000000:=Nat.le_of_ble_eq_true hcl
   have hheld:=h.held k _ hk
   obtain ⟨A,c,h1,h2,h3,hlen,h4,vals,h5,h6,h7,_,h8⟩:=hheld.vals
   rw [rowNm_lo hcl] at h6
   let S':Pin:=fun b o=>if A=some ⟨b,0,none⟩∧o < vals.length then vals[o]? else S b o
   let m':Nm:=m.set k (.slice A xs.length c)
   have hun:∀ b,A=some ⟨b,0,none⟩→∀ o,S b o=none:=by
    intro b hb o
    rcases h4 with ⟨e1,_⟩ | ⟨g,cur,fr,e1,_,_,_,e2⟩
    ·rw [hb] at e1; cases e1
    ·rw [hb] at e1
     injection e1 with e1
     injection e1 with e1
     subst e1
     exact e2 o
   have hS:Ext S S':=by
    intro b o v e1
    show (if A=some ⟨b,0,none⟩∧o < vals.length then vals[o]? else S b o)=some v
    rw [if_neg]
    ·exact e1
    ·rintro ⟨hb,_⟩
     rw [hun b hb] at e1; cases e1
   have hfar:∀ b,A≠some ⟨b,0,none⟩→∀ o,S' b o=S b o:=by
    intro b hb o
    show (if A=some ⟨b,0,none⟩∧o < vals.length then vals[o]? else S b o)=S b o
    rw [if_neg (fun q=>hb q.1)]
   have hm:∀ j,j≠k→m' j=m j:=fun j hj=>Nm.set_ne m _ hj
   have hkk:∀ n v,CV S (.rw k s n) m v→CV S' (.frz k s n xs) m' v:=by
    intro n v hv
    simp only [CV] at hv ⊢
    obtain ⟨⟨B,d,rfl,p1,p2,p3,p4⟩,A1,q1,c1,p5,p6,p7⟩:=hv
    refine ⟨⟨B,d,rfl⟩,fun hn=>?_⟩
    rw [h1] at p5
    injection p5 with p5
    injection p5 with _ p5
    injection p5 with e1 e2 e3
    subst e1; subst e3
    have hv:=p7 (by omega)
    injection hv with e1 e3 e4
    subst e1; subst e4
    refine ⟨⟨B,d,by rw [hn],h2,h3,p3,fun ad had=>?_⟩,B,xs.length,d,Nm.set_same _ _ _,Nat.le_refl _,fun _=>by rw [hn]⟩
    obtain ⟨g,eg⟩:=p4 ad had
    subst eg
    refine ⟨fun _=>rfl,CE.mk fun j x hj=>?_⟩
    have hxl:=hlen x (List.mem_of_getElem? hj)
    refine ⟨hxl,CC.mk fun i y hi=>?_⟩
    obtain ⟨u,hu,hy⟩:=h6.get (flat_get hlen hj hi)
    have hlt:j*s+i < vals.length:=(List.getElem?_eq_some_iff.1 hu).1
    refine ⟨u,?_,hy.ext hS (MLe.refl _)⟩
    show (if B=some ⟨g,0,none⟩∧0+j*s+i < vals.length then vals[0+j*s+i]? else S g (0+j*s+i))=some u
    rw [Nat.zero_add,if_pos ⟨had,hlt⟩]
    exact hu
   refine ⟨_,S',m',H,?_⟩
   have hl2:∀ j,lk (ins (frzH k s xs st.heap) k (.tok e s xs.length)) j=if j=k then some (.tok e s xs.length) else (lk st.heap j).map (frzB k s xs):=by
    intro j; rw [lk_ins]; split
    ·rfl
    ·exact frzH_lk k s xs j _
   have hbk:∀ u' u g,m' k=some u'→m k=some u→bk u'=some g→bk u=some g:=by
    intro u' u g e1 e2 hg
    have hmk:m' k=some (.slice A xs.length c):=Nm.set_same _ _ _
    rw [hmk] at e1
    rw [h1] at e2
    injection e1 with e1
    injection e2 with e2
    subst e1; subst e2
    cases A with
    | none=>simp [bk] at hg
    | some ad=>simpa [bk] using hg
   have hlk:∀ j b,lk (ins (frzH k s xs st.heap) k (.tok e s xs.length)) j=some b→∃ b0,lk st.heap j=some b0:=by
    intro j b hj
    rw [hl2] at hj
    split at hj
    ·rename_i e; subst e; exact ⟨_,hk⟩
    ·cases hq:lk st.heap j with
     | none=>rw [hq] at hj; cases hj
     | some b0=>exact ⟨b0,rfl⟩
   have hbm:∀ j u g,(∃ b0,lk st.heap j=some b0)→m' j=some u→bk u=some g→∃ u0,m j=some u0∧bk u0=some g:=by
    intro j u g _ hj hg
    by_cases e:j=k
    ·subst e; exact ⟨_,h1,hbk u _ g hj h1 hg⟩
    ·exact ⟨u,by rw [← hm j e]; exact hj,hg⟩
   refine { h with defers:=h.defers,pin0:=h.pin0.trans hS,pinNew:=?_,agree:=?_,tmps:=?_,held:=?_,inj:=?_,own:=?_,m0:=?_ }
   ·intro b o hb hM
    by_cases hA:A=some ⟨b,0,none⟩
    ·rcases h.own k _ _ b hk h1 (by rw [hA]; rfl) with q | q
     ·omega
     ·exact absurd q hM
    ·rw [hfar b hA]; exact h.pinNew b o hb hM
   ·intro b o v e1
    by_cases hA:A=some ⟨b,0,none⟩∧o < vals.length
    ·have e2:vals[o]?=some v:=by
      have:S' b o=vals[o]?:=by show (if A=some ⟨b,0,none⟩∧o < vals.length then vals[o]? else S b o)=_; rw [if_pos hA]
      rw [← this]; exact e1
     exact ⟨h8 b hA.1 o v e2,h7 v (List.mem_of_getElem? e2)⟩
    ·have:S' b o=S b o:=by show (if A=some ⟨b,0,none⟩∧o < vals.length then vals[o]? else S b o)=_; rw [if_neg hA]
     rw [this] at e1
     exact h.agree b o v e1
   ·intro t
    have:=h.tmps t
    unfold St.get at this ⊢
    simp only [frzT_lk]
    cases hq:lk st.tmps t with
    | none=>simp only [Option.map_none,CV]
    | some y=>rw [hq] at this; exact frzA_cv hS hm hkk y _ this
   ·intro j b hj
    simp only at hj
    rw [hl2] at hj
    split at hj
    ·rename_i ejk
     subst ejk
     injection hj with hj
     subst hj
     refine ⟨A,c,Nm.set_same _ _ _,h2,h3,?_⟩
     rcases h4 with h4 | ⟨g,cur,fr,e1,e2,ef,e3,e4⟩
     ·exact .inl h4
     ·refine .inr ⟨g,cur,fr,e1,e2,ef,e3,fun o ho=>?_⟩
      have hlt:¬ o < vals.length:=by omega
      show (if A=some ⟨g,0,none⟩∧o < vals.length then vals[o]? else S g o)=none
      rw [if_neg (fun q=>hlt q.2)]
      exact e4 o
    ·rename_i ejk
     cases hq:lk st.heap j with
     | none=>rw [hq] at hj; cases hj
     | some b0 =>
      rw [hq] at hj
      simp only [Option.map_some,Option.some.injEq] at hj
      subst hj
      have hh:=h.held j b0 hq
      have far:∀ u g,m j=some u→bk u=some g→w.heap[g]?=w.heap[g]?∧∀ o,S' g o=S g o:=by
       intro u g hu hg
       refine ⟨rfl,hfar g (fun hA=>?_)⟩
       exact h.inj k j _ _ _ u g hk hq (fun q=>ejk q.symm) h1 hu (by rw [hA]; rfl) hg
      cases b0 with
      | cells cs =>
       obtain ⟨g,arr,t,p1,p2,p3,p4⟩:=hh
       exact ⟨g,arr,t,by rw [hm j ejk]; exact p1,p2,frzL_cv hS hm hkk cs _ p3,fun o=>((far _ g p1 rfl).2 o).trans (p4 o)⟩
      | row e' s' ys =>
       cases hbb:Nat.blt e' 2000000 with
       | true =>
        have he':e' < 2000000:=Nat.le_of_ble_eq_true hbb
        have e1:frzB k s xs (.row e' s' ys)=.row e' s' ys:=by simp only [frzB,hbb,cond_true]
        rw [e1]
        exact hh.keep hS (fun cs vs q=>absurd q.1 (by omega)) (hm j ejk) far
       | false =>
        have he':¬ e' < 2000000:=fun q=>by
         have:Nat.blt e' 2000000=true:=Nat.ble_eq_true_of_le q
         rw [hbb] at this; cases this
        have e1:frzB k s xs (.row e' s' ys)=.row e' s' (frzLL k s xs ys):=by simp only [frzB,hbb,cond_false]
        rw [e1]
        obtain ⟨A',c',p1,p2,p3,p4⟩:=hh
        refine ⟨A',c',by rw [hm j ejk,frzLL_len]; exact p1,by rw [frzLL_len]; exact p2,p3,?_⟩
        rcases p4 with p4 | ⟨g,cur,fr,rfl,p5,p6,p7,p8,p9⟩
        ·exact .inl p4
        ·refine .inr ⟨g,cur,fr,rfl,p5,p6,p7,fun o=>((far _ g p1 rfl).2 o).trans (p8 o),fun j' x hx=>?_⟩
         rw [frzLL_at] at hx
         cases hy:ys[j']? with
         | none=>rw [hy] at hx; cases hx
         | some x0 =>
          rw [hy] at hx
          simp only [Option.map_some,Option.some.injEq] at hx
          subst hx
          obtain ⟨r1,r2⟩:=p9 j' x0 hy
          refine ⟨by rw [frzL_len]; exact r1,fun i y hi=>?_⟩
          rw [frzL_at] at hi
          cases hz:x0[i]? with
          | none=>rw [hz] at hi; cases hi
          | some y0 =>
           rw [hz] at hi
           simp only [Option.map_some,Option.some.injEq] at hi
           subst hi
           obtain ⟨v,q1,q2,q3⟩:=r2 i y0 hz
           refine ⟨v,q1,q2,?_⟩
           rw [rowNm_hi he'] at q3 ⊢
           exact frzA_cv hS hm hkk y0 v q3
      | nrow e' s' ks ys =>
       cases hin2:inL k ks with
       | false =>
        have e1:frzB k s xs (.nrow e' s' ks ys)=.nrow e' s' ks ys:=by simp only [frzB,hin2,cond_false]
        rw [e1]
        refine hh.keep hS (fun cs vs q hc=>?_) (hm j ejk) far
        obtain ⟨y,rfl,hy⟩:=q
        refine CVl.mono hS _ m m' _ (fun i u hi e=>⟨u,?_,.refl u⟩) hc
        rw [hm i (fun e=>?_)]
        ·exact e
        ·subst e
         simp only [nnl,Bool.and_true] at hi
         rw [hy _ hi] at hin2; cases hin2
       | true =>
        have e1:frzB k s xs (.nrow e' s' ks ys)=.nrow e' s' (rmN k ks) (mapLL (frsA k s xs) ys):=by simp only [frzB,hin2,cond_true]
        rw [e1]
        refine ⟨hh.1.mapA _ (hm j ejk) (fun u g hu hg=>(far u g hu hg).2) (fun _ _ _ y _ _ v hv=>?_),hh.2.mapA (fun y i hy hn=>rmN_in (hy i (frsA_nn hn).1) (frsA_nn hn).2)⟩
        rw [rowNm_hi (by omega)] at hv ⊢
        have gen:∀ y,nn k y=true→CV S y m v→CV S' y m' v:=fun y hy hv=>CV.mono hS y m m' v (fun i u hi e=>⟨u,by
         rw [hm i (fun e=>by subst e; rw [hy] at hi; cases hi)]; exact e,.refl u⟩) hv
        cases y with
        | rw i s2 n =>
         simp only [frsA]
         split
         ·rename_i hik
          subst hik
          split
          ·rename_i hq
           obtain ⟨rfl,hq⟩:=hq
           have h9:=hkk n v hv
           simp only [CV] at h9 ⊢
           obtain ⟨⟨A1,c1,e3,g1,g2,g3,g4⟩,_⟩:=h9.2 hq
           exact ⟨A1,c1,e3,g1,g2,(fun q=>by cases q),g3,g4⟩
          ·simp only [CV]
         ·rename_i hik
          exact gen _ (by simp only [nn]; rw [nbeq_ne hik]; rfl) hv
        | _=>simp only [frsA]; exact kl_cv fun hq=>gen _ hq hv
      | tok e' s' n'=>exact hh.keep hS (fun cs vs q=>q.elim) (hm j ejk) far
      | mp kt et l=>exact hh.keep hS (fun cs vs q=>q.elim) (hm j ejk) far
      | gone=>exact hh.keep hS (fun cs vs q=>q.elim) (hm j ejk) far
   ·intro j j' b b' u u' g hj hj' hne hu hu' hg hg'
    obtain ⟨b0,hb0⟩:=hlk j b hj
    obtain ⟨b1,hb1⟩:=hlk j' b' hj'
    obtain ⟨u0,hu0,hg0⟩:=hbm j u g ⟨b0,hb0⟩ hu hg
    obtain ⟨u1,hu1,hg1⟩:=hbm j' u' g ⟨b1,hb1⟩ hu' hg'
    exact h.inj j j' b0 b1 u0 u1 g hb0 hb1 hne hu0 hu1 hg0 hg1
   ·intro j b u g hj hu hg
    obtain ⟨b0,hb0⟩:=hlk j b hj
    obtain ⟨u0,hu0,hg0⟩:=hbm j u g ⟨b0,hb0⟩ hu hg
    exact h.own j b0 u0 g hb0 hu0 hg0
   ·intro j u hj
    obtain ⟨u',hu',hg⟩:=h.m0 j u hj
    have:j≠k:=fun e=>inL_mem hin (e ▸ h.keep j u hj)
    exact ⟨u',by rw [hm j this]; exact hu',hg⟩
 ·exact H.elim
def stripLL:List (List AV)→(List (List AV)→Prop)→Prop
 | [],k=>k []
 | x::xs,k=>stripL x fun y=>stripLL xs fun l=>k (y::l)
theorem stripLL_sound:∀ (xs:List (List AV)) (k:List (List AV)→Prop),stripLL xs k→∃ ys,k ys∧ys.length=xs.length∧∀ (j:Nat) (x y:List AV),xs[j]?=some x→ys[j]?=some y→∀ S m vs,CVl S x m vs→CVl S y noNm vs
 | [],k,h=>⟨[],h,rfl,fun j x y e=>by simp at e⟩
 | x::xs,k,h=>by
  simp only [stripLL] at h
  obtain ⟨y,h1,h2⟩:=stripL_sound x _ h
  obtain ⟨l,h3,h4,h5⟩:=stripLL_sound xs _ h1
  refine ⟨_,h3,by simp [h4],fun j a b e1 e2=>?_⟩
  cases j with
  | zero=>simp at e1 e2; subst e1; subst e2; exact h2
  | succ j=>simp at e1 e2; exact h5 j a b e1 e2
def openK (st:St) (k:Nat) (K:St→Prop):Prop:=match lk st.heap k with
 | some (.row e s xs)=>cond (Nat.blt e 1000000) (K (st.blk k (.row (Nat.add e 2000000) s xs))) (K st)
 | _=>K st
theorem openK_sound {G:Gh} {kp:List Nat} {st:St} {a:Act} {w:World} {S:Pin} {m:Nm} (h:Rel G kp st a w S m) {k:Nat} {K:St→Prop} (H:openK st k K):∃ st',K st'∧Rel G kp st' a w S m:=by
 unfold openK at H
 split at H
 ·rename_i e s xs hk
  cases hb:Nat.blt e 1000000 with
  | false=>rw [hb] at H; exact ⟨st,H,h⟩
  | true =>
   rw [hb] at H
   have he:e < 1000000:=Nat.le_of_ble_eq_true hb
   refine ⟨_,H,h.weaken (fun t v hv=>hv) (fun j b hj=>?_)⟩
   simp only [St.blk,lk_ins] at hj
   by_cases ej:j=k
   ·subst ej
    rw [if_pos rfl] at hj
    injection hj with hj
    subst hj
    refine ⟨⟨_,hk⟩,?_⟩
    obtain ⟨A,c,p1,p2,p3,p4⟩:=h.held j _ hk
    refine ⟨A,c,p1,p2,p3,?_⟩
    rcases p4 with p4 | ⟨g,cur,fr,rfl,p5,p6,p7,p8,p9⟩
    ·exact .inl p4
    ·refine .inr ⟨g,cur,fr,rfl,?_,.inl (p6.lt he),p7,p8,fun q y hy=>⟨(p9 q y hy).1,fun i z hz=>?_⟩⟩
     ·rw [show Nat.add e 2000000=e+2000000 from rfl,rowTy_op,← rowTy_lt he]; exact p5
     ·obtain ⟨v,hv,ho,hc⟩:=(p9 q y hy).2 i z hz
      rw [rowNm_lo (show e < 2000000 by omega)] at hc
      rw [rowNm_hi (show ¬ Nat.add e 2000000 < 2000000 by show ¬ e+2000000 < 2000000; omega)]
      exact ⟨v,hv,ho,hc.ext (Ext.refl S) (MLe.no m)⟩
   ·rw [if_neg ej] at hj
    exact ⟨⟨_,hj⟩,h.held j b hj⟩
 ·exact ⟨st,H,h⟩
def closeK (st:St) (k:Nat) (K:St→Prop):Prop:=match lk st.heap k with
 | some (.row e s xs)=>cond (Nat.blt e 2000000) (K st) (cond (Nat.blt e 3000000) (stripLL xs fun xs'=>K (st.blk k (.row (Nat.sub e 2000000) s xs'))) False)
 | _=>K st
theorem closeK_sound {G:Gh} {kp:List Nat} {st:St} {a:Act} {w:World} {S:Pin} {m:Nm} (h:Rel G kp st a w S m) {k:Nat} {K:St→Prop} (H:closeK st k K):∃ st',K st'∧Rel G kp st' a w S m:=by
 unfold closeK at H
 split at H
 ·rename_i e s xs hk
  cases hb:Nat.blt e 2000000 with
  | true=>rw [hb] at H; exact ⟨st,H,h⟩
  | false =>
   rw [hb] at H
   have he:¬ e < 2000000:=fun q=>by
    have:Nat.blt e 2000000=true:=Nat.ble_eq_true_of_le q
    rw [hb] at this; cases this
   obtain ⟨h3,H⟩:=cond_F H
   have h3:e < 3000000:=Nat.le_of_ble_eq_true h3
   obtain ⟨ys,h1,h2,h4⟩:=stripLL_sound _ _ H
   refine ⟨_,h1,h.weaken (fun t v hv=>hv) (fun j b hj=>?_)⟩
   simp only [St.blk,lk_ins] at hj
   by_cases ej:j=k
   ·subst ej
    rw [if_pos rfl] at hj
    injection hj with hj
    subst hj
    refine ⟨⟨_,hk⟩,?_⟩
    obtain ⟨A,c,p1,p2,p3,p4⟩:=h.held j _ hk
    have hsub:Nat.sub e 2000000=e - 2000000:=rfl
    rw [hsub]
    refine ⟨A,c,by rw [h2]; exact p1,by rw [h2]; exact p2,p3,?_⟩
    rcases p4 with p4 | ⟨g,cur,fr,rfl,p5,p6,p7,p8,p9⟩
    ·exact .inl p4
    ·have hfr:fr=(0,0):=p6.resolve_right (by omega)
     have hty:rowTy e=rowTy (e - 2000000):=by unfold rowTy; rw [if_neg (by omega),if_neg he,if_pos (by omega)]
     rw [hty] at p5
     refine .inr ⟨g,cur,fr,rfl,p5,.inl hfr,p7,p8,fun q y hy=>?_⟩
     have hq:q < xs.length:=by have:=(List.getElem?_eq_some_iff.1 hy).1; omega
     have hx:xs[q]?=some xs[q]:=List.getElem?_eq_getElem hq
     obtain ⟨r1,r2⟩:=p9 q _ hx
     rw [rowNm_hi he] at r2
     have hle:q*s+s≤cur.size:=by rw [p7,← Nat.succ_mul]; exact Nat.mul_le_mul_right s (by omega)
     have hcv:CVl S xs[q] m ((cur.toList.drop (q*s)).take s):=CVl.mk (by rw [r1,List.length_take,List.length_drop,Array.length_toList]; omega) (fun i y v e1 e2=>by
      obtain ⟨u,hu,_,hy⟩:=r2 i y e1
      rw [List.getElem?_take] at e2
      split at e2
      ·rw [List.getElem?_drop] at e2
       have:cur[q*s+i]?=some v:=by simpa using e2
       rw [hu] at this
       injection this with this
       subst this; exact hy
      ·cases e2)
     have hcn:=h4 q _ _ hx hy S m _ hcv
     have hyl:y.length=s:=by have e1:=hcn.len; have e2:=hcv.len; omega
     refine ⟨hyl,fun i z hz=>?_⟩
     obtain ⟨v,hv,hzv⟩:=hcn.get hz
     have hi:i < s:=by have:=(List.getElem?_eq_some_iff.1 hz).1; omega
     obtain ⟨u,hu,hone,_⟩:=r2 i _ (List.getElem?_eq_getElem (show i < (xs[q]).length by omega))
     rw [List.getElem?_take,if_pos hi,List.getElem?_drop] at hv
     have hv:cur[q*s+i]?=some v:=by simpa using hv
     rw [hu] at hv
     injection hv with hv
     subst hv
     rw [rowNm_lo (show e - 2000000 < 2000000 by omega)]
     exact ⟨u,hu,hone,hzv⟩
   ·rw [if_neg ej] at hj
    exact ⟨⟨b,hj⟩,h.held j b hj⟩
 ·exact ⟨st,H,h⟩
end Go.Proofs.YtgbbmadjdaphnaaGreatDoor
namespace Go.Proofs.YtgbbmadjdaphnaaGreatDoor
open Go
open Go.RowKit (Below)
set_option linter.unusedVariables false
set_option linter.unusedSimpArgs false
mutual
def rnA (f:Nat→Option Nat):AV→(AV→Prop)→Prop
 | .rw j s n,k=>match f j with | some i=>k (.rw i s n) | none=>False
 | .mw j s q eo n b,k=>match f j with | some i=>k (.mw i s q eo n b) | none=>False
 | .prw j s q p fo,k=>match f j with | some i=>k (.prw i s q p fo) | none=>False
 | .agg cs,k=>rnL f cs fun l=>k (.agg l)
 | .tup cs,k=>rnL f cs fun l=>k (.tup l)
 | .fn g cs,k=>rnL f cs fun l=>k (.fn g l)
 | .acc _ s ys,k=>k (.sl s false ys)
 | .frz _ s n ys,k=>chk (n=ys.length) (k (.sl s false ys))
 | .ptr j o,k=>match f j with | some i=>k (.ptr i o) | none=>False
 | .mpv j,k=>match f j with | some i=>k (.mpv i) | none=>False
 | .ms j o n c s,k=>match f j with | some i=>k (.ms i o n c s) | none=>False
 | .int q n,k=>k (.int q n)
 | .bool b,k=>k (.bool b)
 | .str b,k=>k (.str b)
 | .sl s b ys,k=>k (.sl s b ys)
 | .nils,k=>k .nils
 | .ro cs,k=>k (.ro cs)
 | .nilp,k=>k .nilp
 | .undef,k=>k .undef
 | .dead,k=>k .dead
def rnL (f:Nat→Option Nat):List AV→(List AV→Prop)→Prop
 | [],k=>k []
 | x::xs,k=>rnA f x fun y=>rnL f xs fun l=>k (y::l)
end
def Rn (f:Nat→Option Nat) (m m':Nm):Prop:=∀ i j,f i=some j→m' j=m i
mutual
theorem rnA_sound {f:Nat→Option Nat}:∀ (x:AV) (k:AV→Prop),rnA f x k→∃ y,k y∧∀ S m m' v,Rn f m m'→CV S x m v→CV S y m' v
 | .rw j s n,k,h=>by
  simp only [rnA] at h
  split at h
  ·rename_i i hi
   refine ⟨_,h,fun S m m' v hf hv=>?_⟩
   simp only [CV] at hv ⊢
   rw [hf j i hi]; exact hv
  ·exact h.elim
 | .mpv j,k,h=>by
  simp only [rnA] at h
  split at h
  ·rename_i i hi
   refine ⟨_,h,fun S m m' v hf hv=>?_⟩
   simp only [CV] at hv ⊢
   rw [hf j i hi]; exact hv
  ·exact h.elim
 | .mw j s q eo n b,k,h=>by
  simp only [rnA] at h
  split at h
  ·rename_i i hi
   refine ⟨_,h,fun S m m' v hf hv=>?_⟩
   simp only [CV] at hv ⊢
   rw [hf j i hi]; exact hv
  ·exact h.elim
 | .prw j s q p fo,k,h=>by
  simp only [rnA] at h
  split at h
  ·rename_i i hi
   refine ⟨_,h,fun S m m' v hf hv=>?_⟩
   simp only [CV] at hv ⊢
   rw [hf j i hi]; exact hv
  ·exact h.elim
 | .ptr j o,k,h=>by
  simp only [rnA] at h
  split at h
  ·rename_i i hi
   refine ⟨_,h,fun S m m' v hf hv=>?_⟩
   simp only [CV] at hv ⊢
   rw [hf j i hi]; exact hv
  ·exact h.elim
 | .ms j o n c s,k,h=>by
  simp only [rnA] at h
  split at h
  ·rename_i i hi
   refine ⟨_,h,fun S m m' v hf hv=>?_⟩
   simp only [CV] at hv ⊢
   rw [hf j i hi]; exact hv
  ·exact h.elim
 | .agg cs,k,h=>by
  simp only [rnA] at h
  obtain ⟨l,h1,h2⟩:=rnL_sound cs _ h
  refine ⟨_,h1,fun S m m' v hf hv=>?_⟩
  simp only [CV] at hv ⊢
  obtain ⟨us,e,hu⟩:=hv
  exact ⟨us,e,h2 S m m' _ hf hu⟩
 | .tup cs,k,h=>by
  simp only [rnA] at h
  obtain ⟨l,h1,h2⟩:=rnL_sound cs _ h
  refine ⟨_,h1,fun S m m' v hf hv=>?_⟩
  simp only [CV] at hv ⊢
  obtain ⟨us,e,hu⟩:=hv
  exact ⟨us,e,h2 S m m' _ hf hu⟩
 | .fn g cs,k,h=>by
  simp only [rnA] at h
  obtain ⟨l,h1,h2⟩:=rnL_sound cs _ h
  refine ⟨_,h1,fun S m m' v hf hv=>?_⟩
  simp only [CV] at hv ⊢
  obtain ⟨us,e,hu⟩:=hv
  exact ⟨us,e,h2 S m m' _ hf hu⟩
 | .acc j s ys,k,h=>by
  simp only [rnA] at h
  refine ⟨_,h,fun S m m' v hf hv=>?_⟩
  simp only [CV] at hv ⊢
  obtain ⟨⟨A,c,e,h1,h2,h3,h4⟩,_⟩:=hv
  exact ⟨A,c,e,h1,h2,(fun q=>by cases q),h3,h4⟩
 | .frz j s n ys,k,h=>by
  simp only [rnA] at h
  obtain ⟨hn,h'⟩:=chk_iff.1 h
  refine ⟨_,h',fun S m m' v hf hv=>?_⟩
  simp only [CV] at hv ⊢
  obtain ⟨⟨A,c,e,h1,h2,h3,h4⟩,_⟩:=hv.2 hn
  exact ⟨A,c,e,h1,h2,(fun q=>by cases q),h3,h4⟩
 | .int q n,k,h=>by simp only [rnA] at h; exact ⟨_,h,fun S m m' v hf hv=>by simp only [CV] at hv ⊢; exact hv⟩
 | .bool b,k,h=>by simp only [rnA] at h; exact ⟨_,h,fun S m m' v hf hv=>by simp only [CV] at hv ⊢; exact hv⟩
 | .str b,k,h=>by simp only [rnA] at h; exact ⟨_,h,fun S m m' v hf hv=>by simp only [CV] at hv ⊢; exact hv⟩
 | .sl s b ys,k,h=>by simp only [rnA] at h; exact ⟨_,h,fun S m m' v hf hv=>by simp only [CV] at hv ⊢; exact hv⟩
 | .nils,k,h=>by simp only [rnA] at h; exact ⟨_,h,fun S m m' v hf hv=>by simp only [CV] at hv ⊢; exact hv⟩
 | .ro cs,k,h=>by simp only [rnA] at h; exact ⟨_,h,fun S m m' v hf hv=>by simp only [CV] at hv ⊢; exact hv⟩
 | .nilp,k,h=>by simp only [rnA] at h; exact ⟨_,h,fun S m m' v hf hv=>by simp only [CV] at hv ⊢; exact hv⟩
 | .undef,k,h=>by simp only [rnA] at h; exact ⟨_,h,fun S m m' v hf hv=>by simp only [CV] at hv ⊢; exact hv⟩
 | .dead,k,h=>by simp only [rnA] at h; exact ⟨_,h,fun S m m' v hf hv=>by simp only [CV]⟩
theorem rnL_sound {f:Nat→Option Nat}:∀ (xs:List AV) (k:List AV→Prop),rnL f xs k→∃ l,k l∧∀ S m m' vs,Rn f m m'→CVl S xs m vs→CVl S l m' vs
 | [],k,h=>by
  simp only [rnL] at h
  exact ⟨_,h,fun S m m' vs hf hv=>by simp only [CVl] at hv ⊢; exact hv⟩
 | x::xs,k,h=>by
  simp only [rnL] at h
  obtain ⟨y,h1,h2⟩:=rnA_sound x _ h
  obtain ⟨l,h3,h4⟩:=rnL_sound xs _ h1
  refine ⟨_,h3,fun S m m' vs hf hv=>?_⟩
  simp only [CVl] at hv ⊢
  obtain ⟨u,us,e,hu,hus⟩:=hv
  exact ⟨u,us,e,h2 S m m' u hf hu,h4 S m m' us hf hus⟩
end
def rnLL (f:Nat→Option Nat):List (List AV)→(List (List AV)→Prop)→Prop
 | [],k=>k []
 | x::xs,k=>rnL f x fun y=>rnLL f xs fun ys=>k (y::ys)
theorem rnLL_sound {f:Nat→Option Nat}:∀ (xs:List (List AV)) (k:List (List AV)→Prop),rnLL f xs k→∃ ys,k ys∧ys.length=xs.length∧∀ (q:Nat) (x y:List AV),xs[q]?=some x→ys[q]?=some y→∀ S m m' vs,Rn f m m'→CVl S x m vs→CVl S y m' vs
 | [],k,h=>⟨[],h,rfl,fun q x y e=>by simp at e⟩
 | x::xs,k,h=>by
  simp only [rnLL] at h
  obtain ⟨y,h1,h2⟩:=rnL_sound x _ h
  obtain ⟨ys,h3,h4,h5⟩:=rnLL_sound xs _ h1
  refine ⟨_,h3,by simp [h4],fun q a b e1 e2=>?_⟩
  cases q with
  | zero=>simp at e1 e2; subst e1; subst e2; exact h2
  | succ q=>simp at e1 e2; exact h5 q a b e1 e2
def noN:AV→Bool
 | .int _ _=>true
 | .bool _=>true
 | .str _=>true
 | .sl _ _ _=>true
 | .nils=>true
 | .ro _=>true
 | .nilp=>true
 | .undef=>true
 | .dead=>true
 | _=>false
theorem noN_nn {x:AV} (h:noN x=true) (k:Nat):nn k x=true:=by cases x <;> first | rfl | cases h
def rnT (f:Nat→Option Nat):AV→AV
 | .rw j s n=>(match f j with | some i=>.rw i s n | none=>.dead)
 | x=>cond (noN x) x .dead
def rnKs (f:Nat→Option Nat):List Nat→(List Nat→Prop)→Prop
 | [],k=>k []
 | j::l,k=>match f j with | some i=>frcN i fun i=>rnKs f l fun l'=>k (i::l') | none=>False
def rnP:List Nat→List Nat→Nat→Option Nat
 | a::l,b::l',j=>cond (Nat.beq a j) (some b) (rnP l l' j)
 | _,_,_=>none
theorem rnKs_sound {f:Nat→Option Nat}:∀ (l:List Nat) (k:List Nat→Prop),rnKs f l k→∃ l',k l'∧(∀ j,inL j l=true→∃ i,rnP l l' j=some i∧inL i l'=true)∧∀ j i,rnP l l' j=some i→f j=some i
 | [],k,h=>⟨[],h,(fun j h=>by cases h),(fun j i h=>by cases h)⟩
 | a::l,k,h=>by
  simp only [rnKs] at h
  split at h
  ·rename_i i hi
   rw [frcN_eq] at h
   obtain ⟨l',h1,h2,h5⟩:=rnKs_sound l _ h
   refine ⟨_,h1,fun j hj=>?_,fun j i' hj=>?_⟩
   ·simp only [rnP]
    cases ha:Nat.beq a j with
    | true=>exact ⟨i,rfl,by simp only [inL,nbeq_self,Bool.true_or]⟩
    | false =>
     simp only [inL,ha,Bool.false_or] at hj
     obtain ⟨i',h3,h4⟩:=h2 j hj
     exact ⟨i',h3,by simp only [inL,h4,Bool.or_true]⟩
   ·simp only [rnP] at hj
    cases ha:Nat.beq a j with
    | true =>
     rw [ha] at hj
     simp only [cond_true,Option.some.injEq] at hj
     have:=Nat.eq_of_beq_eq_true ha
     subst this; subst hj; exact hi
    | false=>rw [ha] at hj; exact h5 j i' hj
  ·exact h.elim
theorem nod_cv {x:AV} {S:Pin} {m:Nm} {v:Value} (h:noN x=true→CV S x m v):CV S (cond (noN x) x .dead) m v:=by
 cases q:noN x with
 | true=>exact h q
 | false=>simp only [cond_false,CV]
theorem nod_nn {x:AV} {k:Nat}:nn k (cond (noN x) x .dead)=true:=by
 cases q:noN x with
 | true=>exact noN_nn q k
 | false=>rfl
theorem rnT_in {f:Nat→Option Nat} {ks ks':List Nat} (h:∀ j,inL j ks=true→∃ i,f j=some i∧inL i ks'=true) (y:AV) (k:Nat) (hy:∀ j,nn j y=false→inL j ks=true) (hk:nn k (rnT f y)=false):inL k ks'=true:=by
 cases y with
 | rw j s n =>
  obtain ⟨i,h1,h2⟩:=h j (hy j (by simp only [nn,nbeq_self]; rfl))
  simp only [rnT,h1] at hk
  simp only [nn,Bool.not_eq_false'] at hk
  have:=Nat.eq_of_beq_eq_true hk
  subst this; exact h2
 | _=>rw [show ∀ z,nn k (rnT f z)=nn k (rnT f z) from fun _=>rfl] at hk; simp only [rnT] at hk; rw [nod_nn] at hk; cases hk
theorem rnT_cv {f:Nat→Option Nat} {S:Pin} {m m':Nm} (hf:Rn f m m') (y:AV) (v:Value) (hv:CV S y m v):CV S (rnT f y) m' v:=by
 cases y with
 | rw j s n =>
  simp only [rnT]
  split
  ·rename_i i hi
   simp only [CV] at hv ⊢
   rw [hf j i hi]; exact hv
  ·simp only [CV]
 | _=>simp only [rnT]; exact nod_cv fun hq=>CV.mono (Ext.refl S) _ m m' v (fun i u hi e=>by rw [noN_nn hq] at hi; cases hi) hv
def rnB (f:Nat→Option Nat):Blk→(Blk→Prop)→Prop
 | .cells cs,k=>rnL f cs fun l=>k (.cells l)
 | .row e s xs,k=>cond (Nat.blt e 2000000) (k (.row e s xs)) (rnLL f xs fun ys=>k (.row e s ys))
 | .tok e s n,k=>k (.tok e s n)
 | .mp kt et l,k=>k (.mp kt et l)
 | .nrow e s ks xs,k=>rnKs f ks fun ks'=>k (.nrow e s ks' (mapLL (rnT (rnP ks ks')) xs))
 | .gone,k=>k .gone
theorem rnB_sound {f:Nat→Option Nat} (b:Blk) (k:Blk→Prop) (h:rnB f b k):∃ b',k b'∧∀ S m m' w i j,Rn f m m'→f i=some j→Held S m w i b→Held S m' w j b':=by
 cases b with
 | cells cs =>
  simp only [rnB] at h
  obtain ⟨l,h1,h2⟩:=rnL_sound cs _ h
  refine ⟨_,h1,fun S m m' w i j hf hij hh=>?_⟩
  obtain ⟨g,arr,t,p1,p2,p3,p4⟩:=hh
  exact ⟨g,arr,t,by rw [hf i j hij]; exact p1,p2,h2 S m m' _ hf p3,p4⟩
 | row e s xs =>
  simp only [rnB] at h
  cases hb:Nat.blt e 2000000 with
  | true =>
   rw [hb] at h
   have he:e < 2000000:=Nat.le_of_ble_eq_true hb
   refine ⟨_,h,fun S m m' w i j hf hij hh=>?_⟩
   obtain ⟨A,c,p1,p2⟩:=hh
   rw [rowNm_lo he] at p2
   exact ⟨A,c,by rw [hf i j hij]; exact p1,by rw [rowNm_lo he]; exact p2⟩
  | false =>
   rw [hb] at h
   have he:¬ e < 2000000:=fun q=>by
    have:Nat.blt e 2000000=true:=Nat.ble_eq_true_of_le q
    rw [hb] at this; cases this
   obtain ⟨ys,h1,h2,h4⟩:=rnLL_sound _ _ h
   refine ⟨_,h1,fun S m m' w i j hf hij hh=>?_⟩
   obtain ⟨A,c,p1,p2,p3,p4⟩:=hh
   refine ⟨A,c,by rw [hf i j hij,h2]; exact p1,by rw [h2]; exact p2,p3,?_⟩
   rcases p4 with p4 | ⟨g,cur,fr,rfl,p5,p6,p7,p8,p9⟩
   ·exact .inl p4
   ·refine .inr ⟨g,cur,fr,rfl,p5,p6,p7,p8,fun q y hy=>?_⟩
    have hq:q < xs.length:=by have:=(List.getElem?_eq_some_iff.1 hy).1; omega
    have hx:xs[q]?=some xs[q]:=List.getElem?_eq_getElem hq
    obtain ⟨r1,r2⟩:=p9 q _ hx
    rw [rowNm_hi he] at r2
    have hle:q*s+s≤cur.size:=by rw [p7,← Nat.succ_mul]; exact Nat.mul_le_mul_right s (by omega)
    have hcv:CVl S xs[q] m ((cur.toList.drop (q*s)).take s):=CVl.mk (by rw [r1,List.length_take,List.length_drop,Array.length_toList]; omega) (fun i y v e1 e2=>by
     obtain ⟨u,hu,_,hy⟩:=r2 i y e1
     rw [List.getElem?_take] at e2
     split at e2
     ·rw [List.getElem?_drop] at e2
      have:cur[q*s+i]?=some v:=by simpa using e2
      rw [hu] at this
      injection this with this
      subst this; exact hy
     ·cases e2)
    have hcn:=h4 q _ _ hx hy S m m' _ hf hcv
    have hyl:y.length=s:=by have e1:=hcn.len; have e2:=hcv.len; omega
    refine ⟨hyl,fun i z hz=>?_⟩
    obtain ⟨v,hv,hzv⟩:=hcn.get hz
    have hi:i < s:=by have:=(List.getElem?_eq_some_iff.1 hz).1; omega
    obtain ⟨u,hu,hone,_⟩:=r2 i _ (List.getElem?_eq_getElem (show i < (xs[q]).length by omega))
    rw [List.getElem?_take,if_pos hi,List.getElem?_drop] at hv
    have hv:cur[q*s+i]?=some v:=by simpa using hv
    rw [hu] at hv
    injection hv with hv
    subst hv
    rw [rowNm_hi he]
    exact ⟨u,hu,hone,hzv⟩
 | gone =>
  refine ⟨_,h,fun S m m' w i j hf hij hh=>?_⟩
  obtain ⟨u,p1,p2⟩:=hh
  exact ⟨u,by rw [hf i j hij]; exact p1,p2⟩
 | nrow e s ks xs =>
  simp only [rnB] at h
  obtain ⟨ks',h1,h2,h5⟩:=rnKs_sound _ _ h
  refine ⟨_,h1,fun S m m' w i j hf hij hh=>?_⟩
  have hf2:Rn (rnP ks ks') m m':=fun a b hab=>hf a b (h5 a b hab)
  refine ⟨hh.1.mapA _ (hf i j hij) (fun _ _ _ _ _=>rfl) (fun _ _ _ y _ _ v hv=>?_),hh.2.mapA fun y k hy hk=>rnT_in h2 y k hy hk⟩
  rw [rowNm_hi (by omega)] at hv ⊢
  exact rnT_cv hf2 y v hv
 | mp kt et l =>
  refine ⟨_,h,fun S m m' w i j hf hij hh=>?_⟩
  obtain ⟨g,D,p1,p2⟩:=hh
  exact ⟨g,D,by rw [hf i j hij]; exact p1,p2⟩
 | tok e s n =>
  refine ⟨_,h,fun S m m' w i j hf hij hh=>?_⟩
  obtain ⟨A,c,p1,p2⟩:=hh
  exact ⟨A,c,by rw [hf i j hij]; exact p1,p2⟩
def rnBs (f:Nat→Option Nat):List Blk→(List Blk→Prop)→Prop
 | [],k=>k []
 | b::bs,k=>rnB f b fun c=>rnBs f bs fun l=>k (c::l)
theorem rnBs_sound {f:Nat→Option Nat}:∀ (bs:List Blk) (k:List Blk→Prop),rnBs f bs k→∃ cs,k cs∧cs.length=bs.length∧∀ (q:Nat) (b c:Blk),bs[q]?=some b→cs[q]?=some c→∀ S m m' w i j,Rn f m m'→f i=some j→Held S m w i b→Held S m' w j c
 | [],k,h=>⟨[],h,rfl,fun q b c e=>by simp at e⟩
 | b::bs,k,h=>by
  simp only [rnBs] at h
  obtain ⟨c,h1,h2⟩:=rnB_sound b _ h
  obtain ⟨cs,h3,h4,h5⟩:=rnBs_sound bs _ h1
  refine ⟨_,h3,by simp [h4],fun q b' c' e1 e2=>?_⟩
  cases q with
  | zero=>simp at e1 e2; subst e1; subst e2; exact h2
  | succ q=>simp at e1 e2; exact h5 q b' c' e1 e2
def idx (k:Nat):List Nat→Nat→Option Nat
 | [],_=>none
 | j::l,i=>cond (Nat.beq j k) (some i) (idx k l (i+1))
theorem idx_get {k:Nat}:∀ {l:List Nat} {i p:Nat},idx k l i=some p→i≤p∧l[p - i]?=some k
 | [],_,_,h=>by simp [idx] at h
 | j::l,i,p,h=>by
  simp only [idx] at h
  cases hj:Nat.beq j k with
  | true =>
   rw [hj] at h
   simp only [cond_true,Option.some.injEq] at h
   subst h
   have:=Nat.eq_of_beq_eq_true hj
   subst this
   exact ⟨Nat.le_refl _,by simp⟩
  | false =>
   rw [hj] at h
   simp only [cond_false] at h
   obtain ⟨h1,h2⟩:=idx_get h
   refine ⟨by omega,?_⟩
   rw [show p - i=(p - (i+1))+1 by omega]; simpa using h2
mutual
def nmsA:AV→List Nat
 | .rw j _ _=>[j]
 | .mw j _ _ _ _ _=>[j]
 | .prw j _ _ _ _=>[j]
 | .ptr j _=>[j]
 | .ms j _ _ _ _=>[j]
 | .mpv j=>[j]
 | .agg cs=>nmsL cs
 | .tup cs=>nmsL cs
 | .fn _ cs=>nmsL cs
 | _=>[]
def nmsL:List AV→List Nat
 | []=>[]
 | x::xs=>nmsA x++nmsL xs
end
def dedup:List Nat→List Nat→List Nat
 | [],acc=>acc
 | k::l,acc=>cond (inL k acc) (dedup l acc) (dedup l (acc++[k]))
theorem dedup_nodup:∀ (l acc:List Nat),acc.Nodup→(dedup l acc).Nodup
 | [],acc,h=>h
 | k::l,acc,h=>by
  simp only [dedup]
  cases hk:inL k acc with
  | true=>exact dedup_nodup l acc h
  | false =>
   refine dedup_nodup l _ ?_
   rw [List.nodup_append]
   refine ⟨h,by simp,fun a ha b hb=>?_⟩
   simp at hb
   subst hb
   rintro rfl
   exact inL_mem hk ha
def nmsB:Blk→List Nat
 | .cells cs=>nmsL cs
 | .row e _ xs=>cond (Nat.blt e 2000000) [] (xs.flatMap nmsL)
 | .nrow _ _ ks _=>ks
 | _=>[]
def foot (h:Nat→Option Blk):Nat→List Nat→List Nat
 | 0,ks=>ks
 | n+1,ks=>foot h n (dedup (ks.flatMap fun k=>match h k with | some b=>nmsB b | none=>[]) ks)
theorem foot_nodup (h:Nat→Option Blk):∀ (n:Nat) (ks:List Nat),ks.Nodup→(foot h n ks).Nodup
 | 0,ks,hk=>hk
 | n+1,ks,hk=>foot_nodup h n _ (dedup_nodup _ _ hk)
def blksOf (h:Nat→Option Blk):List Nat→(List Blk→Prop)→Prop
 | [],k=>k []
 | i::is,k=>match h i with | some b=>blksOf h is fun l=>k (b::l) | none=>False
theorem blksOf_sound {h:Nat→Option Blk}:∀ (ks:List Nat) (k:List Blk→Prop),blksOf h ks k→∃ bs,k bs∧bs.length=ks.length∧∀ (q i:Nat),ks[q]?=some i→∃ b,bs[q]?=some b∧h i=some b
 | [],k,H=>⟨[],H,rfl,fun q i e=>by simp at e⟩
 | j::is,k,H=>by
  simp only [blksOf] at H
  split at H
  ·rename_i b hb
   obtain ⟨bs,h1,h2,h3⟩:=blksOf_sound is _ H
   refine ⟨_,h1,by simp [h2],fun q i e=>?_⟩
   cases q with
   | zero=>simp at e; subst e; exact ⟨b,rfl,hb⟩
   | succ q=>simp at e; obtain ⟨c,hc,hd⟩:=h3 q i e; exact ⟨c,by simpa using hc,hd⟩
  ·exact H.elim
end Go.Proofs.YtgbbmadjdaphnaaGreatDoor
namespace Go.Proofs.YtgbbmadjdaphnaaGreatDoor
open Go
open Go.RowKit (Below)
set_option linter.unusedVariables false
set_option linter.unusedSimpArgs false
def zipB:List Nat→List Blk→List (Nat × Blk)
 | k::ks,b::bs=>(k,b)::zipB ks bs
 | _,_=>[]
theorem zipB_not:∀ (l:List Nat) (cs:List Blk) (st:St) (k:Nat),k ∉ l→lk (st.blks (zipB l cs)).heap k=lk st.heap k
 | [],cs,st,k,_=>by cases cs <;> rfl
 | j::l,[],st,k,_=>rfl
 | j::l,b::cs,st,k,h=>by
  simp only [List.mem_cons,not_or] at h
  simp only [zipB,St.blks]
  rw [zipB_not l cs _ k h.2]
  simp only [St.blk,lk_ins]
  rw [if_neg h.1]
theorem zipB_get:∀ (l:List Nat) (cs:List Blk) (st:St) (q k:Nat) (b:Blk),l.Nodup→l[q]?=some k→cs[q]?=some b→lk (st.blks (zipB l cs)).heap k=some b
 | [],cs,st,q,k,b,_,e,_=>by simp at e
 | j::l,[],st,q,k,b,_,_,e=>by simp at e
 | j::l,c::cs,st,q,k,b,hn,e1,e2=>by
  rw [List.nodup_cons] at hn
  simp only [zipB,St.blks]
  cases q with
  | zero =>
   simp at e1 e2
   subst e1; subst e2
   rw [zipB_not l cs _ j hn.1]
   simp only [St.blk,lk_ins,if_true]
  | succ q =>
   simp at e1 e2
   exact zipB_get l cs _ q k b hn.2 e1 e2
theorem zipB_names:∀ (l:List Nat) (cs:List Blk) (p:Nat × Blk),p ∈ zipB l cs→p.1 ∈ l
 | [],cs,p,h=>by cases cs <;> simp [zipB] at h
 | j::l,[],p,h=>by simp [zipB] at h
 | j::l,c::cs,p,h=>by
  simp only [zipB,List.mem_cons] at h
  rcases h with rfl | h
  ·simp
  ·exact List.mem_cons_of_mem _ (zipB_names l cs p h)
theorem blks_get:∀ (u:List (Nat × Blk)) (st:St) (t:Nat),(st.blks u).get t=st.get t
 | [],st,t=>rfl
 | (i,b)::u,st,t=>by simp only [St.blks]; rw [blks_get u]; rfl
theorem Rel.callH {G:Gh} {kp:List Nat} {st:St} {a:Act} {w:World} {S:Pin} {m:Nm} (h:Rel G kp st a w S m) {ks nw:List Nat} {cs:List Blk} (hnd:(ks++nw).Nodup)
  (hks:∀ k,k ∈ ks→∃ b,lk st.heap k=some b) (hfr:∀ k,k ∈ nw→fresh kp st k=true) (hlen:cs.length=(ks++nw).length) {w':World} {S':Pin} {m':Nm}
  (hos:w'.os=w.os) (htp:w'.tape=w.tape) (hou:w'.output=w.output) (hsz:w.heap.size≤w'.heap.size) (hS:Ext S S')
  (hfm:∀ b,b < w.heap.size→(¬ ∃ k u,k ∈ ks∧m k=some u∧bk u=some b)→w'.heap[b]?=w.heap[b]?∧∀ o,S' b o=S b o) (hA:Agree S' w')
  (hheld:∀ (q k:Nat) (b:Blk),(ks++nw)[q]?=some k→cs[q]?=some b→Held S' m' w' k b)
  (hold:∀ k,k ∉ ks→k ∉ nw→m' k=m k) (hmle:∀ k,k ∈ ks→∀ u,m k=some u→∃ u',m' k=some u'∧Goes u u')
  (hinj:∀ k k' u u' g,k ∈ ks++nw→k' ∈ ks++nw→k≠k'→m' k=some u→m' k'=some u'→bk u=some g→bk u'≠some g)
  (hown:∀ k u g,k ∈ ks++nw→m' k=some u→bk u=some g→w.heap.size≤g∨∃ j v,j ∈ ks∧m j=some v∧bk v=some g) :
  Rel G kp (st.blks (zipB (ks++nw) cs)) a w' S' m':=by
 have hin:∀ k,k ∈ ks++nw→∃ (q:Nat) (b:Blk),(ks++nw)[q]?=some k∧cs[q]?=some b∧lk (st.blks (zipB (ks++nw) cs)).heap k=some b:=by
  intro k hk
  obtain ⟨q,hq⟩:=List.getElem?_of_mem hk
  have hl:q < cs.length:=by rw [hlen]; exact (List.getElem?_eq_some_iff.1 hq).1
  exact ⟨q,cs[q],hq,by simp [hl],zipB_get _ _ _ q k _ hnd hq (by simp [hl])⟩
 have hgoes:∀ k,(k ∈ nw→False)→∀ u,m k=some u→∃ u',m' k=some u'∧Goes u u':=by
  intro k hk u hu
  by_cases e:k ∈ ks
  ·exact hmle k e u hu
  ·exact ⟨u,by rw [hold k e hk]; exact hu,.refl u⟩
 have hM:∀ b,(∃ k u,k ∈ ks∧m k=some u∧bk u=some b)→G.w0.heap.size≤b∨G.M b:=by
  rintro b ⟨k,u,hk,hu,hb⟩
  obtain ⟨c,hc⟩:=hks k hk
  exact h.own k c u b hc hu hb
 refine { h with defers:=h.defers,pin0:=h.pin0.trans hS,pinNew:=?_,agree:=hA,tmps:=?_,held:=?_,inj:=?_,own:=?_,os:=hos.trans h.os,tape:=htp.trans h.tape,output:=hou.trans h.output,size:=Nat.le_trans h.size hsz,frame:=?_,m0:=?_ }
 ·intro b o h1 h2
  have hn:¬ ∃ k u,k ∈ ks∧m k=some u∧bk u=some b:=fun q=>by
   rcases hM b q with h3 | h3
   ·omega
   ·exact h2 h3
  exact ((hfm b (Nat.lt_of_lt_of_le h1 h.size) hn).2 o).trans (h.pinNew b o h1 h2)
 ·intro t
  rw [blks_get]
  refine CV.mono hS _ m m' _ (fun k u hk hu=>hgoes k (fun hq=>?_) u hu) (h.tmps t)
  have:=fresh_get (hfr k hq) t
  rw [hk] at this; cases this
 ·intro k b hk
  by_cases e:k ∈ ks++nw
  ·obtain ⟨q,c,h1,h2,h3⟩:=hin k e
   rw [hk] at h3
   injection h3 with h3
   subst h3
   exact hheld q k b h1 h2
  ·rw [zipB_not _ _ _ _ e] at hk
   simp only [List.mem_append,not_or] at e
   refine (h.held k b hk).keep hS (fun ds vs hb hv=>?_) (hold k e.1 e.2) (fun u g hu hg=>?_)
   ·refine CVl.mono hS ds m m' vs (fun j u hj hu=>hgoes j (fun hq=>?_) u hu) hv
    have hf:=hfr j hq
    simp only [fresh,Bool.and_eq_true] at hf
    have:=nnB_in (nnH_get hf.1.2 hk (fun q=>e.2 (q ▸ hq))) hb
    rw [hj] at this; cases this
   ·refine hfm g ((h.held k b hk).lt hu hg) ?_
    rintro ⟨j,v,hj,hv,hb⟩
    obtain ⟨c,hc⟩:=hks j hj
    exact h.inj j k c b v u g hc hk (fun q=>e.1 (q ▸ hj)) hv hu hb hg
 ·intro k k' b b' u u' g hk hk' hne hu hu' hg hg'
  by_cases e:k ∈ ks++nw
  ·by_cases e':k' ∈ ks++nw
   ·exact hinj k k' u u' g e e' hne hu hu' hg hg'
   ·rw [zipB_not _ _ _ _ e'] at hk'
    simp only [List.mem_append,not_or] at e'
    rw [hold k' e'.1 e'.2] at hu'
    rcases hown k u g e hu hg with h1 | ⟨j,v,hj,hv,hb⟩
    ·have:=(h.held k' b' hk').lt hu' hg'; omega
    ·obtain ⟨c,hc⟩:=hks j hj
     exact h.inj j k' c b' v u' g hc hk' (fun q=>e'.1 (q ▸ hj)) hv hu' hb hg'
  ·rw [zipB_not _ _ _ _ e] at hk
   simp only [List.mem_append,not_or] at e
   rw [hold k e.1 e.2] at hu
   by_cases e':k' ∈ ks++nw
   ·rcases hown k' u' g e' hu' hg' with h1 | ⟨j,v,hj,hv,hb⟩
    ·have:=(h.held k b hk).lt hu hg; omega
    ·obtain ⟨c,hc⟩:=hks j hj
     exact h.inj j k c b v u g hc hk (fun q=>e.1 (q ▸ hj)) hv hu hb hg
   ·rw [zipB_not _ _ _ _ e'] at hk'
    simp only [List.mem_append,not_or] at e'
    rw [hold k' e'.1 e'.2] at hu'
    exact h.inj k k' b b' u u' g hk hk' hne hu hu' hg hg'
 ·intro k b u g hk hu hg
  by_cases e:k ∈ ks++nw
  ·rcases hown k u g e hu hg with h1 | h1
   ·exact .inl (Nat.le_trans h.size h1)
   ·exact hM g h1
  ·rw [zipB_not _ _ _ _ e] at hk
   simp only [List.mem_append,not_or] at e
   rw [hold k e.1 e.2] at hu
   exact h.own k b u g hk hu hg
 ·intro b h1 h2
  have hn:¬ ∃ k u,k ∈ ks∧m k=some u∧bk u=some b:=fun q=>by
   rcases hM b q with h3 | h3
   ·omega
   ·exact h2 h3
  exact ((hfm b (Nat.lt_of_lt_of_le h1 h.size) hn).1).trans (h.frame b h1 h2)
 ·intro k u hu
  obtain ⟨v,hv,hg⟩:=h.m0 k u hu
  obtain ⟨v',hv',hg'⟩:=hgoes k (fun hq=>by
   have hf:=hfr k hq
   simp only [fresh,Bool.and_eq_true,Bool.not_eq_true'] at hf
   exact inL_mem hf.2 (h.keep k u hu)) v hv
  exact ⟨v',hv',hg.trans hg'⟩
end Go.Proofs.YtgbbmadjdaphnaaGreatDoor
namespace Go.Proofs.YtgbbmadjdaphnaaGreatDoor
open Go
open Go.RowKit (Below)
set_option linter.unusedVariables false
set_option linter.unusedSimpArgs false
def brow (ns:List Int):List (List AV):=ns.map fun n=>[.int .u8 n]
def bytesK:List (List AV)→(List Int→Prop)→Prop
 | [],k=>k []
 | y::l,k=>match y with | [.int .u8 n]=>bytesK l fun ns=>k (n::ns) | _=>False
theorem bytesK_sound:∀ (ys:List (List AV)) (k:List Int→Prop),bytesK ys k→∃ ns,k ns∧ys=brow ns
 | [],k,h=>⟨[],h,rfl⟩
 | y::l,k,h=>by
  simp only [bytesK] at h
  split at h
  ·obtain ⟨ns,h1,h2⟩:=bytesK_sound l _ h
   exact ⟨_,h1,by rw [h2]; rfl⟩
  ·exact h.elim
def bytes1:List AV→(List Int→Prop)→Prop
 | [],k=>k []
 | y::l,k=>match y with | .int .u8 n=>bytes1 l fun ns=>k (n::ns) | _=>False
theorem bytes1_sound:∀ (ys:List AV) (k:List Int→Prop),bytes1 ys k→∃ ns,k ns∧ys=ns.map (AV.int .u8)
 | [],k,h=>⟨[],h,rfl⟩
 | y::l,k,h=>by
  simp only [bytes1] at h
  split at h
  ·obtain ⟨ns,h1,h2⟩:=bytes1_sound l _ h
   exact ⟨_,h1,by rw [h2]; rfl⟩
  ·exact h.elim
theorem CVl.ints {S:Pin} {m:Nm} {k:IntKind}:∀ {ns:List Int} {vs:List Value},CVl S (ns.map (AV.int k)) m vs→vs=ns.map (Value.int k)
 | [],vs,h=>by simp only [List.map_nil,CVl] at h; simp [h]
 | n::ns,vs,h=>by
  simp only [List.map_cons,CVl,CV] at h
  obtain ⟨u,us,rfl,⟨rfl,_⟩,h2⟩:=h
  rw [CVl.ints h2]; rfl
theorem brow_flat (ns:List Int):(brow ns).flatten=ns.map (AV.int .u8):=by
 induction ns with
 | nil=>rfl
 | cons n ns ih=>simp only [brow,List.map_cons,List.flatten_cons] at ih ⊢; rw [ih]; rfl
def ab2s (P:Program) (src dst:TypeId) (h:Nat→Option Blk) (hint:Bool) (x:AV) (K:AV→List Nat→Prop):Prop :=
 match P.underlying src,P.underlying dst with
 | some (.slice e),some .string=>(match P.underlying e with
  | some (.int .u8)=>(match x with
   | .ms k off n _ s=>(match h k with | some (.cells cs)=>cond (Nat.beq s 1&&Nat.ble (off+n) cs.length&&Nat.ble n 9223372036854775807) (bytes1 ((cs.drop off).take n) fun ns=>K (.str (strOfNums ns)) [k]) False | _=>False)
   | x=>srcK h 1 x fun ys rd=>cond hint (∃ ns,ys=brow ns∧chk (ns.length≤9223372036854775807) (K (.str (strOfNums ns)) rd)) (bytesK ys fun ns=>chk (ns.length≤9223372036854775807) (K (.str (strOfNums ns)) rd)))
  | _=>False)
 | _,_=>False
theorem ab2s_sound {P:Program} {E:Env} {nt:Nat} {o:Oper} {src dst:TypeId} {y:Operand} {ev:Operand→AV} {h:Nat→Option Blk} {hint:Bool} {K:AV→List Nat→Prop} (ho:o.op=.convert src dst y) (hd:dstOk nt o.dst=true)
  (H:ab2s P src dst h hint (ev y) K):∃ r rd,K r rd∧Good P E nt o ev h r [] rd:=by
 unfold ab2s at H
 split at H
 ·rename_i e hs hdt
  split at H
  ·rename_i he
   have conv:∀ (w:World) (ad:Addr) (ns:List Int) (c:Nat),(loadCells ad ns.length).run P w=.ok (ns.map (Value.int .u8)).toArray w→(do let z ← convert src dst (Value.slice (some ad) ns.length c); pure (Next.value z):Sem Next).run P w=.ok (.value (.string (strOfNums ns))) w:=by
    intro w ad ns c hlc
    rw [Sem.run_bind,run_convert_bytes_string w src dst e _ _ c hs he hdt,run_bytesToString w ad _ c ns hlc,foldl_push_bytes]
    simp [strOfNums,ByteArray.empty,ByteArray.emptyWithCapacity]
    rfl
   have fin:∀ (ys:List (List AV)) (rd:List Nat) (ns:List Int),ys=brow ns→ns.length≤9223372036854775807→(∀ (G:Gh) (kp:List Nat) (st:St) (a:Act) (w:World) (S:Pin) (m:Nm) (v:Value),Rel G kp st a w S m→(∀ j ∈ rd,lk st.heap j=h j)→CV S (ev y) m v→Src S noNm w 1 ys v)→Good P E nt o ev h (.str (strOfNums ns)) [] rd:=by
    intro ys rd ns hy hlen hsrc
    refine good_value hd fun G kp st a w S m hG hR he' hk hf=>?_
    have hv:=he' y (by simp [ho,Op.operands])
    obtain ⟨A,c,hve,h1,h2,news,h3,h4,h5,h6⟩:=hsrc G kp st a w S m _ hR hk hv
    subst hy
    rw [brow_flat] at h4
    have hn:=CVl.ints h4
    subst hn
    have hl:(brow ns).length=ns.length:=by simp [brow]
    refine ⟨.string (strOfNums ns),w,S,m,?_,hR,by simp only [CV]; exact ⟨trivial,by rw [strOfNums_size]; exact hlen⟩⟩
    simp only [execOp,ho,hve,hl]
    rcases h6 with ⟨rfl,rfl⟩ | ⟨ad,rfl,h7⟩
    ·have:ns=[]:=List.eq_nil_of_length_eq_zero (by omega)
     subst this
     rw [Sem.run_bind]
     erw [run_convert_bytes_nil w src e hs he 0 0 dst hdt]
     rfl
    ·have hlc:(loadCells ad ns.length).run P w=.ok (ns.map (Value.int .u8)).toArray w:=by
      have:=run_loadCells_list (P:=P) w ad (ns.map (Value.int .u8)) (fun j v hj=>h7 j v hj)
      simpa using this
     exact conv w ad ns c hlc
   split at H
   ·rename_i x k off n c s hx
    split at H
    ·rename_i cs hcs
     obtain ⟨hb,H1⟩:=cond_F H
     simp only [Bool.and_eq_true] at hb
     have hs1:=Nat.eq_of_beq_eq_true hb.1.1
     have hle:=Nat.le_of_ble_eq_true hb.1.2
     have hn:=Nat.le_of_ble_eq_true hb.2
     obtain ⟨ns,H2,hns⟩:=bytes1_sound _ _ H1
     have hlen:ns.length=n:=by
      have:=congrArg List.length hns
      simp at this; omega
     refine ⟨_,[k],H2,good_value hd fun G kp st a w S m hG hR he' hk hf=>?_⟩
     have hv:=he' y (by simp [ho,Op.operands])
     rw [hx] at hv
     simp only [CV] at hv
     obtain ⟨g,ofs,hm,hve,h1,h2,h3⟩:=hv
     obtain ⟨g',arr,t,p1,p2,p3,p4⟩:=hR.held k _ ((hk k (by simp)).trans hcs)
     rw [hm] at p1
     injection p1 with p1
     injection p1 with p1
     injection p1 with p1
     injection p1 with p1
     subst p1
     have hval:(arr.toList.drop off).take n=ns.map (Value.int .u8):=by
      have:=(p3.drop off).take n
      rw [hns] at this
      exact CVl.ints this
     refine ⟨.string (strOfNums ns),w,S,m,?_,hR,by simp only [CV]; exact ⟨trivial,by rw [strOfNums_size,hlen]; exact hn⟩⟩
     simp only [execOp,ho,hve]
     have hlc:(loadCells ⟨g,ofs,none⟩ ns.length).run P w=.ok (ns.map (Value.int .u8)).toArray w:=by
      have:=run_loadCells_list (P:=P) w ⟨g,ofs,none⟩ (ns.map (Value.int .u8)) (fun j v hj=>by
       have hjn:j < n:=by
        have:=(List.getElem?_eq_some_iff.1 hj).1
        simp at this; omega
       have hc:c≠0:=by omega
       rw [h1 hc,add_none,cell_of_row w g (off+j) arr t (0,0) p2]
       rw [← hval,List.getElem?_take,if_pos hjn,List.getElem?_drop] at hj
       simpa using hj)
      simpa using this
     have:=conv w ⟨g,ofs,none⟩ ns c hlc
     rw [hlen] at this
     exact this
    ·exact H.elim
   ·obtain ⟨ys,rd,H1,hsrc⟩:=srcK_sound H
    cases hint with
    | true =>
     simp only [cond_true] at H1
     obtain ⟨ns,hy,H2⟩:=H1
     obtain ⟨hl,H3⟩:=chk_iff.1 H2
     exact ⟨_,rd,H3,fin ys rd ns hy hl hsrc⟩
    | false =>
     simp only [cond_false] at H1
     obtain ⟨ns,H2,hy⟩:=bytesK_sound _ _ H1
     obtain ⟨hl,H3⟩:=chk_iff.1 H2
     exact ⟨_,rd,H3,fin ys rd ns hy hl hsrc⟩
  ·exact H.elim
 ·exact H.elim
end Go.Proofs.YtgbbmadjdaphnaaGreatDoor
namespace Go.Proofs.YtgbbmadjdaphnaaGreatDoor
open Go
open Go.RowKit (Below)
set_option linter.unusedVariables false
set_option linter.unusedSimpArgs false
def strNums (s:ByteArray):List Int:=s.data.toList.map fun b=>(b.toNat:Int)
theorem strNums_len (s:ByteArray):(strNums s).length=s.size:=by simp [strNums]
def as2b (P:Program) (nm:Nat) (src dst:TypeId) (x:AV) (K:AV→List (Nat × Blk)→List Nat→Prop):Prop :=
 match P.underlying src,P.underlying dst with
 | some .string,some (.slice e)=>(match P.underlying e with
  | some (.int .u8)=>(match x with
   | .str s=>cond (Nat.blt e 1000000) (K (.rw nm 1 s.size) [(nm,.row (Nat.add e 1000000) 1 (brow (strNums s)))] []) False
   | _=>False)
  | _=>False)
 | _,_=>False
theorem as2b_sound {P:Program} {E:Env} {nt nm:Nat} {o:Oper} {src dst:TypeId} {y:Operand} {ev:Operand→AV} {h:Nat→Option Blk} {K:AV→List (Nat × Blk)→List Nat→Prop} (ho:o.op=.convert src dst y) (hd:dstOk nt o.dst=true)
  (H:as2b P nm src dst (ev y) K):∃ r b,K r [(nm,b)] []∧Good P E nt o ev h r [(nm,b)] []:=by
 unfold as2b at H
 split at H
 ·rename_i e hs hdt
  split at H
  ·rename_i he
   split at H
   ·rename_i s hx
    obtain ⟨hle,H1⟩:=cond_F H
    have hle:e < 1000000:=Nat.le_of_ble_eq_true hle
    refine ⟨_,_,H1,good_value hd fun G kp st a w S m hG hR he' hrd hf=>?_⟩
    have hv:=he' y (by simp [ho,Op.operands])
    rw [hx] at hv
    simp only [CV] at hv
    obtain ⟨hv,hsz⟩:=hv
    have hrow:∀ (j:Nat) (x:List AV),(brow (strNums s))[j]?=some x→x.length=1∧∀ (i:Nat) (z:AV),x[i]?=some z→∃ v,(Lib.bytesCells w e s)[j*1+i]?=some v∧v.oneCell'=true∧CV S z noNm v:=by
     intro j x hj
     unfold brow at hj
     rw [List.getElem?_map] at hj
     cases hn:(strNums s)[j]? with
     | none=>rw [hn] at hj; cases hj
     | some n =>
      rw [hn] at hj
      simp only [Option.map_some,Option.some.injEq] at hj
      subst hj
      refine ⟨rfl,fun i z hi=>?_⟩
      have hi0:i=0:=by
       have:=(List.getElem?_eq_some_iff.1 hi).1
       simp only [List.length_singleton] at this
       omega
      subst hi0
      simp only [List.getElem?_cons_zero,Option.some.injEq] at hi
      subst hi
      have hjl:j < s.size:=by have:=(List.getElem?_eq_some_iff.1 hn).1; rw [strNums_len] at this; exact this
      unfold strNums at hn
      rw [List.getElem?_map] at hn
      have h2:j < s.data.toList.length:=by simpa using hjl
      rw [List.getElem?_eq_getElem h2] at hn
      simp only [Option.map_some,Option.some.injEq] at hn
      refine ⟨.int .u8 n,?_,rfl,?_⟩
      ·unfold Lib.bytesCells
       have h3:j < s.data.size:=hjl
       rw [Nat.mul_one,Nat.add_zero,Array.getElem?_append_left (by simpa using h3),Array.getElem?_map,Array.getElem?_eq_getElem h3]
       simp only [Option.map_some,Option.some.injEq,Value.int.injEq,true_and]
       rw [← hn]; simp
      ·simp only [CV]
       refine ⟨trivial,?_⟩
       rw [← hn]
       have:=s.data.toList[j].toNat_lt
       simp only [rng]
       omega
    have hge:=grownCap_ge w s.size 0 e
    have hmx:=grownCap_le_maxLen w s.size 0 e hsz
    have hcs:(Lib.bytesCells w e s).size=grownCap w s.size 0 e*1:=by
     unfold Lib.bytesCells
     simp
     have:s.data.size=s.size:=rfl
     omega
    have h2m:e+1000000 < 2000000:=Nat.add_lt_add_right hle 1000000
    have hnew:=hR.newRowW (e:=e+1000000) (s:=1) (c:=grownCap w s.size 0 e) (xs:=brow (strNums s)) (w':=Lib.bytesWorld w e s) (cur:=Lib.bytesCells w e s) (fr:=((Lib.bytesCells w e s).size,(Lib.bytesCells w e s).size+1)) (hf (nm,.row (Nat.add e 1000000) 1 (brow (strNums s))) (by simp) (by simp))
     ⟨rfl,rfl,rfl,by rw [Lib.bytesWorld_size]; omega,fun k hk=>Lib.bytesWorld_at_old w e s k hk⟩
     (by rw [Lib.bytesWorld_at_new]; unfold rowTy; rw [if_neg (by omega),if_pos h2m,Nat.add_sub_cancel]) (.inr ⟨by omega,h2m,Nat.le_refl _⟩) (fun b o hb=>Lib.bytesWorld_old w e s ⟨b,o,none⟩ hb)
     (by simp [brow,strNums_len]; exact hge) hmx hcs (by rw [rowNm_lo h2m]; exact hrow)
    have hlen:(brow (strNums s)).length=s.size:=by simp [brow,strNums_len]
    rw [hlen] at hnew
    refine ⟨.slice (some ⟨w.heap.size,0,none⟩) s.size (grownCap w s.size 0 e),Lib.bytesWorld w e s,S,_,?_,hnew.1,hnew.2⟩
    simp only [execOp,ho,hv,Sem.run_bind,Lib.run_convert_string_bytes w src dst e s hs hdt he]
    rfl
   ·exact H.elim
  ·exact H.elim
 ·exact H.elim
theorem part_loads {P:Program} {t:TypeId} {cs:List AV} {off:Nat} {r:AV} (h:LoadsTo P t (cs.drop off) r) :
  ∀ (us:Array Value) w S m,CVl S cs m us.toList→∃ v,(part t us off).run P w=.ok v w∧CV S r m v:=by
 rcases h with ⟨d,i,h1,h2,h3,h4,rfl⟩ | ⟨d,h1,h2,h3⟩
 ·refine fun us w S m hc=>⟨.agg (us.extract off (off+i.size)),?_,?_⟩
  ·simp [part,run_isAgg h1,h2,run_sizeOf h3]
  ·simp only [CV]
   refine ⟨_,rfl,?_⟩
   have hl:=hc.len
   refine CVl.mk ?_ fun j x v e1 e2=>?_
   ·simp at h4 ⊢; simp at hl; omega
   ·rw [List.getElem?_take] at e1
    split at e1
    ·rename_i hj
     rw [List.getElem?_drop] at e1
     obtain ⟨v',hv',hx⟩:=hc.get e1
     have:v=v':=by
      simp only [Array.toList_extract,List.extract_eq_take_drop,List.getElem?_take,List.getElem?_drop] at e2
      rw [if_pos (by omega)] at e2
      exact Option.some.inj (e2.symm.trans hv')
     subst this; exact hx
    ·cases e1
 ·intro us w S m hc
  rw [List.getElem?_drop] at h3
  obtain ⟨v,hv,hx⟩:=hc.get h3
  refine ⟨v,?_,hx⟩
  have hv':us[off]?=some v:=by simpa using hv
  simp [part,run_isAgg h1,h2,hv']
def aixS (P:Program) (E:Env) (d:Option Nat) (t:TypeId) (x i:AV) (K:AV→Prop):Prop :=
 match P.underlying t with
 | some (.array n e)=>(match x,P.info? e with
  | .agg cs,some inf=>intK i fun j=>chk (0≤j∧j < n) (loadK P E d e (cs.drop (j.toNat*inf.size)) K)
  | _,_=>False)
 | _=>False
theorem aixS_sound {P:Program} {E:Env} {d:Option Nat} {o:Oper} {t:TypeId} {x i:Operand} {ev:Operand→AV} {K:AV→Prop} (ho:o.op=.index t x i) (h:aixS P E d t (ev x) (ev i) K):∃ r,K r∧PG P o ev r:=by
 unfold aixS at h
 split at h
 ·rename_i n e hd
  split at h
  ·rename_i cs inf hx hi
   obtain ⟨j,h,hj⟩:=intK_sound h
   obtain ⟨hb,h⟩:=chk_iff.1 h
   obtain ⟨r,h1,h2⟩:=loadK_sound h
   refine ⟨r,h1,fun a w S m he=>?_⟩
   have hv:=he x (by simp [ho,Op.operands])
   have hu:=he i (by simp [ho,Op.operands])
   rw [hx] at hv
   simp only [CV] at hv
   obtain ⟨us,hv,hus⟩:=hv
   obtain ⟨q,hu⟩:=hj S m _ hu
   obtain ⟨z,h3,h4⟩:=part_loads h2 us w S m hus
   exact ⟨z,by simp [execOp,ho,hv,hu,Instr.index,asIntOf,run_underlying hd,hb,sizeOf,typeInfo,hi,h3],h4⟩
  ·exact h.elim
 ·exact h.elim
def as2s (P:Program) (src dst:TypeId) (x:AV) (h:Nat→Option Blk) (K:AV→List (Nat × Blk)→List Nat→Prop):Prop :=
 match P.underlying src with
 | some (.slice e)=>(match P.underlying e with
  | some (.int .u8)=>(match x with
   | .rw k s n=>(match h k with
    | some (.row e' s' xs)=>cond (Nat.beq src dst&&Nat.blt e' 1000000) (chk (0 < xs.length∧n=xs.length) (K (.rw k s n) [(k,.row (Nat.add e' 1000000) s' xs)] [k])) False
    | _=>False)
   | _=>False)
  | _=>False)
 | _=>False
theorem freeze_at (w:World) (g:Nat) (cur:Array Value) (t:TypeId) (h:w.heap[g]?=some (.cells cur t (0,0))):(w.freeze ⟨g,cur.size,none⟩ 1).heap[g]?=some (.cells cur t (cur.size,cur.size+1)):=by
 have hlt:g < w.heap.size:=(Array.getElem?_eq_some_iff.1 h).1
 have hv:w.heap[g]=.cells cur t (0,0):=(Array.getElem?_eq_some_iff.1 h).2
 have key:∀ (f:Obj→Obj),(w.heap.modify g f)[g]?=some (f (.cells cur t (0,0))):=by
  intro f
  have h2:g < (w.heap.modify g f).size:=by simpa using hlt
  rw [Array.getElem?_eq_getElem h2,Array.getElem_modify_self,hv]
 show (w.heap.modify g _)[g]?=_
 rw [key]
 rfl
theorem freeze_other (w:World) (g o j:Nat) (h:j≠g):(w.freeze ⟨g,o,none⟩ 1).heap[j]?=w.heap[j]?:=by
 simp [World.freeze,Array.getElem?_modify,Ne.symm h]
theorem freeze_size (w:World) (g o:Nat):(w.freeze ⟨g,o,none⟩ 1).heap.size=w.heap.size:=by
 simp [World.freeze]
theorem run_convert_mark {P:Program} (w:World) (src e:TypeId) (g n c:Nat) (cur:Array Value) (t:TypeId) (fr:Nat × Nat) (hs:P.underlying src=some (.slice e)) (he:P.underlying e=some (.int .u8)) (hg:w.heap[g]?=some (.cells cur t fr)) :
  (convert src src (.slice (some ⟨g,0,none⟩) n c)).run P w=.ok (.slice (some ⟨g,0,none⟩) n c) (w.freeze ⟨g,cur.size,none⟩ 1):=by
 have hsh:w.shape? g=some (t,cur.size):=by simp [World.shape?,hg]
 simp [convert,run_underlying hs,run_underlying he,markStringish,hsh]
theorem as2s_sound {P:Program} {E:Env} {nt:Nat} {o:Oper} {src dst:TypeId} {y:Operand} {ev:Operand→AV} {h:Nat→Option Blk} {K:AV→List (Nat × Blk)→List Nat→Prop} (ho:o.op=.convert src dst y) (hd:dstOk nt o.dst=true)
  (H:as2s P src dst (ev y) h K):∃ r u rd,K r u rd∧(∀ p ∈ u,p.1 ∈ rd)∧Good P E nt o ev h r u rd:=by
 unfold as2s at H
 split at H
 ·rename_i e hs
  split at H
  ·rename_i he
   split at H
   ·rename_i x k s n hx
    split at H
    ·rename_i bk' e' s' xs hk
     obtain ⟨hb,H1⟩:=cond_F H
     simp only [Bool.and_eq_true] at hb
     have hsd:=Nat.eq_of_beq_eq_true hb.1
     have hle:e' < 1000000:=Nat.le_of_ble_eq_true hb.2
     obtain ⟨⟨h0,hn⟩,H2⟩:=chk_iff.1 H1
     refine ⟨_,_,_,H2,fun p hp=>by simp at hp ⊢; subst hp; rfl,good_value hd fun G kp st a w S m hG hR he' hrd hf=>?_⟩
     have hv:=he' y (by simp [ho,Op.operands])
     rw [hx] at hv
     have hv0:=hv
     simp only [CV] at hv
     obtain ⟨_,A1,q1,c1,p1,p2,p3⟩:=hv
     have hks:lk st.heap k=some (.row e' s' xs):=by rw [hrd k (by simp)]; exact hk
     obtain ⟨A,c,r1,r2,r3,r4⟩:=hR.held k _ hks
     rw [r1] at p1
     injection p1 with p1
     injection p1 with _ p1
     injection p1 with t1 t2 t3
     subst t1; subst t3
     have hvv:=p3 (by omega)
     obtain ⟨g,cur,fr,rfl,u1,u2,u3,u4,u5⟩:=r4.resolve_left (fun q=>by have:=q.2; omega)
     have hfr:=u2.lt hle
     subst hfr
     rw [rowTy_lt hle] at u1
     refine ⟨.slice (some ⟨g,0,none⟩) q1 c,w.freeze ⟨g,cur.size,none⟩ 1,S,m,?_,?_,?_⟩
     ·have hev:a.eval y=.slice (some ⟨g,0,none⟩) q1 c:=hvv
      simp only [execOp,ho,hev,← hsd,Sem.run_bind]
      rw [run_convert_mark w src e g q1 c cur e' (0,0) hs he u1]
      rfl
     ·have h2m:e'+1000000 < 2000000:=Nat.add_lt_add_right hle 1000000
      rw [rowNm_lo (Nat.lt_trans hle (by decide))] at u5
      refine hR.writeR hks r1 (by omega) rfl rfl rfl (freeze_size w g _) (fun j hj=>freeze_other w g _ j hj) u4 ⟨_,c,r1,r2,r3,.inr ⟨g,cur,(cur.size,cur.size+1),rfl,?_,.inr ⟨Nat.le_add_left _ _,h2m,Nat.le_refl _⟩,u3,u4,by rw [rowNm_lo (show Nat.add e' 1000000 < 2000000 from h2m)]; exact u5⟩⟩
      rw [freeze_at w g cur e' u1]
      show _=some (Obj.cells cur (rowTy (e'+1000000)) _)
      unfold rowTy
      rw [if_neg (by omega),if_pos h2m,Nat.add_sub_cancel]
     ·rw [← hvv]; exact hv0
    ·exact H.elim
   ·exact H.elim
  ·exact H.elim
 ·exact H.elim
end Go.Proofs.YtgbbmadjdaphnaaGreatDoor
namespace Go.Proofs.YtgbbmadjdaphnaaGreatDoor
open Go
open Go.Maps (Tidy IsMap int_keyed keyOf_int_mk)
set_option linter.unusedVariables false
set_option linter.unusedSimpArgs false
theorem mDel_key (n:Int):∀ (l:List (Int × AV)) (q:Int),q ∈ (mDel l n).map Prod.fst→q≠n∧q ∈ l.map Prod.fst
 | [],q,h=>by simp [mDel] at h
 | (k,x)::l,q,h=>by
  simp only [mDel] at h
  by_cases e:k=n
  ·rw [decide_eq_true e] at h
   obtain ⟨h1,h2⟩:=mDel_key n l q h
   exact ⟨h1,by simp only [List.map_cons,List.mem_cons]; exact .inr h2⟩
  ·rw [decide_eq_false e] at h
   simp only [cond_false,List.map_cons,List.mem_cons] at h
   rcases h with rfl | h
   ·exact ⟨e,by simp⟩
   ·obtain ⟨h1,h2⟩:=mDel_key n l q h
    exact ⟨h1,by simp only [List.map_cons,List.mem_cons]; exact .inr h2⟩
theorem mDel_nd (n:Int):∀ {l:List (Int × AV)},(l.map Prod.fst).Nodup→((mDel l n).map Prod.fst).Nodup
 | [],_=>by simp [mDel]
 | (k,x)::l,h=>by
  simp only [List.map_cons,List.nodup_cons] at h
  simp only [mDel]
  by_cases e:k=n
  ·rw [decide_eq_true e]; exact mDel_nd n h.2
  ·rw [decide_eq_false e]
   simp only [cond_false,List.map_cons,List.nodup_cons]
   exact ⟨fun q=>h.1 (mDel_key n l k q).2,mDel_nd n h.2⟩
theorem mPut_nd {l:List (Int × AV)} (h:(l.map Prod.fst).Nodup) (n:Int) (x:AV):((mPut l n x).map Prod.fst).Nodup:=by
 unfold mPut
 simp only [List.map_cons,List.nodup_cons]
 exact ⟨fun q=>(mDel_key n l n q).1 rfl,mDel_nd n h⟩
theorem mDel_none {n:Int}:∀ {l:List (Int × AV)},n ∉ l.map Prod.fst→mDel l n=l
 | [],_=>rfl
 | (k,x)::l,h=>by
  simp only [List.map_cons,List.mem_cons,not_or] at h
  simp only [mDel]
  rw [decide_eq_false (fun e=>h.1 e.symm)]
  simp only [cond_false]
  rw [mDel_none h.2]
theorem mDel_len (n:Int):∀ {l:List (Int × AV)},(l.map Prod.fst).Nodup→(mDel l n).length+(cond (mGet l n).isSome 1 0)=l.length
 | [],_=>rfl
 | (k,x)::l,h=>by
  simp only [List.map_cons,List.nodup_cons] at h
  simp only [mDel,mGet]
  by_cases e:k=n
  ·rw [decide_eq_true e]
   subst e
   simp only [cond_true]
   rw [mDel_none h.1]
   rfl
  ·rw [decide_eq_false e]
   have:=mDel_len n h.2
   simp only [cond_false,List.length_cons]
   omega
theorem mGet_del {n q:Int} (hq:q≠n):∀ (l:List (Int × AV)),mGet (mDel l n) q=mGet l q
 | []=>rfl
 | (k,x)::l=>by
  simp only [mDel,mGet]
  by_cases e:k=n
  ·rw [decide_eq_true e,decide_eq_false (fun w=>hq (w.symm.trans e))]
   exact mGet_del hq l
  ·rw [decide_eq_false e]
   simp only [cond_false,mGet]
   rw [mGet_del hq l]
theorem mGet_put (l:List (Int × AV)) (n q:Int) (x:AV):mGet (mPut l n x) q=if n=q then some x else mGet l q:=by
 unfold mPut
 simp only [mGet]
 by_cases e:n=q
 ·rw [decide_eq_true e,if_pos e]; rfl
 ·rw [decide_eq_false e,if_neg e]; exact mGet_del (fun w=>e w.symm) l
def mInt (l:List (Int × AV)) (n:Int):Int:=match mGet l n with | some (.int _ z)=>z | _=>0
def mBool (l:List (Int × AV)) (n:Int):Bool:=match mGet l n with | some (.bool b)=>b | _=>false
def mHas (l:List (Int × AV)) (n:Int):Bool:=(mGet l n).isSome
def isI64 (P:Program) (t:TypeId):Bool:=match P.underlying t with | some (.int .i64)=>true | _=>false
def isBl (P:Program) (t:TypeId):Bool:=match P.underlying t with | some .bool=>true | _=>false
theorem isI64_iff {P:Program} {t:TypeId} (h:isI64 P t=true):P.underlying t=some (.int .i64):=by
 unfold isI64 at h
 split at h
 ·rename_i e; exact e
 ·cases h
theorem isBl_iff {P:Program} {t:TypeId} (h:isBl P t=true):P.underlying t=some .bool:=by
 unfold isBl at h
 split at h
 ·rename_i e; exact e
 ·cases h
def kOk (P:Program) (kt:TypeId):Bool:=cond (skT kt) true (isI64 P kt)
def kcA:AV→Option Int
 | .int .i64 n=>some n
 | .agg [.int .i64 a,.int .i64 b,.int .i64 c,.int .i64 d]=>some (codeK [a,b,c,d])
 | _=>none
def kOkA (P:Program) (kt:TypeId):AV→Bool
 | .int .i64 _=>cond (skT kt) false (isI64 P kt)
 | .agg _=>skT kt
 | _=>false
theorem mrng_wf {n:Int} (h:rng .i64 n):(Lit.int .i64 n).wf=true:=WalkArith.wf_i64 h
theorem plc_keyed:Go.Maps.Keyed Tryz.prog 27 :=
 Go.Maps.Keyed.of_law (deep_law_gate (by kernel_rfl) (of_decide_eq_true (by kernel_rfl)) (of_decide_eq_true (by kernel_rfl)) (by kernel_rfl) (by kernel_rfl))
def fs4 (P:Program) (T:TypeId):Option TypeDesc→Bool
 | some (.struct fs)=>(match fs.toList with
  | f::g::h::k::[]=>Nat.beq f.offset 0&&Nat.beq g.offset 1&&Nat.beq h.offset 2&&Nat.beq k.offset 3&&isI64 P f.type&&isI64 P g.type&&isI64 P h.type&&isI64 P k.type &&
   Nat.beq (P.cellsOf f.type) 1&&Nat.beq (P.cellsOf g.type) 1&&Nat.beq (P.cellsOf h.type) 1&&Nat.beq (P.cellsOf k.type) 1&&Nat.beq (P.cellsOf T) 4&&(fs.all (·.name != "_"))&&P.keyType T&&Nat.ble 1 P.types.size
  | _=>false)
 | _=>false
theorem key4 {P:Program} {T:TypeId} (h:fs4 P T (P.underlying T)=true) {a b c d:Int} (ha:rng .i64 a) (hb:rng .i64 b) (hc:rng .i64 c) (hd:rng .i64 d):∃ L,keyOf P T (.agg #[.int .i64 a,.int .i64 b,.int .i64 c,.int .i64 d])=some L:=by
 cases hu:P.underlying T with
 | none=>rw [hu] at h; cases h
 | some dd =>
  rw [hu] at h
  cases dd with
  | struct fs =>
   obtain ⟨l⟩:=fs
   simp only [fs4] at h
   split at h
   ·rename_i x f g q k
    simp only [Bool.and_eq_true] at h
    obtain ⟨⟨⟨⟨⟨⟨⟨⟨⟨⟨⟨⟨⟨⟨⟨o1,o2⟩,o3⟩,o4⟩,t1⟩,t2⟩,t3⟩,t4⟩,z1⟩,z2⟩,z3⟩,z4⟩,zz⟩,nm⟩,hk⟩,hs⟩:=h
    have o1:=Nat.eq_of_beq_eq_true o1
    have o2:=Nat.eq_of_beq_eq_true o2
    have o3:=Nat.eq_of_beq_eq_true o3
    have o4:=Nat.eq_of_beq_eq_true o4
    have z1:=Nat.eq_of_beq_eq_true z1
    have z2:=Nat.eq_of_beq_eq_true z2
    have z3:=Nat.eq_of_beq_eq_true z3
    have z4:=Nat.eq_of_beq_eq_true z4
    have zz:=Nat.eq_of_beq_eq_true zz
    have t1:=isI64_iff t1
    have t2:=isI64_iff t2
    have t3:=isI64_iff t3
    have t4:=isI64_iff t4
    have hp:∀ (t:TypeId) (n:Int),P.underlying t=some (.int .i64)→rng .i64 n→P.keyLits P.types.size t [.int .i64 n]=some [.int .i64 n]:=by
     intro t n ht hn
     obtain ⟨m,hm⟩:∃ m,P.types.size=m+1:=⟨P.types.size - 1,by have:=Nat.le_of_ble_eq_true hs; omega⟩
     rw [hm]
     simp [Program.keyLits,ht,mrng_wf hn]
    have hf:(Value.agg #[.int .i64 a,.int .i64 b,.int .i64 c,.int .i64 d]).formed P T=true:=by
     simp [Value.formed,hu,zz]
    unfold keyOf
    rw [hu]
    simp only [hk,hf,Bool.and_self,if_true]
    unfold Program.keyLits
    rw [hu]
    rw [show (Value.agg #[.int .i64 a,.int .i64 b,.int .i64 c,.int .i64 d]).cells.toList=[.int .i64 a,.int .i64 b,.int .i64 c,.int .i64 d] from rfl]
    have nm2:¬f.name= "_"∧¬g.name= "_"∧¬q.name= "_"∧¬k.name= "_":=by simpa using nm
    simp [zz,nm2,o1,o2,o3,o4,z1,z2,z3,z4,hp _ _ t1 ha,hp _ _ t2 hb,hp _ _ t3 hc,hp _ _ t4 hd]
   ·cases h
  | _=>simp [fs4] at h
theorem plc_key {a b c d:Int} (ha:rng .i64 a) (hb:rng .i64 b) (hc:rng .i64 c) (hd:rng .i64 d):∃ L,keyOf Tryz.prog 27 (.agg #[.int .i64 a,.int .i64 b,.int .i64 c,.int .i64 d])=some L :=
 key4 (by kernel_rfl) ha hb hc hd
theorem skT_iff {t:Nat} (h:skT t=true):t=27:=Nat.eq_of_beq_eq_true h
theorem kOkA_keyed {kt:TypeId} {x:AV} (h:kOkA Tryz.prog kt x=true):Go.Maps.Keyed Tryz.prog kt:=by
 cases e:skT kt with
 | true=>rw [skT_iff e]; exact plc_keyed
 | false =>
  unfold kOkA at h
  split at h
  ·simp only [e,cond_false] at h; exact int_keyed (isI64_iff h)
  ·rw [e] at h; cases h
  ·cases h
theorem kOkA_key {kt:TypeId} {x:AV} {n:Int} (h:kOkA Tryz.prog kt x=true) (hc:kcA x=some n) {S:Pin} {m:Nm} {v:Value} (hv:CV S x m v):KeyIs kt v n∧∃ L,keyOf Tryz.prog kt v=some L:=by
 unfold kcA at hc
 split at hc
 ·rename_i q
  injection hc with hc; subst hc
  simp only [CV] at hv
  obtain ⟨rfl,hr⟩:=hv
  cases e:skT kt with
  | true=>simp only [kOkA,e,cond_true] at h; cases h
  | false =>
   simp only [kOkA,e,cond_false] at h
   exact ⟨.inl ⟨e,rfl,hr⟩,_,keyOf_int_mk (isI64_iff h) (mrng_wf hr)⟩
 ·rename_i a b c d
  injection hc with hc; subst hc
  have h:skT kt=true:=h
  simp only [CV] at hv
  obtain ⟨us,rfl,hl⟩:=hv
  simp only [CVl] at hl
  obtain ⟨u,l1,e1,⟨rfl,r1⟩,u,l2,rfl,⟨rfl,r2⟩,u,l3,rfl,⟨rfl,r3⟩,u,l4,rfl,⟨rfl,r4⟩,rfl⟩:=hl
  have e1:us=#[.int .i64 a,.int .i64 b,.int .i64 c,.int .i64 d]:=by rw [← Array.toArray_toList (xs:=us),e1]
  subst e1
  obtain ⟨L,hL⟩:=plc_key r1 r2 r3 r4
  have ek:=skT_iff h
  refine ⟨.inr ⟨h,a,b,c,d,rfl,r1,r2,r3,r4,rfl⟩,L,?_⟩
  rw [ek]; exact hL
 ·cases hc
def amkM (P:Program) (nm:Nat) (t:TypeId) (K:AV→List (Nat × Blk)→List Nat→Prop):Prop :=
 match P.underlying t with
 | some (.map kt et)=>cond (kOk P kt) (K (.mpv nm) [(nm,.mp kt et [])] []) False
 | _=>False
theorem amkM_sound {P:Program} {E:Env} {nt nm:Nat} {o:Oper} {t:TypeId} {ev:Operand→AV} {h:Nat→Option Blk} {K:AV→List (Nat × Blk)→List Nat→Prop} (ho:o.op=.makeMap t none) (hd:dstOk nt o.dst=true)
  (H:amkM P nm t K):∃ r b,K r [(nm,b)] []∧Good P E nt o ev h r [(nm,b)] []:=by
 unfold amkM at H
 split at H
 ·rename_i kt et ht
  obtain ⟨hk,H'⟩:=cond_F H
  refine ⟨_,_,H',good_value hd fun G kp st a w S m hG hR he hrd hf=>?_⟩
  refine ⟨.map (some w.heap.size),w.alloc (.map #[] 0),S,m.set nm (.map (some w.heap.size)),?_,?_,?_⟩
  ·have hmk:(Instr.makeMap t none).run P w=.ok (.map (some w.heap.size)) (w.alloc (.map #[] 0)):=rfl
   simp [execOp,ho,hmk]
  ·refine hR.fresh_ (hf (nm,.mp kt et []) (by simp) (by simp)) ((Go.RowKit.Below.refl _ _).alloc (Nat.le_refl _) _) (Ext.refl S) (fun _ _ _=>rfl) ?_ ?_ ?_
   ·intro b q v e
    refine ⟨?_,(hR.agree b q v e).2⟩
    rw [World.cell?_alloc_lt w _ _ (hR.agree.lt e)]
    exact (hR.agree b q v e).1
   ·intro g hg
    simp only [bk,Option.some.injEq] at hg
    omega
   ·refine ⟨w.heap.size,.map [],Nm.set_same _ _ _,World.ownsMap_made w _ _ _,⟨rfl,fun _ _ _ _ _=>rfl,fun _ _ _ _ _ _ e=>by simp [mGet] at e,by simp,fun n x e=>by simp [mGet] at e⟩⟩
  ·simp only [CV]
   exact ⟨_,Nm.set_same _ _ _,rfl⟩
 ·exact H.elim
def okEl (P:Program) (et:TypeId):AV→Bool
 | .int .i64 _=>isI64 P et
 | .bool _=>isBl P et
 | _=>false
def aupM (P:Program) (t:TypeId) (mv k x:AV) (h:Nat→Option Blk) (K:List (Nat × Blk)→List Nat→Prop):Prop :=
 match mv,kcA k with
 | .mpv j,some n=>(match h j,P.underlying t with
  | some (.mp kt et l),some (.map kt' et')=>cond (Nat.beq kt kt'&&Nat.beq et et'&&kOkA P kt k&&okEl P et x) (chk (l.length≤140737488355327) (K [(j,.mp kt et (mPut l n x))] [j])) False
  | _,_=>False)
 | _,_=>False
theorem aupM_sound {P:Program} (hP:P=Tryz.prog) {E:Env} {nt:Nat} {o:Oper} {t:TypeId} {mv k x:Operand} {ev:Operand→AV} {h:Nat→Option Blk} {K:List (Nat × Blk)→List Nat→Prop} (ho:o.op=.mapUpdate t mv k x) (hd:o.dst=none)
  (H:aupM P t (ev mv) (ev k) (ev x) h K):∃ u rd,K u rd∧(∀ p ∈ u,p.1 ∈ rd)∧Good P E nt o ev h .undef u rd:=by
 unfold aupM at H
 split at H
 ·rename_i j n hj hk
  split at H
  ·rename_i kt et l kt' et' hl ht
   obtain ⟨hb,H0⟩:=cond_F H
   simp only [Bool.and_eq_true] at hb
   obtain ⟨⟨⟨b1,b2⟩,b3⟩,b4⟩:=hb
   have b1:=Nat.eq_of_beq_eq_true b1
   have b2:=Nat.eq_of_beq_eq_true b2
   subst b1; subst b2
   subst hP
   obtain ⟨hlen,H1⟩:=chk_iff.1 H0
   refine ⟨_,_,H1,by simp,good_skip hd fun G kp st a w S m hG hR he hrd hf=>?_⟩
   have vm:=he mv (by rw [ho]; simp [Op.operands])
   have vk:=he k (by rw [ho]; simp [Op.operands])
   have vx:=he x (by rw [ho]; simp [Op.operands])
   rw [hj] at vm
   obtain ⟨hkv,Lk,hkey⟩:=kOkA_key b3 hk vk
   simp only [CV] at vm
   obtain ⟨g,hm,vm⟩:=vm
   have hks:lk st.heap j=some (.mp kt et l):=by rw [hrd j (by simp)]; exact hl
   obtain ⟨g',D,e1,e2,e3⟩:=hR.held j _ hks
   rw [hm] at e1
   injection e1 with e1
   injection e1 with e1
   injection e1 with e1
   subst e1
   have hel:∃ d,plainElem (H:=Unit) Tryz.prog et (a.eval x)=some (d,[])∧d=avD (ev x)∧((∃ z,ev x=.int .i64 z∧rng .i64 z∧Tryz.prog.underlying et=some (.int .i64))∨(∃ b,ev x=.bool b∧Tryz.prog.underlying et=some .bool)):=by
    generalize hx:ev x=y at vx b4
    cases y with
    | int q z =>
     cases q <;> simp only [okEl,Bool.false_eq_true] at b4
     simp only [CV] at vx
     rw [vx.1]
     exact ⟨_,plainElem_int (isI64_iff b4) (mrng_wf vx.2),rfl,.inl ⟨z,rfl,vx.2,isI64_iff b4⟩⟩
    | bool b =>
     simp only [okEl] at b4
     simp only [CV] at vx
     rw [vx]
     exact ⟨_,plainElem_bool (isBl_iff b4) b,rfl,.inr ⟨b,rfl,isBl_iff b4⟩⟩
    | _=>simp only [okEl,Bool.false_eq_true] at b4
   obtain ⟨d,hd1,rfl,hkind⟩:=hel
   have K:=kOkA_keyed b3
   have lne:∀ v q L,KeyIs kt v q→keyOf Tryz.prog kt v=some L→n≠q→L≠Lk:=fun v q L h1 h2 h3 e=>h3 (by subst e; have:=K.inj h2 hkey; subst this; exact hkv.fn h1)
   have tidy:=e2.tidy K
   obtain ⟨w',hrun,o1,o2⟩:=e2.store K ht (show l.length < maxLen from by unfold maxLen; omega) hkey hd1
   have hgr:=o2.grown
   have hsz:Maps.size (D.put Lk (avD (ev x)))=(mPut l n (ev x)).length:=by
    rw [Maps.size_put tidy,e3.has _ n Lk hkv hkey,e3.size]
    have:=mDel_len n e3.nd
    unfold mPut
    cases hq:(mGet l n).isSome with
    | true=>rw [hq] at this; simp only [cond_true] at this; simp; omega
    | false=>rw [hq] at this; simp only [cond_false] at this; simp; omega
   have own2:w'.ownsMap Tryz.prog kt (plainElem (H:=Unit) Tryz.prog et) g (mPut l n (ev x)).length (D.put Lk (avD (ev x))):=by
    obtain ⟨es,clock,q1,q2,q3,q4⟩:=o1
    refine ⟨es,clock,q1,q2,?_,q4⟩
    rw [← hsz,q4]
    simp [Maps.size,length_sorted]
   refine ⟨w',S,m,by simp [execOp,ho,vm,hrun],?_⟩
   have hSn:∀ q,S g q=none:=by
    intro q
    cases e:S g q with
    | none=>rfl
    | some v =>
     have:=(hR.agree _ _ _ e).1
     obtain ⟨es,clock,q1,_⟩:=e2
     simp [World.cell?,q1] at this
   refine hR.writeM hks hm hgr.os hgr.tape hgr.output ?_ ?_ hSn ⟨g,_,hm,own2,hsz,fun v q L hv hL=>?_,fun v q L y hv hL e z=>?_,mPut_nd e3.nd n _,fun q y e=>?_⟩
   ·obtain ⟨es,clock,es',clock',_,rfl⟩:=o2
    simp [Go.ChangeMaps.setBlock]
   ·obtain ⟨es,clock,es',clock',hb,rfl⟩:=o2
    intro i hi
    exact Go.ChangeMaps.heap_setBlock_other hb _ hi
   ·rw [mGet_put]
    by_cases e:n=q
    ·subst e
     have:=hv.inj hkv
     subst this
     have hL:L=Lk:=Option.some.inj (hL.symm.trans hkey)
     subst hL
     rw [if_pos rfl,Maps.has_put_same e2.isMap (K.key hkey)]; rfl
    ·rw [if_neg e,Maps.has_put_other (lne v q L hv hL e),e3.has v q L hv hL]
   ·rw [mGet_put] at e
    by_cases e':n=q
    ·subst e'
     rw [if_pos rfl] at e
     have e:=Option.some.inj e
     subst e
     have:=hv.inj hkv
     subst this
     have hL:L=Lk:=Option.some.inj (hL.symm.trans hkey)
     subst hL
     exact Maps.atKey_put_same e2.isMap (K.key hkey) _ _
    ·rw [if_neg e'] at e
     rw [Maps.atKey_put_other (lne v q L hv hL e')]
     exact e3.get v q L y hv hL e z
   ·rw [mGet_put] at e
    by_cases e':n=q
    ·rw [if_pos e'] at e
     have e:=Option.some.inj e
     subst e
     exact hkind
    ·rw [if_neg e'] at e
     exact e3.kind q y e
  ·exact H.elim
 ·exact H.elim
theorem plainElem_bool_inv {H:Type} {P:Program} {e:TypeId} (he:P.underlying e=some .bool) {v:Value} {z:DataW H × List MemPlace} (h:plainElem P e v=some z):∃ b,v=.bool b∧z=(.lit (.bool b),[]):=by
 unfold plainElem at h
 rw [he] at h
 cases v <;> simp at h
 subst h
 exact ⟨_,rfl,rfl⟩
def zerI (P:Program) (t:TypeId):Bool:=match P.info? t with
 | some i=>(match i.zero with | some (.int .i64 z)=>decide (z=0) | _=>false)
 | none=>false
def zerB (P:Program) (t:TypeId):Bool:=match P.info? t with
 | some i=>(match i.zero with | some (.bool false)=>true | _=>false)
 | none=>false
theorem zerI_run {P:Program} {t:TypeId} (h:zerI P t=true) (w:World):(zeroValue t).run P w=.ok (.int .i64 0) w:=by
 unfold zerI at h
 split at h
 ·rename_i i hi
  split at h
  ·rename_i z hz
   have:=of_decide_eq_true h
   subst this
   simp [zeroValue,typeInfo,hi,hz]
  ·cases h
 ·cases h
theorem zerB_run {P:Program} {t:TypeId} (h:zerB P t=true) (w:World):(zeroValue t).run P w=.ok (.bool false) w:=by
 unfold zerB at h
 split at h
 ·rename_i i hi
  split at h
  ·rename_i hz
   simp [zeroValue,typeInfo,hi,hz]
  ·cases h
 ·cases h
theorem MapD.int {kt et:Nat} {D:DataW Unit} {l:List (Int × AV)} (h:MapD kt et D l) (he:Tryz.prog.underlying et=some (.int .i64)) {v:Value} {n:Int} {L:Lit} (hv:KeyIs kt v n) (hL:keyOf Tryz.prog kt v=some L):D.atKey L (.lit (.int .i64 0))=.lit (.int .i64 (mInt l n))∧rng .i64 (mInt l n):=by
 unfold mInt
 cases hq:mGet l n with
 | none =>
  have:=h.has v n L hv hL
  rw [hq] at this
  exact ⟨Maps.atKey_of_not_has this _,by decide⟩
 | some x =>
  rcases h.kind n x hq with ⟨z,rfl,hz,_⟩ | ⟨b,rfl,hb⟩
  ·exact ⟨h.get v n L _ hv hL hq _,hz⟩
  ·rw [he] at hb; cases hb
theorem MapD.bool {kt et:Nat} {D:DataW Unit} {l:List (Int × AV)} (h:MapD kt et D l) (he:Tryz.prog.underlying et=some .bool) {v:Value} {n:Int} {L:Lit} (hv:KeyIs kt v n) (hL:keyOf Tryz.prog kt v=some L):D.atKey L (.lit (.bool false))=.lit (.bool (mBool l n)):=by
 unfold mBool
 cases hq:mGet l n with
 | none =>
  have:=h.has v n L hv hL
  rw [hq] at this
  exact Maps.atKey_of_not_has this _
 | some x =>
  rcases h.kind n x hq with ⟨z,rfl,hz,hb⟩ | ⟨b,rfl,_⟩
  ·rw [he] at hb; cases hb
  ·exact h.get v n L _ hv hL hq _
def tupK (ok:Bool) (v:AV) (l:List (Int × AV)) (n:Int):AV:=cond ok (.tup [v,.bool (mHas l n)]) v
def alkM (P:Program) (t:TypeId) (mv k:AV) (ok:Bool) (h:Nat→Option Blk) (K:AV→List Nat→Prop):Prop :=
 match mv,kcA k with
 | .mpv j,some n=>(match h j,P.underlying t with
  | some (.mp kt et l),some (.map kt' et')=>cond (Nat.beq kt kt'&&Nat.beq et et'&&kOkA P kt k) (cond (isI64 P et&&zerI P et) (forceA (tupK ok (.int .i64 (mInt l n)) l n) fun r=>K r [j]) (cond (isBl P et&&zerB P et) (forceA (tupK ok (.bool (mBool l n)) l n) fun r=>K r [j]) False)) False
  | _,_=>False)
 | _,_=>False
theorem alkM_sound {P:Program} (hP:P=Tryz.prog) {E:Env} {nt:Nat} {o:Oper} {t:TypeId} {mv k:Operand} {ok:Bool} {ev:Operand→AV} {h:Nat→Option Blk} {K:AV→List Nat→Prop} (ho:o.op=.lookup t mv k ok) (hd:dstOk nt o.dst=true)
  (H:alkM P t (ev mv) (ev k) ok h K):∃ r rd,K r rd∧Good P E nt o ev h r [] rd:=by
 unfold alkM at H
 split at H
 ·rename_i j n hj hk
  split at H
  ·rename_i kt et l kt' et' hl ht
   obtain ⟨hb,H0⟩:=cond_F H
   simp only [Bool.and_eq_true] at hb
   obtain ⟨⟨b1,b2⟩,b3⟩:=hb
   have b1:=Nat.eq_of_beq_eq_true b1
   have b2:=Nat.eq_of_beq_eq_true b2
   subst b1; subst b2
   have Kd:Go.Maps.Keyed P kt:=by rw [hP] at b3 ⊢; exact kOkA_keyed b3
   have go:∀ (v:AV),(∀ (w:World) (S:Pin) (m:Nm) (D:DataW Unit) (g:Nat) (vk:Value) (L:Lit),KeyIs kt vk n→keyOf P kt vk=some L→w.ownsMap P kt (plainElem (H:=Unit) P et) g l.length D→MapD kt et D l →
     (∃ u,(Instr.lookup t (.map (some g)) vk false).run P w=.ok u w∧CV S v m u)∧(∃ u,(Instr.lookup t (.map (some g)) vk true).run P w=.ok (.tuple #[u,.bool (Maps.has D L)]) w∧CV S v m u))→K (tupK ok v l n) [j]→∃ r rd,K r rd∧Good P E nt o ev h r [] rd:=by
    intro v hv hK
    subst hP
    refine ⟨_,_,hK,good_value hd fun G kp st a w S m hG hR he hrd hf=>?_⟩
    have vm:=he mv (by rw [ho]; simp [Op.operands])
    have vk:=he k (by rw [ho]; simp [Op.operands])
    rw [hj] at vm
    obtain ⟨hkv,Lk,hkey⟩:=kOkA_key b3 hk vk
    simp only [CV] at vm
    obtain ⟨g,hm,vm⟩:=vm
    have hks:lk st.heap j=some (.mp kt et l):=by rw [hrd j (by simp)]; exact hl
    obtain ⟨g',D,e1,e2,e3⟩:=hR.held j _ hks
    rw [hm] at e1
    have e1:=Option.some.inj (Value.map.inj (Option.some.inj e1))
    subst e1
    obtain ⟨⟨u,r1,c1⟩,⟨u2,r2,c2⟩⟩:=hv w S m D g _ Lk hkv hkey e2 e3
    cases ok with
    | false=>exact ⟨u,w,S,m,by simp [execOp,ho,vm,r1],hR,c1⟩
    | true =>
     refine ⟨.tuple #[u2,.bool (Maps.has D Lk)],w,S,m,by simp [execOp,ho,vm,r2],hR,?_⟩
     simp only [tupK,cond_true,CV]
     refine ⟨_,rfl,?_⟩
     simp only [CVl]
     exact ⟨u2,_,rfl,c2,_,[],rfl,by simp only [CV]; rw [e3.has _ n Lk hkv hkey]; rfl,rfl⟩
   cases hi:(isI64 P et&&zerI P et) with
   | true =>
    rw [hi] at H0
    simp only [cond_true,forceA_eq] at H0
    simp only [Bool.and_eq_true] at hi
    have hu:=isI64_iff hi.1
    refine go _ (fun w S m D g vk L hkv hkey e2 e3=>?_) H0
    have hz:=zerI_run hi.2 w
    have hzd:=plainElem_int (H:=Unit) hu (a:=0) (by decide)
    obtain ⟨q1,q2⟩:=e3.int (hP ▸ hu) hkv (hP ▸ hkey)
    refine ⟨?_,?_⟩
    ·obtain ⟨v,ps,r1,r2⟩:=e2.lookup Kd ht hz hzd hkey
     obtain ⟨c,rfl,hc,_⟩:=plainElem_int_inv hu r2
     rw [q1] at hc
     simp only [Prod.mk.injEq,DataW.lit.injEq,Lit.int.injEq,true_and] at hc
     exact ⟨_,r1,by simp only [CV]; exact ⟨by rw [hc.1],q2⟩⟩
    ·obtain ⟨v,ps,r1,r2⟩:=e2.look_ok Kd ht hz hzd hkey
     obtain ⟨c,rfl,hc,_⟩:=plainElem_int_inv hu r2
     rw [q1] at hc
     simp only [Prod.mk.injEq,DataW.lit.injEq,Lit.int.injEq,true_and] at hc
     exact ⟨_,r1,by simp only [CV]; exact ⟨by rw [hc.1],q2⟩⟩
   | false =>
    rw [hi] at H0
    simp only [cond_false] at H0
    obtain ⟨hbb,H1⟩:=cond_F H0
    simp only [forceA_eq] at H1
    simp only [Bool.and_eq_true] at hbb
    have hu:=isBl_iff hbb.1
    refine go _ (fun w S m D g vk L hkv hkey e2 e3=>?_) H1
    have hz:=zerB_run hbb.2 w
    have hzd:=plainElem_bool (H:=Unit) hu false
    have q1:=e3.bool (hP ▸ hu) hkv (hP ▸ hkey)
    refine ⟨?_,?_⟩
    ·obtain ⟨v,ps,r1,r2⟩:=e2.lookup Kd ht hz hzd hkey
     obtain ⟨c,rfl,hc⟩:=plainElem_bool_inv hu r2
     rw [q1] at hc
     simp only [Prod.mk.injEq,DataW.lit.injEq,Lit.bool.injEq] at hc
     exact ⟨_,r1,by simp only [CV]; rw [hc.1]⟩
    ·obtain ⟨v,ps,r1,r2⟩:=e2.look_ok Kd ht hz hzd hkey
     obtain ⟨c,rfl,hc⟩:=plainElem_bool_inv hu r2
     rw [q1] at hc
     simp only [Prod.mk.injEq,DataW.lit.injEq,Lit.bool.injEq] at hc
     exact ⟨_,r1,by simp only [CV]; rw [hc.1]⟩
  ·exact H.elim
 ·exact H.elim
def alenM (P:Program) (ts:List TypeId) (xs:List AV) (h:Nat→Option Blk) (K:AV→List Nat→Prop):Prop :=
 match ts,xs with
 | [t],[.mpv j]=>(match h j,P.underlying t with
  | some (.mp kt et l),some (.map kt' et')=>cond (Nat.beq kt kt'&&Nat.beq et et') (chk (l.length≤9223372036854775807) (K (.int .i64 l.length) [j])) False
  | _,_=>False)
 | _,_=>False
theorem alenM_sound {P:Program} (hP:P=Tryz.prog) {E:Env} {nt:Nat} {o:Oper} {c:Call} {ev:Operand→AV} {h:Nat→Option Blk} {K:AV→List Nat→Prop} (ho:o.op=.call c) (hc:c.callee=.builtin .len) (hd:dstOk nt o.dst=true)
  (H:alenM P c.argTypes.toList (c.args.toList.map ev) h K):∃ r rd,K r rd∧Good P E nt o ev h r [] rd:=by
 unfold alenM at H
 split at H
 ·rename_i t j hts hxs
  split at H
  ·rename_i kt et l kt' et' hl ht
   obtain ⟨hb,H0⟩:=cond_F H
   simp only [Bool.and_eq_true] at hb
   obtain ⟨b1,b2⟩:=hb
   have b1:=Nat.eq_of_beq_eq_true b1
   have b2:=Nat.eq_of_beq_eq_true b2
   subst b1; subst b2
   obtain ⟨hlen,H1⟩:=chk_iff.1 H0
   obtain ⟨ox,hargs,hox⟩:∃ ox,c.args.toList=[ox]∧ev ox=.mpv j:=by
    cases hq:c.args.toList with
    | nil=>rw [hq] at hxs; simp at hxs
    | cons p l =>
     cases l with
     | nil=>rw [hq] at hxs; simp at hxs; exact ⟨p,rfl,hxs⟩
     | cons q l=>rw [hq] at hxs; simp at hxs
   have hargsA:c.args=#[ox]:=by rw [← Array.toArray_toList (xs:=c.args),hargs]
   have htsA:c.argTypes=#[t]:=by rw [← Array.toArray_toList (xs:=c.argTypes),hts]
   refine ⟨_,_,H1,good_value hd fun G kp st a w S m hG hR he hrd hf=>?_⟩
   have vm:=he ox (by rw [ho]; simp [Op.operands,Call.operands,hc,hargsA])
   rw [hox] at vm
   simp only [CV] at vm
   obtain ⟨g,hm,vm⟩:=vm
   have hks:lk st.heap j=some (.mp kt et l):=by rw [hrd j (by simp)]; exact hl
   obtain ⟨g',D,e1,e2,e3⟩:=hR.held j _ hks
   rw [← hP] at e2
   rw [hm] at e1
   have e1:=Option.some.inj (Value.map.inj (Option.some.inj e1))
   subst e1
   have hrun:=e2.len ht o.type
   rw [e3.size] at hrun
   exact ⟨.int .i64 l.length,w,S,m,by simp [execOp,ho,resolve,hc,invoke,builtin,hargsA,htsA,vm,hrun],hR,by simp only [CV]; exact ⟨trivial,by show _∧_; omega⟩⟩
  ·exact H.elim
 ·exact H.elim
end Go.Proofs.YtgbbmadjdaphnaaGreatDoor
