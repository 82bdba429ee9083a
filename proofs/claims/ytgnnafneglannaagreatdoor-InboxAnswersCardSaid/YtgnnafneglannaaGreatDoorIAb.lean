import Derived.Test.YtgnnafneglannaaGreatDoorIAa
import Derived.Laws.AppendOwnNone
import Derived.Laws.MakeOwn
import Derived.Laws.CopyRow
import Derived.Laws.IdiomCopy
import Derived.Laws.BytesArg
import Derived.Lib.ConvBytes
import Derived.Laws.Externs
import Derived.Lib.SliceRun
set_option maxRecDepth 100000
namespace Go.Proofs.YtgnnafneglannaaGreatDoor
open Go
open Go.RowKit (Below)
set_option linter.unusedVariables false
set_option linter.unusedSimpArgs false
theorem CVl.append {S:Pin} {m:Nm}:∀ {xs ys:List AV} {us vs:List Value},CVl S xs m us→CVl S ys m vs→CVl S (xs++ys) m (us++vs)
 | [],ys,us,vs,h,k=>by simp only [CVl] at h; subst h; exact k
 | x::xs,ys,us,vs,h,k=>by
  simp only [CVl] at h
  obtain ⟨u,us',rfl,h1,h2⟩:=h
  simp only [List.cons_append,CVl]
  exact ⟨u,us'++vs,rfl,h1,CVl.append h2 k⟩
theorem flat_len {α:Type} {s:Nat}:∀ {zs:List (List α)},(∀ z ∈ zs,z.length=s)→zs.flatten.length=zs.length*s
 | [],_=>by simp
 | z::zs,h=>by
  simp only [List.flatten_cons,List.length_append,List.length_cons,Nat.succ_mul]
  rw [flat_len (fun y hy=>h y (List.mem_cons_of_mem _ hy)),h z List.mem_cons_self]; omega
theorem flat_get {α:Type} {s:Nat}:∀ {zs:List (List α)},(∀ z ∈ zs,z.length=s)→∀ {j i:Nat} {x:List α} {y:α},zs[j]?=some x→x[i]?=some y→zs.flatten[j*s+i]?=some y
 | [],_,j,i,x,y,h,_=>by simp at h
 | z::zs,h,j,i,x,y,hj,hi=>by
  have hz:=h z List.mem_cons_self
  cases j with
  | zero =>
   simp at hj
   subst hj
   have:i < z.length:=(List.getElem?_eq_some_iff.1 hi).1
   simp only [List.flatten_cons,Nat.zero_mul,Nat.zero_add]
   rw [List.getElem?_append_left this]; exact hi
  | succ j =>
   simp at hj
   simp only [List.flatten_cons]
   rw [List.getElem?_append_right (by rw [hz,Nat.succ_mul]; omega),hz,show (j+1)*s+i - s=j*s+i by rw [Nat.succ_mul]; omega]
   exact flat_get (fun y hy=>h y (List.mem_cons_of_mem _ hy)) hj hi
theorem CVl_flat {S:Pin} {m:Nm} {s:Nat}:∀ {zs:List (List AV)} {vals:List Value},vals.length=zs.length*s→(∀ (j:Nat) (x:List AV),zs[j]?=some x→x.length=s∧∀ (i:Nat) (y:AV),x[i]?=some y→∃ v,vals[j*s+i]?=some v∧CV S y m v)→CVl S zs.flatten m vals
 | [],vals,hl,_=>by
  have:vals=[]:=List.eq_nil_of_length_eq_zero (by simpa using hl)
  subst this
  simp only [List.flatten_nil,CVl]
 | z::zs,vals,hl,h=>by
  have h0:=h 0 z rfl
  simp only [List.length_cons,Nat.succ_mul] at hl
  have e:vals=vals.take s++vals.drop s:=(List.take_append_drop s vals).symm
  rw [List.flatten_cons,e]
  have a1:CVl S z m (vals.take s):=by
   refine CVl.mk (by simp; omega) (fun i y v e1 e2=>?_)
   obtain ⟨u,hu,hy⟩:=h0.2 i y e1
   rw [List.getElem?_take] at e2
   split at e2
   ·simp only [Nat.zero_mul,Nat.zero_add] at hu
    rw [hu] at e2
    injection e2 with e2
    subst e2; exact hy
   ·cases e2
  have a2:CVl S zs.flatten m (vals.drop s):=CVl_flat (s:=s) (by simp; omega) (fun j x hj=>by
   have:=h (j+1) x (by simpa using hj)
   refine ⟨this.1,fun i y hi=>?_⟩
   obtain ⟨v,hv,hy⟩:=this.2 i y hi
   refine ⟨v,?_,hy⟩
   rw [List.getElem?_drop,← hv]
   congr 1
   rw [Nat.succ_mul]; omega)
  clear e
  exact a1.append a2
theorem CE.vals {S:Pin}:∀ {xs:List (List AV)} {s b o:Nat},CE S xs s b o→(∀ z ∈ xs,z.length=s)∧∃ vs:List Value,vs.length=xs.length*s∧CVl S xs.flatten noNm vs∧∀ (j:Nat) (v:Value),vs[j]?=some v→S b (o+j)=some v
 | [],_,_,_,_=>⟨by simp,[],by simp,by simp only [List.flatten_nil,CVl],by simp⟩
 | x::xs,s,b,o,h=>by
  simp only [CE] at h
  obtain ⟨h1,h2,h3⟩:=h
  obtain ⟨vs,e1,e2⟩:=h2.vals
  obtain ⟨hl,us,e3,e4,e5⟩:=CE.vals h3
  have hvl:=e2.len
  refine ⟨fun z hz=>?_,vs++us,?_,?_,fun j v e=>?_⟩
  ·rcases List.mem_cons.1 hz with rfl | hz
   ·exact h1
   ·exact hl z hz
  ·simp only [List.length_append,List.length_cons,Nat.succ_mul]; omega
  ·rw [List.flatten_cons]
   exact e2.append e4
  ·by_cases hj:j < vs.length
   ·rw [List.getElem?_append_left hj] at e
    exact e1 j v e
   ·rw [List.getElem?_append_right (by omega)] at e
    have:=e5 _ v e
    rw [← this]
    congr 1
    omega
theorem row_of_flat {S:Pin} {s:Nat} {zs:List (List AV)} (hz:∀ z ∈ zs,z.length=s) {cur:Array Value} {vals:List Value} {m0:Nm} (hc:CVl S zs.flatten m0 vals) (h1:∀ v ∈ vals,v.oneCell'=true) (ht:cur.toList.take (zs.length*s)=vals) :
  ∀ (j:Nat) (x:List AV),zs[j]?=some x→x.length=s∧∀ (i:Nat) (y:AV),x[i]?=some y→∃ v,cur[j*s+i]?=some v∧v.oneCell'=true∧CV S y m0 v:=by
 intro j x hj
 refine ⟨hz x (List.mem_of_getElem? hj),fun i y hi=>?_⟩
 obtain ⟨v,hv,hy⟩:=hc.get (flat_get hz hj hi)
 refine ⟨v,?_,h1 v (List.mem_of_getElem? hv),hy⟩
 rw [← ht,List.getElem?_take] at hv
 split at hv
 ·simpa using hv
 ·cases hv
theorem all_len {s:Nat} {xs:List (List AV)} (h:∀ (j:Nat) (x:List AV),xs[j]?=some x→x.length=s):∀ z ∈ xs,z.length=s:=by
 intro z hz
 obtain ⟨j,hj,rfl⟩:=List.getElem_of_mem hz
 exact h j _ (List.getElem?_eq_getElem hj)
theorem Held.vals {S:Pin} {m:Nm} {w:World} {k e s:Nat} {xs:List (List AV)} (h:Held S m w k (.row e s xs)) :
  ∃ A c,m k=some (.iface 0 (.slice A xs.length c))∧xs.length≤c∧c≤maxLen∧(∀ z ∈ xs,z.length=s)∧((A=none∧c=0)∨∃ g cur fr,A=some ⟨g,0,none⟩∧w.heap[g]?=some (.cells cur (rowTy e) fr)∧RowMk e cur.size fr∧cur.size=c*s∧(∀ o,S g o=none)) ∧
   ∃ vals,vals.length=xs.length*s∧CVl S xs.flatten (rowNm e m) vals∧(∀ v ∈ vals,v.oneCell'=true)∧((A=none∧c=0)∨∃ g cur fr,A=some ⟨g,0,none⟩∧w.heap[g]?=some (.cells cur (rowTy e) fr)∧RowMk e cur.size fr∧cur.size=c*s∧cur.toList.take (xs.length*s)=vals)∧∀ g,A=some ⟨g,0,none⟩→∀ (j:Nat) (v:Value),vals[j]?=some v→w.cell? ⟨g,j,none⟩=some v:=by
 obtain ⟨A,c,h1,h2,h3,h4⟩:=h
 refine ⟨A,c,h1,h2,h3,?_⟩
 rcases h4 with ⟨rfl,rfl⟩ | ⟨g,cur,fr,rfl,h5,hfr,h6,h7,h8⟩
 ·have hx:xs=[]:=List.eq_nil_of_length_eq_zero (by omega)
  subst hx
  exact ⟨by simp,.inl ⟨rfl,rfl⟩,[],by simp,by simp only [List.flatten_nil,CVl],by simp,.inl ⟨rfl,rfl⟩,fun g e=>by cases e⟩
 ·have hlen:=all_len (fun j x hj=>(h8 j x hj).1)
  have hle:xs.length*s≤cur.size:=by rw [h6]; exact Nat.mul_le_mul_right s h2
  have hl:(cur.toList.take (xs.length*s)).length=xs.length*s:=by have h9:=Array.length_toList (xs:=cur); rw [List.length_take]; omega
  refine ⟨hlen,.inr ⟨g,cur,fr,rfl,h5,hfr,h6,h7⟩,cur.toList.take (xs.length*s),hl,CVl_flat hl (fun j x hj=>⟨(h8 j x hj).1,fun i y hi=>?_⟩),?_,.inr ⟨g,cur,fr,rfl,h5,hfr,h6,rfl⟩,fun g' e j v hv=>?_⟩
  ·obtain ⟨v,hv,_,hy⟩:=(h8 j x hj).2 i y hi
   refine ⟨v,?_,hy⟩
   have hjl:j < xs.length:=(List.getElem?_eq_some_iff.1 hj).1
   have hil:i < s:=by have:=(List.getElem?_eq_some_iff.1 hi).1; rw [(h8 j x hj).1] at this; exact this
   have:j*s+s≤xs.length*s:=by rw [← Nat.succ_mul]; exact Nat.mul_le_mul_right s hjl
   rw [List.getElem?_take,if_pos (by omega)]
   simpa using hv
  ·intro v hv
   obtain ⟨p,hp,rfl⟩:=List.getElem_of_mem hv
   rw [hl] at hp
   have hs:0 < s:=by
    rcases Nat.eq_zero_or_pos s with h | h
    ·subst h; simp at hp
    ·exact h
   have hj:p / s < xs.length:=Nat.div_lt_of_lt_mul (by rw [Nat.mul_comm]; exact hp)
   have hi:p % s < s:=Nat.mod_lt _ hs
   have e1:=List.getElem?_eq_getElem hj
   obtain ⟨hz,hc⟩:=h8 _ _ e1
   have e2:=List.getElem?_eq_getElem (show p % s < (xs[p / s]).length by rw [hz]; exact hi)
   obtain ⟨u,hu,ho,_⟩:=hc _ _ e2
   have hp2:p / s*s+p % s=p:=Nat.div_add_mod' p s
   rw [hp2] at hu
   have:(cur.toList.take (xs.length*s))[p]'(by rw [hl]; exact hp)=u:=by
    have h9:(cur.toList.take (xs.length*s))[p]?=some u:=by
     rw [List.getElem?_take,if_pos hp]; simpa using hu
    rw [List.getElem?_eq_getElem (by rw [hl]; exact hp)] at h9
    exact Option.some.inj h9
   rw [this]; exact ho
  ·injection e with e
   injection e with e
   subst e
   rw [cell_of_row w g j cur _ fr h5]
   rw [List.getElem?_take] at hv
   split at hv
   ·simpa using hv
   ·cases hv
theorem flat_sub {α:Type} {s:Nat}:∀ (l:List (List α)) (p q:Nat),(∀ z ∈ l,z.length=s)→((l.drop p).take q).flatten=(l.flatten.drop (p*s)).take (q*s)
 | [],p,q,_=>by simp
 | z::l,0,0,_=>by simp
 | z::l,0,q+1,hl=>by
  have hz:=hl z List.mem_cons_self
  have:=flat_sub l 0 q (fun y hy=>hl y (List.mem_cons_of_mem _ hy))
  simp only [List.drop_zero,Nat.zero_mul] at this ⊢
  rw [List.take_succ_cons,List.flatten_cons,List.flatten_cons,this,List.take_append,hz,Nat.succ_mul,show q*s+s - s=q*s by omega]
  rw [List.take_of_length_le (l:=z) (by rw [hz]; omega)]
 | z::l,p+1,q,hl=>by
  have hz:=hl z List.mem_cons_self
  have:=flat_sub l p q (fun y hy=>hl y (List.mem_cons_of_mem _ hy))
  rw [List.drop_succ_cons,this,List.flatten_cons,List.drop_append,hz,Nat.succ_mul,show p*s+s - s=p*s by omega]
  rw [@List.drop_eq_nil_of_le _ z _ (by rw [hz]; omega),List.nil_append]
def srcK (h:Nat→Option Blk) (s:Nat):AV→(List (List AV)→List Nat→Prop)→Prop
 | .nils,k=>k [] []
 | .rw j s' n,k=>(match h j with | some (.row e2 s2 xs)=>cond (Nat.beq s s'&&Nat.beq s s2&&Nat.blt e2 2000000) (chk (n=xs.length) (k xs [j])) False | _=>False)
 | .mw j s' q eo n _,k=>(match h j with | some (.row e2 s2 xs)=>cond (Nat.beq s s'&&Nat.beq s s2&&Nat.blt e2 2000000) (chk (q=xs.length∧eo+n≤xs.length) (k ((xs.drop eo).take n) [j])) False | _=>False)
 | x,k=>viewS x fun s' _ ys=>cond (Nat.beq s s') (k ys []) False
def Src (S:Pin) (m0:Nm) (w:World) (s:Nat) (ys:List (List AV)) (v:Value):Prop :=
 ∃ A c,v=.slice A ys.length c∧ys.length≤c∧(∀ z ∈ ys,z.length=s)∧∃ news:List Value,news.length=ys.length*s∧CVl S ys.flatten m0 news∧(∀ u ∈ news,u.oneCell'=true) ∧
  ((A=none∧c=0)∨∃ a,A=some a∧∀ (j:Nat) (u:Value),news[j]?=some u→w.cell? (a.add j)=some u)
theorem srcK_sound {h:Nat→Option Blk} {s:Nat} {x:AV} {k:List (List AV)→List Nat→Prop} (H:srcK h s x k):∃ ys rd,k ys rd∧∀ (G:Gh) (kp:List Nat) (st:St) (a:Act) (w:World) (S:Pin) (m:Nm) (v:Value),Rel G kp st a w S m→(∀ j ∈ rd,lk st.heap j=h j)→CV S x m v→Src S noNm w s ys v:=by
 have view:∀ {x:AV},viewS x (fun s' _ ys=>cond (Nat.beq s s') (k ys []) False)→∃ ys rd,k ys rd∧∀ (G:Gh) (kp:List Nat) (st:St) (a:Act) (w:World) (S:Pin) (m:Nm) (v:Value),Rel G kp st a w S m→(∀ j ∈ rd,lk st.heap j=h j)→CV S x m v→Src S noNm w s ys v:=by
  intro x H
  obtain ⟨s',f,ys,H,hx⟩:=viewS_sound H
  obtain ⟨hs,H1⟩:=cond_F H
  have hs:=Nat.eq_of_beq_eq_true hs
  subst hs
  refine ⟨ys,[],H1,fun G kp st a w S m v hR _ hv=>?_⟩
  obtain ⟨A,c,rfl,h1,h2,h3,h4,h5⟩:=hx S m v hv
  cases A with
  | none =>
   have hc:=h4 rfl
   have hy:ys=[]:=List.eq_nil_of_length_eq_zero (by omega)
   subst hy
   exact ⟨none,c,rfl,by simp,by simp,[],by simp,by simp only [List.flatten_nil,CVl],by simp,.inl ⟨rfl,hc⟩⟩
  | some ad =>
   obtain ⟨p1,p2⟩:=h5 ad rfl
   obtain ⟨q1,news,q2,q3,q4⟩:=p2.vals
   refine ⟨some ad,c,rfl,h1,q1,news,q2,q3,fun u hu=>?_,.inr ⟨ad,rfl,fun j u hj=>?_⟩⟩
   ·obtain ⟨j,hj,rfl⟩:=List.getElem_of_mem hu
    exact (hR.agree _ _ _ (q4 j _ (List.getElem?_eq_getElem hj))).2
   ·have p1:=p1 (by
     intro hc0
     have hy:ys.length=0:=by omega
     have:=(List.getElem?_eq_some_iff.1 hj).1
     rw [q2,hy] at this
     omega)
    obtain ⟨b,o,sp⟩:=ad
    simp only at p1
    subst p1
    rw [add_none]
    exact (hR.agree _ _ _ (q4 j u hj)).1
 unfold srcK at H
 split at H
 ·refine ⟨[],[],H,fun G kp st a w S m v hR _ hv=>?_⟩
  simp only [CV] at hv
  subst hv
  exact ⟨none,0,rfl,by simp,by simp,[],by simp,by simp only [List.flatten_nil,CVl],by simp,.inl ⟨rfl,rfl⟩⟩
 ·rename_i j s' n
  split at H
  ·rename_i e s2 xs hj
   obtain ⟨hs,H0⟩:=cond_F H
   simp only [Bool.and_eq_true] at hs
   have hs1:=Nat.eq_of_beq_eq_true hs.1.1
   have hs2:=Nat.eq_of_beq_eq_true hs.1.2
   have hs3:e < 2000000:=Nat.le_of_ble_eq_true hs.2
   subst hs1; subst hs2
   obtain ⟨hn,H1⟩:=chk_iff.1 H0
   refine ⟨xs,[j],H1,fun G kp st a w S m v hR hrd hv=>?_⟩
   obtain ⟨A,c,h1,h2,h3,h4,h5,vals,h6,h7,h8,h9,h10⟩:=(hR.held j _ ((hrd j (by simp)).trans hj)).vals
   rw [rowNm_lo hs3] at h7
   simp only [CV] at hv
   obtain ⟨_,A1,q,c1,p1,p2,p3⟩:=hv
   rw [h1] at p1
   injection p1 with p1
   injection p1 with _ p1
   injection p1 with e1 e2 e3
   subst e1; subst e3
   have hv:=p3 (by omega)
   subst hv
   refine ⟨A,c,by rw [← e2],h2,h4,vals,h6,h7,h8,?_⟩
   rcases h5 with ⟨rfl,rfl⟩ | ⟨g,cur,fr,rfl,_⟩
   ·exact .inl ⟨rfl,rfl⟩
   ·exact .inr ⟨_,rfl,fun i u hi=>by rw [add_none,Nat.zero_add]; exact h10 g rfl i u hi⟩
  ·exact H.elim
 ·rename_i j s' q eo n f
  split at H
  ·rename_i e s2 xs hj
   obtain ⟨hs,H0⟩:=cond_F H
   simp only [Bool.and_eq_true] at hs
   have hs1:=Nat.eq_of_beq_eq_true hs.1.1
   have hs2:=Nat.eq_of_beq_eq_true hs.1.2
   have hs3:e < 2000000:=Nat.le_of_ble_eq_true hs.2
   subst hs1; subst hs2
   obtain ⟨⟨hq,hn⟩,H1⟩:=chk_iff.1 H0
   have hlen:((xs.drop eo).take n).length=n:=by simp; omega
   refine ⟨_,[j],H1,fun G kp st a w S m v hR hrd hv=>?_⟩
   obtain ⟨A,c,h1,h2,h3,h4,h5,vals,h6,h7,h8,h9,h10⟩:=(hR.held j _ ((hrd j (by simp)).trans hj)).vals
   rw [rowNm_lo hs3] at h7
   simp only [CV] at hv
   obtain ⟨A2,c2,rfl,p1,p2,p3,p4,p5,A1,q1,c1,p6,p7,p8⟩:=hv
   rw [h1] at p6
   injection p6 with p6
   injection p6 with _ p6
   injection p6 with e1 e2 e3
   subst e1; subst e3
   have hz':∀ z ∈ (xs.drop eo).take n,z.length=s:=fun z hz=>h4 z (List.mem_of_mem_drop (List.mem_of_mem_take hz))
   by_cases hc2:c2=0
   ·have hn0:n=0:=by omega
    subst hn0
    refine ⟨A2,c2,by rw [hlen],by rw [hlen]; exact p1,hz',[],by simp,by simp only [List.take_zero,List.flatten_nil,CVl],by simp,?_⟩
    cases A2 with
    | none=>exact .inl ⟨rfl,hc2⟩
    | some ad=>exact .inr ⟨ad,rfl,by simp⟩
   ·obtain ⟨g,e4,e5⟩:=p8 (by omega) hc2
    subst e4; subst e5
    have hfl:((xs.drop eo).take n).flatten=(xs.flatten.drop (eo*s)).take (n*s):=by
     exact flat_sub xs eo n h4
    have hpn:eo*s+n*s≤xs.length*s:=by rw [← Nat.add_mul]; exact Nat.mul_le_mul_right s hn
    refine ⟨_,c2,by rw [hlen],by rw [hlen]; exact p1,hz',(vals.drop (eo*s)).take (n*s),by rw [hlen]; simp; omega,by rw [hfl]; exact (h7.drop _).take _,fun u hu=>h8 u (List.mem_of_mem_drop (List.mem_of_mem_take hu)),.inr ⟨_,rfl,fun i u hi=>?_⟩⟩
    rw [add_none]
    rw [List.getElem?_take] at hi
    split at hi
    ·rw [List.getElem?_drop] at hi
     exact h10 g rfl _ u hi
    ·cases hi
  ·exact H.elim
 ·exact view H
def srcO (h:Nat→Option Blk) (s:Nat):AV→(List (List AV)→List Nat→Prop)→Prop
 | .rw j s' n,k=>(match h j with | some (.row _ s2 xs)=>cond (Nat.beq s s'&&Nat.beq s s2&&Nat.blt 0 xs.length) (chk (n=xs.length) (k xs [j])) False | _=>False)
 | _,_=>False
theorem srcO_sound {h:Nat→Option Blk} {s:Nat} {x:AV} {k:List (List AV)→List Nat→Prop} (H:srcO h s x k):∃ ys rd,k ys rd∧0 < ys.length∧∀ (G:Gh) (kp:List Nat) (st:St) (a:Act) (w:World) (S:Pin) (m:Nm) (v:Value),Rel G kp st a w S m→(∀ j ∈ rd,lk st.heap j=h j)→CV S x m v→Src S m w s ys v:=by
 unfold srcO at H
 split at H
 ·rename_i j s' n
  split at H
  ·rename_i e s2 xs hj
   obtain ⟨hs,H0⟩:=cond_F H
   simp only [Bool.and_eq_true] at hs
   have hs1:=Nat.eq_of_beq_eq_true hs.1.1
   have hs2:=Nat.eq_of_beq_eq_true hs.1.2
   have hs3:0 < xs.length:=Nat.le_of_ble_eq_true hs.2
   subst hs1; subst hs2
   obtain ⟨hn,H1⟩:=chk_iff.1 H0
   refine ⟨xs,[j],H1,hs3,fun G kp st a w S m v hR hrd hv=>?_⟩
   obtain ⟨A,c,h1,h2,h3,h4,h5,vals,h6,h7,h8,h9,h10⟩:=(hR.held j _ ((hrd j (by simp)).trans hj)).vals
   have h7:=h7.ext (Ext.refl S) (rowNm_le e m)
   simp only [CV] at hv
   obtain ⟨_,A1,q,c1,p1,p2,p3⟩:=hv
   rw [h1] at p1
   injection p1 with p1
   injection p1 with _ p1
   injection p1 with e1 e2 e3
   subst e1; subst e3
   have hv:=p3 (by omega)
   subst hv
   refine ⟨A,c,by rw [← e2],h2,h4,vals,h6,h7,h8,?_⟩
   rcases h5 with ⟨rfl,rfl⟩ | ⟨g,cur,fr,rfl,_⟩
   ·exact .inl ⟨rfl,rfl⟩
   ·exact .inr ⟨_,rfl,fun i u hi=>by rw [add_none,Nat.zero_add]; exact h10 g rfl i u hi⟩
  ·exact H.elim
 ·exact H.elim
def opnB (h:Nat→Option Blk):AV→Bool
 | .rw j _ _=>(match h j with | some (.row e _ _)=>Nat.ble 2000000 e | _=>false)
 | _=>false
def forceNk (n:Nat) (k:Nat→Prop):Prop:=match n with | 0=>k 0 | m+1=>k (Nat.succ m)
theorem forceNk_eq (n:Nat) (k:Nat→Prop):forceNk n k=k n:=by cases n <;> rfl
def forceAL:List AV→(List AV→Prop)→Prop
 | [],k=>k []
 | x::l,k=>forceA x fun x=>forceAL l fun l=>k (x::l)
theorem forceAL_eq:∀ (l:List AV) (k:List AV→Prop),forceAL l k=k l
 | [],k=>rfl
 | x::l,k=>by simp only [forceAL,forceA_eq]; exact forceAL_eq l _
def forceLL:List (List AV)→(List (List AV)→Prop)→Prop
 | [],k=>k []
 | x::l,k=>forceAL x fun x=>forceLL l fun l=>k (x::l)
theorem forceLL_eq:∀ (l:List (List AV)) (k:List (List AV)→Prop),forceLL l k=k l
 | [],k=>rfl
 | x::l,k=>by simp only [forceLL,forceAL_eq]; exact forceLL_eq l _
def fcL (o:Bool) (l:List (List AV)) (k:List (List AV)→Prop):Prop:=cond o (forceLL l k) (k l)
theorem fcL_eq (o:Bool) (l:List (List AV)) (k:List (List AV)→Prop):fcL o l k=k l:=by cases o <;> simp only [fcL,cond_true,cond_false,forceLL_eq]
def fcN (o:Bool) (n:Nat) (k:Nat→Prop):Prop:=cond o (forceNk n k) (k n)
theorem fcN_eq (o:Bool) (n:Nat) (k:Nat→Prop):fcN o n k=k n:=by cases o <;> simp only [fcN,cond_true,cond_false,forceNk_eq]
def tyO (o:Bool) (e:Nat):Nat:=cond o (Nat.add e 2000000) e
def srcG (o:Bool) (h:Nat→Option Blk) (s:Nat) (y:AV) (k:List (List AV)→List Nat→Prop):Prop:=cond o (srcO h s y k) (srcK h s y k)
theorem srcG_sound {o:Bool} {e:Nat} (he:e < 1000000) {h:Nat→Option Blk} {s:Nat} {x:AV} {k:List (List AV)→List Nat→Prop} (H:srcG o h s x k):∃ ys rd,k ys rd∧(o=true→0 < ys.length)∧∀ (G:Gh) (kp:List Nat) (st:St) (a:Act) (w:World) (S:Pin) (m:Nm) (v:Value),Rel G kp st a w S m→(∀ j ∈ rd,lk st.heap j=h j)→CV S x m v→Src S (rowNm (tyO o e) m) w s ys v:=by
 unfold srcG at H
 cases o with
 | true =>
  obtain ⟨ys,rd,h1,h2,h3⟩:=srcO_sound H
  refine ⟨ys,rd,h1,fun _=>h2,fun G kp st a w S m v hR hrd hv=>?_⟩
  rw [rowNm_hi (by show ¬ e+2000000 < 2000000; omega)]
  exact h3 G kp st a w S m v hR hrd hv
 | false =>
  obtain ⟨ys,rd,h1,h3⟩:=srcK_sound H
  refine ⟨ys,rd,h1,(fun q=>by cases q),fun G kp st a w S m v hR hrd hv=>?_⟩
  rw [rowNm_lo (show tyO false e < 2000000 from Nat.lt_trans he (by decide))]
  exact h3 G kp st a w S m v hR hrd hv
theorem rowTy_tyO {e:Nat} (he:e < 1000000) (o:Bool):rowTy (tyO o e)=e:=by
 cases o with
 | true=>exact rowTy_op
 | false=>exact rowTy_lt he
theorem RowMk.tyO {e n:Nat} {fr:Nat × Nat} (he:e < 1000000) {o:Bool} (h:RowMk (tyO o e) n fr):fr=(0,0):=by
 cases o with
 | true=>exact RowMk.op h
 | false=>exact h.lt he
theorem rowNm_set {S:Pin} {e k:Nat} {m:Nm} {u:Value} {xs:List AV} {vs:List Value} (h:CVl S xs (rowNm e m) vs) (hn:2000000≤e→nnl k xs=true):CVl S xs (rowNm e (m.set k u)) vs:=by
 by_cases he:e < 2000000
 ·rw [rowNm_lo he] at h ⊢; exact h
 ·rw [rowNm_hi he] at h ⊢; exact h.set (hn (by omega))
theorem nnl_app {k:Nat}:∀ (a b:List AV),nnl k a=true→nnl k b=true→nnl k (a++b)=true
 | [],b,_,hb=>hb
 | z::a,b,ha,hb=>by
  simp only [nnl,Bool.and_eq_true] at ha
  simp only [List.cons_append,nnl,Bool.and_eq_true]
  exact ⟨ha.1,nnl_app a b ha.2 hb⟩
theorem nnll_flat {k:Nat}:∀ {xs:List (List AV)},nnll k xs=true→nnl k xs.flatten=true
 | [],_=>rfl
 | x::l,h=>by
  simp only [nnll,Bool.and_eq_true] at h
  rw [List.flatten_cons]
  exact nnl_app _ _ h.1 (nnll_flat h.2)
theorem grow_le {m:Nm} {k:Nat} {A A':Option Addr} {n n' c c':Nat} (hm:m k=some (.iface 0 (.slice A n c))) (hlt:n < n'):MLe m (m.set k (.iface 0 (.slice A' n' c'))):=by
 intro j u hj
 by_cases e:j=k
 ·subst e
  rw [hm] at hj
  injection hj with hj
  subst hj
  exact ⟨_,Nm.set_same _ _ _,.inr ⟨_,_,_,_,_,_,hlt,.inr ⟨rfl,rfl⟩⟩⟩
 ·exact ⟨u,by rw [Nm.set_ne m _ e]; exact hj,.refl u⟩
theorem Rel.congr' {G:Gh} {kp:List Nat} {st st':St} {a:Act} {w:World} {S:Pin} {m:Nm} (h:Rel G kp st a w S m) (h1:∀ t,st'.get t=st.get t) (h2:∀ k,lk st'.heap k=lk st.heap k):Rel G kp st' a w S m :=
 h.weaken (fun t v hv=>by rw [h1]; exact hv) (fun k b hk=>by rw [h2] at hk; exact ⟨⟨b,hk⟩,h.held k b hk⟩)
theorem run_append_zero {P:Program} {w:World} {t ty e:TypeId} {i:TypeInfo} (ht:P.underlying t=some (.slice e)) (hi:P.info? e=some i) (A:Option Addr) (n c:Nat) (hn:n≤c) (B:Option Addr) (d:Nat) :
  (Builtin.append_ #[t,t] ty #[.slice A n c,.slice B 0 d]).run P w=.ok (.slice A n c) w:=by
 have hf:(Builtin.firstCells i.size 0 (.slice B 0 d)).run P w=.ok #[] w:=by
  cases B with
  | none=>simp [Builtin.firstCells]
  | some b=>simp [Builtin.firstCells,loadCells,loadCellsFrom]
 cases A with
 | none=>simp [Builtin.append_,run_underlying ht,sizeOf,typeInfo,hi,Builtin.lenOf,hn,hf]
 | some a=>simp [Builtin.append_,run_underlying ht,sizeOf,typeInfo,hi,Builtin.lenOf,hn,hf,storeCells]
theorem row_append {P:Program} {w:World} {t ty e:TypeId} {i:TypeInfo} {z:Value} (ht:P.underlying t=some (.slice e)) (hi:P.info? e=some i) (hz:i.zero=some z) (hzs:z.cells.size=i.size)
  {A:Option Addr} {n c:Nat} {vals:List Value} (hn:n≤c) (hl:vals.length=n*i.size)
  (hA:(A=none∧c=0)∨∃ g cur,A=some ⟨g,0,none⟩∧w.heap[g]?=some (.cells cur e (0,0))∧cur.size=c*i.size∧cur.toList.take (n*i.size)=vals)
  {a:Addr} {m d:Nat} {news:List Value} (hm:news.length=m*i.size) (hnews:∀ j u,news[j]?=some u→w.cell? (a.add j)=some u) (h1:∀ u ∈ news,u.oneCell'=true) (h0:0 < m) (h63:n+m≤maxLen) (hb:(n+m)*i.bytes≤140737488355328) :
  ∃ A' c' w' cur',(Builtin.append_ #[t,t] ty #[.slice A n c,.slice (some a) m d]).run P w=.ok (.slice A' (n+m) c') w'∧n+m≤c'∧c'≤max c maxLen∧cur'.size=c'*i.size∧cur'.toList.take ((n+m)*i.size)=vals++news ∧
   ((∃ g,A=some ⟨g,0,none⟩∧A'=A∧c'=c∧w'=w.setRow g cur')∨(A'=some ⟨w.heap.size,0,none⟩∧w'=w.drew.alloc (.cells cur' e))):=by
 have h63':n+m≤9223372036854775807:=by unfold maxLen at h63; omega
 have tk:∀ (old:Nat),old < n+m→∀ (us:Array Value),us.toList=vals++news→(us++Builtin.zeroCells z.cells (grownCap w (n+m) old e - (n+m))).size=grownCap w (n+m) old e*i.size∧(us++Builtin.zeroCells z.cells (grownCap w (n+m) old e - (n+m))).toList.take ((n+m)*i.size)=vals++news:=by
  intro old ho us hus
  have hge:=grownCap_ge w (n+m) old e
  have hul:us.size=(n+m)*i.size:=by have:us.toList.length=us.size:=rfl; rw [← this,hus,List.length_append,hl,hm,Nat.add_mul]
  refine ⟨?_,?_⟩
  ·rw [Array.size_append,hul,size_zeroCells,hzs,← Nat.add_mul]
   congr 1; omega
  ·rw [Array.toList_append,List.take_append_of_le_length (by simp; omega),List.take_of_length_le (by simp; omega),hus]
 rcases hA with ⟨rfl,rfl⟩ | ⟨g,cur,rfl,h2,h3,h4⟩
 ·have hn0:n=0:=by omega
  subst hn0
  have hv:vals=[]:=List.eq_nil_of_length_eq_zero (by simpa using hl)
  subst hv
  have hr:=run_append_nil (P:=P) w t ty e i z ht hi hz a m d news hm hnews h0 (by omega) (by simp at hb; omega)
  obtain ⟨q1,q2⟩:=tk 0 (by omega) news.toArray (by simp)
  simp only [Nat.zero_add] at q1 q2 ⊢
  exact ⟨_,_,_,_,hr,grownCap_ge w m 0 e,Nat.le_trans (grownCap_le_maxLen w m 0 e (by omega)) (Nat.le_max_right _ _),q1,q2,.inr ⟨rfl,rfl⟩⟩
 ·by_cases hroom:n+m≤c
  ·have hfit:n*i.size+news.length≤cur.size:=by rw [hm,h3,← Nat.add_mul]; exact Nat.mul_le_mul_right _ hroom
   have hr:=run_append_room (P:=P) w t ty e i ht hi g n c cur h2 a m d news hm hnews h1 hroom hfit
   refine ⟨_,_,_,_,hr,hroom,Nat.le_max_left _ _,?_,?_,.inl ⟨g,rfl,rfl,rfl,rfl⟩⟩
   ·have:=Array.length_toList (xs:=cur)
    simp; omega
   ·have hlen:(cur.toList.take (n*i.size)++news).length=(n+m)*i.size:=by
     rw [h4,List.length_append,hl,hm,Nat.add_mul]
    show ((cur.toList.take (n*i.size)++news)++cur.toList.drop (n*i.size+news.length)).take ((n+m)*i.size)=_
    rw [List.take_append_of_le_length (by omega),List.take_of_length_le (by omega),h4]
  ·have hr:=run_append_grow (P:=P) w t ty e i z ht hi hz ⟨g,0,none⟩ n c vals hl (fun j u hj=>by
    rw [add_none,Nat.zero_add,cell_of_row w g j cur e (0,0) h2]
    rw [← h4,List.getElem?_take] at hj
    split at hj
    ·simpa using hj
    ·cases hj) a m d news hm hnews (by omega) (by omega) (growslice_fits (by omega) hb)
   obtain ⟨q1,q2⟩:=tk c (by omega) (vals.toArray++news.toArray) (by simp)
   exact ⟨_,_,_,_,hr,grownCap_ge w _ _ _,Nat.le_trans (grownCap_le_maxLen w _ _ _ h63) (Nat.le_max_right _ _),q1,q2,.inr ⟨rfl,rfl⟩⟩
theorem full_append {P:Program} {w:World} {t ty e:TypeId} {i:TypeInfo} {z:Value} (ht:P.underlying t=some (.slice e)) (hi:P.info? e=some i) (hz:i.zero=some z) (hzs:z.cells.size=i.size)
  {A:Option Addr} {n:Nat} {vals:List Value} (hl:vals.length=n*i.size)
  (hA:(A=none∧n=0)∨∃ a0,A=some a0∧∀ (j:Nat) (u:Value),vals[j]?=some u→w.cell? (a0.add j)=some u)
  {a:Addr} {m d:Nat} {news:List Value} (hm:news.length=m*i.size) (hnews:∀ j u,news[j]?=some u→w.cell? (a.add j)=some u) (h0:0 < m) (h63:n+m≤maxLen) (hb:(n+m)*i.bytes≤140737488355328) :
  ∃ c' cur',(Builtin.append_ #[t,t] ty #[.slice A n n,.slice (some a) m d]).run P w=.ok (.slice (some ⟨w.heap.size,0,none⟩) (n+m) c') (w.drew.alloc (.cells cur' e))∧n+m≤c'∧c'≤maxLen∧cur'.size=c'*i.size∧cur'.toList.take ((n+m)*i.size)=vals++news:=by
 have h63':n+m≤9223372036854775807:=by unfold maxLen at h63; omega
 have tk:∀ (old:Nat),old < n+m→∀ (us:Array Value),us.toList=vals++news→(us++Builtin.zeroCells z.cells (grownCap w (n+m) old e - (n+m))).size=grownCap w (n+m) old e*i.size∧(us++Builtin.zeroCells z.cells (grownCap w (n+m) old e - (n+m))).toList.take ((n+m)*i.size)=vals++news:=by
  intro old ho us hus
  have hge:=grownCap_ge w (n+m) old e
  have hul:us.size=(n+m)*i.size:=by have:us.toList.length=us.size:=rfl; rw [← this,hus,List.length_append,hl,hm,Nat.add_mul]
  refine ⟨?_,?_⟩
  ·rw [Array.size_append,hul,size_zeroCells,hzs,← Nat.add_mul]
   congr 1; omega
  ·rw [Array.toList_append,List.take_append_of_le_length (by simp; omega),List.take_of_length_le (by simp; omega),hus]
 rcases hA with ⟨rfl,rfl⟩ | ⟨a0,rfl,hold⟩
 ·have hv:vals=[]:=List.eq_nil_of_length_eq_zero (by simpa using hl)
  subst hv
  have hr:=run_append_nil (P:=P) w t ty e i z ht hi hz a m d news hm hnews h0 (by omega) (by simp at hb; omega)
  obtain ⟨q1,q2⟩:=tk 0 (by omega) news.toArray (by simp)
  simp only [Nat.zero_add] at q1 q2 ⊢
  exact ⟨_,_,hr,grownCap_ge w m 0 e,grownCap_le_maxLen w m 0 e (by omega),q1,q2⟩
 ·have hr:=run_append_grow (P:=P) w t ty e i z ht hi hz a0 n n vals hl hold a m d news hm hnews (by omega) (by omega) (growslice_fits (by omega) hb)
  obtain ⟨q1,q2⟩:=tk n (by omega) (vals.toArray++news.toArray) (by simp)
  exact ⟨_,_,hr,grownCap_ge w _ _ _,grownCap_le_maxLen w _ _ _ h63,q1,q2⟩
theorem Rel.regrow {G:Gh} {kp:List Nat} {st:St} {a:Act} {w:World} {S:Pin} {m:Nm} (h:Rel G kp st a w S m) {k:Nat} {b b':Blk} (hk:lk st.heap k=some b) {A A':Option Addr} {n n' c c':Nat} (hm:m k=some (.iface 0 (.slice A n c))) (hlt:n < n') {w':World}
  (hos:w'.os=w.os) (htp:w'.tape=w.tape) (hou:w'.output=w.output) (hsz:w.heap.size≤w'.heap.size) (hb:∀ i,i < w.heap.size→bk (.iface 0 (.slice A n c))≠some i→w'.heap[i]?=w.heap[i]?)
  (hn:∀ g,bk (.iface 0 (.slice A n c))=some g→∀ o,S g o=none) (hA:A'=A∨A'=some ⟨w.heap.size,0,none⟩) (hh:Held S (m.set k (.iface 0 (.slice A' n' c'))) w' k b'):Rel G kp (st.blk k b') a w' S (m.set k (.iface 0 (.slice A' n' c'))):=by
 have hle:MLe m (m.set k (.iface 0 (.slice A' n' c'))):=by
  intro j u hj
  by_cases e:j=k
  ·subst e
   rw [hm] at hj
   injection hj with hj
   subst hj
   exact ⟨_,Nm.set_same _ _ _,.inr ⟨_,_,_,_,_,_,hlt,.inr ⟨rfl,rfl⟩⟩⟩
  ·exact ⟨u,by rw [Nm.set_ne m _ e]; exact hj,.refl u⟩
 have hbk:∀ g,bk (.iface 0 (.slice A' n' c'))=some g→bk (.iface 0 (.slice A n c))=some g∨g=w.heap.size:=by
  intro g hg
  rcases hA with rfl | rfl
  ·left
   cases A' with
   | none=>simp [bk] at hg
   | some ad=>simpa [bk] using hg
  ·right; simp [bk] at hg; exact hg.symm
 have hlk:∀ j,(∃ c,lk (st.blk k b').heap j=some c)→∃ c,lk st.heap j=some c:=by
  rintro j ⟨c,hj⟩
  simp only [St.blk,lk_ins] at hj
  by_cases e:j=k
  ·subst e; exact ⟨b,hk⟩
  ·rw [if_neg e] at hj; exact ⟨c,hj⟩
 have hold:∀ j,j≠k→(m.set k (.iface 0 (.slice A' n' c'))) j=m j:=fun j e=>Nm.set_ne m _ e
 refine { h with defers:=h.defers,agree:=?_,tmps:=fun t=>(h.tmps t).ext (Ext.refl S) hle,held:=?_,inj:=?_,own:=?_,os:=hos.trans h.os,tape:=htp.trans h.tape,output:=hou.trans h.output,size:=Nat.le_trans h.size hsz,frame:=?_,m0:=h.m0.trans hle }
 ·intro c o v e
  refine ⟨?_,(h.agree c o v e).2⟩
  have hne:bk (.iface 0 (.slice A n _))≠some c:=fun q=>by rw [hn c q] at e; cases e
  rw [← (h.agree c o v e).1]
  exact World.cell?_of_block (w:=w) (hb c (h.agree.lt e) hne)
 ·intro j d hj
  simp only [St.blk,lk_ins] at hj
  by_cases e:j=k
  ·subst e
   rw [if_pos rfl] at hj
   injection hj with hj
   subst hj; exact hh
  ·rw [if_neg e] at hj
   refine (h.held j d hj).keep (Ext.refl _) (fun _ _ _ hv=>hv.ext (Ext.refl S) hle) (hold j e) (fun u q hu hq=>⟨hb q ((h.held j d hj).lt hu hq) ?_,fun _=>rfl⟩)
   intro hq'
   exact h.inj k j b d _ u q hk hj (fun e'=>e e'.symm) hm hu hq' hq
 ·intro j j' d d' v v' q hj hj' hne hv hv' hq hq'
  obtain ⟨f,hf⟩:=hlk j ⟨d,hj⟩
  obtain ⟨f',hf'⟩:=hlk j' ⟨d',hj'⟩
  by_cases e:j=k
  ·subst e
   rw [Nm.set_same] at hv
   injection hv with hv
   subst hv
   rw [hold j' (fun q=>hne q.symm)] at hv'
   rcases hbk q hq with h1 | h1
   ·exact h.inj j j' f f' _ v' q hf hf' hne hm hv' h1 hq'
   ·have:=(h.held j' f' hf').lt hv' hq'
    omega
  ·rw [hold j e] at hv
   by_cases e':j'=k
   ·subst e'
    rw [Nm.set_same] at hv'
    injection hv' with hv'
    subst hv'
    rcases hbk q hq' with h1 | h1
    ·exact h.inj j j' f f' v _ q hf hf' hne hv hm hq h1
    ·have:=(h.held j f hf).lt hv hq
     omega
   ·rw [hold j' e'] at hv'
    exact h.inj j j' f f' v v' q hf hf' hne hv hv' hq hq'
 ·intro j d v q hj hv hq
  obtain ⟨f,hf⟩:=hlk j ⟨d,hj⟩
  by_cases e:j=k
  ·subst e
   rw [Nm.set_same] at hv
   injection hv with hv
   subst hv
   rcases hbk q hq with h1 | h1
   ·exact h.own j f _ q hf hm h1
   ·subst h1; exact .inl h.size
  ·rw [hold j e] at hv
   exact h.own j f v q hf hv hq
 ·intro d h1 h2
  have hne:bk (.iface 0 (.slice A n _))≠some d:=fun q=>by
   rcases h.own k b _ d hk hm q with h3 | h3
   ·omega
   ·exact h2 h3
  exact (hb d (Nat.lt_of_lt_of_le h1 h.size) hne).trans (h.frame d h1 h2)
def aapp (P:Program) (kp:List Nat) (st:St) (nm:Nat) (ts:List TypeId) (xs:List AV) (h:Nat→Option Blk) (K:AV→List (Nat × Blk)→List Nat→Prop):Prop :=
 match ts,xs with
 | [t,t'],[x,y]=>(match P.underlying t with
  | some (.slice e)=>(match P.info? e with
   | some i=>cond (Nat.beq t t'&&Nat.blt 0 i.size&&Nat.blt e 1000000) (zeroA P e fun zs=>cond (Nat.beq zs.length i.size) (srcG (opnB h y) h i.size y fun ys rd=>(match x with
    | .nils=>cond (fresh kp st nm&&!(inL nm rd)&&(!(opnB h y)||nnll nm ys)) (chk (ys.length≤9223372036854775807∧ys.length*i.bytes≤140737488355328) (fcN (opnB h y) ys.length fun n=>fcN (opnB h y) (tyO (opnB h y) e) fun e2=>K (.rw nm i.size n) [(nm,.row e2 i.size ys)] rd)) False
    | .rw k s n=>(match h k with
     | some (.row e' s' xs)=>cond ((Nat.beq e e'||(opnB h y&&Nat.beq (tyO (opnB h y) e) e'))&&Nat.beq i.size s&&Nat.beq i.size s') (chk (n=xs.length∧xs.length+ys.length≤9223372036854775807∧(xs.length+ys.length)*i.bytes≤140737488355328) (fcL (opnB h y) (xs++ys) fun zs=>fcN (opnB h y) zs.length fun n=>fcN (opnB h y) (tyO (opnB h y) e) fun e2=>K (.rw k i.size n) [(k,.row e2 i.size zs)] (k::rd))) False
     | _=>False)
    | .sl s f zs=>cond (f&&fresh kp st nm&&!(inL nm rd)&&!(opnB h y)&&Nat.beq i.size s) (chk (0 < ys.length∧zs.length+ys.length≤9223372036854775807∧(zs.length+ys.length)*i.bytes≤140737488355328) (K (.rw nm i.size (zs++ys).length) [(nm,.row e i.size (zs++ys))] rd)) False
    | _=>False)) False) False
   | none=>False)
  | _=>False)
 | _,_=>False
theorem CV.rw_mk {S:Pin} {m:Nm} {k s n:Nat} {A:Option Addr} {c:Nat} (hm:m k=some (.iface 0 (.slice A n c))) (h1:n≤c) (h2:c≤maxLen) (hA:(A=none∧c=0)∨∃ g,A=some ⟨g,0,none⟩):CV S (.rw k s n) m (.slice A n c):=by
 simp only [CV]
 refine ⟨⟨A,c,rfl,h1,h2,fun e=>?_,fun a e=>?_⟩,A,n,c,hm,Nat.le_refl _,fun _=>rfl⟩
 ·rcases hA with h | ⟨g,h⟩
  ·exact h.2
  ·rw [h] at e; cases e
 ·rcases hA with h | ⟨g,h⟩
  ·rw [h.1] at e; cases e
  ·rw [h] at e; injection e with e; exact ⟨g,e.symm⟩
theorem aapp_sound {P:Program} {E:Env} {kp:List Nat} {st0:St} {nt nm:Nat} {o:Oper} {c:Call} {ev:Operand→AV} {h:Nat→Option Blk} {K:AV→List (Nat × Blk)→List Nat→Prop} (ho:o.op=.call c) (hc:c.callee=.builtin .append) (hd:dstOk nt o.dst=true)
  (H:aapp P kp st0 nm c.argTypes.toList (c.args.toList.map ev) h K):∃ r u rd,K r u rd∧(∀ p ∈ u,p.1 ∉ rd→fresh kp st0 p.1=true)∧Good P E nt o ev h r u rd:=by
 unfold aapp at H
 split at H
 ·rename_i t t' x y hts hxs
  split at H
  ·rename_i e ht
   split at H
   ·rename_i i hi
    obtain ⟨hb,H1⟩:=cond_F H
    clear H
    simp only [Bool.and_eq_true] at hb
    have ett:=Nat.eq_of_beq_eq_true hb.1.1
    subst ett
    have hpos:0 < i.size:=Nat.le_of_ble_eq_true hb.1.2
    have hle:e < 1000000:=Nat.le_of_ble_eq_true hb.2
    obtain ⟨i',z,hi',hz,H2,_⟩:=zeroA_sound H1
    clear H1
    rw [hi] at hi'
    injection hi' with hi'
    subst hi'
    obtain ⟨hzl,H3⟩:=cond_F H2
    clear H2
    have hzs:z.cells.size=i.size:=by
     have:=Nat.eq_of_beq_eq_true hzl
     have h9:=(ofVs_cv (fun _ _=>none) noNm z.cells.toList).len
     simp only [Array.length_toList] at h9
     omega
    generalize opnB h y=op at H3
    obtain ⟨ys,rd,H4,hopn,hsrc⟩:=srcG_sound hle H3
    clear H3
    obtain ⟨ox,oy,hargs,hox,hoy⟩:∃ ox oy,c.args.toList=[ox,oy]∧ev ox=x∧ev oy=y:=by
     cases hq:c.args.toList with
     | nil=>rw [hq] at hxs; simp at hxs
     | cons p l =>
      cases l with
      | nil=>rw [hq] at hxs; simp at hxs
      | cons q l =>
       cases l with
       | nil=>rw [hq] at hxs; simp at hxs; exact ⟨p,q,rfl,hxs.1,hxs.2⟩
       | cons r l=>rw [hq] at hxs; simp at hxs
    have hargsA:c.args=#[ox,oy]:=by rw [← Array.toArray_toList (xs:=c.args),hargs]
    have htsA:c.argTypes=#[t,t]:=by rw [← Array.toArray_toList (xs:=c.argTypes),hts]
    have mx:ox ∈ o.op.operands:=by rw [ho]; simp [Op.operands,Call.operands,hc,hargsA]
    have my:oy ∈ o.op.operands:=by rw [ho]; simp [Op.operands,Call.operands,hc,hargsA]
    have hrun:∀ (a:Act) (w:World) (r:Value) (w':World),(Builtin.append_ #[t,t] o.type #[a.eval ox,a.eval oy]).run P w=.ok r w'→(execOp a.eval o).run P w=.ok (.value r) w':=by
     intro a w r w' hr
     simp [execOp,ho,resolve,hc,invoke,builtin,hargsA,htsA,hr]
    split at H4
    ·
     obtain ⟨hf0,H5⟩:=cond_F H4
     simp only [Bool.and_eq_true,Bool.not_eq_true'] at hf0
     obtain ⟨⟨hf,hnrd⟩,hnnm⟩:=hf0
     have hnnm:2000000≤tyO op e→nnl nm ys.flatten=true:=fun q=>by
      cases op with
      | false=>exact absurd (Nat.lt_of_lt_of_le hle (Nat.le_trans (by decide) (show 2000000≤e from q))) (Nat.lt_irrefl _)
      | true=>exact nnll_flat (by simpa using hnnm)
     obtain ⟨⟨hlen,hby⟩,H6⟩:=chk_iff.1 H5
     simp only [fcN_eq] at H6
     refine ⟨_,_,_,H6,fun p hp _=>by simp at hp; subst hp; exact hf,good_value hd fun G kp st a w S m hG hR he hrd hfr=>?_⟩
     have hx:=he ox mx
     have hy:=he oy my
     rw [hox] at hx
     rw [hoy] at hy
     simp only [CV] at hx
     have hfr':fresh kp st nm=true:=hfr (nm,.row (tyO op e) i.size ys) (by simp) (inL_mem hnrd)
     obtain ⟨A,d,hv,hyd,hzl2,news,hnl,hnc,hn1,hnA⟩:=hsrc G kp st a w S m _ hR hrd hy
     have hSn:∀ g,w.heap.size≤g→∀ o,S g o=none:=by
      intro g hg o
      cases e:S g o with
      | none=>rfl
      | some v=>have:=hR.agree.lt e; omega
     by_cases hm0:ys.length=0
     ·have hys:ys=[]:=List.eq_nil_of_length_eq_zero hm0
      subst hys
      refine ⟨.slice none 0 0,w,S,m.set nm (.iface 0 (.slice none 0 0)),hrun a w _ _ ?_,?_,?_⟩
      ·rw [hx,hv]; exact run_append_zero ht hi none 0 0 (Nat.le_refl _) A d
      ·refine hR.fresh_ hfr' (Below.refl _ _) (Ext.refl _) (fun _ _ _=>rfl) hR.agree (fun g hg=>by simp [bk] at hg) ?_
       exact ⟨none,0,Nm.set_same _ _ _,Nat.le_refl _,by unfold maxLen; omega,.inl ⟨rfl,rfl⟩⟩
      ·exact CV.rw_mk (Nm.set_same _ _ _) (Nat.le_refl _) (by unfold maxLen; omega) (.inl ⟨rfl,rfl⟩)
     ·rcases hnA with ⟨rfl,rfl⟩ | ⟨ad,rfl,hcell⟩
      ·omega
      ·obtain ⟨A',c',w',cur',hr,q1,q2,q3,q4,q5⟩:=row_append (ty:=o.type) (w:=w) ht hi hz hzs (A:=none) (n:=0) (c:=0) (vals:=[]) (Nat.le_refl _) (by simp) (.inl ⟨rfl,rfl⟩) hnl hcell hn1 (by omega) (by unfold maxLen; omega) (by rw [Nat.zero_add]; exact hby)
       rcases q5 with ⟨g,hg,_⟩ | ⟨rfl,rfl⟩
       ·cases hg
       ·simp only [Nat.zero_add,List.nil_append] at hr q1 q4
        have hmx:c'≤maxLen:=by simpa using q2
        refine ⟨_,_,S,m.set nm (.iface 0 (.slice (some ⟨w.heap.size,0,none⟩) ys.length c')),hrun a w _ _ (by rw [hx,hv]; exact hr),?_,?_⟩
        ·refine hR.fresh_ hfr' (((Below.refl _ _).drew).alloc (Nat.le_refl _) _) (Ext.refl _) (fun _ _ _=>rfl) ?_ (fun g hg=>by simp [bk] at hg; omega) ?_
         ·intro b o v e
          refine ⟨?_,(hR.agree b o v e).2⟩
          rw [World.cell?_alloc_lt _ _ _ (by simpa using hR.agree.lt e)]
          exact (hR.agree b o v e).1
         ·exact ⟨_,c',Nm.set_same _ _ _,q1,hmx,.inr ⟨w.heap.size,cur',(0,0),rfl,by rw [rowTy_tyO hle]; exact heap_alloc_new w.drew _,.none,q3,hSn _ (Nat.le_refl _),row_of_flat hzl2 (rowNm_set hnc hnnm) hn1 q4⟩⟩
        ·exact CV.rw_mk (Nm.set_same _ _ _) q1 hmx (.inr ⟨_,rfl⟩)
    ·rename_i k s n
     split at H4
     ·rename_i e' s' xs hk
      obtain ⟨hb2,H5⟩:=cond_F H4
      simp only [Bool.and_eq_true] at hb2
      obtain ⟨⟨b1,b2⟩,b3⟩:=hb2
      have b1:e'=e∨(op=true∧e'=tyO op e):=by
       simp only [Bool.or_eq_true,Bool.and_eq_true] at b1
       rcases b1 with b1 | b1
       ·exact .inl (Nat.eq_of_beq_eq_true b1).symm
       ·exact .inr ⟨b1.1,(Nat.eq_of_beq_eq_true b1.2).symm⟩
      have b2:=Nat.eq_of_beq_eq_true b2
      have b3:=Nat.eq_of_beq_eq_true b3
      obtain ⟨⟨hnx,hlen,hby⟩,H6⟩:=chk_iff.1 H5
      simp only [fcN_eq,fcL_eq] at H6
      refine ⟨_,_,_,H6,fun p hp hnot=>by simp at hp; subst hp; exact absurd (List.mem_cons_self) hnot,good_value hd fun G kp st a w S m hG hR he hrd hfr=>?_⟩
      have hx:=he ox mx
      have hy:=he oy my
      rw [hox] at hx
      rw [hoy] at hy
      have hks:lk st.heap k=some (.row e' s' xs):=by rw [hrd k (by simp)]; exact hk
      have hty:rowTy e'=e:=by
       rcases b1 with b1 | b1
       ·rw [b1]; exact rowTy_lt hle
       ·rw [b1.2]; exact rowTy_tyO hle op
      have hfr1:∀ {n:Nat} {fr:Nat × Nat},RowMk e' n fr→fr=(0,0):=fun rf=>by
       rcases b1 with b1 | b1
       ·exact RowMk.lt (b1 ▸ rf) hle
       ·exact RowMk.tyO hle (b1.2 ▸ rf)
      have hnm:∀ m:Nm,MLe (rowNm e' m) (rowNm (tyO op e) m):=fun m=>by
       rcases b1 with b1 | b1
       ·rw [b1,rowNm_lo (Nat.lt_trans hle (by decide))]; exact MLe.no _
       ·rw [b1.2]; exact MLe.refl _
      have hheld:=hR.held k _ hks
      rw [← b3] at hheld
      obtain ⟨A,c0,h1,h2,h3,h4,h5,vals,h6,h7,h8,h9,h10⟩:=hheld.vals
      have h7:=h7.ext (Ext.refl S) (hnm m)
      simp only [CV] at hx
      obtain ⟨_,A1,q,c1,p1,p2,p3⟩:=hx
      rw [h1] at p1
      injection p1 with p1
      injection p1 with _ p1
      injection p1 with e1 e2 e3
      subst e1; subst e3
      have hxv:=p3 (by omega)
      rw [← e2] at hxv
      obtain ⟨B,d,hv,hyd,hzl2,news,hnl,hnc,hn1,hnA⟩:=hsrc G kp st a w S m _ hR (fun j hj=>hrd j (List.mem_cons_of_mem _ hj)) hy
      have hz':∀ z ∈ xs++ys,z.length=i.size:=fun z hz=>by
       rcases List.mem_append.1 hz with hz | hz
       ·exact h4 z hz
       ·exact hzl2 z hz
      have hAr:(A=none∧c0=0)∨∃ g,A=some ⟨g,0,none⟩:=by
       rcases h5 with h | ⟨g,_,_,h,_⟩
       ·exact .inl h
       ·exact .inr ⟨g,h⟩
      by_cases hm0:ys.length=0
      ·have hys:ys=[]:=List.eq_nil_of_length_eq_zero hm0
       subst hys
       rw [List.append_nil]
       refine ⟨.slice A xs.length c0,w,S,m,hrun a w _ _ ?_,?_,?_⟩
       ·rw [hxv,hv]; exact run_append_zero ht hi A xs.length c0 h2 B d
       ·refine hR.congr' (fun t=>rfl) (fun j=>?_)
        simp only [St.blks,St.blk,lk_ins]
        by_cases e:j=k
        ·subst e
         have hop:op=false:=by
          cases op with
          | false=>rfl
          | true=>exact absurd (hopn rfl) (by simp)
         rw [if_pos rfl,hks,b3]
         subst hop
         rcases b1 with b1 | b1
         ·rw [b1]; rfl
         ·cases b1.1
        ·rw [if_neg e]
       ·exact CV.rw_mk h1 h2 h3 hAr
      ·rcases hnA with ⟨rfl,rfl⟩ | ⟨ad,rfl,hcell⟩
       ·omega
       ·have hA':(A=none∧c0=0)∨∃ g cur,A=some ⟨g,0,none⟩∧w.heap[g]?=some (.cells cur e (0,0))∧cur.size=c0*i.size∧cur.toList.take (xs.length*i.size)=vals:=by
         rcases h9 with h9 | ⟨g,cur,fr,q1,r2,rf,r5,r6⟩
         ·exact .inl h9
         ·have:=hfr1 rf
          subst this
          rw [hty] at r2
          exact .inr ⟨g,cur,q1,r2,r5,r6⟩
        obtain ⟨A',c',w',cur',hr,q1,q2,q3,q4,q5⟩:=row_append (ty:=o.type) (w:=w) ht hi hz hzs h2 h6 hA' hnl hcell hn1 (by omega) (by unfold maxLen; omega) hby
        have hmx:c'≤maxLen:=Nat.le_trans q2 (by rw [Nat.max_eq_right h3]; exact Nat.le_refl _)
        have hct:CVl S (xs++ys).flatten (rowNm (tyO op e) m) (vals++news):=by rw [List.flatten_append]; exact h7.append hnc
        have hon:∀ v ∈ vals++news,v.oneCell'=true:=fun v hv=>by
         rcases List.mem_append.1 hv with hv | hv
         ·exact h8 v hv
         ·exact hn1 v hv
        have hq4:cur'.toList.take ((xs++ys).length*i.size)=vals++news:=by rw [List.length_append]; exact q4
        refine ⟨_,w',S,m.set k (.iface 0 (.slice A' (xs.length+ys.length) c')),hrun a w _ _ (by rw [hxv,hv]; exact hr),?_,?_⟩
        ·rcases q5 with ⟨g,rfl,rfl,rfl,rfl⟩ | ⟨rfl,rfl⟩
         ·obtain ⟨g2,cur,fr,r1,r2,rf,r3,r4⟩:=h5.resolve_left (fun e=>by cases e.1)
          have hfr0:=hfr1 rf
          subst hfr0
          rw [hty] at r2
          injection r1 with r1
          injection r1 with r1
          subst r1
          refine hR.regrow hks h1 (Nat.lt_add_of_pos_right (Nat.pos_of_ne_zero hm0)) rfl rfl rfl (by simp) (fun j hj hne=>setRow_other w g j _ (fun e=>hne (by subst e; rfl))) (fun g' hg' o=>?_) (.inl rfl) ⟨_,c',by rw [List.length_append]; exact Nm.set_same _ _ _,by rw [List.length_append]; exact q1,hmx,.inr ⟨g,cur',(0,0),rfl,by rw [rowTy_tyO hle]; exact setRow_heap w g cur cur' e (0,0) r2,.none,q3,r4,row_of_flat hz' (hct.ext (Ext.refl S) (rowNm_mono _ (grow_le h1 (Nat.lt_add_of_pos_right (Nat.pos_of_ne_zero hm0))))) hon hq4⟩⟩
          simp [bk] at hg'
          subst hg'
          exact r4 o
         ·refine hR.regrow hks h1 (Nat.lt_add_of_pos_right (Nat.pos_of_ne_zero hm0)) rfl rfl rfl (by simp) (fun j hj hne=>Below.heap_alloc w.drew _ j (by simpa using hj)) (fun g' hg' o=>?_) (.inr rfl) ⟨_,c',by rw [List.length_append]; exact Nm.set_same _ _ _,by rw [List.length_append]; exact q1,hmx,.inr ⟨w.heap.size,cur',(0,0),rfl,by rw [rowTy_tyO hle]; exact heap_alloc_new w.drew _,.none,q3,fun o=>?_,row_of_flat hz' (hct.ext (Ext.refl S) (rowNm_mono _ (grow_le h1 (Nat.lt_add_of_pos_right (Nat.pos_of_ne_zero hm0))))) hon hq4⟩⟩
          ·rcases h5 with ⟨rfl,_⟩ | ⟨g2,cur,fr,rfl,r2,rf,r3,r4⟩
           ·simp [bk] at hg'
           ·simp [bk] at hg'
            subst hg'
            exact r4 o
          ·cases e:S w.heap.size o with
           | none=>rfl
           | some v=>have:=hR.agree.lt e; omega
        ·rw [List.length_append]
         refine CV.rw_mk (Nm.set_same _ _ _) q1 hmx ?_
         rcases q5 with ⟨g,h,rfl,_⟩ | ⟨h,_⟩
         ·exact .inr ⟨g,h⟩
         ·exact .inr ⟨_,h⟩
     ·exact H4.elim
    ·
     rename_i s f zs
     obtain ⟨hb2,H5⟩:=cond_F H4
     simp only [Bool.and_eq_true,Bool.not_eq_true'] at hb2
     obtain ⟨⟨⟨⟨rfl,hf⟩,hnrd⟩,hop⟩,hs⟩:=hb2
     have hs:=Nat.eq_of_beq_eq_true hs
     subst hs
     subst hop
     obtain ⟨⟨hm0,hlen,hby⟩,H6⟩:=chk_iff.1 H5
     refine ⟨_,_,_,H6,fun p hp _=>by simp at hp; subst hp; exact hf,good_value hd fun G kp st a w S m hG hR he hrd hfr=>?_⟩
     have hx:=he ox mx
     have hy:=he oy my
     rw [hox] at hx
     rw [hoy] at hy
     have hfr':fresh kp st nm=true:=hfr (nm,.row e i.size (zs++ys)) (by simp) (inL_mem hnrd)
     obtain ⟨zs',_,⟨e1,_⟩,hsx⟩:=srcK_sound (h:=h) (s:=i.size) (x:=.sl i.size true zs) (k:=fun a b=>a=zs∧b=[]) (by simp [srcK,viewS])
     subst e1
     obtain ⟨A0,c0,hv0,hyd0,hzl0,olds,hol,hoc,ho1,hoA⟩:=hsx G kp st a w S m _ hR (fun j hj=>by simp_all) hx
     simp only [CV] at hx
     obtain ⟨A9,c9,hv9,_,_,hfull,_⟩:=hx
     rw [hv0] at hv9
     injection hv9 with e1 e2 e3
     have hc0:c0=zs'.length:=by rw [e3]; exact hfull trivial
     subst hc0
     obtain ⟨A,d,hv,hyd,hzl2,news,hnl,hnc,hn1,hnA⟩:=hsrc G kp st a w S m _ hR hrd hy
     have hSn:∀ g,w.heap.size≤g→∀ o,S g o=none:=by
      intro g hg o
      cases e:S g o with
      | none=>rfl
      | some v=>have:=hR.agree.lt e; omega
     have hlo:tyO false e < 2000000:=Nat.lt_trans hle (by decide)
     rw [rowNm_lo hlo] at hnc
     rcases hnA with ⟨rfl,rfl⟩ | ⟨ad,rfl,hcell⟩
     ·omega
     ·obtain ⟨c',cur',hr,q1,q2,q3,q4⟩:=full_append (ty:=o.type) (w:=w) ht hi hz hzs (A:=A0) (n:=zs'.length) (vals:=olds) hol hoA hnl hcell hm0 (by unfold maxLen; omega) hby
      refine ⟨_,_,S,m.set nm (.iface 0 (.slice (some ⟨w.heap.size,0,none⟩) (zs'++ys).length c')),hrun a w _ _ (by rw [hv0,hv]; exact hr),?_,?_⟩
      ·refine hR.fresh_ hfr' (((Below.refl _ _).drew).alloc (Nat.le_refl _) _) (Ext.refl _) (fun _ _ _=>rfl) ?_ (fun g hg=>by simp [bk] at hg; omega) ?_
       ·intro b o v e
        refine ⟨?_,(hR.agree b o v e).2⟩
        rw [World.cell?_alloc_lt _ _ _ (by simpa using hR.agree.lt e)]
        exact (hR.agree b o v e).1
       ·refine ⟨_,c',Nm.set_same _ _ _,by rw [List.length_append]; exact q1,q2,.inr ⟨w.heap.size,cur',(0,0),rfl,by rw [rowTy_lt hle]; exact heap_alloc_new w.drew _,.none,q3,hSn _ (Nat.le_refl _),row_of_flat (vals:=olds++news) (fun z hz=>?_) (by rw [rowNm_lo (Nat.lt_trans hle (by decide)),List.flatten_append]; exact hoc.append hnc) (fun v hv=>?_) (by rw [List.length_append]; exact q4)⟩⟩
        ·rcases List.mem_append.1 hz with hz | hz
         ·exact hzl0 z hz
         ·exact hzl2 z hz
        ·rcases List.mem_append.1 hv with hv | hv
         ·exact ho1 v hv
         ·exact hn1 v hv
      ·rw [← List.length_append]
       exact CV.rw_mk (Nm.set_same _ _ _) (by rw [List.length_append]; exact q1) q2 (.inr ⟨_,rfl⟩)
    ·exact H4.elim
   ·exact H.elim
  ·exact H.elim
 ·exact H.elim
def acopy (P:Program) (ts:List TypeId) (xs:List AV) (h:Nat→Option Blk) (K:AV→List (Nat × Blk)→List Nat→Prop):Prop :=
 match ts,xs with
 | [t,_],[x,y]=>(match P.underlying t with
  | some (.slice e)=>(match P.info? e with
   | some i=>cond (Nat.beq i.size 1&&Nat.blt e 1000000) (srcK h 1 y fun ys rd=>(match x with
    | .rw k s n=>(match h k with
     | some (.row e' s' xs)=>cond (Nat.beq e e'&&Nat.beq 1 s&&Nat.beq 1 s') (chk (n=xs.length∧ys.length≤xs.length) (K (.int .i64 ys.length) [(k,.row e 1 (ys++xs.drop ys.length))] (k::rd))) False
     | _=>False)
    | _=>False)) False
   | none=>False)
  | _=>False)
 | _,_=>False
theorem flat_drop {α:Type}:∀ {zs:List (List α)} (n:Nat),(∀ z ∈ zs,z.length=1)→(zs.drop n).flatten=zs.flatten.drop n
 | _,0,_=>rfl
 | [],n+1,_=>by simp
 | z::zs,n+1,h=>by
  have hz:=h z List.mem_cons_self
  match z,hz with
  | [a],_=>simpa using flat_drop n (fun y hy=>h y (List.mem_cons_of_mem _ hy))
theorem acopy_sound {P:Program} {E:Env} {kp:List Nat} {st0:St} {nt:Nat} {o:Oper} {c:Call} {ev:Operand→AV} {h:Nat→Option Blk} {K:AV→List (Nat × Blk)→List Nat→Prop} (ho:o.op=.call c) (hc:c.callee=.builtin .copy) (hd:dstOk nt o.dst=true)
  (H:acopy P c.argTypes.toList (c.args.toList.map ev) h K):∃ r u rd,K r u rd∧(∀ p ∈ u,p.1 ∉ rd→fresh kp st0 p.1=true)∧Good P E nt o ev h r u rd:=by
 unfold acopy at H
 split at H
 ·rename_i t t' x y hts hxs
  split at H
  ·rename_i e ht
   split at H
   ·rename_i i hi
    obtain ⟨hb,H3⟩:=cond_F H
    clear H
    simp only [Bool.and_eq_true] at hb
    have hsz:i.size=1:=Nat.eq_of_beq_eq_true hb.1
    have hle:e < 1000000:=Nat.le_of_ble_eq_true hb.2
    have hs1:(P.info? e).map (·.size)=some 1:=by rw [hi]; simp [hsz]
    obtain ⟨ys,rd,H4,hsrc⟩:=srcK_sound H3
    clear H3
    obtain ⟨ox,oy,hargs,hox,hoy⟩:∃ ox oy,c.args.toList=[ox,oy]∧ev ox=x∧ev oy=y:=by
     cases hq:c.args.toList with
     | nil=>rw [hq] at hxs; simp at hxs
     | cons p l =>
      cases l with
      | nil=>rw [hq] at hxs; simp at hxs
      | cons q l =>
       cases l with
       | nil=>rw [hq] at hxs; simp at hxs; exact ⟨p,q,rfl,hxs.1,hxs.2⟩
       | cons r l=>rw [hq] at hxs; simp at hxs
    have hargsA:c.args=#[ox,oy]:=by rw [← Array.toArray_toList (xs:=c.args),hargs]
    have htsA:c.argTypes=#[t,t']:=by rw [← Array.toArray_toList (xs:=c.argTypes),hts]
    have mx:ox ∈ o.op.operands:=by rw [ho]; simp [Op.operands,Call.operands,hc,hargsA]
    have my:oy ∈ o.op.operands:=by rw [ho]; simp [Op.operands,Call.operands,hc,hargsA]
    have hrun:∀ (a:Act) (w:World) (r:Value) (w':World),(Builtin.copy_ #[t,t'] o.type #[a.eval ox,a.eval oy]).run P w=.ok r w'→(execOp a.eval o).run P w=.ok (.value r) w':=by
     intro a w r w' hr
     simp [execOp,ho,resolve,hc,invoke,builtin,hargsA,htsA,hr]
    split at H4
    ·rename_i k s n
     split at H4
     ·rename_i e' s' xs hk
      obtain ⟨hb2,H5⟩:=cond_F H4
      simp only [Bool.and_eq_true] at hb2
      obtain ⟨⟨b1,b2⟩,b3⟩:=hb2
      have b1:=Nat.eq_of_beq_eq_true b1
      have b2:=Nat.eq_of_beq_eq_true b2
      have b3:=Nat.eq_of_beq_eq_true b3
      obtain ⟨⟨hnx,hlen⟩,H6⟩:=chk_iff.1 H5
      refine ⟨_,_,_,H6,fun p hp hnot=>by simp at hp; subst hp; exact absurd (List.mem_cons_self) hnot,good_value hd fun G kp st a w S m hG hR he hrd hfr=>?_⟩
      have hx:=he ox mx
      have hy:=he oy my
      rw [hox] at hx
      rw [hoy] at hy
      have hks:lk st.heap k=some (.row e' s' xs):=by rw [hrd k (by simp)]; exact hk
      subst b1
      have hheld:=hR.held k _ hks
      rw [← b3] at hheld
      obtain ⟨A,c0,h1,h2,h3,h4,h5,vals,h6,h7,h8,h9,h10⟩:=hheld.vals
      simp only [CV] at hx
      obtain ⟨_,A1,q,c1,p1,p2,p3⟩:=hx
      rw [h1] at p1
      injection p1 with p1
      injection p1 with _ p1
      injection p1 with e1 e2 e3
      subst e1; subst e3
      have hxv:=p3 (by omega)
      rw [← e2] at hxv
      obtain ⟨B,d,hv,hyd,hzl2,news,hnl,hnc,hn1,hnA⟩:=hsrc G kp st a w S m _ hR (fun j hj=>hrd j (List.mem_cons_of_mem _ hj)) hy
      by_cases hm0:ys.length=0
      ·have hys:ys=[]:=List.eq_nil_of_length_eq_zero hm0
       subst hys
       refine ⟨goInt 0,w,S,m,hrun a w _ _ ?_,?_,?_⟩
       ·rw [hxv,hv]; exact run_copy_none (P:=P) w t t' o.type e A B xs.length c0 0 d ht hs1 (by simp)
       ·refine hR.congr' (fun t=>rfl) (fun j=>?_)
        simp only [St.blks,St.blk,lk_ins]
        by_cases e:j=k
        ·subst e; rw [if_pos rfl,hks,b3]; rfl
        ·rw [if_neg e]
       ·simp only [CV]; exact ⟨rfl,by decide,by decide⟩
      ·rcases hnA with ⟨rfl,rfl⟩ | ⟨ad,rfl,hcell⟩
       ·omega
       ·have hc0:c0≠0:=fun z=>hm0 (Nat.le_zero.1 (Nat.le_trans hlen (z ▸ h2)))
        obtain ⟨g,cur,fr,rfl,r2,rf,r3,r4⟩:=h5.resolve_left (fun e=>hc0 e.2)
        obtain ⟨g',cur',fr',q1,q2,_,_,q6⟩:=h9.resolve_left (fun e=>hc0 e.2)
        injection q1 with q1
        injection q1 with q1
        subst q1
        rw [r2] at q2
        injection q2 with q2
        injection q2 with q2
        subst q2
        have hfr0:=rf.lt hle
        subst hfr0
        rw [rowTy_lt hle] at r2
        rw [Nat.mul_one] at r3 q6 hnl h6
        have hcl:cur.toList.length=c0:=by rw [Array.length_toList]; exact r3
        have hmin:news.length=Nat.min ys.length xs.length:=by rw [hnl]; exact (Nat.min_eq_left hlen).symm
        have hr:=run_copy_row (P:=P) w t t' o.type e g 0 xs.length c0 ad ys.length d cur e news ht hs1 r2 hmin hcell (by omega) hn1
        refine ⟨goInt news.length,_,S,m,hrun a w _ _ (by rw [hxv,hv]; exact hr),?_,?_⟩
        ·rw [rowNm_lo (Nat.lt_trans hle (by decide))] at h7
         have hz':∀ z ∈ ys++xs.drop ys.length,z.length=1:=fun z hz=>by
          rcases List.mem_append.1 hz with hz | hz
          ·exact hzl2 z hz
          ·exact h4 z (List.mem_of_mem_drop hz)
         have hct:CVl S (ys++xs.drop ys.length).flatten noNm (news++vals.drop ys.length):=by
          rw [List.flatten_append,flat_drop _ h4]
          exact hnc.append (h7.drop _)
         have hon:∀ v ∈ news++vals.drop ys.length,v.oneCell'=true:=fun v hv=>by
          rcases List.mem_append.1 hv with hv | hv
          ·exact hn1 v hv
          ·exact h8 v (List.mem_of_mem_drop hv)
         have hlen2:(ys++xs.drop ys.length).length=xs.length:=by simp; omega
         have htk:(cur.toList.take 0++news++cur.toList.drop (0+news.length)).toArray.toList.take ((ys++xs.drop ys.length).length*1)=news++vals.drop ys.length:=by
          rw [hlen2,← q6,hnl]
          simp only [List.take_zero,List.nil_append,Nat.zero_add,Nat.mul_one]
          rw [List.take_append,List.take_of_length_le (by omega),List.drop_take,hnl]
         refine hR.writeR hks h1 hc0 rfl rfl rfl (by simp [World.setRow]) (fun j hne=>setRow_other w g j _ hne) r4 ⟨_,c0,by rw [hlen2]; exact h1,by rw [hlen2]; exact h2,h3,.inr ⟨g,_,(0,0),rfl,by rw [rowTy_lt hle]; exact setRow_heap w g cur _ e (0,0) r2,.none,?_,r4,by rw [rowNm_lo (Nat.lt_trans hle (by decide))]; exact row_of_flat hz' hct hon htk⟩⟩
         simp
         omega
        ·simp only [CV]
         rw [hnl]
         refine ⟨rfl,by omega,?_⟩
         unfold maxLen at h3
         omega
     ·exact H4.elim
    ·exact H4.elim
   ·exact H.elim
  ·exact H.elim
 ·exact H.elim
end Go.Proofs.YtgnnafneglannaaGreatDoor
namespace Go.Proofs.YtgnnafneglannaaGreatDoor
open Go
open Go.RowKit (Below)
set_option linter.unusedVariables false
set_option linter.unusedSimpArgs false
def chunkK (s:Nat):Nat→List AV→(List (List AV)→Prop)→Prop
 | 0,[],k=>k []
 | 0,_::_,_=>False
 | n+1,cs,k=>takeK s cs fun x=>chunkK s n (cs.drop s) fun l=>k (x::l)
theorem chunkK_sound {s:Nat}:∀ {n:Nat} {cs:List AV} {k:List (List AV)→Prop},chunkK s n cs k→∃ xs,k xs∧xs.flatten=cs∧xs.length=n∧∀ z ∈ xs,z.length=s
 | 0,[],k,h=>⟨[],h,rfl,rfl,by simp⟩
 | 0,_::_,k,h=>by simp [chunkK] at h
 | n+1,cs,k,h=>by
  simp only [chunkK] at h
  obtain ⟨h1,h2⟩:=takeK_sound h
  obtain ⟨xs,h3,h4,h5,h6⟩:=chunkK_sound h1
  refine ⟨_,h3,by rw [List.flatten_cons,h4,List.take_append_drop],by simp [h5],fun z hz=>?_⟩
  rcases List.mem_cons.1 hz with rfl | hz
  ·simp; omega
  ·exact h6 z hz
def repD:Nat→List AV
 | 0=>[]
 | n+1=>.dead::repD n
theorem repD_cv {S:Pin} {m:Nm}:∀ (n:Nat) (vs:List Value),vs.length=n→CVl S (repD n) m vs
 | 0,vs,h=>by simp only [repD,CVl]; exact List.eq_nil_of_length_eq_zero h
 | n+1,[],h=>by simp at h
 | n+1,v::vs,h=>by simp only [repD,CVl]; exact ⟨v,vs,rfl,by simp only [CV],repD_cv n vs (by simpa using h)⟩
theorem Rel.newRowW {G:Gh} {kp:List Nat} {st:St} {a:Act} {w w':World} {S:Pin} {m:Nm} (hR:Rel G kp st a w S m) {nm:Nat} (hf:fresh kp st nm=true) {e s c:Nat} {fr:Nat × Nat} {xs:List (List AV)} {cur:Array Value} (hb:Below w.heap.size w w')
  (hw:w'.heap[w.heap.size]?=some (.cells cur (rowTy e) fr)) (hfr:RowMk e cur.size fr) (hcell:∀ b o,b < w.heap.size→w'.cell? ⟨b,o,none⟩=w.cell? ⟨b,o,none⟩) (h1:xs.length≤c) (h2:c≤maxLen) (h3:cur.size=c*s)
  (h4:∀ (j:Nat) (x:List AV),xs[j]?=some x→x.length=s∧∀ (i:Nat) (y:AV),x[i]?=some y→∃ v,cur[j*s+i]?=some v∧v.oneCell'=true∧CV S y (rowNm e (m.set nm (.iface 0 (.slice (some ⟨w.heap.size,0,none⟩) xs.length c)))) v) :
  Rel G kp (st.blk nm (.row e s xs)) a w' S (m.set nm (.iface 0 (.slice (some ⟨w.heap.size,0,none⟩) xs.length c)))∧CV S (.rw nm s xs.length) (m.set nm (.iface 0 (.slice (some ⟨w.heap.size,0,none⟩) xs.length c))) (.slice (some ⟨w.heap.size,0,none⟩) xs.length c):=by
 refine ⟨hR.fresh_ hf hb (Ext.refl _) (fun _ _ _=>rfl) ?_ (fun g hg=>by simp [bk] at hg; omega) ?_,CV.rw_mk (Nm.set_same _ _ _) h1 h2 (.inr ⟨_,rfl⟩)⟩
 ·intro b o v e
  refine ⟨?_,(hR.agree b o v e).2⟩
  rw [hcell b o (hR.agree.lt e)]
  exact (hR.agree b o v e).1
 ·refine ⟨_,c,Nm.set_same _ _ _,h1,h2,.inr ⟨w.heap.size,cur,fr,rfl,hw,hfr,h3,fun o=>?_,h4⟩⟩
  cases e:S w.heap.size o with
  | none=>rfl
  | some v=>have:=hR.agree.lt e; omega
theorem Rel.newRow {G:Gh} {kp:List Nat} {st:St} {a:Act} {w:World} {S:Pin} {m:Nm} (hR:Rel G kp st a w S m) {nm:Nat} (hf:fresh kp st nm=true) {e s c:Nat} {o:Bool} (he:e < 1000000) {xs:List (List AV)} {cur:Array Value} (h1:xs.length≤c) (h2:c≤maxLen) (h3:cur.size=c*s)
  (h4:∀ (j:Nat) (x:List AV),xs[j]?=some x→x.length=s∧∀ (i:Nat) (y:AV),x[i]?=some y→∃ v,cur[j*s+i]?=some v∧v.oneCell'=true∧CV S y (rowNm (tyO o e) (m.set nm (.iface 0 (.slice (some ⟨w.heap.size,0,none⟩) xs.length c)))) v) :
  Rel G kp (st.blk nm (.row (tyO o e) s xs)) a (w.alloc (.cells cur e)) S (m.set nm (.iface 0 (.slice (some ⟨w.heap.size,0,none⟩) xs.length c)))∧CV S (.rw nm s xs.length) (m.set nm (.iface 0 (.slice (some ⟨w.heap.size,0,none⟩) xs.length c))) (.slice (some ⟨w.heap.size,0,none⟩) xs.length c) :=
 hR.newRowW hf ((Below.refl _ _).alloc (Nat.le_refl _) _) (by rw [rowTy_tyO he]; exact heap_alloc_new w _) .none (fun b o h=>World.cell?_alloc_lt _ _ _ h) h1 h2 h3 h4
mutual
def hasN:AV→Bool
 | .ptr _ _=>true
 | .ms _ _ _ _ _=>true
 | .rw _ _ _=>true
 | .mw _ _ _ _ _ _=>true
 | .prw _ _ _ _ _=>true
 | .mpv _=>true
 | .agg cs=>hasNl cs
 | .tup cs=>hasNl cs
 | .fn _ cs=>hasNl cs
 | _=>false
def hasNl:List AV→Bool
 | []=>false
 | x::xs=>hasN x||hasNl xs
end
def abuildS (P:Program) (nm:Nat) (t:TypeId) (len:Nat) (parts:List (Nat × AV)) (K:AV→List (Nat × Blk)→List Nat→Prop):Prop :=
 match P.underlying t with
 | some (.slice e)=>(match P.info? e with
  | some i=>cond (Nat.ble (len*i.size) 16777216&&Nat.ble len 9223372036854775807&&Nat.blt e 1000000) (zeroA P e fun _=>fillK (fun q=>some (q*i.size,i.size)) (repD (len*i.size)) parts fun cs=>cond (allOne cs&&(!(hasNl cs)||nnl nm cs)) (stripE (tyO (hasNl cs) e) cs fun cs'=>chunkK i.size len cs' fun xs=>fcN (hasNl cs) (tyO (hasNl cs) e) fun e2=>K (.rw nm i.size len) [(nm,.row e2 i.size xs)] []) False) False
  | none=>False)
 | _=>False
theorem abuildS_sound {P:Program} {E:Env} {nt nm:Nat} {o:Oper} {t:TypeId} {len:Nat} {parts:Array (Nat × Operand)} {ev:Operand→AV} {h:Nat→Option Blk} {K:AV→List (Nat × Blk)→List Nat→Prop} (ho:o.op=.buildSlice t len parts) (hd:dstOk nt o.dst=true)
    (H:abuildS P nm t len (parts.toList.map fun p=>(p.1,ev p.2)) K):∃ r b,K r [(nm,b)] []∧Good P E nt o ev h r [(nm,b)] []:=by
  unfold abuildS at H
  split at H
  · rename_i e ht
    split at H
    · rename_i i hi
      obtain ⟨hb,H1⟩:=cond_F H
      simp only [Bool.and_eq_true] at hb
      have hle:=Nat.le_of_ble_eq_true hb.1.1
      have hl63:=Nat.le_of_ble_eq_true hb.1.2
      have hle:e < 1000000:=Nat.le_of_ble_eq_true hb.2
      obtain ⟨i',z,hi',hz,H2,hzr⟩:=zeroA_sound H1
      rw [hi] at hi'
      injection hi' with hi'
      subst hi'
      obtain ⟨cs,H3,hfill⟩:=fillK_sound _ _ _ H2
      obtain ⟨hone,H4⟩:=cond_F H3
      simp only [Bool.and_eq_true] at hone
      obtain ⟨hone,hnn⟩:=hone
      generalize hop:hasNl cs=op at H4 hnn
      obtain ⟨cs',H5,hstrip⟩:=stripE_sound H4
      have hsame:2000000≤tyO op e→nnl nm cs=true:=fun q=>by
        cases op with
        | false=>exact absurd (Nat.lt_of_lt_of_le hle (Nat.le_trans (by decide) (show 2000000≤e from q))) (Nat.lt_irrefl _)
        | true=>simpa using hnn
      obtain ⟨xs,H6,hfl,hxl,hxs⟩:=chunkK_sound H5
      simp only [fcN_eq,hop] at H6
      refine ⟨_,_,H6,good_value hd fun G kp st a w S m hG hR he hrd hf=>?_⟩
      have hnz:¬ len*i.size > 2 ^ 24:=by omega
      have fin:∀ (zero:Array Value),∃ out,Instr.fill (fun q=>some (q*i.size,i.size)) ((Array.range (len*i.size)).map (zero[· % zero.size]!)) (parts.map fun p=>(p.1,a.eval p.2)).toList=some out∧CVl S cs m out.toList:=by
        intro zero
        refine hfill S m _ _ (repD_cv _ _ (by simp)) (by simp) (fun j p q hp hq=>?_)
        simp only [List.getElem?_map,Array.toList_map] at hp hq
        cases hj:parts.toList[j]? with
        | none=>simp [hj] at hp
        | some u =>
          simp only [hj,Option.map_some,Option.some.injEq] at hp hq
          subst hp hq
          exact ⟨rfl,he u.2 (by rw [ho]; simp only [Op.operands,List.mem_toArray,List.mem_map]; exact ⟨u,List.mem_of_getElem? hj,rfl⟩)⟩
      obtain ⟨zero,hzero⟩:∃ zero:Array Value,(len*i.size=0∧zero=#[])∨(¬ len*i.size=0∧zero=z.cells):=by
        by_cases h0:len*i.size=0
        · exact ⟨_,.inl ⟨h0,rfl⟩⟩
        · exact ⟨_,.inr ⟨h0,rfl⟩⟩
      obtain ⟨out,hout,hcv⟩:=fin zero
      have hcv':=hstrip S m _ hcv
      have hol:=hcv'.len
      have hcl:cs'.length=len*i.size:=by rw [← hfl,flat_len hxs,hxl]
      simp only [Array.length_toList] at hol
      have hcvS:∀ u,CVl S cs' (rowNm (tyO op e) (m.set nm u)) out.toList:=fun u=>by
        by_cases q:tyO op e < 2000000
        · rw [rowNm_lo q] at hcv' ⊢; exact hcv'
        · exact hstrip S (m.set nm u) _ (hcv.set (hsame (Nat.le_of_not_lt q)))
      have hrow:=row_of_flat (cur:=out) (vals:=out.toList) hxs (by rw [hfl]; exact hcvS (.iface 0 (.slice (some ⟨w.heap.size,0,none⟩) xs.length len))) (allOne_cv hcv hone) (by rw [hxl,List.take_of_length_le (by simp; omega)])
      have hnew:=hR.newRow (e:=e) (o:=op) (c:=len) (cur:=out) (hf (nm,.row (tyO op e) i.size xs) (by simp) (by simp)) hle (by omega) (by unfold maxLen; omega) (by omega) hrow
      rw [hxl] at hnew
      refine ⟨.slice (some ⟨w.heap.size,0,none⟩) len len,w.alloc (.cells out e),S,_,?_,hnew.1,hnew.2⟩
      have hrun:(Instr.buildSlice t len (parts.map fun p=>(p.1,a.eval p.2))).run P w=.ok (.slice (some ⟨w.heap.size,0,none⟩) len len) (w.alloc (.cells out e)):=by
        unfold Instr.buildSlice
        simp only [Sem.run_bind,run_underlying ht,Result.andThen_ok,sizeOf,typeInfo,run_program,hi,Sem.run_pure,hnz,if_false]
        rcases hzero with ⟨h0,rfl⟩ | ⟨h0,rfl⟩
        · rw [if_pos h0]
          simp only [Sem.run_bind,Sem.run_pure,Result.andThen_ok,hout]
          simp [newRow]
        · rw [if_neg h0]
          simp only [Sem.run_bind,hzr,Sem.run_pure,Result.andThen_ok,hout]
          simp [newRow]
      simp only [execOp,ho]
      simp [hrun]
    · exact H.elim
  · exact H.elim
def amakeS (P:Program) (nm:Nat) (t:TypeId) (l c:AV) (K:AV→List (Nat × Blk)→List Nat→Prop):Prop :=
 match P.underlying t with
 | some (.slice e)=>(match P.info? e with
  | some i=>intK l fun l=>intK c fun c=>chk (0≤l∧l≤c∧(i.bytes:Int)*c≤281474976710656∧c≤9223372036854775807) (zeroA P e fun zs=>cond (Nat.beq zs.length i.size&&allOne zs&&Nat.blt e 1000000) (stripL zs fun zs=>K (.rw nm i.size l.toNat) [(nm,.row e i.size (List.replicate l.toNat zs))] []) False)
  | none=>False)
 | _=>False
theorem amakeS_sound {P:Program} {E:Env} {nt nm:Nat} {o:Oper} {t:TypeId} {ol oc:Operand} {ev:Operand→AV} {h:Nat→Option Blk} {K:AV→List (Nat × Blk)→List Nat→Prop} (ho:o.op=.makeSlice t ol oc) (hd:dstOk nt o.dst=true)
  (H:amakeS P nm t (ev ol) (ev oc) K):∃ r b,K r [(nm,b)] []∧Good P E nt o ev h r [(nm,b)] []:=by
 unfold amakeS at H
 split at H
 ·rename_i e ht
  split at H
  ·rename_i i hi
   obtain ⟨l,H1,hl⟩:=intK_sound H
   obtain ⟨c,H2,hc⟩:=intK_sound H1
   obtain ⟨⟨q1,q2,q3,q4⟩,H3⟩:=chk_iff.1 H2
   obtain ⟨i',z,hi',hz,H4,hzr⟩:=zeroA_sound H3
   rw [hi] at hi'
   injection hi' with hi'
   subst hi'
   obtain ⟨hb,H5⟩:=cond_F H4
   simp only [Bool.and_eq_true] at hb
   have hzl:=Nat.eq_of_beq_eq_true hb.1.1
   have hle:e < 1000000:=Nat.le_of_ble_eq_true hb.2
   obtain ⟨zs,H6,hst⟩:=stripL_sound _ _ H5
   refine ⟨_,_,H6,good_value hd fun G kp st a w S m hG hR he hrd hf=>?_⟩
   obtain ⟨kl,hvl⟩:=hl S m _ (he ol (by rw [ho]; simp [Op.operands]))
   obtain ⟨kc,hvc⟩:=hc S m _ (he oc (by rw [ho]; simp [Op.operands]))
   have hzc:=ofVs_cv S m z.cells.toList
   have hz1:=allOne_cv hzc hb.1.2
   have hz2:=hst S m _ hzc
   have hzsz:=hzc.len
   have hzs2:=hz2.len
   simp only [Array.length_toList] at hzsz hzs2
   have hrun:=run_make (P:=P) w t e i z ht hi hz kl kc l c q1 q2 q3 q4
   have hrow:∀ (j:Nat) (x:List AV),(List.replicate l.toNat zs)[j]?=some x→x.length=i.size∧∀ (p:Nat) (y:AV),x[p]?=some y→∃ v,(madeCells z.cells (c.toNat*i.size))[j*i.size+p]?=some v∧v.oneCell'=true∧CV S y noNm v:=by
    intro j x hx
    rw [List.getElem?_replicate] at hx
    split at hx
    ·rename_i hj
     injection hx with hx
     subst hx
     refine ⟨by omega,fun p y hy=>?_⟩
     obtain ⟨v,hv1,hv2⟩:=hz2.get hy
     have hp:p < i.size:=by have:=(List.getElem?_eq_some_iff.1 hy).1; omega
     have hlt:j*i.size+p < c.toNat*i.size:=by
      have:(j+1)*i.size≤c.toNat*i.size:=Nat.mul_le_mul_right _ (by omega)
      rw [Nat.succ_mul] at this; omega
     refine ⟨v,?_,hz1 v (List.mem_of_getElem? hv1),hv2⟩
     have hmod:(j*i.size+p) % z.cells.size=p:=by
      rw [show z.cells.size=i.size by omega,Nat.add_comm,Nat.add_mul_mod_self_right,Nat.mod_eq_of_lt hp]
     have hv3:z.cells[p]?=some v:=by simpa using hv1
     unfold madeCells
     simp only [Array.getElem?_map]
     rw [Array.getElem?_range,if_pos hlt]
     simp only [Option.map_some,hmod]
     rw [getElem!_def,hv3]
    ·cases hx
   have hnew:=hR.newRow (e:=e) (o:=false) (s:=i.size) (xs:=List.replicate l.toNat zs) (c:=c.toNat) (cur:=madeCells z.cells (c.toNat*i.size)) (hf (nm,.row e i.size (List.replicate l.toNat zs)) (by simp) (by simp)) hle (by simp; omega) (by unfold maxLen; omega) (size_madeCells _ _) (by rw [rowNm_lo (show tyO false e < 2000000 from Nat.lt_trans hle (by decide))]; exact hrow)
   rw [List.length_replicate] at hnew
   exact ⟨_,_,S,_,by simp [execOp,ho,hvl,hvc,hrun],hnew.1,hnew.2⟩
  ·exact H.elim
 ·exact H.elim
end Go.Proofs.YtgnnafneglannaaGreatDoor
namespace Go.Proofs.YtgnnafneglannaaGreatDoor
open Go
open Go.RowKit (Below)
set_option linter.unusedVariables false
set_option linter.unusedSimpArgs false
mutual
def frzA (k s:Nat) (xs:List (List AV)):AV→AV
 | .rw j s' n=>cond (Nat.beq j k) (cond (Nat.beq s s') (.frz k s n xs) .dead) (.rw j s' n)
 | .mw j s' q eo n f=>cond (Nat.beq j k) .dead (.mw j s' q eo n f)
 | .prw j s' q i fo=>cond (Nat.beq j k) .dead (.prw j s' q i fo)
 | .agg cs=>.agg (frzL k s xs cs)
 | .tup cs=>.tup (frzL k s xs cs)
 | .fn f cs=>.fn f (frzL k s xs cs)
 | .acc j s' ys=>cond (Nat.beq j k) .dead (.acc j s' ys)
 | .frz j s' n ys=>cond (Nat.beq j k) .dead (.frz j s' n ys)
 | .ptr j o=>cond (Nat.beq j k) .dead (.ptr j o)
 | .ms j o n c s'=>cond (Nat.beq j k) .dead (.ms j o n c s')
 | .mpv j=>cond (Nat.beq j k) .dead (.mpv j)
 | .int q n=>.int q n
 | .bool b=>.bool b
 | .str b=>.str b
 | .sl s f ys=>.sl s f ys
 | .nils=>.nils
 | .ro cs=>.ro cs
 | .nilp=>.nilp
 | .undef=>.undef
 | .dead=>.dead
def frzL (k s:Nat) (xs:List (List AV)):List AV→List AV
 | []=>[]
 | y::ys=>frzA k s xs y::frzL k s xs ys
end
def frzT (k s:Nat) (xs:List (List AV)):List (Nat × AV)→List (Nat × AV)
 | []=>[]
 | (t,y)::l=>(t,frzA k s xs y)::frzT k s xs l
def frzLL (k s:Nat) (xs:List (List AV)):List (List AV)→List (List AV)
 | []=>[]
 | y::ys=>frzL k s xs y::frzLL k s xs ys
theorem frzL_at (k s:Nat) (xs:List (List AV)):∀ (l:List AV) (i:Nat),(frzL k s xs l)[i]?=(l[i]?).map (frzA k s xs)
 | [],i=>by simp [frzL]
 | y::l,0=>by simp [frzL]
 | y::l,i+1=>by simp only [frzL,List.getElem?_cons_succ]; exact frzL_at k s xs l i
theorem frzLL_at (k s:Nat) (xs:List (List AV)):∀ (l:List (List AV)) (i:Nat),(frzLL k s xs l)[i]?=(l[i]?).map (frzL k s xs)
 | [],i=>by simp [frzLL]
 | y::l,0=>by simp [frzLL]
 | y::l,i+1=>by simp only [frzLL,List.getElem?_cons_succ]; exact frzLL_at k s xs l i
theorem frzL_len (k s:Nat) (xs:List (List AV)):∀ (l:List AV),(frzL k s xs l).length=l.length
 | []=>rfl
 | y::l=>by simp [frzL,frzL_len k s xs l]
theorem frzLL_len (k s:Nat) (xs:List (List AV)):∀ (l:List (List AV)),(frzLL k s xs l).length=l.length
 | []=>rfl
 | y::l=>by simp [frzLL,frzLL_len k s xs l]
def frzB (k s:Nat) (xs:List (List AV)):Blk→Blk
 | .cells cs=>.cells (frzL k s xs cs)
 | .row e s' ys=>cond (Nat.blt e 2000000) (.row e s' ys) (.row e s' (frzLL k s xs ys))
 | b=>b
def frzH (k s:Nat) (xs:List (List AV)):List (Nat × Blk)→List (Nat × Blk)
 | []=>[]
 | (j,b)::l=>(j,frzB k s xs b)::frzH k s xs l
theorem frzT_lk (k s:Nat) (xs:List (List AV)) (t:Nat):∀ (l:List (Nat × AV)),lk (frzT k s xs l) t=(lk l t).map (frzA k s xs)
 | []=>rfl
 | (j,y)::l=>by
  simp only [frzT,lk]
  cases Nat.beq j t with
  | true=>rfl
  | false=>exact frzT_lk k s xs t l
theorem frzH_lk (k s:Nat) (xs:List (List AV)) (t:Nat):∀ (l:List (Nat × Blk)),lk (frzH k s xs l) t=(lk l t).map (frzB k s xs)
 | []=>rfl
 | (j,y)::l=>by
  simp only [frzH,lk]
  cases Nat.beq j t with
  | true=>rfl
  | false=>exact frzH_lk k s xs t l
mutual
theorem frzA_cv {S S':Pin} {m m':Nm} {k s:Nat} {xs:List (List AV)} (hS:Ext S S') (hm:∀ j,j≠k→m' j=m j)
  (hk:∀ n v,CV S (.rw k s n) m v→CV S' (.frz k s n xs) m' v):∀ (x:AV) (v:Value),CV S x m v→CV S' (frzA k s xs x) m' v
 | .rw j s' n,v,h=>by
  simp only [frzA]
  cases hj:Nat.beq j k with
  | true =>
   have:=Nat.eq_of_beq_eq_true hj
   subst this
   simp only [cond_true]
   cases hs:Nat.beq s s' with
   | true =>
    have:=Nat.eq_of_beq_eq_true hs
    subst this
    exact hk n v h
   | false=>simp only [cond_false,CV]
  | false =>
   simp only [cond_false]
   exact CV.mono hS _ m m' v (fun i u hi e=>⟨u,by
    have:i≠k:=by
     rintro rfl
     simp only [nn,Bool.not_eq_false'] at hi
     rw [hi] at hj; cases hj
    rw [hm i this]; exact e,.refl u⟩) h
 | .mw j s' q eo n f,v,h=>by
  simp only [frzA]
  cases hj:Nat.beq j k with
  | true=>simp only [cond_true,CV]
  | false =>
   simp only [cond_false]
   exact CV.mono hS _ m m' v (fun i u hi e=>⟨u,by
    have:i≠k:=by
     rintro rfl
     simp only [nn,Bool.not_eq_false'] at hi
     rw [hi] at hj; cases hj
    rw [hm i this]; exact e,.refl u⟩) h
 | .prw j s' q p fo,v,h=>by
  simp only [frzA]
  cases hj:Nat.beq j k with
  | true=>simp only [cond_true,CV]
  | false =>
   simp only [cond_false]
   exact CV.mono hS _ m m' v (fun i u hi e=>⟨u,by
    have:i≠k:=by
     rintro rfl
     simp only [nn,Bool.not_eq_false'] at hi
     rw [hi] at hj; cases hj
    rw [hm i this]; exact e,.refl u⟩) h
 | .mpv j,v,h=>by
  simp only [frzA]
  cases hj:Nat.beq j k with
  | true=>simp only [cond_true,CV]
  | false =>
   simp only [cond_false]
   exact CV.mono hS _ m m' v (fun i u hi e=>⟨u,by
    have:i≠k:=by
     rintro rfl
     simp only [nn,Bool.not_eq_false'] at hi
     rw [hi] at hj; cases hj
    rw [hm i this]; exact e,.refl u⟩) h
 | .acc j s' ys,v,h=>by
  simp only [frzA]
  cases hj:Nat.beq j k with
  | true=>simp only [cond_true,CV]
  | false =>
   simp only [cond_false]
   exact CV.mono hS _ m m' v (fun i u hi e=>⟨u,by
    have:i≠k:=by
     rintro rfl
     simp only [nn,Bool.not_eq_false'] at hi
     rw [hi] at hj; cases hj
    rw [hm i this]; exact e,.refl u⟩) h
 | .frz j s' n ys,v,h=>by
  simp only [frzA]
  cases hj:Nat.beq j k with
  | true=>simp only [cond_true,CV]
  | false =>
   simp only [cond_false]
   exact CV.mono hS _ m m' v (fun i u hi e=>⟨u,by
    have:i≠k:=by
     rintro rfl
     simp only [nn,Bool.not_eq_false'] at hi
     rw [hi] at hj; cases hj
    rw [hm i this]; exact e,.refl u⟩) h
 | .ptr j o,v,h=>by
  simp only [frzA]
  cases hj:Nat.beq j k with
  | true=>simp only [cond_true,CV]
  | false =>
   simp only [cond_false]
   exact CV.mono hS _ m m' v (fun i u hi e=>⟨u,by
    have:i≠k:=by
     rintro rfl
     simp only [nn,Bool.not_eq_false'] at hi
     rw [hi] at hj; cases hj
    rw [hm i this]; exact e,.refl u⟩) h
 | .ms j o n c s',v,h=>by
  simp only [frzA]
  cases hj:Nat.beq j k with
  | true=>simp only [cond_true,CV]
  | false =>
   simp only [cond_false]
   exact CV.mono hS _ m m' v (fun i u hi e=>⟨u,by
    have:i≠k:=by
     rintro rfl
     simp only [nn,Bool.not_eq_false'] at hi
     rw [hi] at hj; cases hj
    rw [hm i this]; exact e,.refl u⟩) h
 | .agg cs,v,h=>by
  simp only [frzA,CV] at h ⊢
  obtain ⟨us,e,hu⟩:=h
  exact ⟨us,e,frzL_cv hS hm hk cs _ hu⟩
 | .tup cs,v,h=>by
  simp only [frzA,CV] at h ⊢
  obtain ⟨us,e,hu⟩:=h
  exact ⟨us,e,frzL_cv hS hm hk cs _ hu⟩
 | .fn f cs,v,h=>by
  simp only [frzA,CV] at h ⊢
  obtain ⟨us,e,hu⟩:=h
  exact ⟨us,e,frzL_cv hS hm hk cs _ hu⟩
 | .int _ _,v,h=>by simp only [frzA]; exact CV.mono hS _ m m' v (fun i u hi e=>by simp [nn] at hi) h
 | .bool _,v,h=>by simp only [frzA]; exact CV.mono hS _ m m' v (fun i u hi e=>by simp [nn] at hi) h
 | .str _,v,h=>by simp only [frzA]; exact CV.mono hS _ m m' v (fun i u hi e=>by simp [nn] at hi) h
 | .sl _ _ _,v,h=>by simp only [frzA]; exact CV.mono hS _ m m' v (fun i u hi e=>by simp [nn] at hi) h
 | .nils,v,h=>by simp only [frzA]; exact CV.mono hS _ m m' v (fun i u hi e=>by simp [nn] at hi) h
 | .ro _,v,h=>by simp only [frzA]; exact CV.mono hS _ m m' v (fun i u hi e=>by simp [nn] at hi) h
 | .nilp,v,h=>by simp only [frzA]; exact CV.mono hS _ m m' v (fun i u hi e=>by simp [nn] at hi) h
 | .undef,v,h=>by simp only [frzA]; exact CV.mono hS _ m m' v (fun i u hi e=>by simp [nn] at hi) h
 | .dead,v,h=>by simp only [frzA,CV]
theorem frzL_cv {S S':Pin} {m m':Nm} {k s:Nat} {xs:List (List AV)} (hS:Ext S S') (hm:∀ j,j≠k→m' j=m j)
  (hk:∀ n v,CV S (.rw k s n) m v→CV S' (.frz k s n xs) m' v):∀ (ys:List AV) (vs:List Value),CVl S ys m vs→CVl S' (frzL k s xs ys) m' vs
 | [],vs,h=>by simp only [frzL,CVl] at h ⊢; exact h
 | y::ys,vs,h=>by
  simp only [frzL,CVl] at h ⊢
  obtain ⟨u,us,e,h1,h2⟩:=h
  exact ⟨u,us,e,frzA_cv hS hm hk y u h1,frzL_cv hS hm hk ys us h2⟩
end
def frzK (kp:List Nat) (st:St) (k:Nat) (K:St→Prop):Prop :=
 match lk st.heap k with
 | some (.row e s xs)=>cond (inL k kp||!(Nat.blt e 2000000)) False (K ⟨frzT k s xs st.tmps,ins (frzH k s xs st.heap) k (.tok e s xs.length)⟩)
 | _=>False
theorem frzK_sound {G:Gh} {kp:List Nat} {st:St} {a:Act} {w:World} {S:Pin} {m:Nm} (h:Rel G kp st a w S m) {k:Nat} {K:St→Prop} (H:frzK kp st k K):∃ st' S' m',K st'∧Rel G kp st' a w S' m':=by
 unfold frzK at H
 split at H
 ·rename_i e s xs hk
  cases hin0:(inL k kp||!(Nat.blt e 2000000)) with
  | true=>rw [hin0] at H; exact H.elim
  | false =>
   rw [hin0] at H
   simp only [cond_false] at H
   simp only [Bool.or_eq_false_iff,Bool.not_eq_false'] at hin0
   obtain ⟨hin,hcl⟩:=hin0
   have hcl:e < 2000000:=Nat.le_of_ble_eq_true hcl
   have hheld:=h.held k _ hk
   obtain ⟨A,c,h1,h2,h3,hlen,h4,vals,h5,h6,h7,_,h8⟩:=hheld.vals
   rw [rowNm_lo hcl] at h6
   let S':Pin:=fun b o=>if A=some ⟨b,0,none⟩∧o < vals.length then vals[o]? else S b o
   let m':Nm:=m.set k (.slice A xs.length c)
   have hun:∀ b,A=some ⟨b,0,none⟩→∀ o,S b o=none:=by
    intro b hb o
    rcases h4 with ⟨e1,_⟩ | ⟨g,cur,fr,e1,_,_,_,e2⟩
    ·rw [hb] at e1; cases e1
    ·rw [hb] at e1
     injection e1 with e1
     injection e1 with e1
     subst e1
     exact e2 o
   have hS:Ext S S':=by
    intro b o v e1
    show (if A=some ⟨b,0,none⟩∧o < vals.length then vals[o]? else S b o)=some v
    rw [if_neg]
    ·exact e1
    ·rintro ⟨hb,_⟩
     rw [hun b hb] at e1; cases e1
   have hfar:∀ b,A≠some ⟨b,0,none⟩→∀ o,S' b o=S b o:=by
    intro b hb o
    show (if A=some ⟨b,0,none⟩∧o < vals.length then vals[o]? else S b o)=S b o
    rw [if_neg (fun q=>hb q.1)]
   have hm:∀ j,j≠k→m' j=m j:=fun j hj=>Nm.set_ne m _ hj
   have hkk:∀ n v,CV S (.rw k s n) m v→CV S' (.frz k s n xs) m' v:=by
    intro n v hv
    simp only [CV] at hv ⊢
    obtain ⟨⟨B,d,rfl,p1,p2,p3,p4⟩,A1,q1,c1,p5,p6,p7⟩:=hv
    refine ⟨⟨B,d,rfl⟩,fun hn=>?_⟩
    rw [h1] at p5
    injection p5 with p5
    injection p5 with _ p5
    injection p5 with e1 e2 e3
    subst e1; subst e3
    have hv:=p7 (by omega)
    injection hv with e1 e3 e4
    subst e1; subst e4
    refine ⟨⟨B,d,by rw [hn],h2,h3,p3,fun ad had=>?_⟩,B,xs.length,d,Nm.set_same _ _ _,Nat.le_refl _,fun _=>by rw [hn]⟩
    obtain ⟨g,eg⟩:=p4 ad had
    subst eg
    refine ⟨fun _=>rfl,CE.mk fun j x hj=>?_⟩
    have hxl:=hlen x (List.mem_of_getElem? hj)
    refine ⟨hxl,CC.mk fun i y hi=>?_⟩
    obtain ⟨u,hu,hy⟩:=h6.get (flat_get hlen hj hi)
    have hlt:j*s+i < vals.length:=(List.getElem?_eq_some_iff.1 hu).1
    refine ⟨u,?_,hy.ext hS (MLe.refl _)⟩
    show (if B=some ⟨g,0,none⟩∧0+j*s+i < vals.length then vals[0+j*s+i]? else S g (0+j*s+i))=some u
    rw [Nat.zero_add,if_pos ⟨had,hlt⟩]
    exact hu
   refine ⟨_,S',m',H,?_⟩
   have hl2:∀ j,lk (ins (frzH k s xs st.heap) k (.tok e s xs.length)) j=if j=k then some (.tok e s xs.length) else (lk st.heap j).map (frzB k s xs):=by
    intro j; rw [lk_ins]; split
    ·rfl
    ·exact frzH_lk k s xs j _
   have hbk:∀ u' u g,m' k=some u'→m k=some u→bk u'=some g→bk u=some g:=by
    intro u' u g e1 e2 hg
    have hmk:m' k=some (.slice A xs.length c):=Nm.set_same _ _ _
    rw [hmk] at e1
    rw [h1] at e2
    injection e1 with e1
    injection e2 with e2
    subst e1; subst e2
    cases A with
    | none=>simp [bk] at hg
    | some ad=>simpa [bk] using hg
   have hlk:∀ j b,lk (ins (frzH k s xs st.heap) k (.tok e s xs.length)) j=some b→∃ b0,lk st.heap j=some b0:=by
    intro j b hj
    rw [hl2] at hj
    split at hj
    ·rename_i e; subst e; exact ⟨_,hk⟩
    ·cases hq:lk st.heap j with
     | none=>rw [hq] at hj; cases hj
     | some b0=>exact ⟨b0,rfl⟩
   have hbm:∀ j u g,(∃ b0,lk st.heap j=some b0)→m' j=some u→bk u=some g→∃ u0,m j=some u0∧bk u0=some g:=by
    intro j u g _ hj hg
    by_cases e:j=k
    ·subst e; exact ⟨_,h1,hbk u _ g hj h1 hg⟩
    ·exact ⟨u,by rw [← hm j e]; exact hj,hg⟩
   refine { h with defers:=h.defers,pin0:=h.pin0.trans hS,pinNew:=?_,agree:=?_,tmps:=?_,held:=?_,inj:=?_,own:=?_,m0:=?_ }
   ·intro b o hb hM
    by_cases hA:A=some ⟨b,0,none⟩
    ·rcases h.own k _ _ b hk h1 (by rw [hA]; rfl) with q | q
     ·omega
     ·exact absurd q hM
    ·rw [hfar b hA]; exact h.pinNew b o hb hM
   ·intro b o v e1
    by_cases hA:A=some ⟨b,0,none⟩∧o < vals.length
    ·have e2:vals[o]?=some v:=by
      have:S' b o=vals[o]?:=by show (if A=some ⟨b,0,none⟩∧o < vals.length then vals[o]? else S b o)=_; rw [if_pos hA]
      rw [← this]; exact e1
     exact ⟨h8 b hA.1 o v e2,h7 v (List.mem_of_getElem? e2)⟩
    ·have:S' b o=S b o:=by show (if A=some ⟨b,0,none⟩∧o < vals.length then vals[o]? else S b o)=_; rw [if_neg hA]
     rw [this] at e1
     exact h.agree b o v e1
   ·intro t
    have:=h.tmps t
    unfold St.get at this ⊢
    simp only [frzT_lk]
    cases hq:lk st.tmps t with
    | none=>simp only [Option.map_none,CV]
    | some y=>rw [hq] at this; exact frzA_cv hS hm hkk y _ this
   ·intro j b hj
    simp only at hj
    rw [hl2] at hj
    split at hj
    ·rename_i ejk
     subst ejk
     injection hj with hj
     subst hj
     refine ⟨A,c,Nm.set_same _ _ _,h2,h3,?_⟩
     rcases h4 with h4 | ⟨g,cur,fr,e1,e2,ef,e3,e4⟩
     ·exact .inl h4
     ·refine .inr ⟨g,cur,fr,e1,e2,ef,e3,fun o ho=>?_⟩
      have hlt:¬ o < vals.length:=by omega
      show (if A=some ⟨g,0,none⟩∧o < vals.length then vals[o]? else S g o)=none
      rw [if_neg (fun q=>hlt q.2)]
      exact e4 o
    ·rename_i ejk
     cases hq:lk st.heap j with
     | none=>rw [hq] at hj; cases hj
     | some b0 =>
      rw [hq] at hj
      simp only [Option.map_some,Option.some.injEq] at hj
      subst hj
      have hh:=h.held j b0 hq
      have far:∀ u g,m j=some u→bk u=some g→w.heap[g]?=w.heap[g]?∧∀ o,S' g o=S g o:=by
       intro u g hu hg
       refine ⟨rfl,hfar g (fun hA=>?_)⟩
       exact h.inj k j _ _ _ u g hk hq (fun q=>ejk q.symm) h1 hu (by rw [hA]; rfl) hg
      cases b0 with
      | cells cs =>
       obtain ⟨g,arr,t,p1,p2,p3,p4⟩:=hh
       exact ⟨g,arr,t,by rw [hm j ejk]; exact p1,p2,frzL_cv hS hm hkk cs _ p3,fun o=>((far _ g p1 rfl).2 o).trans (p4 o)⟩
      | row e' s' ys =>
       cases hbb:Nat.blt e' 2000000 with
       | true =>
        have he':e' < 2000000:=Nat.le_of_ble_eq_true hbb
        have e1:frzB k s xs (.row e' s' ys)=.row e' s' ys:=by simp only [frzB,hbb,cond_true]
        rw [e1]
        exact hh.keep hS (fun cs vs q=>absurd q.1 (by omega)) (hm j ejk) far
       | false =>
        have he':¬ e' < 2000000:=fun q=>by
         have:Nat.blt e' 2000000=true:=Nat.ble_eq_true_of_le q
         rw [hbb] at this; cases this
        have e1:frzB k s xs (.row e' s' ys)=.row e' s' (frzLL k s xs ys):=by simp only [frzB,hbb,cond_false]
        rw [e1]
        obtain ⟨A',c',p1,p2,p3,p4⟩:=hh
        refine ⟨A',c',by rw [hm j ejk,frzLL_len]; exact p1,by rw [frzLL_len]; exact p2,p3,?_⟩
        rcases p4 with p4 | ⟨g,cur,fr,rfl,p5,p6,p7,p8,p9⟩
        ·exact .inl p4
        ·refine .inr ⟨g,cur,fr,rfl,p5,p6,p7,fun o=>((far _ g p1 rfl).2 o).trans (p8 o),fun j' x hx=>?_⟩
         rw [frzLL_at] at hx
         cases hy:ys[j']? with
         | none=>rw [hy] at hx; cases hx
         | some x0 =>
          rw [hy] at hx
          simp only [Option.map_some,Option.some.injEq] at hx
          subst hx
          obtain ⟨r1,r2⟩:=p9 j' x0 hy
          refine ⟨by rw [frzL_len]; exact r1,fun i y hi=>?_⟩
          rw [frzL_at] at hi
          cases hz:x0[i]? with
          | none=>rw [hz] at hi; cases hi
          | some y0 =>
           rw [hz] at hi
           simp only [Option.map_some,Option.some.injEq] at hi
           subst hi
           obtain ⟨v,q1,q2,q3⟩:=r2 i y0 hz
           refine ⟨v,q1,q2,?_⟩
           rw [rowNm_hi he'] at q3 ⊢
           exact frzA_cv hS hm hkk y0 v q3
      | tok e' s' n'=>exact hh.keep hS (fun cs vs q=>q.elim) (hm j ejk) far
      | mp kt et l=>exact hh.keep hS (fun cs vs q=>q.elim) (hm j ejk) far
      | gone=>exact hh.keep hS (fun cs vs q=>q.elim) (hm j ejk) far
   ·intro j j' b b' u u' g hj hj' hne hu hu' hg hg'
    obtain ⟨b0,hb0⟩:=hlk j b hj
    obtain ⟨b1,hb1⟩:=hlk j' b' hj'
    obtain ⟨u0,hu0,hg0⟩:=hbm j u g ⟨b0,hb0⟩ hu hg
    obtain ⟨u1,hu1,hg1⟩:=hbm j' u' g ⟨b1,hb1⟩ hu' hg'
    exact h.inj j j' b0 b1 u0 u1 g hb0 hb1 hne hu0 hu1 hg0 hg1
   ·intro j b u g hj hu hg
    obtain ⟨b0,hb0⟩:=hlk j b hj
    obtain ⟨u0,hu0,hg0⟩:=hbm j u g ⟨b0,hb0⟩ hu hg
    exact h.own j b0 u0 g hb0 hu0 hg0
   ·intro j u hj
    obtain ⟨u',hu',hg⟩:=h.m0 j u hj
    have:j≠k:=fun e=>inL_mem hin (e ▸ h.keep j u hj)
    exact ⟨u',by rw [hm j this]; exact hu',hg⟩
 ·exact H.elim
def stripLL:List (List AV)→(List (List AV)→Prop)→Prop
 | [],k=>k []
 | x::xs,k=>stripL x fun y=>stripLL xs fun l=>k (y::l)
theorem stripLL_sound:∀ (xs:List (List AV)) (k:List (List AV)→Prop),stripLL xs k→∃ ys,k ys∧ys.length=xs.length∧∀ (j:Nat) (x y:List AV),xs[j]?=some x→ys[j]?=some y→∀ S m vs,CVl S x m vs→CVl S y noNm vs
 | [],k,h=>⟨[],h,rfl,fun j x y e=>by simp at e⟩
 | x::xs,k,h=>by
  simp only [stripLL] at h
  obtain ⟨y,h1,h2⟩:=stripL_sound x _ h
  obtain ⟨l,h3,h4,h5⟩:=stripLL_sound xs _ h1
  refine ⟨_,h3,by simp [h4],fun j a b e1 e2=>?_⟩
  cases j with
  | zero=>simp at e1 e2; subst e1; subst e2; exact h2
  | succ j=>simp at e1 e2; exact h5 j a b e1 e2
def closeK (st:St) (k:Nat) (K:St→Prop):Prop:=match lk st.heap k with
 | some (.row e s xs)=>cond (Nat.blt e 2000000) (K st) (cond (Nat.blt e 3000000) (stripLL xs fun xs'=>K (st.blk k (.row (Nat.sub e 2000000) s xs'))) False)
 | _=>K st
theorem closeK_sound {G:Gh} {kp:List Nat} {st:St} {a:Act} {w:World} {S:Pin} {m:Nm} (h:Rel G kp st a w S m) {k:Nat} {K:St→Prop} (H:closeK st k K):∃ st',K st'∧Rel G kp st' a w S m:=by
 unfold closeK at H
 split at H
 ·rename_i e s xs hk
  cases hb:Nat.blt e 2000000 with
  | true=>rw [hb] at H; exact ⟨st,H,h⟩
  | false =>
   rw [hb] at H
   have he:¬ e < 2000000:=fun q=>by
    have:Nat.blt e 2000000=true:=Nat.ble_eq_true_of_le q
    rw [hb] at this; cases this
   obtain ⟨h3,H⟩:=cond_F H
   have h3:e < 3000000:=Nat.le_of_ble_eq_true h3
   obtain ⟨ys,h1,h2,h4⟩:=stripLL_sound _ _ H
   refine ⟨_,h1,h.weaken (fun t v hv=>hv) (fun j b hj=>?_)⟩
   simp only [St.blk,lk_ins] at hj
   by_cases ej:j=k
   ·subst ej
    rw [if_pos rfl] at hj
    injection hj with hj
    subst hj
    refine ⟨⟨_,hk⟩,?_⟩
    obtain ⟨A,c,p1,p2,p3,p4⟩:=h.held j _ hk
    have hsub:Nat.sub e 2000000=e - 2000000:=rfl
    rw [hsub]
    refine ⟨A,c,by rw [h2]; exact p1,by rw [h2]; exact p2,p3,?_⟩
    rcases p4 with p4 | ⟨g,cur,fr,rfl,p5,p6,p7,p8,p9⟩
    ·exact .inl p4
    ·have hfr:fr=(0,0):=p6.resolve_right (by omega)
     have hty:rowTy e=rowTy (e - 2000000):=by unfold rowTy; rw [if_neg (by omega),if_neg he,if_pos (by omega)]
     rw [hty] at p5
     refine .inr ⟨g,cur,fr,rfl,p5,.inl hfr,p7,p8,fun q y hy=>?_⟩
     have hq:q < xs.length:=by have:=(List.getElem?_eq_some_iff.1 hy).1; omega
     have hx:xs[q]?=some xs[q]:=List.getElem?_eq_getElem hq
     obtain ⟨r1,r2⟩:=p9 q _ hx
     rw [rowNm_hi he] at r2
     have hle:q*s+s≤cur.size:=by rw [p7,← Nat.succ_mul]; exact Nat.mul_le_mul_right s (by omega)
     have hcv:CVl S xs[q] m ((cur.toList.drop (q*s)).take s):=CVl.mk (by rw [r1,List.length_take,List.length_drop,Array.length_toList]; omega) (fun i y v e1 e2=>by
      obtain ⟨u,hu,_,hy⟩:=r2 i y e1
      rw [List.getElem?_take] at e2
      split at e2
      ·rw [List.getElem?_drop] at e2
       have:cur[q*s+i]?=some v:=by simpa using e2
       rw [hu] at this
       injection this with this
       subst this; exact hy
      ·cases e2)
     have hcn:=h4 q _ _ hx hy S m _ hcv
     have hyl:y.length=s:=by have e1:=hcn.len; have e2:=hcv.len; omega
     refine ⟨hyl,fun i z hz=>?_⟩
     obtain ⟨v,hv,hzv⟩:=hcn.get hz
     have hi:i < s:=by have:=(List.getElem?_eq_some_iff.1 hz).1; omega
     obtain ⟨u,hu,hone,_⟩:=r2 i _ (List.getElem?_eq_getElem (show i < (xs[q]).length by omega))
     rw [List.getElem?_take,if_pos hi,List.getElem?_drop] at hv
     have hv:cur[q*s+i]?=some v:=by simpa using hv
     rw [hu] at hv
     injection hv with hv
     subst hv
     rw [rowNm_lo (show e - 2000000 < 2000000 by omega)]
     exact ⟨u,hu,hone,hzv⟩
   ·rw [if_neg ej] at hj
    exact ⟨⟨b,hj⟩,h.held j b hj⟩
 ·exact ⟨st,H,h⟩
end Go.Proofs.YtgnnafneglannaaGreatDoor
namespace Go.Proofs.YtgnnafneglannaaGreatDoor
open Go
open Go.RowKit (Below)
set_option linter.unusedVariables false
set_option linter.unusedSimpArgs false
mutual
def rnA (f:Nat→Option Nat):AV→(AV→Prop)→Prop
 | .rw j s n,k=>match f j with | some i=>k (.rw i s n) | none=>False
 | .mw j s q eo n b,k=>match f j with | some i=>k (.mw i s q eo n b) | none=>False
 | .prw j s q p fo,k=>match f j with | some i=>k (.prw i s q p fo) | none=>False
 | .agg cs,k=>rnL f cs fun l=>k (.agg l)
 | .tup cs,k=>rnL f cs fun l=>k (.tup l)
 | .fn g cs,k=>rnL f cs fun l=>k (.fn g l)
 | .acc _ s ys,k=>k (.sl s false ys)
 | .frz _ s n ys,k=>chk (n=ys.length) (k (.sl s false ys))
 | .ptr j o,k=>match f j with | some i=>k (.ptr i o) | none=>False
 | .mpv j,k=>match f j with | some i=>k (.mpv i) | none=>False
 | .ms j o n c s,k=>match f j with | some i=>k (.ms i o n c s) | none=>False
 | .int q n,k=>k (.int q n)
 | .bool b,k=>k (.bool b)
 | .str b,k=>k (.str b)
 | .sl s b ys,k=>k (.sl s b ys)
 | .nils,k=>k .nils
 | .ro cs,k=>k (.ro cs)
 | .nilp,k=>k .nilp
 | .undef,k=>k .undef
 | .dead,k=>k .dead
def rnL (f:Nat→Option Nat):List AV→(List AV→Prop)→Prop
 | [],k=>k []
 | x::xs,k=>rnA f x fun y=>rnL f xs fun l=>k (y::l)
end
def Rn (f:Nat→Option Nat) (m m':Nm):Prop:=∀ i j,f i=some j→m' j=m i
mutual
theorem rnA_sound {f:Nat→Option Nat}:∀ (x:AV) (k:AV→Prop),rnA f x k→∃ y,k y∧∀ S m m' v,Rn f m m'→CV S x m v→CV S y m' v
 | .rw j s n,k,h=>by
  simp only [rnA] at h
  split at h
  ·rename_i i hi
   refine ⟨_,h,fun S m m' v hf hv=>?_⟩
   simp only [CV] at hv ⊢
   rw [hf j i hi]; exact hv
  ·exact h.elim
 | .mpv j,k,h=>by
  simp only [rnA] at h
  split at h
  ·rename_i i hi
   refine ⟨_,h,fun S m m' v hf hv=>?_⟩
   simp only [CV] at hv ⊢
   rw [hf j i hi]; exact hv
  ·exact h.elim
 | .mw j s q eo n b,k,h=>by
  simp only [rnA] at h
  split at h
  ·rename_i i hi
   refine ⟨_,h,fun S m m' v hf hv=>?_⟩
   simp only [CV] at hv ⊢
   rw [hf j i hi]; exact hv
  ·exact h.elim
 | .prw j s q p fo,k,h=>by
  simp only [rnA] at h
  split at h
  ·rename_i i hi
   refine ⟨_,h,fun S m m' v hf hv=>?_⟩
   simp only [CV] at hv ⊢
   rw [hf j i hi]; exact hv
  ·exact h.elim
 | .ptr j o,k,h=>by
  simp only [rnA] at h
  split at h
  ·rename_i i hi
   refine ⟨_,h,fun S m m' v hf hv=>?_⟩
   simp only [CV] at hv ⊢
   rw [hf j i hi]; exact hv
  ·exact h.elim
 | .ms j o n c s,k,h=>by
  simp only [rnA] at h
  split at h
  ·rename_i i hi
   refine ⟨_,h,fun S m m' v hf hv=>?_⟩
   simp only [CV] at hv ⊢
   rw [hf j i hi]; exact hv
  ·exact h.elim
 | .agg cs,k,h=>by
  simp only [rnA] at h
  obtain ⟨l,h1,h2⟩:=rnL_sound cs _ h
  refine ⟨_,h1,fun S m m' v hf hv=>?_⟩
  simp only [CV] at hv ⊢
  obtain ⟨us,e,hu⟩:=hv
  exact ⟨us,e,h2 S m m' _ hf hu⟩
 | .tup cs,k,h=>by
  simp only [rnA] at h
  obtain ⟨l,h1,h2⟩:=rnL_sound cs _ h
  refine ⟨_,h1,fun S m m' v hf hv=>?_⟩
  simp only [CV] at hv ⊢
  obtain ⟨us,e,hu⟩:=hv
  exact ⟨us,e,h2 S m m' _ hf hu⟩
 | .fn g cs,k,h=>by
  simp only [rnA] at h
  obtain ⟨l,h1,h2⟩:=rnL_sound cs _ h
  refine ⟨_,h1,fun S m m' v hf hv=>?_⟩
  simp only [CV] at hv ⊢
  obtain ⟨us,e,hu⟩:=hv
  exact ⟨us,e,h2 S m m' _ hf hu⟩
 | .acc j s ys,k,h=>by
  simp only [rnA] at h
  refine ⟨_,h,fun S m m' v hf hv=>?_⟩
  simp only [CV] at hv ⊢
  obtain ⟨⟨A,c,e,h1,h2,h3,h4⟩,_⟩:=hv
  exact ⟨A,c,e,h1,h2,(fun q=>by cases q),h3,h4⟩
 | .frz j s n ys,k,h=>by
  simp only [rnA] at h
  obtain ⟨hn,h'⟩:=chk_iff.1 h
  refine ⟨_,h',fun S m m' v hf hv=>?_⟩
  simp only [CV] at hv ⊢
  obtain ⟨⟨A,c,e,h1,h2,h3,h4⟩,_⟩:=hv.2 hn
  exact ⟨A,c,e,h1,h2,(fun q=>by cases q),h3,h4⟩
 | .int q n,k,h=>by simp only [rnA] at h; exact ⟨_,h,fun S m m' v hf hv=>by simp only [CV] at hv ⊢; exact hv⟩
 | .bool b,k,h=>by simp only [rnA] at h; exact ⟨_,h,fun S m m' v hf hv=>by simp only [CV] at hv ⊢; exact hv⟩
 | .str b,k,h=>by simp only [rnA] at h; exact ⟨_,h,fun S m m' v hf hv=>by simp only [CV] at hv ⊢; exact hv⟩
 | .sl s b ys,k,h=>by simp only [rnA] at h; exact ⟨_,h,fun S m m' v hf hv=>by simp only [CV] at hv ⊢; exact hv⟩
 | .nils,k,h=>by simp only [rnA] at h; exact ⟨_,h,fun S m m' v hf hv=>by simp only [CV] at hv ⊢; exact hv⟩
 | .ro cs,k,h=>by simp only [rnA] at h; exact ⟨_,h,fun S m m' v hf hv=>by simp only [CV] at hv ⊢; exact hv⟩
 | .nilp,k,h=>by simp only [rnA] at h; exact ⟨_,h,fun S m m' v hf hv=>by simp only [CV] at hv ⊢; exact hv⟩
 | .undef,k,h=>by simp only [rnA] at h; exact ⟨_,h,fun S m m' v hf hv=>by simp only [CV] at hv ⊢; exact hv⟩
 | .dead,k,h=>by simp only [rnA] at h; exact ⟨_,h,fun S m m' v hf hv=>by simp only [CV]⟩
theorem rnL_sound {f:Nat→Option Nat}:∀ (xs:List AV) (k:List AV→Prop),rnL f xs k→∃ l,k l∧∀ S m m' vs,Rn f m m'→CVl S xs m vs→CVl S l m' vs
 | [],k,h=>by
  simp only [rnL] at h
  exact ⟨_,h,fun S m m' vs hf hv=>by simp only [CVl] at hv ⊢; exact hv⟩
 | x::xs,k,h=>by
  simp only [rnL] at h
  obtain ⟨y,h1,h2⟩:=rnA_sound x _ h
  obtain ⟨l,h3,h4⟩:=rnL_sound xs _ h1
  refine ⟨_,h3,fun S m m' vs hf hv=>?_⟩
  simp only [CVl] at hv ⊢
  obtain ⟨u,us,e,hu,hus⟩:=hv
  exact ⟨u,us,e,h2 S m m' u hf hu,h4 S m m' us hf hus⟩
end
def rnB (f:Nat→Option Nat):Blk→(Blk→Prop)→Prop
 | .cells cs,k=>rnL f cs fun l=>k (.cells l)
 | .row e s xs,k=>cond (Nat.blt e 2000000) (k (.row e s xs)) False
 | .tok e s n,k=>k (.tok e s n)
 | .mp kt et l,k=>k (.mp kt et l)
 | .gone,k=>k .gone
theorem rnB_sound {f:Nat→Option Nat} (b:Blk) (k:Blk→Prop) (h:rnB f b k):∃ b',k b'∧∀ S m m' w i j,Rn f m m'→f i=some j→Held S m w i b→Held S m' w j b':=by
 cases b with
 | cells cs =>
  simp only [rnB] at h
  obtain ⟨l,h1,h2⟩:=rnL_sound cs _ h
  refine ⟨_,h1,fun S m m' w i j hf hij hh=>?_⟩
  obtain ⟨g,arr,t,p1,p2,p3,p4⟩:=hh
  exact ⟨g,arr,t,by rw [hf i j hij]; exact p1,p2,h2 S m m' _ hf p3,p4⟩
 | row e s xs =>
  simp only [rnB] at h
  obtain ⟨hb,h⟩:=cond_F h
  have he:e < 2000000:=Nat.le_of_ble_eq_true hb
  refine ⟨_,h,fun S m m' w i j hf hij hh=>?_⟩
  obtain ⟨A,c,p1,p2⟩:=hh
  rw [rowNm_lo he] at p2
  exact ⟨A,c,by rw [hf i j hij]; exact p1,by rw [rowNm_lo he]; exact p2⟩
 | gone =>
  refine ⟨_,h,fun S m m' w i j hf hij hh=>?_⟩
  obtain ⟨u,p1,p2⟩:=hh
  exact ⟨u,by rw [hf i j hij]; exact p1,p2⟩
 | mp kt et l =>
  refine ⟨_,h,fun S m m' w i j hf hij hh=>?_⟩
  obtain ⟨g,D,p1,p2⟩:=hh
  exact ⟨g,D,by rw [hf i j hij]; exact p1,p2⟩
 | tok e s n =>
  refine ⟨_,h,fun S m m' w i j hf hij hh=>?_⟩
  obtain ⟨A,c,p1,p2⟩:=hh
  exact ⟨A,c,by rw [hf i j hij]; exact p1,p2⟩
def rnBs (f:Nat→Option Nat):List Blk→(List Blk→Prop)→Prop
 | [],k=>k []
 | b::bs,k=>rnB f b fun c=>rnBs f bs fun l=>k (c::l)
theorem rnBs_sound {f:Nat→Option Nat}:∀ (bs:List Blk) (k:List Blk→Prop),rnBs f bs k→∃ cs,k cs∧cs.length=bs.length∧∀ (q:Nat) (b c:Blk),bs[q]?=some b→cs[q]?=some c→∀ S m m' w i j,Rn f m m'→f i=some j→Held S m w i b→Held S m' w j c
 | [],k,h=>⟨[],h,rfl,fun q b c e=>by simp at e⟩
 | b::bs,k,h=>by
  simp only [rnBs] at h
  obtain ⟨c,h1,h2⟩:=rnB_sound b _ h
  obtain ⟨cs,h3,h4,h5⟩:=rnBs_sound bs _ h1
  refine ⟨_,h3,by simp [h4],fun q b' c' e1 e2=>?_⟩
  cases q with
  | zero=>simp at e1 e2; subst e1; subst e2; exact h2
  | succ q=>simp at e1 e2; exact h5 q b' c' e1 e2
def idx (k:Nat):List Nat→Nat→Option Nat
 | [],_=>none
 | j::l,i=>cond (Nat.beq j k) (some i) (idx k l (i+1))
theorem idx_get {k:Nat}:∀ {l:List Nat} {i p:Nat},idx k l i=some p→i≤p∧l[p - i]?=some k
 | [],_,_,h=>by simp [idx] at h
 | j::l,i,p,h=>by
  simp only [idx] at h
  cases hj:Nat.beq j k with
  | true =>
   rw [hj] at h
   simp only [cond_true,Option.some.injEq] at h
   subst h
   have:=Nat.eq_of_beq_eq_true hj
   subst this
   exact ⟨Nat.le_refl _,by simp⟩
  | false =>
   rw [hj] at h
   simp only [cond_false] at h
   obtain ⟨h1,h2⟩:=idx_get h
   refine ⟨by omega,?_⟩
   rw [show p - i=(p - (i+1))+1 by omega]; simpa using h2
mutual
def nmsA:AV→List Nat
 | .rw j _ _=>[j]
 | .mw j _ _ _ _ _=>[j]
 | .prw j _ _ _ _=>[j]
 | .ptr j _=>[j]
 | .ms j _ _ _ _=>[j]
 | .mpv j=>[j]
 | .agg cs=>nmsL cs
 | .tup cs=>nmsL cs
 | .fn _ cs=>nmsL cs
 | _=>[]
def nmsL:List AV→List Nat
 | []=>[]
 | x::xs=>nmsA x++nmsL xs
end
def dedup:List Nat→List Nat→List Nat
 | [],acc=>acc
 | k::l,acc=>cond (inL k acc) (dedup l acc) (dedup l (acc++[k]))
theorem dedup_nodup:∀ (l acc:List Nat),acc.Nodup→(dedup l acc).Nodup
 | [],acc,h=>h
 | k::l,acc,h=>by
  simp only [dedup]
  cases hk:inL k acc with
  | true=>exact dedup_nodup l acc h
  | false =>
   refine dedup_nodup l _ ?_
   rw [List.nodup_append]
   refine ⟨h,by simp,fun a ha b hb=>?_⟩
   simp at hb
   subst hb
   rintro rfl
   exact inL_mem hk ha
def nmsB:Blk→List Nat
 | .cells cs=>nmsL cs
 | _=>[]
def foot (h:Nat→Option Blk):Nat→List Nat→List Nat
 | 0,ks=>ks
 | n+1,ks=>foot h n (dedup (ks.flatMap fun k=>match h k with | some b=>nmsB b | none=>[]) ks)
theorem foot_nodup (h:Nat→Option Blk):∀ (n:Nat) (ks:List Nat),ks.Nodup→(foot h n ks).Nodup
 | 0,ks,hk=>hk
 | n+1,ks,hk=>foot_nodup h n _ (dedup_nodup _ _ hk)
def blksOf (h:Nat→Option Blk):List Nat→(List Blk→Prop)→Prop
 | [],k=>k []
 | i::is,k=>match h i with | some b=>blksOf h is fun l=>k (b::l) | none=>False
theorem blksOf_sound {h:Nat→Option Blk}:∀ (ks:List Nat) (k:List Blk→Prop),blksOf h ks k→∃ bs,k bs∧bs.length=ks.length∧∀ (q i:Nat),ks[q]?=some i→∃ b,bs[q]?=some b∧h i=some b
 | [],k,H=>⟨[],H,rfl,fun q i e=>by simp at e⟩
 | j::is,k,H=>by
  simp only [blksOf] at H
  split at H
  ·rename_i b hb
   obtain ⟨bs,h1,h2,h3⟩:=blksOf_sound is _ H
   refine ⟨_,h1,by simp [h2],fun q i e=>?_⟩
   cases q with
   | zero=>simp at e; subst e; exact ⟨b,rfl,hb⟩
   | succ q=>simp at e; obtain ⟨c,hc,hd⟩:=h3 q i e; exact ⟨c,by simpa using hc,hd⟩
  ·exact H.elim
end Go.Proofs.YtgnnafneglannaaGreatDoor
namespace Go.Proofs.YtgnnafneglannaaGreatDoor
open Go
open Go.RowKit (Below)
set_option linter.unusedVariables false
set_option linter.unusedSimpArgs false
def zipB:List Nat→List Blk→List (Nat × Blk)
 | k::ks,b::bs=>(k,b)::zipB ks bs
 | _,_=>[]
theorem zipB_not:∀ (l:List Nat) (cs:List Blk) (st:St) (k:Nat),k ∉ l→lk (st.blks (zipB l cs)).heap k=lk st.heap k
 | [],cs,st,k,_=>by cases cs <;> rfl
 | j::l,[],st,k,_=>rfl
 | j::l,b::cs,st,k,h=>by
  simp only [List.mem_cons,not_or] at h
  simp only [zipB,St.blks]
  rw [zipB_not l cs _ k h.2]
  simp only [St.blk,lk_ins]
  rw [if_neg h.1]
theorem zipB_get:∀ (l:List Nat) (cs:List Blk) (st:St) (q k:Nat) (b:Blk),l.Nodup→l[q]?=some k→cs[q]?=some b→lk (st.blks (zipB l cs)).heap k=some b
 | [],cs,st,q,k,b,_,e,_=>by simp at e
 | j::l,[],st,q,k,b,_,_,e=>by simp at e
 | j::l,c::cs,st,q,k,b,hn,e1,e2=>by
  rw [List.nodup_cons] at hn
  simp only [zipB,St.blks]
  cases q with
  | zero =>
   simp at e1 e2
   subst e1; subst e2
   rw [zipB_not l cs _ j hn.1]
   simp only [St.blk,lk_ins,if_true]
  | succ q =>
   simp at e1 e2
   exact zipB_get l cs _ q k b hn.2 e1 e2
theorem zipB_names:∀ (l:List Nat) (cs:List Blk) (p:Nat × Blk),p ∈ zipB l cs→p.1 ∈ l
 | [],cs,p,h=>by cases cs <;> simp [zipB] at h
 | j::l,[],p,h=>by simp [zipB] at h
 | j::l,c::cs,p,h=>by
  simp only [zipB,List.mem_cons] at h
  rcases h with rfl | h
  ·simp
  ·exact List.mem_cons_of_mem _ (zipB_names l cs p h)
theorem blks_get:∀ (u:List (Nat × Blk)) (st:St) (t:Nat),(st.blks u).get t=st.get t
 | [],st,t=>rfl
 | (i,b)::u,st,t=>by simp only [St.blks]; rw [blks_get u]; rfl
theorem Rel.callH {G:Gh} {kp:List Nat} {st:St} {a:Act} {w:World} {S:Pin} {m:Nm} (h:Rel G kp st a w S m) {ks nw:List Nat} {cs:List Blk} (hnd:(ks++nw).Nodup)
  (hks:∀ k,k ∈ ks→∃ b,lk st.heap k=some b) (hfr:∀ k,k ∈ nw→fresh kp st k=true) (hlen:cs.length=(ks++nw).length) {w':World} {S':Pin} {m':Nm}
  (hos:w'.os=w.os) (htp:w'.tape=w.tape) (hou:w'.output=w.output) (hsz:w.heap.size≤w'.heap.size) (hS:Ext S S')
  (hfm:∀ b,b < w.heap.size→(¬ ∃ k u,k ∈ ks∧m k=some u∧bk u=some b)→w'.heap[b]?=w.heap[b]?∧∀ o,S' b o=S b o) (hA:Agree S' w')
  (hheld:∀ (q k:Nat) (b:Blk),(ks++nw)[q]?=some k→cs[q]?=some b→Held S' m' w' k b)
  (hold:∀ k,k ∉ ks→k ∉ nw→m' k=m k) (hmle:∀ k,k ∈ ks→∀ u,m k=some u→∃ u',m' k=some u'∧Goes u u')
  (hinj:∀ k k' u u' g,k ∈ ks++nw→k' ∈ ks++nw→k≠k'→m' k=some u→m' k'=some u'→bk u=some g→bk u'≠some g)
  (hown:∀ k u g,k ∈ ks++nw→m' k=some u→bk u=some g→w.heap.size≤g∨∃ j v,j ∈ ks∧m j=some v∧bk v=some g) :
  Rel G kp (st.blks (zipB (ks++nw) cs)) a w' S' m':=by
 have hin:∀ k,k ∈ ks++nw→∃ (q:Nat) (b:Blk),(ks++nw)[q]?=some k∧cs[q]?=some b∧lk (st.blks (zipB (ks++nw) cs)).heap k=some b:=by
  intro k hk
  obtain ⟨q,hq⟩:=List.getElem?_of_mem hk
  have hl:q < cs.length:=by rw [hlen]; exact (List.getElem?_eq_some_iff.1 hq).1
  exact ⟨q,cs[q],hq,by simp [hl],zipB_get _ _ _ q k _ hnd hq (by simp [hl])⟩
 have hgoes:∀ k,(k ∈ nw→False)→∀ u,m k=some u→∃ u',m' k=some u'∧Goes u u':=by
  intro k hk u hu
  by_cases e:k ∈ ks
  ·exact hmle k e u hu
  ·exact ⟨u,by rw [hold k e hk]; exact hu,.refl u⟩
 have hM:∀ b,(∃ k u,k ∈ ks∧m k=some u∧bk u=some b)→G.w0.heap.size≤b∨G.M b:=by
  rintro b ⟨k,u,hk,hu,hb⟩
  obtain ⟨c,hc⟩:=hks k hk
  exact h.own k c u b hc hu hb
 refine { h with defers:=h.defers,pin0:=h.pin0.trans hS,pinNew:=?_,agree:=hA,tmps:=?_,held:=?_,inj:=?_,own:=?_,os:=hos.trans h.os,tape:=htp.trans h.tape,output:=hou.trans h.output,size:=Nat.le_trans h.size hsz,frame:=?_,m0:=?_ }
 ·intro b o h1 h2
  have hn:¬ ∃ k u,k ∈ ks∧m k=some u∧bk u=some b:=fun q=>by
   rcases hM b q with h3 | h3
   ·omega
   ·exact h2 h3
  exact ((hfm b (Nat.lt_of_lt_of_le h1 h.size) hn).2 o).trans (h.pinNew b o h1 h2)
 ·intro t
  rw [blks_get]
  refine CV.mono hS _ m m' _ (fun k u hk hu=>hgoes k (fun hq=>?_) u hu) (h.tmps t)
  have:=fresh_get (hfr k hq) t
  rw [hk] at this; cases this
 ·intro k b hk
  by_cases e:k ∈ ks++nw
  ·obtain ⟨q,c,h1,h2,h3⟩:=hin k e
   rw [hk] at h3
   injection h3 with h3
   subst h3
   exact hheld q k b h1 h2
  ·rw [zipB_not _ _ _ _ e] at hk
   simp only [List.mem_append,not_or] at e
   refine (h.held k b hk).keep hS (fun ds vs hb hv=>?_) (hold k e.1 e.2) (fun u g hu hg=>?_)
   ·refine CVl.mono hS ds m m' vs (fun j u hj hu=>hgoes j (fun hq=>?_) u hu) hv
    have hf:=hfr j hq
    simp only [fresh,Bool.and_eq_true] at hf
    have:=nnB_in (nnH_get hf.1.2 hk (fun q=>e.2 (q ▸ hq))) hb
    rw [hj] at this; cases this
   ·refine hfm g ((h.held k b hk).lt hu hg) ?_
    rintro ⟨j,v,hj,hv,hb⟩
    obtain ⟨c,hc⟩:=hks j hj
    exact h.inj j k c b v u g hc hk (fun q=>e.1 (q ▸ hj)) hv hu hb hg
 ·intro k k' b b' u u' g hk hk' hne hu hu' hg hg'
  by_cases e:k ∈ ks++nw
  ·by_cases e':k' ∈ ks++nw
   ·exact hinj k k' u u' g e e' hne hu hu' hg hg'
   ·rw [zipB_not _ _ _ _ e'] at hk'
    simp only [List.mem_append,not_or] at e'
    rw [hold k' e'.1 e'.2] at hu'
    rcases hown k u g e hu hg with h1 | ⟨j,v,hj,hv,hb⟩
    ·have:=(h.held k' b' hk').lt hu' hg'; omega
    ·obtain ⟨c,hc⟩:=hks j hj
     exact h.inj j k' c b' v u' g hc hk' (fun q=>e'.1 (q ▸ hj)) hv hu' hb hg'
  ·rw [zipB_not _ _ _ _ e] at hk
   simp only [List.mem_append,not_or] at e
   rw [hold k e.1 e.2] at hu
   by_cases e':k' ∈ ks++nw
   ·rcases hown k' u' g e' hu' hg' with h1 | ⟨j,v,hj,hv,hb⟩
    ·have:=(h.held k b hk).lt hu hg; omega
    ·obtain ⟨c,hc⟩:=hks j hj
     exact h.inj j k c b v u g hc hk (fun q=>e.1 (q ▸ hj)) hv hu hb hg
   ·rw [zipB_not _ _ _ _ e'] at hk'
    simp only [List.mem_append,not_or] at e'
    rw [hold k' e'.1 e'.2] at hu'
    exact h.inj k k' b b' u u' g hk hk' hne hu hu' hg hg'
 ·intro k b u g hk hu hg
  by_cases e:k ∈ ks++nw
  ·rcases hown k u g e hu hg with h1 | h1
   ·exact .inl (Nat.le_trans h.size h1)
   ·exact hM g h1
  ·rw [zipB_not _ _ _ _ e] at hk
   simp only [List.mem_append,not_or] at e
   rw [hold k e.1 e.2] at hu
   exact h.own k b u g hk hu hg
 ·intro b h1 h2
  have hn:¬ ∃ k u,k ∈ ks∧m k=some u∧bk u=some b:=fun q=>by
   rcases hM b q with h3 | h3
   ·omega
   ·exact h2 h3
  exact ((hfm b (Nat.lt_of_lt_of_le h1 h.size) hn).1).trans (h.frame b h1 h2)
 ·intro k u hu
  obtain ⟨v,hv,hg⟩:=h.m0 k u hu
  obtain ⟨v',hv',hg'⟩:=hgoes k (fun hq=>by
   have hf:=hfr k hq
   simp only [fresh,Bool.and_eq_true,Bool.not_eq_true'] at hf
   exact inL_mem hf.2 (h.keep k u hu)) v hv
  exact ⟨v',hv',hg.trans hg'⟩
end Go.Proofs.YtgnnafneglannaaGreatDoor
namespace Go.Proofs.YtgnnafneglannaaGreatDoor
open Go
open Go.RowKit (Below)
set_option linter.unusedVariables false
set_option linter.unusedSimpArgs false
def brow (ns:List Int):List (List AV):=ns.map fun n=>[.int .u8 n]
def bytesK:List (List AV)→(List Int→Prop)→Prop
 | [],k=>k []
 | y::l,k=>match y with | [.int .u8 n]=>bytesK l fun ns=>k (n::ns) | _=>False
theorem bytesK_sound:∀ (ys:List (List AV)) (k:List Int→Prop),bytesK ys k→∃ ns,k ns∧ys=brow ns
 | [],k,h=>⟨[],h,rfl⟩
 | y::l,k,h=>by
  simp only [bytesK] at h
  split at h
  ·obtain ⟨ns,h1,h2⟩:=bytesK_sound l _ h
   exact ⟨_,h1,by rw [h2]; rfl⟩
  ·exact h.elim
def bytes1:List AV→(List Int→Prop)→Prop
 | [],k=>k []
 | y::l,k=>match y with | .int .u8 n=>bytes1 l fun ns=>k (n::ns) | _=>False
theorem bytes1_sound:∀ (ys:List AV) (k:List Int→Prop),bytes1 ys k→∃ ns,k ns∧ys=ns.map (AV.int .u8)
 | [],k,h=>⟨[],h,rfl⟩
 | y::l,k,h=>by
  simp only [bytes1] at h
  split at h
  ·obtain ⟨ns,h1,h2⟩:=bytes1_sound l _ h
   exact ⟨_,h1,by rw [h2]; rfl⟩
  ·exact h.elim
theorem CVl.ints {S:Pin} {m:Nm} {k:IntKind}:∀ {ns:List Int} {vs:List Value},CVl S (ns.map (AV.int k)) m vs→vs=ns.map (Value.int k)
 | [],vs,h=>by simp only [List.map_nil,CVl] at h; simp [h]
 | n::ns,vs,h=>by
  simp only [List.map_cons,CVl,CV] at h
  obtain ⟨u,us,rfl,⟨rfl,_⟩,h2⟩:=h
  rw [CVl.ints h2]; rfl
theorem brow_flat (ns:List Int):(brow ns).flatten=ns.map (AV.int .u8):=by
 induction ns with
 | nil=>rfl
 | cons n ns ih=>simp only [brow,List.map_cons,List.flatten_cons] at ih ⊢; rw [ih]; rfl
def ab2s (P:Program) (src dst:TypeId) (h:Nat→Option Blk) (hint:Bool) (x:AV) (K:AV→List Nat→Prop):Prop :=
 match P.underlying src,P.underlying dst with
 | some (.slice e),some .string=>(match P.underlying e with
  | some (.int .u8)=>(match x with
   | .ms k off n _ s=>(match h k with | some (.cells cs)=>cond (Nat.beq s 1&&Nat.ble (off+n) cs.length&&Nat.ble n 9223372036854775807) (bytes1 ((cs.drop off).take n) fun ns=>K (.str (strOfNums ns)) [k]) False | _=>False)
   | x=>srcK h 1 x fun ys rd=>cond hint (∃ ns,ys=brow ns∧chk (ns.length≤9223372036854775807) (K (.str (strOfNums ns)) rd)) (bytesK ys fun ns=>chk (ns.length≤9223372036854775807) (K (.str (strOfNums ns)) rd)))
  | _=>False)
 | _,_=>False
theorem ab2s_sound {P:Program} {E:Env} {nt:Nat} {o:Oper} {src dst:TypeId} {y:Operand} {ev:Operand→AV} {h:Nat→Option Blk} {hint:Bool} {K:AV→List Nat→Prop} (ho:o.op=.convert src dst y) (hd:dstOk nt o.dst=true)
  (H:ab2s P src dst h hint (ev y) K):∃ r rd,K r rd∧Good P E nt o ev h r [] rd:=by
 unfold ab2s at H
 split at H
 ·rename_i e hs hdt
  split at H
  ·rename_i he
   have conv:∀ (w:World) (ad:Addr) (ns:List Int) (c:Nat),(loadCells ad ns.length).run P w=.ok (ns.map (Value.int .u8)).toArray w→(do let z ← convert src dst (Value.slice (some ad) ns.length c); pure (Next.value z):Sem Next).run P w=.ok (.value (.string (strOfNums ns))) w:=by
    intro w ad ns c hlc
    rw [Sem.run_bind,run_convert_bytes_string w src dst e _ _ c hs he hdt,run_bytesToString w ad _ c ns hlc,foldl_push_bytes]
    simp [strOfNums,ByteArray.empty,ByteArray.emptyWithCapacity]
    rfl
   have fin:∀ (ys:List (List AV)) (rd:List Nat) (ns:List Int),ys=brow ns→ns.length≤9223372036854775807→(∀ (G:Gh) (kp:List Nat) (st:St) (a:Act) (w:World) (S:Pin) (m:Nm) (v:Value),Rel G kp st a w S m→(∀ j ∈ rd,lk st.heap j=h j)→CV S (ev y) m v→Src S noNm w 1 ys v)→Good P E nt o ev h (.str (strOfNums ns)) [] rd:=by
    intro ys rd ns hy hlen hsrc
    refine good_value hd fun G kp st a w S m hG hR he' hk hf=>?_
    have hv:=he' y (by simp [ho,Op.operands])
    obtain ⟨A,c,hve,h1,h2,news,h3,h4,h5,h6⟩:=hsrc G kp st a w S m _ hR hk hv
    subst hy
    rw [brow_flat] at h4
    have hn:=CVl.ints h4
    subst hn
    have hl:(brow ns).length=ns.length:=by simp [brow]
    refine ⟨.string (strOfNums ns),w,S,m,?_,hR,by simp only [CV]; exact ⟨trivial,by rw [strOfNums_size]; exact hlen⟩⟩
    simp only [execOp,ho,hve,hl]
    rcases h6 with ⟨rfl,rfl⟩ | ⟨ad,rfl,h7⟩
    ·have:ns=[]:=List.eq_nil_of_length_eq_zero (by omega)
     subst this
     rw [Sem.run_bind]
     erw [run_convert_bytes_nil w src e hs he 0 0 dst hdt]
     rfl
    ·have hlc:(loadCells ad ns.length).run P w=.ok (ns.map (Value.int .u8)).toArray w:=by
      have:=run_loadCells_list (P:=P) w ad (ns.map (Value.int .u8)) (fun j v hj=>h7 j v hj)
      simpa using this
     exact conv w ad ns c hlc
   split at H
   ·rename_i x k off n c s hx
    split at H
    ·rename_i cs hcs
     obtain ⟨hb,H1⟩:=cond_F H
     simp only [Bool.and_eq_true] at hb
     have hs1:=Nat.eq_of_beq_eq_true hb.1.1
     have hle:=Nat.le_of_ble_eq_true hb.1.2
     have hn:=Nat.le_of_ble_eq_true hb.2
     obtain ⟨ns,H2,hns⟩:=bytes1_sound _ _ H1
     have hlen:ns.length=n:=by
      have:=congrArg List.length hns
      simp at this; omega
     refine ⟨_,[k],H2,good_value hd fun G kp st a w S m hG hR he' hk hf=>?_⟩
     have hv:=he' y (by simp [ho,Op.operands])
     rw [hx] at hv
     simp only [CV] at hv
     obtain ⟨g,ofs,hm,hve,h1,h2,h3⟩:=hv
     obtain ⟨g',arr,t,p1,p2,p3,p4⟩:=hR.held k _ ((hk k (by simp)).trans hcs)
     rw [hm] at p1
     injection p1 with p1
     injection p1 with p1
     injection p1 with p1
     injection p1 with p1
     subst p1
     have hval:(arr.toList.drop off).take n=ns.map (Value.int .u8):=by
      have:=(p3.drop off).take n
      rw [hns] at this
      exact CVl.ints this
     refine ⟨.string (strOfNums ns),w,S,m,?_,hR,by simp only [CV]; exact ⟨trivial,by rw [strOfNums_size,hlen]; exact hn⟩⟩
     simp only [execOp,ho,hve]
     have hlc:(loadCells ⟨g,ofs,none⟩ ns.length).run P w=.ok (ns.map (Value.int .u8)).toArray w:=by
      have:=run_loadCells_list (P:=P) w ⟨g,ofs,none⟩ (ns.map (Value.int .u8)) (fun j v hj=>by
       have hjn:j < n:=by
        have:=(List.getElem?_eq_some_iff.1 hj).1
        simp at this; omega
       have hc:c≠0:=by omega
       rw [h1 hc,add_none,cell_of_row w g (off+j) arr t (0,0) p2]
       rw [← hval,List.getElem?_take,if_pos hjn,List.getElem?_drop] at hj
       simpa using hj)
      simpa using this
     have:=conv w ⟨g,ofs,none⟩ ns c hlc
     rw [hlen] at this
     exact this
    ·exact H.elim
   ·obtain ⟨ys,rd,H1,hsrc⟩:=srcK_sound H
    cases hint with
    | true =>
     simp only [cond_true] at H1
     obtain ⟨ns,hy,H2⟩:=H1
     obtain ⟨hl,H3⟩:=chk_iff.1 H2
     exact ⟨_,rd,H3,fin ys rd ns hy hl hsrc⟩
    | false =>
     simp only [cond_false] at H1
     obtain ⟨ns,H2,hy⟩:=bytesK_sound _ _ H1
     obtain ⟨hl,H3⟩:=chk_iff.1 H2
     exact ⟨_,rd,H3,fin ys rd ns hy hl hsrc⟩
  ·exact H.elim
 ·exact H.elim
end Go.Proofs.YtgnnafneglannaaGreatDoor
namespace Go.Proofs.YtgnnafneglannaaGreatDoor
open Go
open Go.RowKit (Below)
set_option linter.unusedVariables false
set_option linter.unusedSimpArgs false
def strNums (s:ByteArray):List Int:=s.data.toList.map fun b=>(b.toNat:Int)
theorem strNums_len (s:ByteArray):(strNums s).length=s.size:=by simp [strNums]
def as2b (P:Program) (nm:Nat) (src dst:TypeId) (x:AV) (K:AV→List (Nat × Blk)→List Nat→Prop):Prop :=
 match P.underlying src,P.underlying dst with
 | some .string,some (.slice e)=>(match P.underlying e with
  | some (.int .u8)=>(match x with
   | .str s=>cond (Nat.blt e 1000000) (K (.rw nm 1 s.size) [(nm,.row (Nat.add e 1000000) 1 (brow (strNums s)))] []) False
   | _=>False)
  | _=>False)
 | _,_=>False
theorem as2b_sound {P:Program} {E:Env} {nt nm:Nat} {o:Oper} {src dst:TypeId} {y:Operand} {ev:Operand→AV} {h:Nat→Option Blk} {K:AV→List (Nat × Blk)→List Nat→Prop} (ho:o.op=.convert src dst y) (hd:dstOk nt o.dst=true)
  (H:as2b P nm src dst (ev y) K):∃ r b,K r [(nm,b)] []∧Good P E nt o ev h r [(nm,b)] []:=by
 unfold as2b at H
 split at H
 ·rename_i e hs hdt
  split at H
  ·rename_i he
   split at H
   ·rename_i s hx
    obtain ⟨hle,H1⟩:=cond_F H
    have hle:e < 1000000:=Nat.le_of_ble_eq_true hle
    refine ⟨_,_,H1,good_value hd fun G kp st a w S m hG hR he' hrd hf=>?_⟩
    have hv:=he' y (by simp [ho,Op.operands])
    rw [hx] at hv
    simp only [CV] at hv
    obtain ⟨hv,hsz⟩:=hv
    have hrow:∀ (j:Nat) (x:List AV),(brow (strNums s))[j]?=some x→x.length=1∧∀ (i:Nat) (z:AV),x[i]?=some z→∃ v,(Lib.bytesCells w e s)[j*1+i]?=some v∧v.oneCell'=true∧CV S z noNm v:=by
     intro j x hj
     unfold brow at hj
     rw [List.getElem?_map] at hj
     cases hn:(strNums s)[j]? with
     | none=>rw [hn] at hj; cases hj
     | some n =>
      rw [hn] at hj
      simp only [Option.map_some,Option.some.injEq] at hj
      subst hj
      refine ⟨rfl,fun i z hi=>?_⟩
      have hi0:i=0:=by
       have:=(List.getElem?_eq_some_iff.1 hi).1
       simp only [List.length_singleton] at this
       omega
      subst hi0
      simp only [List.getElem?_cons_zero,Option.some.injEq] at hi
      subst hi
      have hjl:j < s.size:=by have:=(List.getElem?_eq_some_iff.1 hn).1; rw [strNums_len] at this; exact this
      unfold strNums at hn
      rw [List.getElem?_map] at hn
      have h2:j < s.data.toList.length:=by simpa using hjl
      rw [List.getElem?_eq_getElem h2] at hn
      simp only [Option.map_some,Option.some.injEq] at hn
      refine ⟨.int .u8 n,?_,rfl,?_⟩
      ·unfold Lib.bytesCells
       have h3:j < s.data.size:=hjl
       rw [Nat.mul_one,Nat.add_zero,Array.getElem?_append_left (by simpa using h3),Array.getElem?_map,Array.getElem?_eq_getElem h3]
       simp only [Option.map_some,Option.some.injEq,Value.int.injEq,true_and]
       rw [← hn]; simp
      ·simp only [CV]
       refine ⟨trivial,?_⟩
       rw [← hn]
       have:=s.data.toList[j].toNat_lt
       simp only [rng]
       omega
    have hge:=grownCap_ge w s.size 0 e
    have hmx:=grownCap_le_maxLen w s.size 0 e hsz
    have hcs:(Lib.bytesCells w e s).size=grownCap w s.size 0 e*1:=by
     unfold Lib.bytesCells
     simp
     have:s.data.size=s.size:=rfl
     omega
    have h2m:e+1000000 < 2000000:=Nat.add_lt_add_right hle 1000000
    have hnew:=hR.newRowW (e:=e+1000000) (s:=1) (c:=grownCap w s.size 0 e) (xs:=brow (strNums s)) (w':=Lib.bytesWorld w e s) (cur:=Lib.bytesCells w e s) (fr:=((Lib.bytesCells w e s).size,(Lib.bytesCells w e s).size+1)) (hf (nm,.row (Nat.add e 1000000) 1 (brow (strNums s))) (by simp) (by simp))
     ⟨rfl,rfl,rfl,by rw [Lib.bytesWorld_size]; omega,fun k hk=>Lib.bytesWorld_at_old w e s k hk⟩
     (by rw [Lib.bytesWorld_at_new]; unfold rowTy; rw [if_neg (by omega),if_pos h2m,Nat.add_sub_cancel]) (.inr ⟨by omega,h2m,Nat.le_refl _⟩) (fun b o hb=>Lib.bytesWorld_old w e s ⟨b,o,none⟩ hb)
     (by simp [brow,strNums_len]; exact hge) hmx hcs (by rw [rowNm_lo h2m]; exact hrow)
    have hlen:(brow (strNums s)).length=s.size:=by simp [brow,strNums_len]
    rw [hlen] at hnew
    refine ⟨.slice (some ⟨w.heap.size,0,none⟩) s.size (grownCap w s.size 0 e),Lib.bytesWorld w e s,S,_,?_,hnew.1,hnew.2⟩
    simp only [execOp,ho,hv,Sem.run_bind,Lib.run_convert_string_bytes w src dst e s hs hdt he]
    rfl
   ·exact H.elim
  ·exact H.elim
 ·exact H.elim
theorem part_loads {P:Program} {t:TypeId} {cs:List AV} {off:Nat} {r:AV} (h:LoadsTo P t (cs.drop off) r) :
  ∀ (us:Array Value) w S m,CVl S cs m us.toList→∃ v,(part t us off).run P w=.ok v w∧CV S r m v:=by
 rcases h with ⟨d,i,h1,h2,h3,h4,rfl⟩ | ⟨d,h1,h2,h3⟩
 ·refine fun us w S m hc=>⟨.agg (us.extract off (off+i.size)),?_,?_⟩
  ·simp [part,run_isAgg h1,h2,run_sizeOf h3]
  ·simp only [CV]
   refine ⟨_,rfl,?_⟩
   have hl:=hc.len
   refine CVl.mk ?_ fun j x v e1 e2=>?_
   ·simp at h4 ⊢; simp at hl; omega
   ·rw [List.getElem?_take] at e1
    split at e1
    ·rename_i hj
     rw [List.getElem?_drop] at e1
     obtain ⟨v',hv',hx⟩:=hc.get e1
     have:v=v':=by
      simp only [Array.toList_extract,List.extract_eq_take_drop,List.getElem?_take,List.getElem?_drop] at e2
      rw [if_pos (by omega)] at e2
      exact Option.some.inj (e2.symm.trans hv')
     subst this; exact hx
    ·cases e1
 ·intro us w S m hc
  rw [List.getElem?_drop] at h3
  obtain ⟨v,hv,hx⟩:=hc.get h3
  refine ⟨v,?_,hx⟩
  have hv':us[off]?=some v:=by simpa using hv
  simp [part,run_isAgg h1,h2,hv']
def aixS (P:Program) (E:Env) (d:Option Nat) (t:TypeId) (x i:AV) (K:AV→Prop):Prop :=
 match P.underlying t with
 | some (.array n e)=>(match x,P.info? e with
  | .agg cs,some inf=>intK i fun j=>chk (0≤j∧j < n) (loadK P E d e (cs.drop (j.toNat*inf.size)) K)
  | _,_=>False)
 | _=>False
theorem aixS_sound {P:Program} {E:Env} {d:Option Nat} {o:Oper} {t:TypeId} {x i:Operand} {ev:Operand→AV} {K:AV→Prop} (ho:o.op=.index t x i) (h:aixS P E d t (ev x) (ev i) K):∃ r,K r∧PG P o ev r:=by
 unfold aixS at h
 split at h
 ·rename_i n e hd
  split at h
  ·rename_i cs inf hx hi
   obtain ⟨j,h,hj⟩:=intK_sound h
   obtain ⟨hb,h⟩:=chk_iff.1 h
   obtain ⟨r,h1,h2⟩:=loadK_sound h
   refine ⟨r,h1,fun a w S m he=>?_⟩
   have hv:=he x (by simp [ho,Op.operands])
   have hu:=he i (by simp [ho,Op.operands])
   rw [hx] at hv
   simp only [CV] at hv
   obtain ⟨us,hv,hus⟩:=hv
   obtain ⟨q,hu⟩:=hj S m _ hu
   obtain ⟨z,h3,h4⟩:=part_loads h2 us w S m hus
   exact ⟨z,by simp [execOp,ho,hv,hu,Instr.index,asIntOf,run_underlying hd,hb,sizeOf,typeInfo,hi,h3],h4⟩
  ·exact h.elim
 ·exact h.elim
def as2s (P:Program) (src dst:TypeId) (x:AV) (h:Nat→Option Blk) (K:AV→List (Nat × Blk)→List Nat→Prop):Prop :=
 match P.underlying src with
 | some (.slice e)=>(match P.underlying e with
  | some (.int .u8)=>(match x with
   | .rw k s n=>(match h k with
    | some (.row e' s' xs)=>cond (Nat.beq src dst&&Nat.blt e' 1000000) (chk (0 < xs.length∧n=xs.length) (K (.rw k s n) [(k,.row (Nat.add e' 1000000) s' xs)] [k])) False
    | _=>False)
   | _=>False)
  | _=>False)
 | _=>False
theorem freeze_at (w:World) (g:Nat) (cur:Array Value) (t:TypeId) (h:w.heap[g]?=some (.cells cur t (0,0))):(w.freeze ⟨g,cur.size,none⟩ 1).heap[g]?=some (.cells cur t (cur.size,cur.size+1)):=by
 have hlt:g < w.heap.size:=(Array.getElem?_eq_some_iff.1 h).1
 have hv:w.heap[g]=.cells cur t (0,0):=(Array.getElem?_eq_some_iff.1 h).2
 have key:∀ (f:Obj→Obj),(w.heap.modify g f)[g]?=some (f (.cells cur t (0,0))):=by
  intro f
  have h2:g < (w.heap.modify g f).size:=by simpa using hlt
  rw [Array.getElem?_eq_getElem h2,Array.getElem_modify_self,hv]
 show (w.heap.modify g _)[g]?=_
 rw [key]
 rfl
theorem freeze_other (w:World) (g o j:Nat) (h:j≠g):(w.freeze ⟨g,o,none⟩ 1).heap[j]?=w.heap[j]?:=by
 simp [World.freeze,Array.getElem?_modify,Ne.symm h]
theorem freeze_size (w:World) (g o:Nat):(w.freeze ⟨g,o,none⟩ 1).heap.size=w.heap.size:=by
 simp [World.freeze]
theorem run_convert_mark {P:Program} (w:World) (src e:TypeId) (g n c:Nat) (cur:Array Value) (t:TypeId) (fr:Nat × Nat) (hs:P.underlying src=some (.slice e)) (he:P.underlying e=some (.int .u8)) (hg:w.heap[g]?=some (.cells cur t fr)) :
  (convert src src (.slice (some ⟨g,0,none⟩) n c)).run P w=.ok (.slice (some ⟨g,0,none⟩) n c) (w.freeze ⟨g,cur.size,none⟩ 1):=by
 have hsh:w.shape? g=some (t,cur.size):=by simp [World.shape?,hg]
 simp [convert,run_underlying hs,run_underlying he,markStringish,hsh]
theorem as2s_sound {P:Program} {E:Env} {nt:Nat} {o:Oper} {src dst:TypeId} {y:Operand} {ev:Operand→AV} {h:Nat→Option Blk} {K:AV→List (Nat × Blk)→List Nat→Prop} (ho:o.op=.convert src dst y) (hd:dstOk nt o.dst=true)
  (H:as2s P src dst (ev y) h K):∃ r u rd,K r u rd∧(∀ p ∈ u,p.1 ∈ rd)∧Good P E nt o ev h r u rd:=by
 unfold as2s at H
 split at H
 ·rename_i e hs
  split at H
  ·rename_i he
   split at H
   ·rename_i x k s n hx
    split at H
    ·rename_i bk' e' s' xs hk
     obtain ⟨hb,H1⟩:=cond_F H
     simp only [Bool.and_eq_true] at hb
     have hsd:=Nat.eq_of_beq_eq_true hb.1
     have hle:e' < 1000000:=Nat.le_of_ble_eq_true hb.2
     obtain ⟨⟨h0,hn⟩,H2⟩:=chk_iff.1 H1
     refine ⟨_,_,_,H2,fun p hp=>by simp at hp ⊢; subst hp; rfl,good_value hd fun G kp st a w S m hG hR he' hrd hf=>?_⟩
     have hv:=he' y (by simp [ho,Op.operands])
     rw [hx] at hv
     have hv0:=hv
     simp only [CV] at hv
     obtain ⟨_,A1,q1,c1,p1,p2,p3⟩:=hv
     have hks:lk st.heap k=some (.row e' s' xs):=by rw [hrd k (by simp)]; exact hk
     obtain ⟨A,c,r1,r2,r3,r4⟩:=hR.held k _ hks
     rw [r1] at p1
     injection p1 with p1
     injection p1 with _ p1
     injection p1 with t1 t2 t3
     subst t1; subst t3
     have hvv:=p3 (by omega)
     obtain ⟨g,cur,fr,rfl,u1,u2,u3,u4,u5⟩:=r4.resolve_left (fun q=>by have:=q.2; omega)
     have hfr:=u2.lt hle
     subst hfr
     rw [rowTy_lt hle] at u1
     refine ⟨.slice (some ⟨g,0,none⟩) q1 c,w.freeze ⟨g,cur.size,none⟩ 1,S,m,?_,?_,?_⟩
     ·have hev:a.eval y=.slice (some ⟨g,0,none⟩) q1 c:=hvv
      simp only [execOp,ho,hev,← hsd,Sem.run_bind]
      rw [run_convert_mark w src e g q1 c cur e' (0,0) hs he u1]
      rfl
     ·have h2m:e'+1000000 < 2000000:=Nat.add_lt_add_right hle 1000000
      rw [rowNm_lo (Nat.lt_trans hle (by decide))] at u5
      refine hR.writeR hks r1 (by omega) rfl rfl rfl (freeze_size w g _) (fun j hj=>freeze_other w g _ j hj) u4 ⟨_,c,r1,r2,r3,.inr ⟨g,cur,(cur.size,cur.size+1),rfl,?_,.inr ⟨Nat.le_add_left _ _,h2m,Nat.le_refl _⟩,u3,u4,by rw [rowNm_lo (show Nat.add e' 1000000 < 2000000 from h2m)]; exact u5⟩⟩
      rw [freeze_at w g cur e' u1]
      show _=some (Obj.cells cur (rowTy (e'+1000000)) _)
      unfold rowTy
      rw [if_neg (by omega),if_pos h2m,Nat.add_sub_cancel]
     ·rw [← hvv]; exact hv0
    ·exact H.elim
   ·exact H.elim
  ·exact H.elim
 ·exact H.elim
end Go.Proofs.YtgnnafneglannaaGreatDoor
namespace Go.Proofs.YtgnnafneglannaaGreatDoor
open Go
open Go.Maps (Tidy IsMap int_keyed keyOf_int_mk)
set_option linter.unusedVariables false
set_option linter.unusedSimpArgs false
theorem mDel_key (n:Int):∀ (l:List (Int × AV)) (q:Int),q ∈ (mDel l n).map Prod.fst→q≠n∧q ∈ l.map Prod.fst
 | [],q,h=>by simp [mDel] at h
 | (k,x)::l,q,h=>by
  simp only [mDel] at h
  by_cases e:k=n
  ·rw [decide_eq_true e] at h
   obtain ⟨h1,h2⟩:=mDel_key n l q h
   exact ⟨h1,by simp only [List.map_cons,List.mem_cons]; exact .inr h2⟩
  ·rw [decide_eq_false e] at h
   simp only [cond_false,List.map_cons,List.mem_cons] at h
   rcases h with rfl | h
   ·exact ⟨e,by simp⟩
   ·obtain ⟨h1,h2⟩:=mDel_key n l q h
    exact ⟨h1,by simp only [List.map_cons,List.mem_cons]; exact .inr h2⟩
theorem mDel_nd (n:Int):∀ {l:List (Int × AV)},(l.map Prod.fst).Nodup→((mDel l n).map Prod.fst).Nodup
 | [],_=>by simp [mDel]
 | (k,x)::l,h=>by
  simp only [List.map_cons,List.nodup_cons] at h
  simp only [mDel]
  by_cases e:k=n
  ·rw [decide_eq_true e]; exact mDel_nd n h.2
  ·rw [decide_eq_false e]
   simp only [cond_false,List.map_cons,List.nodup_cons]
   exact ⟨fun q=>h.1 (mDel_key n l k q).2,mDel_nd n h.2⟩
theorem mPut_nd {l:List (Int × AV)} (h:(l.map Prod.fst).Nodup) (n:Int) (x:AV):((mPut l n x).map Prod.fst).Nodup:=by
 unfold mPut
 simp only [List.map_cons,List.nodup_cons]
 exact ⟨fun q=>(mDel_key n l n q).1 rfl,mDel_nd n h⟩
theorem mDel_none {n:Int}:∀ {l:List (Int × AV)},n ∉ l.map Prod.fst→mDel l n=l
 | [],_=>rfl
 | (k,x)::l,h=>by
  simp only [List.map_cons,List.mem_cons,not_or] at h
  simp only [mDel]
  rw [decide_eq_false (fun e=>h.1 e.symm)]
  simp only [cond_false]
  rw [mDel_none h.2]
theorem mDel_len (n:Int):∀ {l:List (Int × AV)},(l.map Prod.fst).Nodup→(mDel l n).length+(cond (mGet l n).isSome 1 0)=l.length
 | [],_=>rfl
 | (k,x)::l,h=>by
  simp only [List.map_cons,List.nodup_cons] at h
  simp only [mDel,mGet]
  by_cases e:k=n
  ·rw [decide_eq_true e]
   subst e
   simp only [cond_true]
   rw [mDel_none h.1]
   rfl
  ·rw [decide_eq_false e]
   have:=mDel_len n h.2
   simp only [cond_false,List.length_cons]
   omega
theorem mGet_del {n q:Int} (hq:q≠n):∀ (l:List (Int × AV)),mGet (mDel l n) q=mGet l q
 | []=>rfl
 | (k,x)::l=>by
  simp only [mDel,mGet]
  by_cases e:k=n
  ·rw [decide_eq_true e,decide_eq_false (fun w=>hq (w.symm.trans e))]
   exact mGet_del hq l
  ·rw [decide_eq_false e]
   simp only [cond_false,mGet]
   rw [mGet_del hq l]
theorem mGet_put (l:List (Int × AV)) (n q:Int) (x:AV):mGet (mPut l n x) q=if n=q then some x else mGet l q:=by
 unfold mPut
 simp only [mGet]
 by_cases e:n=q
 ·rw [decide_eq_true e,if_pos e]; rfl
 ·rw [decide_eq_false e,if_neg e]; exact mGet_del (fun w=>e w.symm) l
def mInt (l:List (Int × AV)) (n:Int):Int:=match mGet l n with | some (.int _ z)=>z | _=>0
def mBool (l:List (Int × AV)) (n:Int):Bool:=match mGet l n with | some (.bool b)=>b | _=>false
def mHas (l:List (Int × AV)) (n:Int):Bool:=(mGet l n).isSome
def isI64 (P:Program) (t:TypeId):Bool:=match P.underlying t with | some (.int .i64)=>true | _=>false
def isBl (P:Program) (t:TypeId):Bool:=match P.underlying t with | some .bool=>true | _=>false
theorem isI64_iff {P:Program} {t:TypeId} (h:isI64 P t=true):P.underlying t=some (.int .i64):=by
 unfold isI64 at h
 split at h
 ·rename_i e; exact e
 ·cases h
theorem isBl_iff {P:Program} {t:TypeId} (h:isBl P t=true):P.underlying t=some .bool:=by
 unfold isBl at h
 split at h
 ·rename_i e; exact e
 ·cases h
def amkM (P:Program) (nm:Nat) (t:TypeId) (K:AV→List (Nat × Blk)→List Nat→Prop):Prop :=
 match P.underlying t with
 | some (.map kt et)=>cond (isI64 P kt) (K (.mpv nm) [(nm,.mp kt et [])] []) False
 | _=>False
theorem amkM_sound {P:Program} {E:Env} {nt nm:Nat} {o:Oper} {t:TypeId} {ev:Operand→AV} {h:Nat→Option Blk} {K:AV→List (Nat × Blk)→List Nat→Prop} (ho:o.op=.makeMap t none) (hd:dstOk nt o.dst=true)
  (H:amkM P nm t K):∃ r b,K r [(nm,b)] []∧Good P E nt o ev h r [(nm,b)] []:=by
 unfold amkM at H
 split at H
 ·rename_i kt et ht
  obtain ⟨hk,H'⟩:=cond_F H
  refine ⟨_,_,H',good_value hd fun G kp st a w S m hG hR he hrd hf=>?_⟩
  refine ⟨.map (some w.heap.size),w.alloc (.map #[] 0),S,m.set nm (.map (some w.heap.size)),?_,?_,?_⟩
  ·have hmk:(Instr.makeMap t none).run P w=.ok (.map (some w.heap.size)) (w.alloc (.map #[] 0)):=rfl
   simp [execOp,ho,hmk]
  ·refine hR.fresh_ (hf (nm,.mp kt et []) (by simp) (by simp)) ((Go.RowKit.Below.refl _ _).alloc (Nat.le_refl _) _) (Ext.refl S) (fun _ _ _=>rfl) ?_ ?_ ?_
   ·intro b q v e
    refine ⟨?_,(hR.agree b q v e).2⟩
    rw [World.cell?_alloc_lt w _ _ (hR.agree.lt e)]
    exact (hR.agree b q v e).1
   ·intro g hg
    simp only [bk,Option.some.injEq] at hg
    omega
   ·refine ⟨w.heap.size,.map [],Nm.set_same _ _ _,World.ownsMap_made w _ _ _,⟨rfl,fun n _=>rfl,fun n x _ e=>by simp [mGet] at e,by simp,fun n x e=>by simp [mGet] at e⟩⟩
  ·simp only [CV]
   exact ⟨_,Nm.set_same _ _ _,rfl⟩
 ·exact H.elim
def okEl (P:Program) (et:TypeId):AV→Bool
 | .int .i64 _=>isI64 P et
 | .bool _=>isBl P et
 | _=>false
def aupM (P:Program) (t:TypeId) (mv k x:AV) (h:Nat→Option Blk) (K:List (Nat × Blk)→List Nat→Prop):Prop :=
 match mv,k with
 | .mpv j,.int .i64 n=>(match h j,P.underlying t with
  | some (.mp kt et l),some (.map kt' et')=>cond (Nat.beq kt kt'&&Nat.beq et et'&&isI64 P kt&&okEl P et x) (chk (l.length≤140737488355327) (K [(j,.mp kt et (mPut l n x))] [j])) False
  | _,_=>False)
 | _,_=>False
theorem lit_ne {n q:Int} (h:n≠q):(Lit.int .i64 n)≠.int .i64 q:=fun e=>by injection e with _ e; exact h e
theorem mrng_wf {n:Int} (h:rng .i64 n):(Lit.int .i64 n).wf=true:=WalkArith.wf_i64 h
theorem aupM_sound {P:Program} (hP:P=Tryz.prog) {E:Env} {nt:Nat} {o:Oper} {t:TypeId} {mv k x:Operand} {ev:Operand→AV} {h:Nat→Option Blk} {K:List (Nat × Blk)→List Nat→Prop} (ho:o.op=.mapUpdate t mv k x) (hd:o.dst=none)
  (H:aupM P t (ev mv) (ev k) (ev x) h K):∃ u rd,K u rd∧(∀ p ∈ u,p.1 ∈ rd)∧Good P E nt o ev h .undef u rd:=by
 unfold aupM at H
 split at H
 ·rename_i j n hj hk
  split at H
  ·rename_i kt et l kt' et' hl ht
   obtain ⟨hb,H0⟩:=cond_F H
   simp only [Bool.and_eq_true] at hb
   obtain ⟨⟨⟨b1,b2⟩,b3⟩,b4⟩:=hb
   have b1:=Nat.eq_of_beq_eq_true b1
   have b2:=Nat.eq_of_beq_eq_true b2
   subst b1; subst b2
   have b3:=isI64_iff b3
   obtain ⟨hlen,H1⟩:=chk_iff.1 H0
   refine ⟨_,_,H1,by simp,good_skip hd fun G kp st a w S m hG hR he hrd hf=>?_⟩
   have vm:=he mv (by rw [ho]; simp [Op.operands])
   have vk:=he k (by rw [ho]; simp [Op.operands])
   have vx:=he x (by rw [ho]; simp [Op.operands])
   rw [hj] at vm
   rw [hk] at vk
   simp only [CV] at vm vk
   obtain ⟨g,hm,vm⟩:=vm
   obtain ⟨vk,hn⟩:=vk
   have hks:lk st.heap j=some (.mp kt et l):=by rw [hrd j (by simp)]; exact hl
   obtain ⟨g',D,e1,e2,e3⟩:=hR.held j _ hks
   rw [hm] at e1
   injection e1 with e1
   injection e1 with e1
   injection e1 with e1
   subst e1
   subst hP
   have hkey:=keyOf_int_mk b3 (mrng_wf hn)
   have hel:∃ d,plainElem (H:=Unit) Tryz.prog et (a.eval x)=some (d,[])∧d=avD (ev x)∧((∃ z,ev x=.int .i64 z∧rng .i64 z∧Tryz.prog.underlying et=some (.int .i64))∨(∃ b,ev x=.bool b∧Tryz.prog.underlying et=some .bool)):=by
    generalize hx:ev x=y at vx b4
    cases y with
    | int q z =>
     cases q <;> simp only [okEl,Bool.false_eq_true] at b4
     simp only [CV] at vx
     rw [vx.1]
     exact ⟨_,plainElem_int (isI64_iff b4) (mrng_wf vx.2),rfl,.inl ⟨z,rfl,vx.2,isI64_iff b4⟩⟩
    | bool b =>
     simp only [okEl] at b4
     simp only [CV] at vx
     rw [vx]
     exact ⟨_,plainElem_bool (isBl_iff b4) b,rfl,.inr ⟨b,rfl,isBl_iff b4⟩⟩
    | _=>simp only [okEl,Bool.false_eq_true] at b4
   obtain ⟨d,hd1,rfl,hkind⟩:=hel
   have K:=int_keyed b3
   have tidy:=e2.tidy K
   obtain ⟨w',hrun,o1,o2⟩:=e2.store K ht (show l.length < maxLen from by unfold maxLen; omega) hkey hd1
   have hgr:=o2.grown
   have hsz:Maps.size (D.put (.int .i64 n) (avD (ev x)))=(mPut l n (ev x)).length:=by
    rw [Maps.size_put tidy,e3.has n hn,e3.size]
    have:=mDel_len n e3.nd
    unfold mPut
    cases hq:(mGet l n).isSome with
    | true=>rw [hq] at this; simp only [cond_true] at this; simp; omega
    | false=>rw [hq] at this; simp only [cond_false] at this; simp; omega
   have own2:w'.ownsMap Tryz.prog kt (plainElem (H:=Unit) Tryz.prog et) g (mPut l n (ev x)).length (D.put (.int .i64 n) (avD (ev x))):=by
    obtain ⟨es,clock,q1,q2,q3,q4⟩:=o1
    refine ⟨es,clock,q1,q2,?_,q4⟩
    rw [← hsz,q4]
    simp [Maps.size,length_sorted]
   refine ⟨w',S,m,by simp [execOp,ho,vm,vk,hrun],?_⟩
   have hSn:∀ q,S g q=none:=by
    intro q
    cases e:S g q with
    | none=>rfl
    | some v =>
     have:=(hR.agree _ _ _ e).1
     obtain ⟨es,clock,q1,_⟩:=e2
     simp [World.cell?,q1] at this
   refine hR.writeM hks hm hgr.os hgr.tape hgr.output ?_ ?_ hSn ⟨g,_,hm,own2,hsz,fun q hq=>?_,fun q y hq e z=>?_,mPut_nd e3.nd n _,fun q y e=>?_⟩
   ·obtain ⟨es,clock,es',clock',_,rfl⟩:=o2
    simp [Go.ChangeMaps.setBlock]
   ·obtain ⟨es,clock,es',clock',hb,rfl⟩:=o2
    intro i hi
    exact Go.ChangeMaps.heap_setBlock_other hb _ hi
   ·rw [mGet_put]
    by_cases e:n=q
    ·subst e
     rw [if_pos rfl,Maps.has_put_same e2.isMap (K.key hkey)]; rfl
    ·rw [if_neg e,Maps.has_put_other (lit_ne (fun w=>e w.symm)),e3.has q hq]
   ·rw [mGet_put] at e
    by_cases e':n=q
    ·subst e'
     rw [if_pos rfl] at e
     have e:=Option.some.inj e
     subst e
     exact Maps.atKey_put_same e2.isMap (K.key hkey) _ _
    ·rw [if_neg e'] at e
     rw [Maps.atKey_put_other (lit_ne (fun w=>e' w.symm))]
     exact e3.get q y hq e z
   ·rw [mGet_put] at e
    by_cases e':n=q
    ·rw [if_pos e'] at e
     have e:=Option.some.inj e
     subst e
     exact hkind
    ·rw [if_neg e'] at e
     exact e3.kind q y e
  ·exact H.elim
 ·exact H.elim
theorem plainElem_bool_inv {H:Type} {P:Program} {e:TypeId} (he:P.underlying e=some .bool) {v:Value} {z:DataW H × List MemPlace} (h:plainElem P e v=some z):∃ b,v=.bool b∧z=(.lit (.bool b),[]):=by
 unfold plainElem at h
 rw [he] at h
 cases v <;> simp at h
 subst h
 exact ⟨_,rfl,rfl⟩
def zerI (P:Program) (t:TypeId):Bool:=match P.info? t with
 | some i=>(match i.zero with | some (.int .i64 z)=>decide (z=0) | _=>false)
 | none=>false
def zerB (P:Program) (t:TypeId):Bool:=match P.info? t with
 | some i=>(match i.zero with | some (.bool false)=>true | _=>false)
 | none=>false
theorem zerI_run {P:Program} {t:TypeId} (h:zerI P t=true) (w:World):(zeroValue t).run P w=.ok (.int .i64 0) w:=by
 unfold zerI at h
 split at h
 ·rename_i i hi
  split at h
  ·rename_i z hz
   have:=of_decide_eq_true h
   subst this
   simp [zeroValue,typeInfo,hi,hz]
  ·cases h
 ·cases h
theorem zerB_run {P:Program} {t:TypeId} (h:zerB P t=true) (w:World):(zeroValue t).run P w=.ok (.bool false) w:=by
 unfold zerB at h
 split at h
 ·rename_i i hi
  split at h
  ·rename_i hz
   simp [zeroValue,typeInfo,hi,hz]
  ·cases h
 ·cases h
theorem MapD.int {et:Nat} {D:DataW Unit} {l:List (Int × AV)} (h:MapD et D l) (he:Tryz.prog.underlying et=some (.int .i64)) {n:Int} (hn:rng .i64 n):D.atKey (.int .i64 n) (.lit (.int .i64 0))=.lit (.int .i64 (mInt l n))∧rng .i64 (mInt l n):=by
 unfold mInt
 cases hq:mGet l n with
 | none =>
  have:=h.has n hn
  rw [hq] at this
  exact ⟨Maps.atKey_of_not_has this _,by decide⟩
 | some x =>
  rcases h.kind n x hq with ⟨z,rfl,hz,_⟩ | ⟨b,rfl,hb⟩
  ·exact ⟨h.get n _ hn hq _,hz⟩
  ·rw [he] at hb; cases hb
theorem MapD.bool {et:Nat} {D:DataW Unit} {l:List (Int × AV)} (h:MapD et D l) (he:Tryz.prog.underlying et=some .bool) {n:Int} (hn:rng .i64 n):D.atKey (.int .i64 n) (.lit (.bool false))=.lit (.bool (mBool l n)):=by
 unfold mBool
 cases hq:mGet l n with
 | none =>
  have:=h.has n hn
  rw [hq] at this
  exact Maps.atKey_of_not_has this _
 | some x =>
  rcases h.kind n x hq with ⟨z,rfl,hz,hb⟩ | ⟨b,rfl,_⟩
  ·rw [he] at hb; cases hb
  ·exact h.get n _ hn hq _
def tupK (ok:Bool) (v:AV) (l:List (Int × AV)) (n:Int):AV:=cond ok (.tup [v,.bool (mHas l n)]) v
def alkM (P:Program) (t:TypeId) (mv k:AV) (ok:Bool) (h:Nat→Option Blk) (K:AV→List Nat→Prop):Prop :=
 match mv,k with
 | .mpv j,.int .i64 n=>(match h j,P.underlying t with
  | some (.mp kt et l),some (.map kt' et')=>cond (Nat.beq kt kt'&&Nat.beq et et'&&isI64 P kt) (cond (isI64 P et&&zerI P et) (forceA (tupK ok (.int .i64 (mInt l n)) l n) fun r=>K r [j]) (cond (isBl P et&&zerB P et) (forceA (tupK ok (.bool (mBool l n)) l n) fun r=>K r [j]) False)) False
  | _,_=>False)
 | _,_=>False
theorem alkM_sound {P:Program} (hP:P=Tryz.prog) {E:Env} {nt:Nat} {o:Oper} {t:TypeId} {mv k:Operand} {ok:Bool} {ev:Operand→AV} {h:Nat→Option Blk} {K:AV→List Nat→Prop} (ho:o.op=.lookup t mv k ok) (hd:dstOk nt o.dst=true)
  (H:alkM P t (ev mv) (ev k) ok h K):∃ r rd,K r rd∧Good P E nt o ev h r [] rd:=by
 unfold alkM at H
 split at H
 ·rename_i j n hj hk
  split at H
  ·rename_i kt et l kt' et' hl ht
   obtain ⟨hb,H0⟩:=cond_F H
   simp only [Bool.and_eq_true] at hb
   obtain ⟨⟨b1,b2⟩,b3⟩:=hb
   have b1:=Nat.eq_of_beq_eq_true b1
   have b2:=Nat.eq_of_beq_eq_true b2
   subst b1; subst b2
   have b3:=isI64_iff b3
   have go:∀ (v:AV),(∀ (w:World) (S:Pin) (m:Nm) (D:DataW Unit) (g:Nat),rng .i64 n→w.ownsMap P kt (plainElem (H:=Unit) P et) g l.length D→MapD et D l →
     (∃ u,(Instr.lookup t (.map (some g)) (.int .i64 n) false).run P w=.ok u w∧CV S v m u)∧(∃ u,(Instr.lookup t (.map (some g)) (.int .i64 n) true).run P w=.ok (.tuple #[u,.bool (Maps.has D (.int .i64 n))]) w∧CV S v m u))→K (tupK ok v l n) [j]→∃ r rd,K r rd∧Good P E nt o ev h r [] rd:=by
    intro v hv hK
    refine ⟨_,_,hK,good_value hd fun G kp st a w S m hG hR he hrd hf=>?_⟩
    have vm:=he mv (by rw [ho]; simp [Op.operands])
    have vk:=he k (by rw [ho]; simp [Op.operands])
    rw [hj] at vm
    rw [hk] at vk
    simp only [CV] at vm vk
    obtain ⟨g,hm,vm⟩:=vm
    obtain ⟨vk,hn⟩:=vk
    have hks:lk st.heap j=some (.mp kt et l):=by rw [hrd j (by simp)]; exact hl
    obtain ⟨g',D,e1,e2,e3⟩:=hR.held j _ hks
    rw [← hP] at e2
    rw [hm] at e1
    have e1:=Option.some.inj (Value.map.inj (Option.some.inj e1))
    subst e1
    obtain ⟨⟨u,r1,c1⟩,⟨u2,r2,c2⟩⟩:=hv w S m D g hn e2 e3
    cases ok with
    | false=>exact ⟨u,w,S,m,by simp [execOp,ho,vm,vk,r1],hR,c1⟩
    | true =>
     refine ⟨.tuple #[u2,.bool (Maps.has D (.int .i64 n))],w,S,m,by simp [execOp,ho,vm,vk,r2],hR,?_⟩
     simp only [tupK,cond_true,CV]
     refine ⟨_,rfl,?_⟩
     simp only [CVl]
     exact ⟨u2,_,rfl,c2,_,[],rfl,by simp only [CV]; rw [e3.has n hn]; rfl,rfl⟩
   cases hi:(isI64 P et&&zerI P et) with
   | true =>
    rw [hi] at H0
    simp only [cond_true,forceA_eq] at H0
    simp only [Bool.and_eq_true] at hi
    have hu:=isI64_iff hi.1
    refine go _ (fun w S m D g hn e2 e3=>?_) H0
    have hkey:=keyOf_int_mk b3 (mrng_wf hn)
    have hz:=zerI_run hi.2 w
    have hzd:=plainElem_int (H:=Unit) hu (a:=0) (by decide)
    obtain ⟨q1,q2⟩:=e3.int (hP ▸ hu) hn
    refine ⟨?_,?_⟩
    ·obtain ⟨v,ps,r1,r2⟩:=e2.lookup (int_keyed b3) ht hz hzd hkey
     obtain ⟨c,rfl,hc,_⟩:=plainElem_int_inv hu r2
     rw [q1] at hc
     simp only [Prod.mk.injEq,DataW.lit.injEq,Lit.int.injEq,true_and] at hc
     exact ⟨_,r1,by simp only [CV]; exact ⟨by rw [hc.1],q2⟩⟩
    ·obtain ⟨v,ps,r1,r2⟩:=e2.look_ok (int_keyed b3) ht hz hzd hkey
     obtain ⟨c,rfl,hc,_⟩:=plainElem_int_inv hu r2
     rw [q1] at hc
     simp only [Prod.mk.injEq,DataW.lit.injEq,Lit.int.injEq,true_and] at hc
     exact ⟨_,r1,by simp only [CV]; exact ⟨by rw [hc.1],q2⟩⟩
   | false =>
    rw [hi] at H0
    simp only [cond_false] at H0
    obtain ⟨hbb,H1⟩:=cond_F H0
    simp only [forceA_eq] at H1
    simp only [Bool.and_eq_true] at hbb
    have hu:=isBl_iff hbb.1
    refine go _ (fun w S m D g hn e2 e3=>?_) H1
    have hkey:=keyOf_int_mk b3 (mrng_wf hn)
    have hz:=zerB_run hbb.2 w
    have hzd:=plainElem_bool (H:=Unit) hu false
    have q1:=e3.bool (hP ▸ hu) hn
    refine ⟨?_,?_⟩
    ·obtain ⟨v,ps,r1,r2⟩:=e2.lookup (int_keyed b3) ht hz hzd hkey
     obtain ⟨c,rfl,hc⟩:=plainElem_bool_inv hu r2
     rw [q1] at hc
     simp only [Prod.mk.injEq,DataW.lit.injEq,Lit.bool.injEq] at hc
     exact ⟨_,r1,by simp only [CV]; rw [hc.1]⟩
    ·obtain ⟨v,ps,r1,r2⟩:=e2.look_ok (int_keyed b3) ht hz hzd hkey
     obtain ⟨c,rfl,hc⟩:=plainElem_bool_inv hu r2
     rw [q1] at hc
     simp only [Prod.mk.injEq,DataW.lit.injEq,Lit.bool.injEq] at hc
     exact ⟨_,r1,by simp only [CV]; rw [hc.1]⟩
  ·exact H.elim
 ·exact H.elim
def alenM (P:Program) (ts:List TypeId) (xs:List AV) (h:Nat→Option Blk) (K:AV→List Nat→Prop):Prop :=
 match ts,xs with
 | [t],[.mpv j]=>(match h j,P.underlying t with
  | some (.mp kt et l),some (.map kt' et')=>cond (Nat.beq kt kt'&&Nat.beq et et') (chk (l.length≤9223372036854775807) (K (.int .i64 l.length) [j])) False
  | _,_=>False)
 | _,_=>False
theorem alenM_sound {P:Program} (hP:P=Tryz.prog) {E:Env} {nt:Nat} {o:Oper} {c:Call} {ev:Operand→AV} {h:Nat→Option Blk} {K:AV→List Nat→Prop} (ho:o.op=.call c) (hc:c.callee=.builtin .len) (hd:dstOk nt o.dst=true)
  (H:alenM P c.argTypes.toList (c.args.toList.map ev) h K):∃ r rd,K r rd∧Good P E nt o ev h r [] rd:=by
 unfold alenM at H
 split at H
 ·rename_i t j hts hxs
  split at H
  ·rename_i kt et l kt' et' hl ht
   obtain ⟨hb,H0⟩:=cond_F H
   simp only [Bool.and_eq_true] at hb
   obtain ⟨b1,b2⟩:=hb
   have b1:=Nat.eq_of_beq_eq_true b1
   have b2:=Nat.eq_of_beq_eq_true b2
   subst b1; subst b2
   obtain ⟨hlen,H1⟩:=chk_iff.1 H0
   obtain ⟨ox,hargs,hox⟩:∃ ox,c.args.toList=[ox]∧ev ox=.mpv j:=by
    cases hq:c.args.toList with
    | nil=>rw [hq] at hxs; simp at hxs
    | cons p l =>
     cases l with
     | nil=>rw [hq] at hxs; simp at hxs; exact ⟨p,rfl,hxs⟩
     | cons q l=>rw [hq] at hxs; simp at hxs
   have hargsA:c.args=#[ox]:=by rw [← Array.toArray_toList (xs:=c.args),hargs]
   have htsA:c.argTypes=#[t]:=by rw [← Array.toArray_toList (xs:=c.argTypes),hts]
   refine ⟨_,_,H1,good_value hd fun G kp st a w S m hG hR he hrd hf=>?_⟩
   have vm:=he ox (by rw [ho]; simp [Op.operands,Call.operands,hc,hargsA])
   rw [hox] at vm
   simp only [CV] at vm
   obtain ⟨g,hm,vm⟩:=vm
   have hks:lk st.heap j=some (.mp kt et l):=by rw [hrd j (by simp)]; exact hl
   obtain ⟨g',D,e1,e2,e3⟩:=hR.held j _ hks
   rw [← hP] at e2
   rw [hm] at e1
   have e1:=Option.some.inj (Value.map.inj (Option.some.inj e1))
   subst e1
   have hrun:=e2.len ht o.type
   rw [e3.size] at hrun
   exact ⟨.int .i64 l.length,w,S,m,by simp [execOp,ho,resolve,hc,invoke,builtin,hargsA,htsA,vm,hrun],hR,by simp only [CV]; exact ⟨trivial,by show _∧_; omega⟩⟩
  ·exact H.elim
 ·exact H.elim
end Go.Proofs.YtgnnafneglannaaGreatDoor
namespace Go.Proofs.YtgnnafneglannaaGreatDoor
open Go
open Go.RowKit (Below)
set_option linter.unusedVariables false
set_option linter.unusedSimpArgs false
abbrev Glob:=Nat→Option (List AV)
def GOKg (gl:Glob) (S:Pin):Prop:=∀ g cs,gl g=some cs→CC S cs g 0
def PureC (P:Program) (gl:Glob) (f:FuncId) (xs:List AV) (r:AV):Prop :=
 ∀ (w:World) (S:Pin) (vs:Array Value),GOKg gl S→Agree S w→CVl S xs noNm vs.toList →
  Calls P f vs w fun e w'=>∃ u S',e=.returned u∧Below w.heap.size w w'∧Ext S S'∧(∀ b o,b < w.heap.size→S' b o=S b o)∧Agree S' w'∧CV S' r noNm u
def Fok (P:Program) (f:FuncId):Prop:=∃ fn,P.funcs[f]?=some fn∧fn.name≠ "runtime.NumGoroutine"∧¬ fn.body=none
def Mof (r:Nat) (m:Nm) (g:Nat):Prop:=∃ q u,q < r∧m q=some u∧bk u=some g
def InjB (r:Nat) (m:Nm):Prop:=∀ q q' u u' g,q < r→q' < r→q≠q'→m q=some u→m q'=some u'→bk u=some g→bk u'≠some g
def HC (P:Program) (gl:Glob) (f:FuncId) (xs:List AV) (bs:List Blk) (r:AV) (bs':List Blk):Prop :=
 ∀ (w:World) (S:Pin) (m:Nm) (vs:Array Value),GOKg gl S→Agree S w→(∀ k u,m k=some u→k < bs.length)→(∀ (q:Nat) (b:Blk),bs[q]?=some b→Held S m w q b)→InjB bs.length m→CVl S xs m vs.toList →
  Calls P f vs w fun e w'=>∃ u S' m',e=.returned u∧w'.os=w.os∧w'.tape=w.tape∧w'.output=w.output∧w.heap.size≤w'.heap.size∧Ext S S' ∧
   (∀ b,b < w.heap.size→¬ Mof bs.length m b→w'.heap[b]?=w.heap[b]?∧∀ o,S' b o=S b o)∧Agree S' w' ∧
   (∀ (q:Nat) (b:Blk),bs'[q]?=some b→Held S' m' w' q b)∧InjB bs'.length m'∧(∀ q u g,q < bs'.length→m' q=some u→bk u=some g→w.heap.size≤g∨Mof bs.length m g)∧MLe m m'∧CV S' r m' u
def AddOK (P:Program) (f:FuncId):Prop:=∃ fn,P.funcs[f]?=some fn∧(fn.name == "runtime.NumGoroutine")=false∧fn.body.isNone=true∧Extern.findNext fn=none∧Extern.find fn=some add64Entry
def XOK (P:Program):Option FuncId→Prop
 | none=>True
 | some f=>AddOK P f
def SpecOK (P:Program) (E:Env):Prop :=
 (∀ f sp,E.spec f=some sp→Fok P f∧∀ xs pre r,sp xs=some (pre,r)→pre→PureC P E.glob f xs r) ∧
 (∀ f sp,E.specH f=some sp→Fok P f∧∀ xs bs pre r bs',sp xs bs=some (pre,r,bs')→pre→HC P E.glob f xs bs r bs')∧XOK P E.add64 ∧
 (∀ f sp,E.specQ f=some sp→Fok P f∧∀ xs bs T,sp xs bs=some T→∀ K,T K→∃ r bs',K r bs'∧HC P E.glob f xs bs r bs')∧P=Tryz.prog
def nodupB:List Nat→Bool
 | []=>true
 | k::l=>!(inL k l)&&nodupB l
theorem nodupB_nodup:∀ {l:List Nat},nodupB l=true→l.Nodup
 | [],_=>by simp
 | k::l,h=>by
  simp only [nodupB,Bool.and_eq_true,Bool.not_eq_true'] at h
  rw [List.nodup_cons]
  exact ⟨inL_mem h.1,nodupB_nodup h.2⟩
def freshL (kp:List Nat) (st:St):List Nat→Bool
 | []=>true
 | k::l=>fresh kp st k&&freshL kp st l
theorem freshL_get {kp:List Nat} {st:St}:∀ {l:List Nat} {k:Nat},freshL kp st l=true→k ∈ l→fresh kp st k=true
 | [],k,_,hk=>by simp at hk
 | j::l,k,h,hk=>by
  simp only [freshL,Bool.and_eq_true] at h
  rcases List.mem_cons.1 hk with rfl | hk
  ·exact h.1
  ·exact freshL_get h.2 hk
def nth:List Nat→Nat→Option Nat
 | [],_=>none
 | k::l,q=>match q with | 0=>some k | q+1=>nth l q
theorem nth_eq:∀ (l:List Nat) (q:Nat),nth l q=l[q]?
 | [],q=>by simp [nth]
 | k::l,0=>by simp [nth]
 | k::l,q+1=>by simp [nth,nth_eq l q]
theorem nodup_inj {k:Nat}:∀ {l:List Nat} {p q:Nat},l.Nodup→l[p]?=some k→l[q]?=some k→p=q
 | [],p,q,_,e,_=>by simp at e
 | j::l,p,q,hn,e1,e2=>by
  rw [List.nodup_cons] at hn
  cases p with
  | zero =>
   cases q with
   | zero=>rfl
   | succ q=>simp at e1 e2; subst e1; exact absurd (List.mem_of_getElem? e2) hn.1
  | succ p =>
   cases q with
   | zero=>simp at e1 e2; subst e2; exact absurd (List.mem_of_getElem? e1) hn.1
   | succ q=>simp at e1 e2; rw [nodup_inj hn.2 e1 e2]
def news (b:Nat):Nat→List Blk→List Nat
 | 0,[]=>[]
 | 0,_::l=>b::news (Nat.add b 1000) 0 l
 | _+1,[]=>[]
 | n+1,_::l=>news b n l
theorem news_len (b:Nat):∀ (n:Nat) (l:List Blk),(news b n l).length=l.length - n
 | 0,[]=>rfl
 | 0,_::l=>by simp [news,news_len _ 0 l]
 | n+1,[]=>by simp [news]
 | n+1,_::l=>by simp [news,news_len b n l]
def acallH (wf:Bool) (E:Env) (kp:List Nat) (st:St) (nm:Nat) (g:FuncId) (xs:List AV) (K:AV→List (Nat × Blk)→List Nat→Prop):Prop :=
 match E.specH g with
 | some sp=>(fun ks=>rnL (fun k=>idx k ks 0) xs fun xs'=>blksOf (lk st.heap) ks fun bs=>rnBs (fun k=>idx k ks 0) bs fun bs'=>match sp xs' bs' with
  | some (pre,r,cs)=>pre∧(fun nw=>cond (Nat.ble ks.length cs.length&&nodupB (ks++nw)&&freshL kp st nw) (rnA (nth (ks++nw)) r fun r2=>rnBs (nth (ks++nw)) cs fun cs2=>cond wf (wfA r2→K r2 (zipB (ks++nw) cs2) ks) (K r2 (zipB (ks++nw) cs2) ks)) False) (news nm ks.length cs)
  | none=>False) (foot (lk st.heap) 3 (dedup (nmsL xs) []))
 | none=>False
theorem callH_core {P:Program} {E:Env} {nt:Nat} {o:Oper} {ev:Operand→AV} {kp0:List Nat} {st0:St} {nm:Nat} {g:FuncId} {xs:List AV} (hd:dstOk nt o.dst=true)
  (hrun:∀ (a:Act) (w:World) (S:Pin) (m:Nm),(∀ x ∈ o.op.operands,CV S (ev x) m (a.eval x))→∃ vs,CVl S xs m vs.toList∧(execOp a.eval o).run P w=.ok (.enter g vs) w)
  {ks nw:List Nat} (hknd:ks.Nodup) {xs':List AV} {bs bs' cs cs2:List Blk} {r r2:AV}
  (hxs:∀ S m m' vs,Rn (fun k=>idx k ks 0) m m'→CVl S xs m vs→CVl S xs' m' vs) (hbl:bs.length=ks.length) (hbs:∀ (q i:Nat),ks[q]?=some i→∃ b,bs[q]?=some b∧lk st0.heap i=some b)
  (hbl':bs'.length=bs.length) (hbs':∀ (q:Nat) (b c:Blk),bs[q]?=some b→bs'[q]?=some c→∀ S m m' w i j,Rn (fun k=>idx k ks 0) m m'→idx i ks 0=some j→Held S m w i b→Held S m' w j c)
  (hC:HC P E.glob g xs' bs' r cs) (hnw:news nm ks.length cs=nw) (hc:(Nat.ble ks.length cs.length=true∧nodupB (ks++nw)=true)∧freshL kp0 st0 nw=true)
  (hr2:∀ S m m' v,Rn (nth (ks++nw)) m m'→CV S r m v→CV S r2 m' v) (hcl:cs2.length=cs.length)
  (hcs:∀ (q:Nat) (b c:Blk),cs[q]?=some b→cs2[q]?=some c→∀ S m m' w i j,Rn (nth (ks++nw)) m m'→nth (ks++nw) i=some j→Held S m w i b→Held S m' w j c) :
  Good P E nt o ev (lk st0.heap) r2 (zipB (ks++nw) cs2) ks∧∀ p ∈ zipB (ks++nw) cs2,p.1 ∉ ks→fresh kp0 st0 p.1=true:=by
 have hle:=Nat.le_of_ble_eq_true hc.1.1
 have hnd:=nodupB_nodup hc.1.2
 have hnl:(ks++nw).length=cs.length:=by rw [List.length_append,← hnw,news_len]; omega
 refine ⟨?_,fun p hp hq=>?_⟩
 ·skip
  intro G kp st a w S m next Q hG hR hn he hk hfr hnext
  obtain ⟨vs,hvs,hexec⟩:=hrun a w S m (fun x hx=>he x hx ▸ evO_cv hG hR x)
  let m1:Nm:=fun q=>(ks[q]?).bind m
  have hRn:Rn (fun k=>idx k ks 0) m m1:=by
   intro i j hij
   have:=(idx_get hij).2
   simp only [Nat.sub_zero] at this
   simp only [m1,this,Option.bind_some]
  have hcall:=hC w S m1 vs (fun q cs e=>CC.mono hR.pin0 cs q 0 (hG q cs e)) hR.agree
   (fun k u hu=>by
    simp only [m1] at hu
    cases e:ks[k]? with
    | none=>rw [e] at hu; cases hu
    | some i=>rw [hbl',hbl]; exact (List.getElem?_eq_some_iff.1 e).1)
   (fun q b hb=>by
    have hql:q < ks.length:=by rw [← hbl,← hbl']; exact (List.getElem?_eq_some_iff.1 hb).1
    obtain ⟨b0,hb0,hh⟩:=hbs q ks[q] (by simp [hql])
    have hidx:idx ks[q] ks 0=some q:=by
     have key:∀ (l:List Nat) (q i:Nat) (h:q < l.length),l.Nodup→idx l[q] l i=some (i+q):=by
      intro l
      induction l with
      | nil=>intro q i h; simp at h
      | cons j l ih =>
       intro q i h hn
       rw [List.nodup_cons] at hn
       cases q with
       | zero=>simp [idx,nbeq_self]
       | succ q =>
        simp at h
        simp only [idx,List.getElem_cons_succ]
        rw [nbeq_ne (fun e=>hn.1 (by rw [e]; exact List.getElem_mem h))]
        simp only [cond_false]
        rw [ih q (i+1) h hn.2]
        congr 1; omega
     simpa using key ks q 0 hql hknd
    have hst:lk st.heap ks[q]=some b0:=(hk ks[q] (List.getElem_mem hql)).trans hh
    exact hbs' q b0 b hb0 hb S m m1 w ks[q] q hRn hidx (hR.held _ _ hst))
   (fun q q' u u' g hq hq' hne hu hu' hg hg'=>by
    simp only [m1] at hu hu'
    cases e:ks[q]? with
    | none=>rw [e] at hu; cases hu
    | some i =>
     cases e':ks[q']? with
     | none=>rw [e'] at hu'; cases hu'
     | some j =>
      rw [e] at hu; rw [e'] at hu'
      simp only [Option.bind_some] at hu hu'
      obtain ⟨b0,_,hh⟩:=hbs q i e
      obtain ⟨b1,_,hh'⟩:=hbs q' j e'
      refine hR.inj i j b0 b1 u u' g ((hk i (List.mem_of_getElem? e)).trans hh) ((hk j (List.mem_of_getElem? e')).trans hh') ?_ hu hu' hg hg'
      rintro rfl
      exact hne (nodup_inj hknd e e'))
   (hxs S m m1 _ hRn hvs)
  unfold Oper.wp
  rw [hexec,Oper.upon_enter]
  refine hcall.mono ?_
  rintro e w' ⟨u,S',m1',rfl,hos,htp,hou,hsz,hE,hfm,hA,hheld,hinj,hown,hmle,hu⟩
  let m':Nm:=fun k=>match idx k (ks++nw) 0 with | some q=>m1' q | none=>m k
  have hidx:∀ (q k:Nat),(ks++nw)[q]?=some k→m' k=m1' q:=by
   intro q k e
   simp only [m']
   cases e2:idx k (ks++nw) 0 with
   | none =>
    exfalso
    have key:∀ (l:List Nat) (i:Nat),k ∈ l→idx k l i≠none:=by
     intro l
     induction l with
     | nil=>intro i h; simp at h
     | cons j l ih =>
      intro i h
      simp only [idx]
      cases hj:Nat.beq j k with
      | true=>simp
      | false =>
       simp only [cond_false]
       rcases List.mem_cons.1 h with rfl | h
       ·rw [nbeq_self] at hj; cases hj
       ·exact ih _ h
    exact key _ 0 (List.mem_of_getElem? e) e2
   | some p =>
    have:=(idx_get e2).2
    simp only [Nat.sub_zero] at this
    have:p=q:=nodup_inj hnd this e
    simp only [this]
  have hRn':Rn (nth (ks++nw)) m1' m':=fun q k e=>hidx q k (by rw [← nth_eq]; exact e)
  have hno:∀ k,k ∉ ks++nw→m' k=m k:=by
   intro k hk
   simp only [m']
   cases e2:idx k (ks++nw) 0 with
   | none=>rfl
   | some p=>exact absurd (List.mem_of_getElem? (idx_get e2).2) hk
  have hksl:∀ (q:Nat),q < ks.length→(ks++nw)[q]?=ks[q]?:=fun q hq=>List.getElem?_append_left hq
  have hmof:∀ b,Mof bs'.length m1 b↔∃ k u,k ∈ ks∧m k=some u∧bk u=some b:=by
   intro b
   constructor
   ·rintro ⟨q,u,_,hu,hb⟩
    simp only [m1] at hu
    cases e:ks[q]? with
    | none=>rw [e] at hu; cases hu
    | some i=>rw [e] at hu; exact ⟨i,u,List.mem_of_getElem? e,hu,hb⟩
   ·rintro ⟨k,u,hk,hu,hb⟩
    obtain ⟨q,hq⟩:=List.getElem?_of_mem hk
    exact ⟨q,u,by rw [hbl',hbl]; exact (List.getElem?_eq_some_iff.1 hq).1,by simp only [m1,hq,Option.bind_some]; exact hu,hb⟩
  have hR2:Rel G kp (st.blks (zipB (ks++nw) cs2)) a w' S' m':=by
   refine hR.callH hnd (fun k hk'=>?_) (fun k hk'=>?_) (by rw [hcl,hnl]) hos htp hou hsz hE (fun b hb hn=>hfm b hb (fun q=>hn ((hmof b).1 q))) hA ?_ (fun k h1 h2=>hno k (by simp [h1,h2])) ?_ ?_ ?_
   ·obtain ⟨q,hq⟩:=List.getElem?_of_mem hk'
    obtain ⟨b,_,hb⟩:=hbs q k hq
    exact ⟨b,(hk k hk').trans hb⟩
   ·obtain ⟨q,hq⟩:=List.getElem?_of_mem (List.mem_append_right ks hk')
    have hql:q < cs2.length:=by rw [hcl,← hnl]; exact (List.getElem?_eq_some_iff.1 hq).1
    refine hfr (k,cs2[q]) ?_ (fun hkk=>?_)
    ·have key:∀ (l:List Nat) (cs:List Blk) (q:Nat) (k:Nat) (b:Blk),l[q]?=some k→cs[q]?=some b→(k,b) ∈ zipB l cs:=by
      intro l
      induction l with
      | nil=>intro cs q k b e; simp at e
      | cons j l ih =>
       intro cs q k b e1 e2
       cases cs with
       | nil=>simp at e2
       | cons c cs =>
        simp only [zipB,List.mem_cons]
        cases q with
        | zero=>simp at e1 e2; subst e1; subst e2; exact .inl rfl
        | succ q=>simp at e1 e2; exact .inr (ih cs q k b e1 e2)
     exact key _ _ q k _ hq (by simp [hql])
    ·rw [List.nodup_append] at hnd
     exact hnd.2.2 k hkk k hk' rfl
   ·intro q k b e1 e2
    have hql:q < cs.length:=by rw [← hnl]; exact (List.getElem?_eq_some_iff.1 e1).1
    exact hcs q cs[q] b (by simp [hql]) e2 S' m1' m' w' q k hRn' (by rw [nth_eq]; exact e1) (hheld q cs[q] (by simp [hql]))
   ·intro k hk' v hv
    obtain ⟨q,hq⟩:=List.getElem?_of_mem hk'
    obtain ⟨v',h1,h2⟩:=hmle q v (by simp only [m1,hq,Option.bind_some]; exact hv)
    exact ⟨v',by rw [hidx q k (by rw [hksl q (List.getElem?_eq_some_iff.1 hq).1]; exact hq)]; exact h1,h2⟩
   ·intro k k' v v' g hk1 hk2 hne hv hv' hg hg'
    obtain ⟨q,hq⟩:=List.getElem?_of_mem hk1
    obtain ⟨q',hq'⟩:=List.getElem?_of_mem hk2
    rw [hidx q k hq] at hv
    rw [hidx q' k' hq'] at hv'
    refine hinj q q' v v' g (by rw [← hnl]; exact (List.getElem?_eq_some_iff.1 hq).1) (by rw [← hnl]; exact (List.getElem?_eq_some_iff.1 hq').1) ?_ hv hv' hg hg'
    rintro rfl
    rw [hq] at hq'
    injection hq' with hq'
    exact hne hq'
   ·intro k v g hk1 hv hg
    obtain ⟨q,hq⟩:=List.getElem?_of_mem hk1
    rw [hidx q k hq] at hv
    rcases hown q v g (by rw [← hnl]; exact (List.getElem?_eq_some_iff.1 hq).1) hv hg with h1 | h1
    ·exact .inl h1
    ·exact .inr ((hmof g).1 h1)
  refine hnext u w' S' m' (wfA_cv _ _ _ (hr2 S' m1' m' u hRn' hu)) ?_
  unfold St.upd
  cases e:o.dst with
  | none=>exact hR2
  | some t =>
   refine hR2.put (hr2 S' m1' m' u hRn' hu) ?_
   rw [hn]
   rw [e] at hd
   exact Nat.le_of_ble_eq_true hd
 ·have:=zipB_names _ _ p hp
  simp only [List.mem_append] at this
  exact freshL_get hc.2 (this.resolve_left hq)
theorem acallH_sound {P:Program} {E:Env} {nt:Nat} {wf:Bool} (hS:SpecOK P E) {o:Oper} {ev:Operand→AV} {kp:List Nat} {st0:St} {nm:Nat} {g:FuncId} {xs:List AV} {K:AV→List (Nat × Blk)→List Nat→Prop} (hd:dstOk nt o.dst=true)
  (hrun:Fok P g→∀ (a:Act) (w:World) (S:Pin) (m:Nm),(∀ x ∈ o.op.operands,CV S (ev x) m (a.eval x))→∃ vs,CVl S xs m vs.toList∧(execOp a.eval o).run P w=.ok (.enter g vs) w)
  (H:acallH wf E kp st0 nm g xs K):∃ r u rd,((wf=true→wfA r)→K r u rd)∧Good P E nt o ev (lk st0.heap) r u rd∧∀ p ∈ u,p.1 ∉ rd→fresh kp st0 p.1=true:=by
 unfold acallH at H
 split at H
 ·rename_i sp hsp
  generalize hksd:foot (lk st0.heap) 3 (dedup (nmsL xs) [])=ks at H
  have hknd:ks.Nodup:=by rw [← hksd]; exact foot_nodup _ _ _ (dedup_nodup _ _ (by simp))
  obtain ⟨xs',H1,hxs⟩:=rnL_sound _ _ H
  obtain ⟨bs,H2,hbl,hbs⟩:=blksOf_sound _ _ H1
  obtain ⟨bs',H3,hbl',hbs'⟩:=rnBs_sound _ _ H2
  split at H3
  ·rename_i pre r cs hspr
   obtain ⟨hpre,H4⟩:=H3
   generalize hnw:news nm ks.length cs=nw at H4
   obtain ⟨hc,H5⟩:=cond_F H4
   simp only [Bool.and_eq_true] at hc
   obtain ⟨r2,H6,hr2⟩:=rnA_sound _ _ H5
   obtain ⟨cs2,H7,hcl,hcs⟩:=rnBs_sound _ _ H6
   obtain ⟨hfok,hspec⟩:=hS.2.1 g sp hsp
   have hC:=hspec xs' bs' pre r cs hspr hpre
   refine ⟨r2,zipB (ks++nw) cs2,ks,fun hw=>?_,callH_core hd (hrun hfok) hknd hxs hbl hbs hbl' hbs' hC hnw hc hr2 hcl hcs⟩
   ·cases wf with
    | true=>exact H7 (hw rfl)
    | false=>exact H7
  ·exact H3.elim
 ·exact H.elim
def acallQ (E:Env) (kp:List Nat) (st:St) (nm:Nat) (g:FuncId) (xs:List AV) (K:AV→List (Nat × Blk)→List Nat→Prop):Prop :=
 match E.specQ g with
 | some sp=>(fun ks=>rnL (fun k=>idx k ks 0) xs fun xs'=>blksOf (lk st.heap) ks fun bs=>rnBs (fun k=>idx k ks 0) bs fun bs'=>match sp xs' bs' with
  | some T=>T fun r cs=>(fun nw=>cond (Nat.ble ks.length cs.length&&nodupB (ks++nw)&&freshL kp st nw) (rnA (nth (ks++nw)) r fun r2=>rnBs (nth (ks++nw)) cs fun cs2=>K r2 (zipB (ks++nw) cs2) ks) False) (news nm ks.length cs)
  | none=>False) (foot (lk st.heap) 3 (dedup (nmsL xs) []))
 | none=>False
theorem acallQ_sound {P:Program} {E:Env} {nt:Nat} {wf:Bool} (hS:SpecOK P E) {o:Oper} {ev:Operand→AV} {kp:List Nat} {st0:St} {nm:Nat} {g:FuncId} {xs:List AV} {K:AV→List (Nat × Blk)→List Nat→Prop} (hd:dstOk nt o.dst=true)
  (hrun:Fok P g→∀ (a:Act) (w:World) (S:Pin) (m:Nm),(∀ x ∈ o.op.operands,CV S (ev x) m (a.eval x))→∃ vs,CVl S xs m vs.toList∧(execOp a.eval o).run P w=.ok (.enter g vs) w)
  (H:acallQ E kp st0 nm g xs K):∃ r u rd,((wf=true→wfA r)→K r u rd)∧Good P E nt o ev (lk st0.heap) r u rd∧∀ p ∈ u,p.1 ∉ rd→fresh kp st0 p.1=true:=by
 unfold acallQ at H
 split at H
 ·rename_i sp hsp
  generalize hksd:foot (lk st0.heap) 3 (dedup (nmsL xs) [])=ks at H
  have hknd:ks.Nodup:=by rw [← hksd]; exact foot_nodup _ _ _ (dedup_nodup _ _ (by simp))
  obtain ⟨xs',H1,hxs⟩:=rnL_sound _ _ H
  obtain ⟨bs,H2,hbl,hbs⟩:=blksOf_sound _ _ H1
  obtain ⟨bs',H3,hbl',hbs'⟩:=rnBs_sound _ _ H2
  split at H3
  ·rename_i T hspr
   obtain ⟨hfok,hspec⟩:=hS.2.2.2.1 g sp hsp
   obtain ⟨r,cs,H4,hC⟩:=hspec xs' bs' T hspr _ H3
   generalize hnw:news nm ks.length cs=nw at H4
   obtain ⟨hc,H5⟩:=cond_F H4
   simp only [Bool.and_eq_true] at hc
   obtain ⟨r2,H6,hr2⟩:=rnA_sound _ _ H5
   obtain ⟨cs2,H7,hcl,hcs⟩:=rnBs_sound _ _ H6
   exact ⟨r2,zipB (ks++nw) cs2,ks,fun _=>H7,callH_core hd (hrun hfok) hknd hxs hbl hbs hbl' hbs' hC hnw hc hr2 hcl hcs⟩
  ·exact H3.elim
 ·exact H.elim
def isAdd (E:Env) (g:FuncId):Bool:=match E.add64 with | some h=>Nat.beq h g | none=>false
def aadd (xs:List AV) (K:AV→Prop):Prop:=match xs with
 | [.int .u64 x,.int .u64 y,.int .u64 c]=>chk (0≤c∧c≤1) (K (.tup [.int .u64 ((x+y+c) % 18446744073709551616),.int .u64 ((x+y+c) / 18446744073709551616)]))
 | _=>False
theorem gone1 {G:Gh} {kp:List Nat} {st:St} {a:Act} {w:World} {S:Pin} {m:Nm} (h:Rel G kp st a w S m) {k e s:Nat} {xs:List (List AV)} (hk:lk st.heap k=some (.row e s xs)) (hcl:e < 2000000) :
  ∃ S',Ext S S'∧Rel G kp (st.blk k .gone) a w S' m∧∀ n v,n=xs.length→CV S (.rw k s n) m v→CV S' (.sl s false xs) m v:=by
 have hheld:=h.held k _ hk
 obtain ⟨A,c,h1,h2,h3,hlen,h4,vals,h5,h6,h7,_,h8⟩:=hheld.vals
 rw [rowNm_lo hcl] at h6
 let S':Pin:=fun b o=>if A=some ⟨b,0,none⟩∧o < vals.length then vals[o]? else S b o
 have hun:∀ b,A=some ⟨b,0,none⟩→∀ o,S b o=none:=by
  intro b hb o
  rcases h4 with ⟨e1,_⟩ | ⟨g,cur,fr,e1,_,_,_,e2⟩
  ·rw [hb] at e1; cases e1
  ·rw [hb] at e1
   injection e1 with e1
   injection e1 with e1
   subst e1
   exact e2 o
 have hS:Ext S S':=by
  intro b o v e1
  show (if A=some ⟨b,0,none⟩∧o < vals.length then vals[o]? else S b o)=some v
  rw [if_neg]
  ·exact e1
  ·rintro ⟨hb,_⟩
   rw [hun b hb] at e1; cases e1
 have hfar:∀ b,A≠some ⟨b,0,none⟩→∀ o,S' b o=S b o:=by
  intro b hb o
  show (if A=some ⟨b,0,none⟩∧o < vals.length then vals[o]? else S b o)=S b o
  rw [if_neg (fun q=>hb q.1)]
 have hl2:∀ j,lk (st.blk k .gone).heap j=if j=k then some .gone else lk st.heap j:=by
  intro j; simp only [St.blk,lk_ins]
 have hlk:∀ j b,lk (st.blk k .gone).heap j=some b→∃ b0,lk st.heap j=some b0:=by
  intro j b hj
  rw [hl2] at hj
  split at hj
  ·rename_i e; subst e; exact ⟨_,hk⟩
  ·exact ⟨b,hj⟩
 refine ⟨S',hS,?_,?_⟩
 ·refine { h with defers:=h.defers,pin0:=h.pin0.trans hS,pinNew:=?_,agree:=?_,tmps:=fun t=>(h.tmps t).ext hS (MLe.refl m),held:=?_,inj:=?_,own:=?_,m0:=h.m0 }
  ·intro b o hb hM
   by_cases hA:A=some ⟨b,0,none⟩
   ·rcases h.own k _ _ b hk h1 (by rw [hA]; rfl) with q | q
    ·omega
    ·exact absurd q hM
   ·rw [hfar b hA]; exact h.pinNew b o hb hM
  ·intro b o v e1
   by_cases hA:A=some ⟨b,0,none⟩∧o < vals.length
   ·have e2:vals[o]?=some v:=by
     have:S' b o=vals[o]?:=by show (if A=some ⟨b,0,none⟩∧o < vals.length then vals[o]? else S b o)=_; rw [if_pos hA]
     rw [← this]; exact e1
    exact ⟨h8 b hA.1 o v e2,h7 v (List.mem_of_getElem? e2)⟩
   ·have:S' b o=S b o:=by show (if A=some ⟨b,0,none⟩∧o < vals.length then vals[o]? else S b o)=_; rw [if_neg hA]
    rw [this] at e1
    exact h.agree b o v e1
  ·intro j b hj
   rw [hl2] at hj
   split at hj
   ·rename_i ejk
    subst ejk
    injection hj with hj
    subst hj
    exact ⟨_,h1,fun g hg=>hheld.lt h1 hg⟩
   ·rename_i ejk
    refine (h.held j b hj).keep hS (fun _ _ _ hc=>hc.ext hS (MLe.refl m)) rfl fun u g hu hg=>⟨rfl,fun o=>hfar g (fun hA=>?_) o⟩
    exact h.inj j k b _ u _ g hj hk ejk hu h1 hg (by rw [hA]; rfl)
  ·intro j j' b b' u u' g hj hj' hne hu hu' hg
   obtain ⟨b0,hb0⟩:=hlk j b hj
   obtain ⟨b1,hb1⟩:=hlk j' b' hj'
   exact h.inj j j' b0 b1 u u' g hb0 hb1 hne hu hu' hg
  ·intro j b u g hj hu hg
   obtain ⟨b0,hb0⟩:=hlk j b hj
   exact h.own j b0 u g hb0 hu hg
 ·intro n v hn hv
  subst hn
  simp only [CV] at hv ⊢
  obtain ⟨⟨B,d,rfl,p1,p2,p3,p4⟩,A1,q1,c1,p5,p6,p7⟩:=hv
  rw [h1] at p5
  injection p5 with p5
  injection p5 with _ p5
  injection p5 with e1 e2 e3
  subst e1; subst e3
  have hv:=p7 (by omega)
  injection hv with e1 e3 e4
  subst e1; subst e4
  refine ⟨B,d,rfl,h2,h3,(fun q=>by cases q),p3,fun ad had=>?_⟩
  obtain ⟨g,eg⟩:=p4 ad had
  subst eg
  refine ⟨fun _=>rfl,CE.mk fun j x hj=>?_⟩
  have hxl:=hlen x (List.mem_of_getElem? hj)
  refine ⟨hxl,CC.mk fun i y hi=>?_⟩
  obtain ⟨u,hu,hy⟩:=h6.get (flat_get hlen hj hi)
  have hlt:j*s+i < vals.length:=(List.getElem?_eq_some_iff.1 hu).1
  refine ⟨u,?_,hy.ext hS (MLe.refl _)⟩
  show (if B=some ⟨g,0,none⟩∧0+j*s+i < vals.length then vals[0+j*s+i]? else S g (0+j*s+i))=some u
  rw [Nat.zero_add,if_pos ⟨had,hlt⟩]
  exact hu
def goneK (h:Nat→Option Blk):List AV→(List AV→List Nat→Prop)→Prop
 | .rw k s n::l,K=>(match h k with
  | some (.row e s' xs)=>cond (Nat.blt e 2000000&&Nat.beq s s') (chk (n=xs.length) (goneK h l fun l' ks=>cond (inL k ks) False (K (.sl s false xs::l') (k::ks)))) (goneK h l fun l' ks=>K (.rw k s n::l') ks)
  | _=>goneK h l fun l' ks=>K (.rw k s n::l') ks)
 | x::l,K=>goneK h l fun l' ks=>K (x::l') ks
 | [],K=>K [] []
def gones:List Nat→List (Nat × Blk)
 | []=>[]
 | k::l=>(k,.gone)::gones l
theorem gones_mem:∀ {ks:List Nat} {p:Nat × Blk},p ∈ gones ks→p.1 ∈ ks
 | k::l,p,h=>by
  simp only [gones,List.mem_cons] at h
  rcases h with rfl | h
  ·simp
  ·simp [gones_mem h]
theorem mem_inG {k:Nat}:∀ {l:List Nat},k ∈ l→inL k l=true
 | j::l,h=>by
  simp only [inL,Bool.or_eq_true]
  rcases List.mem_cons.1 h with rfl | h
  ·exact .inl (nbeq_self _)
  ·exact .inr (mem_inG h)
theorem goneK_sound {h:Nat→Option Blk}:∀ (xs:List AV) (K:List AV→List Nat→Prop),goneK h xs K→∃ xs' ks,K xs' ks ∧
  ∀ (G:Gh) (kp:List Nat) (st:St) (a:Act) (w:World) (S:Pin) (m:Nm) (vs:List Value),(∀ k ∈ ks,lk st.heap k=h k)→Rel G kp st a w S m→CVl S xs m vs→∃ S',Ext S S'∧Rel G kp (st.blks (gones ks)) a w S' m∧CVl S' xs' m vs:=by
 intro xs
 induction xs with
 | nil=>exact fun K H=>⟨[],[],by simpa only [goneK] using H,fun G kp st a w S m vs _ hR hv=>⟨S,Ext.refl S,hR,hv⟩⟩
 | cons x l ih =>
  intro K H
  have plain:goneK h l (fun l' ks=>K (x::l') ks)→∃ xs' ks,K xs' ks ∧
    ∀ (G:Gh) (kp:List Nat) (st:St) (a:Act) (w:World) (S:Pin) (m:Nm) (vs:List Value),(∀ k ∈ ks,lk st.heap k=h k)→Rel G kp st a w S m→CVl S (x::l) m vs→∃ S',Ext S S'∧Rel G kp (st.blks (gones ks)) a w S' m∧CVl S' xs' m vs:=by
   intro H
   obtain ⟨l',ks,h1,h2⟩:=ih _ H
   refine ⟨x::l',ks,h1,fun G kp st a w S m vs hks hR hv=>?_⟩
   simp only [CVl] at hv
   obtain ⟨u,us,rfl,hu,hus⟩:=hv
   obtain ⟨S',q1,q2,q3⟩:=h2 G kp st a w S m us hks hR hus
   exact ⟨S',q1,q2,by simp only [CVl]; exact ⟨u,us,rfl,hu.ext q1 (MLe.refl m),q3⟩⟩
  cases x with
  | rw k s n =>
   simp only [goneK] at H
   split at H
   ·rename_i e s' xs hk
    cases hb:(Nat.blt e 2000000&&Nat.beq s s') with
    | false=>rw [hb] at H; exact plain H
    | true =>
     rw [hb] at H
     simp only [cond_true] at H
     simp only [Bool.and_eq_true] at hb
     have hss:=Nat.eq_of_beq_eq_true hb.2
     subst hss
     obtain ⟨hn,H⟩:=chk_iff.1 H
     obtain ⟨l',ks,h1,h2⟩:=ih _ H
     cases hin:inL k ks with
     | true=>rw [hin] at h1; exact h1.elim
     | false =>
      rw [hin] at h1
      refine ⟨_,_,h1,fun G kp st a w S m vs hks hR hv=>?_⟩
      simp only [CVl] at hv
      obtain ⟨u,us,rfl,hu,hus⟩:=hv
      obtain ⟨S1,q1,q2,q3⟩:=gone1 hR ((hks k (by simp)).trans hk) (Nat.le_of_ble_eq_true hb.1)
      obtain ⟨S2,r1,r2,r3⟩:=h2 G kp (st.blk k .gone) a w S1 m us (fun j hj=>by
       simp only [St.blk,lk_ins]
       rw [if_neg (fun e=>by subst e; rw [mem_inG hj] at hin; cases hin)]
       exact hks j (by simp [hj])) q2 (hus.ext q1 (MLe.refl m))
      exact ⟨S2,q1.trans r1,r2,by simp only [CVl]; exact ⟨u,us,rfl,(q3 n u hn hu).ext r1 (MLe.refl m),r3⟩⟩
   ·exact plain H
  | _=>exact plain (by simpa only [goneK] using H)
def acall (wf:Bool) (E:Env) (kp:List Nat) (st:St) (nm:Nat) (c:Call) (ev:Operand→AV) (K:AV→List (Nat × Blk)→List Nat→Prop):Prop :=
 match c.callee with
 | .value f=>(match ev f with
  | .fn g caps=>(match E.spec g with
   | some sp=>goneK (lk st.heap) (c.args.toList.map ev++caps) fun xs ks=>stripL xs fun xs=>(match sp xs with
    | some (pre,r)=>pre∧cond wf (wfA r→K r (gones ks) ks) (K r (gones ks) ks)
    | none=>False)
   | none=>cond (isAdd E g) (aadd (c.args.toList.map ev++caps) fun r=>K r [] []) (match E.specQ g with | some _=>acallQ E kp st nm g (c.args.toList.map ev++caps) K | none=>acallH wf E kp st nm g (c.args.toList.map ev++caps) K))
  | _=>False)
 | _=>False
theorem acall_sound {P:Program} {E:Env} {nt:Nat} {wf:Bool} (hS:SpecOK P E) {o:Oper} {c:Call} {ev:Operand→AV} {kp:List Nat} {st0:St} {nm:Nat} {K:AV→List (Nat × Blk)→List Nat→Prop} (ho:o.op=.call c) (hd:dstOk nt o.dst=true)
  (H:acall wf E kp st0 nm c ev K):∃ r u rd,((wf=true→wfA r)→K r u rd)∧Good P E nt o ev (lk st0.heap) r u rd∧∀ p ∈ u,p.1 ∉ rd→fresh kp st0 p.1=true:=by
 unfold acall at H
 split at H
 ·rename_i f hf
  split at H
  ·rename_i g caps hg
   have enter:Fok P g→∀ (a:Act) (w:World) (S:Pin) (m:Nm),(∀ x ∈ o.op.operands,CV S (ev x) m (a.eval x))→∃ vs,CVl S (c.args.toList.map ev++caps) m vs.toList∧(execOp a.eval o).run P w=.ok (.enter g vs) w:=by
    rintro ⟨fn,hfn,hname,hbody⟩ a w S m hcv
    rw [ho] at hcv
    have hfv:=hcv f (by simp [Op.operands,Call.operands,hf])
    rw [hg] at hfv
    simp only [CV] at hfv
    obtain ⟨us,hfe,hus⟩:=hfv
    refine ⟨c.args.map a.eval++us,?_,?_⟩
    ·rw [Array.toList_append,Array.toList_map]
     exact (CVl.map _ (fun x hx=>hcv x (by simp [Op.operands,Call.operands,hf]; exact .inr (Array.mem_toList_iff.1 hx)))).append hus
    ·simp [execOp,ho,resolve,hf,hfe,Deferred.ofValue,invoke,callFunc,hfn,hname,hbody]
   split at H
   ·rename_i sp hsp
    obtain ⟨xs0,ks,H,hgo⟩:=goneK_sound _ _ H
    obtain ⟨xs,H1,hx⟩:=stripL_sound _ _ H
    split at H1
    ·rename_i pre r hr
     obtain ⟨hfok,hsound⟩:=hS.1 g sp hsp
     have hC:=hsound xs pre r hr H1.1
     refine ⟨r,gones ks,ks,fun hw=>?_,?_,fun p hp hn=>absurd (gones_mem hp) hn⟩
     ·cases wf with
      | true=>exact H1.2 (hw rfl)
      | false=>exact H1.2
     ·intro G kp st a w S m next Q hG hR hn he hk hfr hnext
      obtain ⟨vs,hargs,hrun⟩:=enter hfok a w S m (fun x hx=>he x hx ▸ evO_cv hG hR x)
      obtain ⟨S1,hS1,hR1,hargs1⟩:=hgo G kp st a w S m _ hk hR hargs
      have hcall:=hC w S1 vs (fun q cs e=>CC.mono (hR.pin0.trans hS1) cs q 0 (hG q cs e)) hR1.agree (hx S1 m _ hargs1)
      unfold Oper.wp
      rw [hrun,Oper.upon_enter]
      refine hcall.mono ?_
      rintro e w' ⟨u,S',rfl,hb,hE,hp,hA,hu⟩
      refine hnext u w' S' m (wfA_cv _ _ _ hu) ?_
      have hR':=hR1.next hb hE hp hA
      unfold St.upd
      cases e:o.dst with
      | none=>exact hR'
      | some t =>
       refine hR'.put (hu.ext (Ext.refl _) (MLe.no m)) ?_
       rw [hn]
       rw [e] at hd
       exact Nat.le_of_ble_eq_true hd
    ·exact H1.elim
   ·cases hx:isAdd E g with
    | false =>
     rw [hx] at H
     simp only [cond_false] at H
     split at H
     ·exact acallQ_sound hS hd enter H
     ·exact acallH_sound hS hd enter H
    | true =>
     rw [hx] at H
     simp only [cond_true] at H
     have hadd:AddOK P g:=by
      unfold isAdd at hx
      split at hx
      ·next h e =>
       have:=Nat.eq_of_beq_eq_true hx
       subst this
       have h3:=hS.2.2.1
       rw [e] at h3
       exact h3
      ·cases hx
     obtain ⟨fn,k1,k2,k3,k4,k5⟩:=hadd
     unfold aadd at H
     split at H
     ·rename_i x y z hxs
      obtain ⟨hz,H1⟩:=chk_iff.1 H
      refine ⟨_,[],[],fun _=>H1,good_pure hd fun a w S m hcv=>?_,by simp⟩
      rw [ho] at hcv
      have hfv:=hcv f (by simp [Op.operands,Call.operands,hf])
      rw [hg] at hfv
      simp only [CV] at hfv
      obtain ⟨us,hfe,hus⟩:=hfv
      have hall:CVl S (c.args.toList.map ev++caps) m (c.args.map a.eval++us).toList:=by
       rw [Array.toList_append,Array.toList_map]
       exact (CVl.map _ (fun x hx=>hcv x (by simp [Op.operands,Call.operands,hf]; exact .inr (Array.mem_toList_iff.1 hx)))).append hus
      rw [hxs] at hall
      simp only [CVl,CV] at hall
      obtain ⟨_,_,e1,⟨rfl,r1⟩,_,_,rfl,⟨rfl,r2⟩,_,_,rfl,⟨rfl,r3⟩,rfl⟩:=hall
      have e2:c.args.map a.eval++us=#[.int .u64 x,.int .u64 y,.int .u64 z]:=by
       rw [← Array.toArray_toList (xs:=c.args.map a.eval++us),e1]
      simp only [rng] at r1 r2 r3
      refine ⟨.tuple #[.int .u64 ((x+y+z) % 18446744073709551616),.int .u64 ((x+y+z) / 18446744073709551616)],?_,?_⟩
      ·have h1:=run_callFunc_extern k1 k2 k3 k4 k5 #[.int .u64 x,.int .u64 y,.int .u64 z] w
       rw [run_add64 x y z r1.1 r2.1 hz.1 hz.2 w] at h1
       simp [execOp,ho,resolve,hf,hfe,Deferred.ofValue,invoke,e2,h1]
      ·simp only [CV,CVl]
       refine ⟨_,rfl,_,_,rfl,⟨rfl,?_⟩,_,_,rfl,⟨rfl,?_⟩,rfl⟩
       ·simp only [rng]; omega
       ·simp only [rng]; omega
     ·exact H.elim
  ·exact H.elim
 ·exact H.elim
end Go.Proofs.YtgnnafneglannaaGreatDoor
namespace Go.Proofs.YtgnnafneglannaaGreatDoor
open Go
open Go.RowKit (Below)
set_option linter.unusedVariables false
set_option linter.unusedSimpArgs false
structure Cx where
 fr:Nat:=0
 kp:List Nat:=[]
 nt:Nat
 tys:List TypeId:=[]
 frz:Nat→List Nat:=fun _=>[]
 emp:Nat→List (Nat × Nat × Nat × Nat):=fun _=>[]
 drop:Nat→Nat:=fun _=>0
 own:Bool:=false
 spl:Nat→List (Nat × List Int):=fun _=>[]
def isSl (P:Program) (t:TypeId):Bool:=match P.underlying t with | some (.slice _)=>true | _=>false
def isMap (P:Program):List TypeId→Bool
 | [t]=>(match P.underlying t with | some (.map _ _)=>true | _=>false)
 | _=>false
def stB:List Nat→Nat→AV→(AV→Prop)→Prop
 | [],_,r,k=>k r
 | p::l,t,r,k=>cond (Nat.beq p t) (strip r k) (stB l t r k)
theorem stB_sound:∀ (l:List Nat) (t:Nat) (r:AV) (k:AV→Prop),stB l t r k→∃ y,k y∧∀ S m v,CV S r m v→CV S y m v
 | [],t,r,k,h=>⟨r,h,fun S m v hv=>hv⟩
 | p::l,t,r,k,h=>by
  simp only [stB] at h
  cases hb:Nat.beq p t with
  | true =>
   rw [hb] at h
   obtain ⟨y,h1,h2⟩:=strip_sound _ _ h
   exact ⟨y,h1,fun S m v hv=>(h2 S m v hv).ext (Ext.refl S) (MLe.no m)⟩
  | false=>rw [hb] at h; exact stB_sound l t r k h
def astep (P:Program) (E:Env) (C:Cx) (wf:Bool) (o:Oper) (st:St) (K:AV→List (Nat × Blk)→List Nat→Prop):Prop :=
 cond (dstOk C.nt o.dst) (match o.op with
  | .load t x=>aload P E o.dst t (evO E st x) (lk st.heap) K
  | .store t x v=>(match o.dst with | none=>forceA (evO E st v) fun v=>astore P t (evO E st x) v (lk st.heap) (fun u rd=>K .undef u rd) | some _=>False)
  | .alloc t=>(match o.dst with | some d=>cond (fresh C.kp st (Nat.add C.fr d)) (aalloc P (Nat.add C.fr d) t K) False | none=>False)
  | .box t x=>(match o.dst with | some d=>cond (fresh C.kp st (Nat.add C.fr d)) (forceA (evO E st x) fun x=>abox (Nat.add C.fr d) x K) False | none=>False)
  | .buildSlice t len parts=>(match o.dst with | some d=>cond (fresh C.kp st (Nat.add C.fr d)) (abuildS P (Nat.add C.fr d) t len (parts.toList.map fun p=>(p.1,evO E st p.2)) K) False | none=>False)
  | .makeSlice t l c=>(match o.dst with | some d=>cond (fresh C.kp st (Nat.add C.fr d)) (amakeS P (Nat.add C.fr d) t (evO E st l) (evO E st c) K) False | none=>False)
  | .convert t1 t2 x=>cond (isSl P t1&&Nat.beq t1 t2) (as2s P t1 t2 (evO E st x) (lk st.heap) K) (cond (isSl P t1) (ab2s P t1 t2 (lk st.heap) (match o.dst with | some d=>inT d E.shape | none=>false) (evO E st x) fun r rd=>K r [] rd) (cond (isSl P t2) (match o.dst with | some d=>cond (fresh C.kp st (Nat.add C.fr d)) (as2b P (Nat.add C.fr d) t1 t2 (evO E st x) K) False | none=>False) (apure P E C.tys (.convert t1 t2 x) (evO E st) fun r=>K r [] [])))
  | .makeMap t none=>(match o.dst with | some d=>cond (fresh C.kp st (Nat.add C.fr d)) (amkM P (Nat.add C.fr d) t K) False | none=>False)
  | .mapUpdate t mv k x=>(match o.dst with | none=>forceA (evO E st x) fun x=>aupM P t (evO E st mv) (evO E st k) x (lk st.heap) (fun u rd=>K .undef u rd) | some _=>False)
  | .lookup t mv k ok=>alkM P t (evO E st mv) (evO E st k) ok (lk st.heap) fun r rd=>K r [] rd
  | .index t x i=>cond (match o.dst with | some d=>inT d E.shape | none=>false) (aixS P E o.dst t (evO E st x) (evO E st i) fun r=>K r [] []) (apure P E C.tys (.index t x i) (evO E st) fun r=>K r [] [])
  | .call c=>(match c.callee with
   | .value _=>acall (wf&&!E.nowf) E C.kp st (Nat.add C.fr (match o.dst with | some d=>d | none=>C.nt)) c (evO E st) K
   | .builtin .append=>(match o.dst with | some d=>aapp P C.kp st (Nat.add C.fr d) c.argTypes.toList (c.args.toList.map (evO E st)) (lk st.heap) K | none=>False)
   | .builtin .copy=>acopy P c.argTypes.toList (c.args.toList.map (evO E st)) (lk st.heap) K
   | .builtin .len=>cond (isMap P c.argTypes.toList) (alenM P c.argTypes.toList (c.args.toList.map (evO E st)) (lk st.heap) fun r rd=>K r [] rd) (apure P E C.tys (.call c) (evO E st) fun r=>K r [] [])
   | _=>apure P E C.tys (.call c) (evO E st) fun r=>K r [] [])
  | .build t parts=>apure P E C.tys (.build t parts) (evO E st) fun r=>stB E.bst t r fun r=>K r [] []
  | op=>apure P E C.tys op (evO E st) fun r=>K r [] []) False
theorem good_of_pg {P:Program} {E:Env} {nt:Nat} {o:Oper} {ev:Operand→AV} {h:Nat→Option Blk} {r:AV} (hd:dstOk nt o.dst=true) (H:PG P o ev r):Good P E nt o ev h r [] [] :=
 good_pure hd H
theorem astep_sound {P:Program} {E:Env} {C:Cx} {wf:Bool} (hT:TyOK P C.tys) (hS:SpecOK P E) {o:Oper} {st:St} {K:AV→List (Nat × Blk)→List Nat→Prop} (H:astep P E C wf o st K) :
  ∃ r u rd,((wf=true→wfA r)→K r u rd)∧Good P E C.nt o (evO E st) (lk st.heap) r u rd∧∀ p ∈ u,p.1 ∉ rd→fresh C.kp st p.1=true:=by
 unfold astep at H
 obtain ⟨hd,H⟩:=cond_F H
 have pure:∀ op,o.op=op→apure P E C.tys op (evO E st) (fun r=>K r [] [])→∃ r u rd,((wf=true→wfA r)→K r u rd)∧Good P E C.nt o (evO E st) (lk st.heap) r u rd∧∀ p ∈ u,p.1 ∉ rd→fresh C.kp st p.1=true:=by
  intro op ho h
  rw [← ho] at h
  obtain ⟨r,h1,h2⟩:=apure_sound hT h
  exact ⟨r,[],[],fun _=>h1,good_of_pg hd h2,by simp⟩
 split at H
 ·rename_i t x ho
  obtain ⟨r,rd,h1,h2⟩:=aload_sound (nt:=C.nt) ho hd H
  exact ⟨r,[],rd,fun _=>h1,h2,by simp⟩
 ·rename_i t x v ho
  split at H
  ·rename_i hdn
   rw [forceA_eq] at H
   obtain ⟨u,rd,h1,h3,h2⟩:=astore_sound (E:=E) (nt:=C.nt) ho hdn H
   exact ⟨.undef,u,rd,fun _=>h1,h2,fun p hp hn=>absurd (h3 p hp) hn⟩
  ·exact H.elim
 ·rename_i t ho
  split at H
  ·rename_i d hdd
   obtain ⟨hf,H⟩:=cond_F H
   obtain ⟨r,b,h1,h2⟩:=aalloc_sound (E:=E) (nt:=C.nt) ho hd H
   exact ⟨r,_,_,fun _=>h1,h2,fun p hp _=>by simp at hp; subst hp; exact hf⟩
  ·exact H.elim
 ·rename_i t x ho
  split at H
  ·rename_i d hdd
   obtain ⟨hf,H⟩:=cond_F H
   rw [forceA_eq] at H
   obtain ⟨r,b,h1,h2⟩:=abox_sound (E:=E) (nt:=C.nt) ho hd H
   exact ⟨r,_,_,fun _=>h1,h2,fun p hp _=>by simp at hp; subst hp; exact hf⟩
  ·exact H.elim
 ·rename_i t len parts ho
  split at H
  ·rename_i d hdd
   obtain ⟨hf,H⟩:=cond_F H
   obtain ⟨r,b,h1,h2⟩:=abuildS_sound (E:=E) (nt:=C.nt) ho hd H
   exact ⟨r,_,_,fun _=>h1,h2,fun p hp _=>by simp at hp; subst hp; exact hf⟩
  ·exact H.elim
 ·rename_i t l c ho
  split at H
  ·rename_i d hdd
   obtain ⟨hf,H⟩:=cond_F H
   obtain ⟨r,b,h1,h2⟩:=amakeS_sound (E:=E) (nt:=C.nt) ho hd H
   exact ⟨r,_,_,fun _=>h1,h2,fun p hp _=>by simp at hp; subst hp; exact hf⟩
  ·exact H.elim
 ·rename_i t1 t2 x ho
  cases hss:(isSl P t1&&Nat.beq t1 t2) with
  | true =>
  rw [hss] at H
  simp only [cond_true] at H
  obtain ⟨r,u,rd,h1,h3,h2⟩:=as2s_sound (E:=E) (nt:=C.nt) ho hd H
  exact ⟨r,u,rd,fun _=>h1,h2,fun p hp hn=>absurd (h3 p hp) hn⟩
  | false =>
  rw [hss] at H
  simp only [cond_false] at H
  cases hsl:isSl P t1 with
  | true =>
   rw [hsl] at H
   simp only [cond_true] at H
   obtain ⟨r,rd,h1,h2⟩:=ab2s_sound (E:=E) (nt:=C.nt) ho hd H
   exact ⟨r,[],rd,fun _=>h1,h2,by simp⟩
  | false =>
   rw [hsl] at H
   simp only [cond_false] at H
   cases hsl2:isSl P t2 with
   | true =>
    rw [hsl2] at H
    simp only [cond_true] at H
    split at H
    ·rename_i d hdd
     obtain ⟨hf,H⟩:=cond_F H
     obtain ⟨r,b,h1,h2⟩:=as2b_sound (E:=E) (nt:=C.nt) ho hd H
     exact ⟨r,_,_,fun _=>h1,h2,fun p hp _=>by simp at hp; subst hp; exact hf⟩
    ·exact H.elim
   | false =>
    rw [hsl2] at H
    simp only [cond_false] at H
    exact pure _ ho H
 ·rename_i t ho
  split at H
  ·rename_i d hdd
   obtain ⟨hf,H⟩:=cond_F H
   obtain ⟨r,b,h1,h2⟩:=amkM_sound (E:=E) (nt:=C.nt) ho hd H
   exact ⟨r,_,_,fun _=>h1,h2,fun p hp _=>by simp at hp; subst hp; exact hf⟩
  ·exact H.elim
 ·rename_i t mv k x ho
  split at H
  ·rename_i hdn
   rw [forceA_eq] at H
   obtain ⟨u,rd,h1,h3,h2⟩:=aupM_sound hS.2.2.2.2 (E:=E) (nt:=C.nt) ho hdn H
   exact ⟨.undef,u,rd,fun _=>h1,h2,fun p hp hn=>absurd (h3 p hp) hn⟩
  ·exact H.elim
 ·rename_i t mv k ok ho
  obtain ⟨r,rd,h1,h2⟩:=alkM_sound hS.2.2.2.2 (E:=E) (nt:=C.nt) ho hd H
  exact ⟨r,[],rd,fun _=>h1,h2,by simp⟩
 ·rename_i t x i ho
  cases hsh:(match o.dst with | some d=>inT d E.shape | none=>false) with
  | true =>
   rw [hsh] at H
   simp only [cond_true] at H
   obtain ⟨r,h1,h2⟩:=aixS_sound ho H
   exact ⟨r,[],[],fun _=>h1,good_of_pg hd h2,by simp⟩
  | false =>
   rw [hsh] at H
   simp only [cond_false] at H
   exact pure _ ho H
 ·rename_i c ho
  split at H
  ·obtain ⟨r,u,rd,h1,h2⟩:=acall_sound (nt:=C.nt) hS ho hd H
   refine ⟨r,u,rd,fun hw=>h1 (fun hq=>?_),h2⟩
   simp only [Bool.and_eq_true] at hq
   exact hw hq.1
  ·rename_i hc
   split at H
   ·obtain ⟨r,u,rd,h1,h2,h3⟩:=aapp_sound (E:=E) (nt:=C.nt) ho hc hd H
    exact ⟨r,u,rd,fun _=>h1,h3,h2⟩
   ·exact H.elim
  ·rename_i hc
   obtain ⟨r,u,rd,h1,h2,h3⟩:=acopy_sound (E:=E) (nt:=C.nt) ho hc hd H
   exact ⟨r,u,rd,fun _=>h1,h3,h2⟩
  ·rename_i hc
   cases hm:isMap P c.argTypes.toList with
   | true =>
    rw [hm] at H
    simp only [cond_true] at H
    obtain ⟨r,rd,h1,h2⟩:=alenM_sound hS.2.2.2.2 (E:=E) (nt:=C.nt) ho hc hd H
    exact ⟨r,[],rd,fun _=>h1,h2,by simp⟩
   | false =>
    rw [hm] at H
    simp only [cond_false] at H
    exact pure _ ho H
  ·exact pure _ ho H
 ·rename_i t parts ho
  rw [← ho] at H
  obtain ⟨r,h1,h2⟩:=apure_sound hT H
  obtain ⟨y,h3,h4⟩:=stB_sound _ _ _ _ h1
  refine ⟨y,[],[],fun _=>h3,good_of_pg hd (fun a w S m hv=>?_),by simp⟩
  obtain ⟨v,q1,q2⟩:=h2 a w S m hv
  exact ⟨v,q1,h4 S m v q2⟩
 ·exact pure _ rfl H
def blksK:List (Nat × Blk)→List (Nat × Blk)→(List (Nat × Blk)→Prop)→Prop
 | h,[],k=>k h
 | h,(i,b)::u,k=>insK h i b fun h'=>blksK h' u k
theorem blksK_eq:∀ (u:List (Nat × Blk)) (st:St) (k:List (Nat × Blk)→Prop),blksK st.heap u k=k (st.blks u).heap
 | [],st,k=>rfl
 | (i,b)::u,st,k=>by
  simp only [blksK,St.blks]
  rw [insK_ins]
  exact blksK_eq u (st.blk i b) k
theorem blks_tmps:∀ (u:List (Nat × Blk)) (st:St),(st.blks u).tmps=st.tmps
 | [],_=>rfl
 | (i,b)::u,st=>by simp only [St.blks]; rw [blks_tmps u]; rfl
def updK (st:St) (d:Option Nat) (r:AV) (u:List (Nat × Blk)) (k:St→Prop):Prop :=
 match st with
 | ⟨tm,hp⟩=>blksK hp u fun h=>match d with
  | some t=>forceA r fun r=>insK tm t r fun l=>k ⟨l,h⟩
  | none=>k ⟨tm,h⟩
theorem updK_eq (st:St) (d:Option Nat) (r:AV) (u:List (Nat × Blk)) (k:St→Prop):updK st d r u k=k (st.upd d r u):=by
 unfold updK St.upd
 obtain ⟨tm,hp⟩:=st
 have hb:=fun k=>blksK_eq u ⟨tm,hp⟩ k
 simp only at hb ⊢
 rw [hb]
 have ht:=blks_tmps u ⟨tm,hp⟩
 simp only at ht
 generalize St.blks ⟨tm,hp⟩ u=q at ht ⊢
 obtain ⟨qt,qh⟩:=q
 simp only at ht
 subst ht
 cases d with
 | none=>rfl
 | some t=>simp only [St.put,forceA_eq]; rw [insK_ins]
def known (st:St) (t:Nat) (b:Bool) (k:St→Prop):Prop:=match st with | ⟨tm,hp⟩=>insK tm t (.bool b) fun l=>k ⟨l,hp⟩
def forceNt (n:Nat) (k:Nat→Prop):Prop:=match n with | 0=>k 0 | m+1=>k (Nat.succ m)
theorem forceNt_eq (n:Nat) (k:Nat→Prop):forceNt n k=k n:=by cases n <;> rfl
def forceI (n:Int) (k:Int→Prop):Prop:=match n with | .ofNat m=>forceNt m fun m=>k (.ofNat m) | .negSucc m=>forceNt m fun m=>k (.negSucc m)
theorem forceI_eq (n:Int) (k:Int→Prop):forceI n k=k n:=by cases n <;> simp only [forceI,forceNt_eq]
mutual
def forceD:AV→(AV→Prop)→Prop
 | .int k n,c=>forceI n fun n=>c (.int k n)
 | .bool b,c=>cond b (c (.bool true)) (c (.bool false))
 | .ptr k o,c=>forceNt o fun o=>c (.ptr k o)
 | .agg cs,c=>forceDL cs fun cs=>c (.agg cs)
 | .tup cs,c=>forceDL cs fun cs=>c (.tup cs)
 | .str s,c=>c (.str s)
 | .sl s f xs,c=>c (.sl s f xs)
 | .nils,c=>c .nils
 | .ro cs,c=>c (.ro cs)
 | .nilp,c=>c .nilp
 | .fn f cs,c=>c (.fn f cs)
 | .acc k s xs,c=>c (.acc k s xs)
 | .ms k o n d s,c=>c (.ms k o n d s)
 | .rw k s n,c=>c (.rw k s n)
 | .mw k s q o n d,c=>c (.mw k s q o n d)
 | .prw k s q j o,c=>c (.prw k s q j o)
 | .frz k s n xs,c=>c (.frz k s n xs)
 | .mpv k,c=>c (.mpv k)
 | .undef,c=>c .undef
 | .dead,c=>c .dead
def forceDL:List AV→(List AV→Prop)→Prop
 | [],c=>c []
 | x::xs,c=>forceD x fun x=>forceDL xs fun xs=>c (x::xs)
end
mutual
theorem forceD_eq:∀ (x:AV) (c:AV→Prop),forceD x c=c x
 | .int k n,c=>by simp only [forceD,forceI_eq]
 | .bool b,c=>by cases b <;> simp only [forceD,cond_true,cond_false]
 | .ptr k o,c=>by simp only [forceD,forceNt_eq]
 | .agg cs,c=>by simp only [forceD]; exact forceDL_eq cs _
 | .tup cs,c=>by simp only [forceD]; exact forceDL_eq cs _
 | .str s,c=>by simp only [forceD]
 | .sl s f xs,c=>by simp only [forceD]
 | .nils,c=>by simp only [forceD]
 | .ro cs,c=>by simp only [forceD]
 | .nilp,c=>by simp only [forceD]
 | .fn f cs,c=>by simp only [forceD]
 | .acc k s xs,c=>by simp only [forceD]
 | .ms k o n d s,c=>by simp only [forceD]
 | .rw k s n,c=>by simp only [forceD]
 | .mw k s q o n d,c=>by simp only [forceD]
 | .prw k s q j o,c=>by simp only [forceD]
 | .frz k s n xs,c=>by simp only [forceD]
 | .mpv k,c=>by simp only [forceD]
 | .undef,c=>by simp only [forceD]
 | .dead,c=>by simp only [forceD]
theorem forceDL_eq:∀ (xs:List AV) (c:List AV→Prop),forceDL xs c=c xs
 | [],c=>by simp only [forceDL]
 | x::xs,c=>by simp only [forceDL]; rw [forceD_eq x]; exact forceDL_eq xs _
end
def isMove:Op→Bool
 | .move _=>true
 | .assign _=>true
 | .call _=>true
 | _=>false
def forceE (e:Bool) (o:Op) (x:AV) (c:AV→Prop):Prop:=cond (e&&!isMove o) (forceD x c) (c x)
theorem forceE_eq (e:Bool) (o:Op) (x:AV) (c:AV→Prop):forceE e o x c=c x:=by
 unfold forceE
 cases (e&&!isMove o) with
 | true=>exact forceD_eq x c
 | false=>rfl
def forceT {β:Type}:List (Nat × AV)→(List (Nat × AV)→Prop)→Prop
 | [],k=>k []
 | (t,y)::l,k=>forceA y fun y=>forceT (β:=β) l fun l=>k ((t,y)::l)
theorem forceT_eq {β:Type}:∀ (l:List (Nat × AV)) (k:List (Nat × AV)→Prop),forceT (β:=β) l k=k l
 | [],k=>rfl
 | (t,y)::l,k=>by simp only [forceT,forceA_eq]; exact forceT_eq l _
def forceB:Blk→(Blk→Prop)→Prop
 | .cells cs,k=>k (.cells cs)
 | .tok e s n,k=>k (.tok e s n)
 | .row e s xs,k=>fcL (Nat.ble 2000000 e) xs fun xs=>k (.row e s xs)
 | .mp a b l,k=>k (.mp a b l)
 | .gone,k=>k .gone
theorem forceB_eq (b:Blk) (k:Blk→Prop):forceB b k=k b:=by cases b <;> simp only [forceB,fcL_eq]
def forceH {β:Type}:List (Nat × Blk)→(List (Nat × Blk)→Prop)→Prop
 | [],k=>k []
 | (t,y)::l,k=>forceB y fun y=>forceH (β:=β) l fun l=>k ((t,y)::l)
theorem forceH_eq {β:Type}:∀ (l:List (Nat × Blk)) (k:List (Nat × Blk)→Prop),forceH (β:=β) l k=k l
 | [],k=>rfl
 | (t,y)::l,k=>by simp only [forceH,forceB_eq]; exact forceH_eq l _
def forceS (st:St) (k:St→Prop):Prop:=match st with | ⟨tm,hp⟩=>forceT (β:=Unit) tm fun tm=>forceH (β:=Unit) hp fun hp=>k ⟨tm,hp⟩
theorem forceS_eq (st:St) (k:St→Prop):forceS st k=k st:=by unfold forceS; obtain ⟨tm,hp⟩:=st; simp only; rw [forceT_eq,forceH_eq]
def isRowB:Option Blk→Bool
 | some (.row _ _ _)=>true
 | _=>false
def frzN (kp:List Nat):List Nat→St→(St→Prop)→Prop
 | [],st,K=>K st
 | k::l,st,K=>cond (Nat.ble 2000000 k) (closeK st (Nat.sub k 2000000) fun st=>frzN kp l st K) (cond (isRowB (lk st.heap k)) (closeK st k fun st=>frzK kp st k fun st'=>forceS st' fun st'=>frzN kp l st' K) (frzN kp l st K))
theorem frzN_sound {G:Gh} {kp:List Nat} {a:Act} {w:World}:∀ (l:List Nat) (st:St) (S:Pin) (m:Nm) (K:St→Prop),frzN kp l st K→Rel G kp st a w S m→∃ st' S' m',K st'∧Rel G kp st' a w S' m'
 | [],st,S,m,K,H,h=>⟨st,S,m,H,h⟩
 | k::l,st,S,m,K,H,h=>by
  simp only [frzN] at H
  cases hc:Nat.ble 2000000 k with
  | true =>
   rw [hc] at H
   simp only [cond_true] at H
   obtain ⟨st0,H0,h0⟩:=closeK_sound h H
   exact frzN_sound l st0 S m K H0 h0
  | false =>
  rw [hc] at H
  simp only [cond_false] at H
  cases hb:isRowB (lk st.heap k) with
  | true =>
   rw [hb] at H
   simp only [cond_true] at H
   obtain ⟨st0,H0,h0⟩:=closeK_sound h H
   obtain ⟨st',S',m',h1,h2⟩:=frzK_sound h0 H0
   rw [forceS_eq] at h1
   exact frzN_sound l st' S' m' K h1 h2
  | false =>
   rw [hb] at H
   simp only [cond_false] at H
   exact frzN_sound l st S m K H h
def rws0:List AV→List Nat
 | []=>[]
 | .rw k _ _::l=>k::rws0 l
 | _::l=>rws0 l
def preN (E:Env) (st:St) (o:Oper):List Nat:=match o.op with
 | .build t parts=>cond (inT t E.bst) (rws0 (parts.toList.map fun p=>evO E st p.2)) []
 | .call c=>(match c.callee with
  | .value f=>(match evO E st f with
   | .fn g _=>(match E.spec g with | some _=>rws0 (c.args.toList.map (evO E st)) | none=>[])
   | _=>[])
  | _=>[])
 | _=>[]
def nilq (P:Program) (E:Env) (st:St) (o:Oper):Option (List (List AV)):=cond E.nq (match o.op with
 | .binOp .eql t x y _=>(match P.underlying t,evO E st x,evO E st y with
  | some (.slice _),.sl _ _ xs,.nils=>some xs
  | _,_,_=>none)
 | _=>none) none
theorem nilq_off {P:Program} {E:Env} (h:E.nq=false) (st:St) (o:Oper):nilq P E st o=none:=by
 unfold nilq; rw [h]; rfl
theorem nilq_sound {P:Program} {E:Env} {st:St} {o:Oper} {xs:List (List AV)} (h:nilq P E st o=some xs) {G:Gh} {kp:List Nat} {a:Act} {w:World} {S:Pin} {m:Nm} (hG:GOK E G.S0) (hR:Rel G kp st a w S m) :
  ∃ b:Bool,(execOp a.eval o).run P w=.ok (.value (.bool b)) w∧(b=true→xs=[]):=by
 unfold nilq at h
 cases hq:E.nq with
 | false=>rw [hq] at h; cases h
 | true =>
  rw [hq] at h
  simp only [cond_true] at h
  split at h
  ·rename_i t x y yt ho
   split at h
   ·rename_i e s f ys hu hx hy
    simp only [Option.some.injEq] at h
    subst h
    have cx:=evO_cv (E:=E) hG hR x
    have cy:=evO_cv (E:=E) hG hR y
    rw [hx] at cx
    rw [hy] at cy
    simp only [CV] at cx cy
    obtain ⟨A,c,ex,h1,h2,h3,h4,h5⟩:=cx
    refine ⟨A.isNone,?_,fun hb=>?_⟩
    ·have e1:(binOp .eql t (a.eval x) (a.eval y)).run P w=.ok (.bool A.isNone) w:=by
      rw [ex,cy]; exact Lib.run_eql_slice_nil w t e A ys.length c 0 0 hu
     have e2:(eqGuard .eql t x y (a.eval x) (a.eval y)).run P w=.ok () w:=by
      rw [ex,cy]; rfl
     simp [execOp,ho,e1,e2]
    ·have:A=none:=by cases A <;> first | rfl | cases hb
     have:=h4 this
     exact List.eq_nil_of_length_eq_zero (by omega)
   ·cases h
  ·cases h
def arun (P:Program) (E:Env) (C:Cx) (ops:Array Oper):List Oper→St→(St→Prop)→Prop
 | [],st,k=>k st
 | o::rest,st,k=>match o.guard with
  | none=>match nilq P E st o with
   | some xs=>cond (dstOk C.nt o.dst) ((xs=[]→updK st o.dst (.bool true) [] fun st'=>arun P E C ops rest st' k)∧updK st o.dst (.bool false) [] fun st'=>arun P E C ops rest st' k) False
   | none=>frzN C.kp (preN E st o) st fun st=>astep P E C true o st fun r u _=>forceE E.eager o.op r fun r=>updK st o.dst r u fun st'=>arun P E C ops rest st' k
  | some (j,want)=>(match (ops[j]?).bind (·.dst) with
   | some t=>(match st.get t with
    | .bool c=>cond c
      (known st t true fun st=>cond want (astep P E C true o st fun r u _=>forceE E.eager o.op r fun r=>updK st o.dst r u fun st'=>arun P E C ops rest st' k) (cond (dstOk C.nt o.dst) (updK st o.dst .undef [] fun st'=>arun P E C ops rest st' k) False))
      (known st t false fun st=>cond want (cond (dstOk C.nt o.dst) (updK st o.dst .undef [] fun st'=>arun P E C ops rest st' k) False) (astep P E C true o st fun r u _=>forceE E.eager o.op r fun r=>updK st o.dst r u fun st'=>arun P E C ops rest st' k))
    | .undef=>cond (dstOk C.nt o.dst) (updK st o.dst .undef [] fun st'=>arun P E C ops rest st' k) False
    | _=>False)
   | none=>False)
theorem guard_slot {G:Gh} {kp:List Nat} {st:St} {a:Act} {w:World} {S:Pin} {m:Nm} (h:Rel G kp st a w S m) {t:Nat} {c:Bool} (e:st.get t=.bool c):a.tmps[t]?=some (.bool c):=by
 have:=h.tmps t
 rw [e] at this
 simp only [CV,Array.getD_eq_getD_getElem?] at this
 cases hq:a.tmps[t]? with
 | none=>rw [hq] at this; simp [undef] at this
 | some v=>rw [hq] at this; simp at this; rw [this]
theorem guard_undef {G:Gh} {kp:List Nat} {st:St} {a:Act} {w:World} {S:Pin} {m:Nm} (h:Rel G kp st a w S m) {t:Nat} (e:st.get t=.undef):∀ b,a.tmps[t]?≠some (.bool b):=by
 intro b hb
 have:=h.tmps t
 rw [e] at this
 simp only [CV,Array.getD_eq_getD_getElem?,hb] at this
 simp [undef] at this
theorem Rel.known {G:Gh} {kp:List Nat} {st:St} {a:Act} {w:World} {S:Pin} {m:Nm} (h:Rel G kp st a w S m) {t:Nat} {c:Bool} (e:st.get t=.bool c):Rel G kp (st.put t (.bool c)) a w S m:=by
 refine h.weaken (fun q v hv=>?_) (fun k b hk=>⟨⟨b,hk⟩,h.held k b hk⟩)
 rw [St.get_put]
 by_cases hq:q=t
 ·subst hq; rw [if_pos rfl,← e]; exact hv
 ·rw [if_neg hq]; exact hv
theorem known_eq (st:St) (t:Nat) (b:Bool) (k:St→Prop):known st t b k=k (st.put t (.bool b)):=by
 unfold known St.put; obtain ⟨tm,hp⟩:=st; simp only; rw [insK_ins]
theorem put_size (a:Act) (d:Option Nat) (v:Value):(a.put d v).tmps.size=a.tmps.size:=by
 cases d <;> simp [Act.put]
theorem upd_undef {G:Gh} {kp:List Nat} {st:St} {a:Act} {w:World} {S:Pin} {m:Nm} (h:Rel G kp st a w S m) {d:Option Nat} (hd:dstOk a.tmps.size d=true):Rel G kp (st.upd d .undef []) (a.put d undef) w S m:=by
 cases d with
 | none=>exact h
 | some t=>exact h.put (by simp only [CV]) (Nat.le_of_ble_eq_true hd)
theorem arun_sound {P:Program} {E:Env} {C:Cx} (hT:TyOK P C.tys) (hS:SpecOK P E) {ops:Array Oper} {Q:Exit→Act→World→Prop} {G:Gh} (hG:GOK E G.S0) :
  ∀ (l:List Oper) (st:St) (k:St→Prop),arun P E C ops l st k→∀ (a:Act) (w:World) (S:Pin) (m:Nm),Rel G C.kp st a w S m→a.tmps.size=C.nt →
   (∀ st' a' w' S' m',k st'→Rel G C.kp st' a' w' S' m'→a'.tmps.size=C.nt→Q .normal a' w')→wpList P ops Q l a w
 | [],st,k,h,a,w,S,m,hR,hn,hQ=>hQ st a w S m h hR hn
 | o::rest,st,k,h,a,w,S,m,hR,hn,hQ=>by
  have ex:∀ (st:St) {S:Pin} {m:Nm},astep P E C true o st (fun r u _=>forceE E.eager o.op r fun r=>updK st o.dst r u fun st'=>arun P E C ops rest st' k)→Rel G C.kp st a w S m→o.wp P a w (wpList P ops Q rest) Q:=by
   intro st S m h hR
   obtain ⟨r,u,rd,h1,h2,h3⟩:=astep_sound hT hS h
   refine h2 G C.kp st a w S m _ Q hG hR hn (fun _ _=>rfl) (fun _ _=>rfl) h3 (fun v w' S' m' hw hR'=>?_)
   have:=h1 (fun _=>hw)
   rw [forceE_eq,updK_eq] at this
   exact arun_sound hT hS hG rest _ k this _ _ _ _ hR' (by rw [put_size]; exact hn) hQ
  have sk:∀ (st:St),cond (dstOk C.nt o.dst) (updK st o.dst .undef [] fun st'=>arun P E C ops rest st' k) False→Rel G C.kp st a w S m→wpList P ops Q rest (a.put o.dst undef) w:=by
   intro st h hR
   obtain ⟨hd,h⟩:=cond_F h
   rw [updK_eq] at h
   exact arun_sound hT hS hG rest _ k h _ _ _ _ (upd_undef hR (by rw [hn]; exact hd)) (by rw [put_size]; exact hn) hQ
  unfold wpList
  simp only [arun] at h
  split at h
  ·rename_i hg
   rw [if_pos (by simp [Region.wanted,hg])]
   split at h
   ·rename_i xs hx
    obtain ⟨hd,h⟩:=cond_F h
    obtain ⟨b,hrun,hb⟩:=nilq_sound hx hG hR
    refine .inl ?_
    unfold Oper.wp
    rw [hrun]
    have go:updK st o.dst (.bool b) [] (fun st'=>arun P E C ops rest st' k)→wpList P ops Q rest (a.put o.dst (.bool b)) w:=by
     intro h
     rw [updK_eq] at h
     refine arun_sound hT hS hG rest _ k h _ _ S m ?_ (by rw [put_size]; exact hn) hQ
     unfold St.upd
     cases e:o.dst with
     | none=>exact hR
     | some d=>exact hR.put (by simp only [CV]) (by rw [hn]; rw [e] at hd; exact Nat.le_of_ble_eq_true hd)
    cases b with
    | true=>exact go (h.1 (hb rfl))
    | false=>exact go h.2
   ·obtain ⟨st2,S2,m2,h,hR2⟩:=frzN_sound _ _ S m _ h hR
    exact .inl (ex st2 h hR2)
  ·rename_i j want hg
   split at h
   ·rename_i t ht
    split at h
    ·rename_i c hc
     have hs:=guard_slot hR hc
     have hy:yielded ops a.tmps j=some c:=by simp only [yielded,ht,Option.bind_some,hs]
     have hR':=hR.known hc
     cases c with
     | true =>
      simp only [cond_true] at h
      rw [known_eq] at h
      cases want with
      | true=>rw [if_pos (by simp [Region.wanted,hg,hy])]; exact .inl (ex _ h hR')
      | false=>rw [if_neg (by simp [Region.wanted,hg,hy])]; exact sk _ h hR'
     | false =>
      simp only [cond_false] at h
      rw [known_eq] at h
      cases want with
      | true=>rw [if_neg (by simp [Region.wanted,hg,hy])]; exact sk _ h hR'
      | false=>rw [if_pos (by simp [Region.wanted,hg,hy])]; exact .inl (ex _ h hR')
    ·rename_i hc
     have hs:=guard_undef hR hc
     have hy:yielded ops a.tmps j=none:=by
      unfold yielded
      rw [ht]
      simp only [Option.bind_some]
     rw [if_neg (by simp [Region.wanted,hg,hy])]
     exact sk _ h hR
    ·exact h.elim
   ·exact h.elim
end Go.Proofs.YtgnnafneglannaaGreatDoor
namespace Go.Proofs.YtgnnafneglannaaGreatDoor
open Go
open Go.RowKit (Below)
set_option linter.unusedVariables false
set_option linter.unusedSimpArgs false
mutual
def le:AV→AV→Prop
 | _,.dead=>True
 | .int k a,.int k' b=>cond (decide (k=k')) (a=b) False
 | .bool a,.bool b=>a=b
 | .str a,.str b=>a=b
 | .agg xs,.agg ys=>leL xs ys
 | .tup xs,.tup ys=>leL xs ys
 | .fn f xs,.fn g ys=>cond (Nat.beq f g) (leL xs ys) False
 | .nils,.nils=>True
 | .nils,.sl _ _ xs=>xs=[]
 | .sl s f xs,.sl s' f' ys=>cond (Nat.beq s s') (cond f' (f=true) True∧xs=ys) False
 | .acc _ s xs,.sl s' f' ys=>cond (Nat.beq s s'&&!f') (xs=ys) False
 | .acc k s xs,.acc k' s' ys=>cond (Nat.beq k k'&&Nat.beq s s') (xs=ys) False
 | .ro xs,.ro ys=>xs=ys
 | .nilp,.nilp=>True
 | .ptr k a,.ptr k' b=>cond (Nat.beq k k') (a=b) False
 | .ms k a b c d,.ms k' a' b' c' d'=>cond (Nat.beq k k'&&Nat.beq d d') (a=a'∧b=b'∧c=c') False
 | .rw k s n,.rw k' s' n'=>cond (Nat.beq k k'&&Nat.beq s s') (n=n') False
 | .mw k s q o n f,.mw k' s' q' o' n' f'=>cond (Nat.beq k k'&&Nat.beq s s') (q=q'∧o=o'∧n=n'∧cond f' (f=true) True) False
 | .prw k s q j o,.prw k' s' q' j' o'=>cond (Nat.beq k k'&&Nat.beq s s') (q=q'∧j=j'∧o=o') False
 | .frz k s n xs,.frz k' s' n' ys=>cond (Nat.beq k k'&&Nat.beq s s') (n=n'∧xs=ys) False
 | .frz _ s n xs,.sl s' f' ys=>cond (Nat.beq s s'&&!f') (n=xs.length∧xs=ys) False
 | .mpv k,.mpv k'=>cond (Nat.beq k k') True False
 | .undef,.undef=>True
 | _,_=>False
def leL:List AV→List AV→Prop
 | [],[]=>True
 | x::xs,y::ys=>le x y∧leL xs ys
 | _,_=>False
end
mutual
theorem le_sound {S:Pin}:∀ (x y:AV) (m:Nm) (v:Value),le x y→CV S x m v→CV S y m v:=by
 intro x y m v h hv
 unfold le at h
 split at h
 ·simp only [CV]
 ·obtain ⟨hk,h2⟩:=cond_F h
  have hk:=of_decide_eq_true hk
  subst hk; subst h2; exact hv
 ·subst h; exact hv
 ·subst h; exact hv
 ·simp only [CV] at hv ⊢
  obtain ⟨us,e,hu⟩:=hv
  exact ⟨us,e,leL_sound _ _ m _ h hu⟩
 ·simp only [CV] at hv ⊢
  obtain ⟨us,e,hu⟩:=hv
  exact ⟨us,e,leL_sound _ _ m _ h hu⟩
 ·obtain ⟨hf,h2⟩:=cond_F h
  have hf:=Nat.eq_of_beq_eq_true hf
  subst hf
  simp only [CV] at hv ⊢
  obtain ⟨us,e,hu⟩:=hv
  exact ⟨us,e,leL_sound _ _ m _ h2 hu⟩
 ·exact hv
 ·subst h
  simp only [CV] at hv ⊢
  subst hv
  exact ⟨none,0,rfl,Nat.le_refl _,by unfold maxLen; omega,fun _=>rfl,fun _=>rfl,fun a e=>by cases e⟩
 ·rename_i s f xs s' f' ys
  obtain ⟨hs,h2⟩:=cond_F h
  have hs:=Nat.eq_of_beq_eq_true hs
  obtain ⟨hf,h3⟩:=h2
  subst hs; subst h3
  simp only [CV] at hv ⊢
  obtain ⟨A,c,e,p1,p2,p3,p4,p5⟩:=hv
  exact ⟨A,c,e,p1,p2,(fun q=>by subst q; exact p3 hf),p4,p5⟩
 ·rename_i k s xs s' f' ys
  obtain ⟨hs,h2⟩:=cond_F h
  simp only [Bool.and_eq_true,Bool.not_eq_true'] at hs
  have hs1:=Nat.eq_of_beq_eq_true hs.1
  subst hs1; subst h2
  simp only [CV] at hv ⊢
  obtain ⟨⟨A,c,e,p1,p2,p3,p4⟩,_⟩:=hv
  exact ⟨A,c,e,p1,p2,(fun q=>by rw [hs.2] at q; cases q),p3,p4⟩
 ·rename_i k s xs k' s' ys
  obtain ⟨hs,h2⟩:=cond_F h
  simp only [Bool.and_eq_true] at hs
  have hs1:=Nat.eq_of_beq_eq_true hs.1
  have hs2:=Nat.eq_of_beq_eq_true hs.2
  subst hs1; subst hs2; subst h2; exact hv
 ·subst h; exact hv
 ·exact hv
 ·rename_i k a k' b
  obtain ⟨hk,h2⟩:=cond_F h
  have hk:=Nat.eq_of_beq_eq_true hk
  subst hk; subst h2; exact hv
 ·rename_i k a b c d k' a' b' c' d'
  obtain ⟨hs,h2⟩:=cond_F h
  simp only [Bool.and_eq_true] at hs
  have hs1:=Nat.eq_of_beq_eq_true hs.1
  have hs2:=Nat.eq_of_beq_eq_true hs.2
  obtain ⟨e1,e2,e3⟩:=h2
  subst hs1; subst hs2; subst e1; subst e2; subst e3; exact hv
 ·obtain ⟨hs,h2⟩:=cond_F h
  simp only [Bool.and_eq_true] at hs
  have hs1:=Nat.eq_of_beq_eq_true hs.1
  have hs2:=Nat.eq_of_beq_eq_true hs.2
  subst hs1; subst hs2; subst h2; exact hv
 ·rename_i k s q o n f k' s' q' o' n' f'
  obtain ⟨hs,h2⟩:=cond_F h
  simp only [Bool.and_eq_true] at hs
  have hs1:=Nat.eq_of_beq_eq_true hs.1
  have hs2:=Nat.eq_of_beq_eq_true hs.2
  obtain ⟨e0,e1,e2,e3⟩:=h2
  subst hs1; subst hs2; subst e0; subst e1; subst e2
  simp only [CV] at hv ⊢
  obtain ⟨A,c,p1,p2,p3,p4,p5,p6,p7⟩:=hv
  exact ⟨A,c,p1,p2,p3,p4,p5,(fun q=>by subst q; exact p6 e3),p7⟩
 ·obtain ⟨hs,h2⟩:=cond_F h
  simp only [Bool.and_eq_true] at hs
  have hs1:=Nat.eq_of_beq_eq_true hs.1
  have hs2:=Nat.eq_of_beq_eq_true hs.2
  obtain ⟨e0,e1,e2⟩:=h2
  subst hs1; subst hs2; subst e0; subst e1; subst e2; exact hv
 ·obtain ⟨hs,h2⟩:=cond_F h
  simp only [Bool.and_eq_true] at hs
  have hs1:=Nat.eq_of_beq_eq_true hs.1
  have hs2:=Nat.eq_of_beq_eq_true hs.2
  obtain ⟨e1,e2⟩:=h2
  subst hs1; subst hs2; subst e1; subst e2; exact hv
 ·obtain ⟨hs,h2⟩:=cond_F h
  simp only [Bool.and_eq_true,Bool.not_eq_true'] at hs
  have hs1:=Nat.eq_of_beq_eq_true hs.1
  obtain ⟨e1,e2⟩:=h2
  subst hs1; subst e2
  simp only [CV] at hv ⊢
  obtain ⟨⟨A,c,e,p1,p2,p3,p4⟩,_⟩:=hv.2 e1
  exact ⟨A,c,e,p1,p2,(fun q=>by rw [hs.2] at q; cases q),p3,p4⟩
 ·obtain ⟨hk,_⟩:=cond_F h
  have hk:=Nat.eq_of_beq_eq_true hk
  subst hk; exact hv
 ·exact hv
 ·exact h.elim
theorem leL_sound {S:Pin}:∀ (xs ys:List AV) (m:Nm) (vs:List Value),leL xs ys→CVl S xs m vs→CVl S ys m vs
 | [],[],m,vs,h,hv=>hv
 | x::xs,y::ys,m,vs,h,hv=>by
  simp only [leL] at h
  simp only [CVl] at hv ⊢
  obtain ⟨u,us,e,h1,h2⟩:=hv
  exact ⟨u,us,e,le_sound x y m u h.1 h1,leL_sound xs ys m us h.2 h2⟩
 | [],_::_,m,vs,h,hv=>by simp [leL] at h
 | _::_,[],m,vs,h,hv=>by simp [leL] at h
end
end Go.Proofs.YtgnnafneglannaaGreatDoor
