import Derived.Test.YtgbbmadjdaphnaaGreatDoorTPc
import Derived.LoopN
import Derived.KernelRfl
import Derived.Test.YtgbbmadjdaphnaaGreatDoorProg
import Derived.Shelf.SlSortCmp.WholeK
import Derived.Outline
import Derived.WalkKit
import Derived.Handy
import Derived.Deep.RegionHeld3
set_option maxRecDepth 100000
namespace Go.Proofs.YtgbbmadjdaphnaaGreatDoor
open Go
open Go.RowKit (Below)
set_option linter.unusedVariables false
set_option linter.unusedSimpArgs false
def names0 (i:Nat):Nat→List Nat
 | 0=>[]
 | n+1=>i::names0 (Nat.succ i) n
theorem names0_get:∀ (n i q:Nat),q < n→(names0 i n)[q]?=some (i+q)
 | 0,i,q,h=>by omega
 | n+1,i,0,h=>by simp [names0]
 | n+1,i,q+1,h=>by
  simp only [names0,List.getElem?_cons_succ]
  rw [names0_get n _ q (by omega)]
  congr 1; simp only [Nat.succ_eq_add_one]; omega
theorem names0_len:∀ (n i:Nat),(names0 i n).length=n
 | 0,i=>rfl
 | n+1,i=>by simp [names0,names0_len n]
theorem names0_mem {k:Nat}:∀ {n i:Nat},k ∈ names0 i n→i≤k
 | 0,i,h=>by simp [names0] at h
 | n+1,i,h=>by
  simp only [names0,List.mem_cons] at h
  rcases h with rfl | h
  ·exact Nat.le_refl _
  ·have:=names0_mem h; simp only [Nat.succ_eq_add_one] at this; omega
theorem names0_nodup:∀ (n i:Nat),(names0 i n).Nodup
 | 0,i=>by simp [names0]
 | n+1,i=>by
  simp only [names0,List.nodup_cons]
  exact ⟨fun h=>by have:=names0_mem h; simp only [Nat.succ_eq_add_one] at this; omega,names0_nodup n _⟩
def beqNs:List Nat→List Nat→Bool
 | [],[]=>true
 | a::l,b::l'=>Nat.beq a b&&beqNs l l'
 | _,_=>false
theorem beqNs_eq:∀ {l l':List Nat},beqNs l l'=true→l=l'
 | [],[],_=>rfl
 | a::l,b::l',h=>by
  simp only [beqNs,Bool.and_eq_true] at h
  rw [Nat.eq_of_beq_eq_true h.1,beqNs_eq h.2]
 | [],_::_,h=>by simp [beqNs] at h
 | _::_,[],h=>by simp [beqNs] at h
theorem dedup_pre:∀ (l acc:List Nat),∃ t,dedup l acc=acc++t
 | [],acc=>⟨[],by simp [dedup]⟩
 | k::l,acc=>by
  simp only [dedup]
  cases inL k acc with
  | true=>exact dedup_pre l acc
  | false =>
   obtain ⟨t,ht⟩:=dedup_pre l (acc++[k])
   exact ⟨k::t,by simp only [cond_false,ht]; simp⟩
theorem foot_pre (h:Nat→Option Blk):∀ (n:Nat) (ks:List Nat),∃ t,foot h n ks=ks++t
 | 0,ks=>⟨[],by simp [foot]⟩
 | n+1,ks=>by
  have key:∀ l,∃ t,foot h n (dedup l ks)=ks++t:=fun l=>by
   obtain ⟨t,ht⟩:=dedup_pre l ks
   obtain ⟨t',ht'⟩:=foot_pre h n (dedup l ks)
   exact ⟨t++t',by rw [ht',ht]; simp⟩
  exact key _
def blkSlots:List Blk→Nat→List (Nat × Blk)
 | [],_=>[]
 | b::l,i=>(i,b)::blkSlots l (Nat.succ i)
theorem blkSlots_lk:∀ (bs:List Blk) (i k:Nat),lk (blkSlots bs i) k=if i≤k then bs[k - i]? else none
 | [],i,k=>by simp [blkSlots,lk]
 | b::l,i,k=>by
  simp only [blkSlots,lk]
  rw [blkSlots_lk l _ k]
  by_cases h:i=k
  ·subst h; rw [nbeq_self]; simp
  ·rw [nbeq_ne h]
   simp only [cond_false,Nat.succ_eq_add_one]
   by_cases h1:i≤k
   ·rw [if_pos (by omega),if_pos h1,show k - i=(k - (i+1))+1 by omega]; simp
   ·rw [if_neg (by omega),if_neg h1]
def givenB:List Blk→Prop→Prop
 | [],k=>k
 | .cells cs::l,k=>given cs (givenB l k)
 | _::l,k=>givenB l k
theorem givenB_use:∀ {bs:List Blk} {k:Prop},givenB bs k→(∀ cs,Blk.cells cs ∈ bs→wfL cs)→k
 | [],k,h,_=>h
 | .cells cs::l,k,h,hw=>by
  simp only [givenB] at h
  exact givenB_use (given_use h (hw cs (by simp))) (fun cs hc=>hw cs (by simp [hc]))
 | .row _ _ _::l,k,h,hw=>by
  simp only [givenB] at h
  exact givenB_use h (fun cs hc=>hw cs (by simp [hc]))
 | .tok _ _ _::l,k,h,hw=>by
  simp only [givenB] at h
  exact givenB_use h (fun cs hc=>hw cs (by simp [hc]))
 | .gone::l,k,h,hw=>by
  simp only [givenB] at h
  exact givenB_use h (fun cs hc=>hw cs (by simp [hc]))
 | .nrow _ _ _ _::l,k,h,hw=>by
  simp only [givenB] at h
  exact givenB_use h (fun cs hc=>hw cs (by simp [hc]))
 | .mp _ _ _::l,k,h,hw=>by
  simp only [givenB] at h
  exact givenB_use h (fun cs hc=>hw cs (by simp [hc]))
def leBs:List Blk→List Blk→Prop
 | [],[]=>True
 | b::l,c::l'=>leB (some b) c∧leBs l l'
 | _,_=>False
theorem leBs_get:∀ {l l':List Blk} {q:Nat} {c:Blk},leBs l l'→l'[q]?=some c→∃ b,l[q]?=some b∧leB (some b) c
 | [],[],q,c,_,e=>by simp at e
 | b::l,d::l',q,c,h,e=>by
  simp only [leBs] at h
  cases q with
  | zero=>simp at e; subst e; exact ⟨b,rfl,h.1⟩
  | succ q=>simp at e; obtain ⟨b',h1,h2⟩:=leBs_get h.2 e; exact ⟨b',by simpa using h1,h2⟩
 | [],_::_,_,_,h,_=>by simp [leBs] at h
 | _::_,[],_,_,h,_=>by simp [leBs] at h
theorem leBs_len:∀ {l l':List Blk},leBs l l'→l.length=l'.length
 | [],[],_=>rfl
 | b::l,d::l',h=>by simp only [leBs] at h; simp [leBs_len h.2]
 | [],_::_,h=>by simp [leBs] at h
 | _::_,[],h=>by simp [leBs] at h
def endH (kp:List Nat) (r:AV) (bs':List Blk) (st:St) (x:AV):Prop :=
 (fun ks=>rnA (fun k=>idx k ks 0) x fun y=>blksOf (lk st.heap) ks fun bs=>rnBs (fun k=>idx k ks 0) bs fun cs=>le y r∧leBs cs bs') (foot (lk st.heap) 3 (dedup (nmsA x) kp))
def empZ (kp:List Nat):List (Nat × Nat × Nat × Nat)→St→(St→Prop)→Prop
 | [],st,K=>K st
 | p::l,st,K=>cond (Nat.blt p.1 1000000&&isNils (st.get p.1)) (empN kp [p] st fun st=>empZ kp l st K) (empZ kp l st K)
theorem empZ_sound {G:Gh} {kp:List Nat} {a:Act} {w:World}:∀ (l:List (Nat × Nat × Nat × Nat)) (st:St) (S:Pin) (m:Nm) (K:St→Prop),empZ kp l st K→Rel G kp st a w S m→∃ st' S' m',K st'∧Rel G kp st' a w S' m'
 | [],st,S,m,K,H,h=>⟨st,S,m,H,h⟩
 | p::l,st,S,m,K,H,h=>by
  simp only [empZ] at H
  cases hb:(Nat.blt p.1 1000000&&isNils (st.get p.1)) with
  | true =>
   rw [hb] at H
   simp only [cond_true] at H
   obtain ⟨s1,S1,m1,h1,h2⟩:=empN_sound _ _ S m _ H h
   exact empZ_sound l s1 S1 m1 K h1 h2
  | false =>
   rw [hb] at H
   exact empZ_sound l st S m K H h
@[irreducible] def fnH (P:Program) (E:Env) (C:Cx) (inv:Nat→St→Option LInv) (fuel:Nat) (fn:Func) (xs:List AV) (bs:List Blk) (r:AV) (bs':List Blk):Prop :=
 match fn.body with
 | some c=>cond (Nat.beq C.nt fn.ntmps&&Nat.ble xs.length fn.ntmps&&beqNs C.kp (names0 0 bs.length))
   (given xs (givenB bs (acode P E C inv fuel c ⟨slots xs 0,blkSlots bs 0⟩ (fun st=>empZ C.kp (C.emp 900001) st fun st=>resF2 P E C st fn.results.toList (endH C.kp r bs')) (fun _ _=>False) (fun st=>empZ C.kp (C.emp 900001) st fun st=>resF2 P E C st fn.results.toList (endH C.kp r bs'))))) False
 | none=>False
theorem fnH_sound {P:Program} {E:Env} {C:Cx} {inv:Nat→St→Option LInv} {fuel:Nat} (hT:TyOK P C.tys) (hS:SpecOK P E) (hM:P.follows .mixedOrders=true) {f:FuncId} {fn:Func} (hf:P.funcs[f]?=some fn) {xs:List AV} {bs:List Blk} {r:AV} {bs':List Blk}
    (h:fnH P E C inv fuel fn xs bs r bs'):HC P E.glob f xs bs r bs':=by
  intro w S m vs hG hA hnm hheld hinj hv
  unfold fnH at h
  split at h
  · rename_i c hc
    obtain ⟨hb,h⟩:=cond_F h
    simp only [Bool.and_eq_true] at hb
    have hnt:=Nat.eq_of_beq_eq_true hb.1.1
    have hle:=Nat.le_of_ble_eq_true hb.1.2
    have hkp:=beqNs_eq hb.2
    have h:=givenB_use (given_use h (wfL_cv _ _ _ hv)) (fun cs hcs=>by
      obtain ⟨q,hq⟩:=List.getElem?_of_mem hcs
      obtain ⟨g,arr,t,_,_,h3,_⟩:=hheld q _ hq
      exact wfL_cv _ _ _ h3)
    have hlen:=hv.len
    simp only [Array.length_toList] at hlen
    let G:Gh:=⟨w,S,m,Mof bs.length m⟩
    have hbl:∀ k b,lk (blkSlots bs 0) k=some b→bs[k]?=some b:=by
      intro k b e
      rw [blkSlots_lk] at e
      simpa using e
    have hbl2:∀ (k:Nat) (b:Blk),bs[k]?=some b→k < bs.length:=fun k b e=>(List.getElem?_eq_some_iff.1 e).1
    have hR0:Rel G C.kp ⟨slots xs 0,blkSlots bs 0⟩ { tmps:=vs++Array.replicate (fn.ntmps - vs.size) undef,defers:=[] } w S m :=
      { defers:=rfl
        pin0:=Ext.refl S
        pinNew:=fun _ _ _ _=>rfl
        agree:=hA
        tmps:=fun t=>by
          unfold St.get
          rw [slots_lk]
          simp only [Nat.zero_le,if_true,Nat.sub_zero]
          cases e:xs[t]? with
          | none=>simp only [CV]
          | some x =>
            obtain ⟨v,hv1,hv2⟩:=hv.get e
            have hlt:t < vs.size:=by have:=(List.getElem?_eq_some_iff.1 hv1).1; simpa using this
            have:vs[t]?=some v:=by simpa using hv1
            simp only [Array.getD_eq_getD_getElem?,Array.getElem?_append_left hlt,this,Option.getD_some]
            exact hv2
        held:=fun k b hk=>hheld k b (hbl k b hk)
        inj:=fun k k' b b' u u' g hk hk' hne hu hu' hg=>hinj k k' u u' g (hbl2 k b (hbl k b hk)) (hbl2 k' b' (hbl k' b' hk')) hne hu hu' hg
        own:=fun k b u g hk hu hg=>.inr ⟨k,u,hbl2 k b (hbl k b hk),hu,hg⟩
        os:=rfl
        tape:=rfl
        output:=rfl
        size:=Nat.le_refl _
        frame:=fun _ _ _=>rfl
        m0:=MLe.refl _
        keep:=fun k u e=>by
          have hlt:=hnm k u e
          rw [hkp]
          exact List.mem_of_getElem? (by rw [names0_get _ 0 k hlt,Nat.zero_add]) }
    refine calls_of_wp hf hc (Go.wp_mono (acode_sound (G:=G) hT hS hM hG c _ _ _ _ h _ w S m hR0 ?_) ?_)
    · simp; omega
    · have fin:∀ st a w' S' m',empZ C.kp (C.emp 900001) st (fun st=>resF2 P E C st fn.results.toList (endH C.kp r bs'))→Rel G C.kp st a w' S' m'→a.defers=[]∧∃ v,(results fn a.tmps).run P w'=.ok v w' ∧
          ∃ u S' m',Ending.returned v=.returned u∧w'.os=w.os∧w'.tape=w.tape∧w'.output=w.output∧w.heap.size≤w'.heap.size∧Ext S S' ∧
      (∀ b,b < w.heap.size→¬ Mof bs.length m b→w'.heap[b]?=w.heap[b]?∧∀ o,S' b o=S b o)∧Agree S' w' ∧
      (∀ (q:Nat) (b:Blk),bs'[q]?=some b→Held S' m' w' q b)∧InjB bs'.length m'∧(∀ q u g,q < bs'.length→m' q=some u→bk u=some g→w.heap.size≤g∨Mof bs.length m g)∧MLe m m'∧CV S' r m' u:=by
        intro st0 a w' S0 m0 hk0 hR0
        obtain ⟨st1,S1,m1,hk1,hR1⟩:=empZ_sound _ _ S0 m0 _ hk0 hR0
        obtain ⟨st,S',m',hk,hR⟩:=frzN_sound _ _ S1 m1 _ hk1 hR1
        obtain ⟨x,v,h1,h2,h3⟩:=resK_sound hR hk
        unfold endH at h1
        generalize hks:foot (lk st.heap) 3 (dedup (nmsA x) C.kp)=ks at h1
        have hknd:ks.Nodup:=by rw [← hks]; exact foot_nodup _ _ _ (dedup_nodup _ _ (by rw [hkp]; exact names0_nodup _ _))
        have hpre:∀ q,q < bs.length→ks[q]?=some q:=by
          intro q hq
          obtain ⟨t,ht⟩:=dedup_pre (nmsA x) C.kp
          obtain ⟨t',ht'⟩:=foot_pre (lk st.heap) 3 (dedup (nmsA x) C.kp)
          rw [← hks,ht',ht,hkp,List.append_assoc,List.getElem?_append_left (by rw [names0_len]; exact hq),names0_get _ _ _ hq,Nat.zero_add]
        obtain ⟨y,h4,hy⟩:=rnA_sound _ _ h1
        obtain ⟨cs,h5,hcl,hcs⟩:=blksOf_sound _ _ h4
        obtain ⟨ds,h6,hdl,hds⟩:=rnBs_sound _ _ h5
        obtain ⟨h7,h8⟩:=h6
        let m2:Nm:=fun q=>(ks[q]?).bind m'
        have hRn:Rn (fun k=>idx k ks 0) m' m2:=by
          intro i j hij
          have:=(idx_get hij).2
          simp only [Nat.sub_zero] at this
          simp only [m2,this,Option.bind_some]
        have hm2:∀ q k,ks[q]?=some k→m2 q=m' k:=fun q k e=>by simp only [m2,e,Option.bind_some]
        have hlen':bs'.length=ks.length:=by rw [← leBs_len h8,hdl,hcl]
        have hkb:∀ (q k:Nat),ks[q]?=some k→∃ b,lk st.heap k=some b:=fun q k e=>by obtain ⟨b,_,hb⟩:=hcs q k e; exact ⟨b,hb⟩
        refine ⟨hR.defers,v,h3,v,S',m2,rfl,hR.os,hR.tape,hR.output,hR.size,hR.pin0,fun b hb hn=>⟨hR.frame b hb hn,fun o=>hR.pinNew b o hb hn⟩,hR.agree,?_,?_,?_,?_,le_sound _ _ _ _ h7 (hy S' m' m2 v hRn h2)⟩
        · intro q b hb
          have hql:q < ks.length:=by rw [← hlen']; exact (List.getElem?_eq_some_iff.1 hb).1
          obtain ⟨d,hd,hle⟩:=leBs_get h8 hb
          obtain ⟨c0,hc0,hh⟩:=hcs q ks[q] (by simp [hql])
          have hidx:idx ks[q] ks 0=some q:=by
            have key:∀ (l:List Nat) (q i:Nat) (h:q < l.length),l.Nodup→idx l[q] l i=some (i+q):=by
              intro l
              induction l with
              | nil=>intro q i h; simp at h
              | cons j l ih =>
                intro q i h hn
                rw [List.nodup_cons] at hn
                cases q with
                | zero=>simp [idx,nbeq_self]
                | succ q =>
                  simp at h
                  simp only [idx,List.getElem_cons_succ]
                  rw [nbeq_ne (fun e=>hn.1 (by rw [e]; exact List.getElem_mem h))]
                  simp only [cond_false]
                  rw [ih q (i+1) h hn.2]
                  congr 1; omega
            simpa using key ks q 0 hql hknd
          exact leB_held hle (hds q c0 d hc0 hd S' m' m2 w' ks[q] q hRn hidx (hR.held _ _ hh))
        · intro q q' u u' g hq hq' hne hu hu' hg
          rw [hlen'] at hq hq'
          rw [hm2 q ks[q] (by simp [hq])] at hu
          rw [hm2 q' ks[q'] (by simp [hq'])] at hu'
          obtain ⟨b,hb⟩:=hkb q ks[q] (by simp [hq])
          obtain ⟨b',hb'⟩:=hkb q' ks[q'] (by simp [hq'])
          exact hR.inj _ _ b b' u u' g hb hb' (fun e=>hne (nodup_inj (k:=ks[q]) hknd (p:=q) (q:=q') (by simp [hq]) (by rw [e]; simp [hq']))) hu hu' hg
        · intro q u g hq hu hg
          rw [hlen'] at hq
          rw [hm2 q ks[q] (by simp [hq])] at hu
          obtain ⟨b,hb⟩:=hkb q ks[q] (by simp [hq])
          exact hR.own _ b u g hb hu hg
        · intro k u hu
          obtain ⟨u',h9,h10⟩:=hR.m0 k u hu
          exact ⟨u',by rw [hm2 k k (hpre k (hnm k u hu))]; exact h9,h10⟩
      intro e a w' he
      cases e with
      | normal=>obtain ⟨st,S',m,hk,hR,_⟩:=he; exact fin st a w' S' m hk hR
      | ret=>obtain ⟨st,S',m,hk,hR,_⟩:=he; exact fin st a w' S' m hk hR
      | exit _=>obtain ⟨st,S',m,hk,hR,_⟩:=he; exact hk.elim
      | _=>exact he.elim
  · exact h.elim
end Go.Proofs.YtgbbmadjdaphnaaGreatDoor
namespace Go.Proofs.YtgbbmadjdaphnaaGreatDoor
open Go
open Go.RowKit (Below)
set_option linter.unusedVariables false
set_option linter.unusedSimpArgs false
theorem setK_pt:∀ {cs:List AV} {n:Nat} {x:AV} {k:List AV→Prop},setK cs n x k→∃ l,k l∧∀ k':List AV→Prop,k' l→setK cs n x k'
 | c::cs,0,x,k,h=>by simp only [setK] at h; exact ⟨_,h,fun k' h'=>by simp only [setK]; exact h'⟩
 | c::cs,n+1,x,k,h=>by
  simp only [setK] at h
  obtain ⟨l,h1,h2⟩:=setK_pt h
  exact ⟨_,h1,fun k' h'=>by simp only [setK]; exact h2 _ h'⟩
 | [],_,_,_,h=>by simp [setK] at h
theorem rnmK_pt {kp:List Nat} {st:St} {t k:Nat} {K:St→Prop} (h:rnmK kp st t k K):∃ st',K st'∧∀ K':St→Prop,K' st'→rnmK kp st t k K':=by
 unfold rnmK at h
 split at h
 ·rename_i j s n ht
  split at h
  ·rename_i e s' xs hj
   obtain ⟨he,h⟩:=cond_F h
   rw [forceS_eq] at h
   obtain ⟨hc,h⟩:=cond_F h
   simp only [insK_ins] at h
   refine ⟨_,h,fun K' h'=>?_⟩
   unfold rnmK
   rw [ht]
   simp only
   rw [hj]
   simp only
   rw [he,cond_true,forceS_eq,hc,cond_true]
   simp only [insK_ins]
   exact h'
  ·exact h.elim
 ·exact h.elim
theorem rnmC_pt {kp:List Nat} {st:St} {b n k:Nat} {cs:List AV} {K:St→Prop} (h:rnmC kp st b cs n k K):∃ st',K st'∧∀ K':St→Prop,K' st'→rnmC kp st b cs n k K':=by
 unfold rnmC at h
 split at h
 ·rename_i j s q hrw
  split at h
  ·rename_i e s' xs hj
   obtain ⟨he,h⟩:=cond_F h
   rw [forceS_eq] at h
   obtain ⟨hc,h⟩:=cond_F h
   split at h
   ·rename_i cs1 hcs1
    obtain ⟨l2,h1,h2⟩:=setK_pt h
    simp only [insK_ins] at h1
    refine ⟨_,h1,fun K' h'=>?_⟩
    unfold rnmC
    rw [hrw]
    simp only
    rw [hj]
    simp only
    rw [he,cond_true,forceS_eq,hc,cond_true,hcs1]
    refine h2 _ ?_
    simp only [insK_ins]
    exact h'
   ·exact h.elim
  ·exact h.elim
 ·exact h.elim
theorem empN_pt {kp:List Nat}:∀ (l:List (Nat × Nat × Nat × Nat)) (st:St) (K:St→Prop),empN kp l st K→∃ st',K st'∧empN kp l st (fun s=>s=st')
 | [],st,K,h=>⟨st,h,rfl⟩
 | (t,k,e,s)::l,⟨tm,hp⟩,K,h=>by
  simp only [empN] at h ⊢
  cases hb1:Nat.ble 1000000 t with
  | true =>
   rw [hb1] at h
   simp only [cond_true] at h ⊢
   split at h
   ·rename_i cs hcs
    cases hb:(nilAt cs (Nat.mod t 100)&&fresh kp ⟨tm,hp⟩ k&&!(Nat.beq k (Nat.div (Nat.sub t 1000000) 100))) with
    | false =>
     rw [hb] at h
     simp only [cond_false] at h ⊢
     cases hb3:nilAt cs (Nat.mod t 100) with
     | false =>
      rw [hb3] at h
      simp only [cond_false] at h ⊢
      cases hb4:rwOth cs (Nat.mod t 100) k with
      | false=>rw [hb4] at h; simp only [cond_false] at h ⊢; exact empN_pt l _ K h
      | true =>
       rw [hb4] at h
       simp only [cond_true] at h ⊢
       obtain ⟨s1,h1,e1⟩:=rnmC_pt h
       obtain ⟨st',h2,e2⟩:=empN_pt l s1 K h1
       exact ⟨st',h2,e1 _ e2⟩
     | true=>rw [hb3] at h; simp only [cond_true,forceS_eq] at h ⊢; exact empN_pt l _ K h
    | true =>
    rw [hb] at h
    simp only [cond_true] at h ⊢
    obtain ⟨l2,h1,h2⟩:=setK_pt h
    simp only [insK_ins] at h1
    obtain ⟨st',h3,h4⟩:=empN_pt l _ K h1
    refine ⟨st',h3,?_⟩
    refine h2 _ ?_
    simp only [insK_ins]
    exact h4
   ·exact h.elim
  | false =>
   rw [hb1] at h
   simp only [cond_false] at h ⊢
   cases hb:(isNils (St.get ⟨tm,hp⟩ t)&&fresh kp ⟨tm,hp⟩ k) with
   | false =>
    rw [hb] at h
    simp only [cond_false] at h ⊢
    obtain ⟨s1,h1,e1⟩:=rnmK_pt h
    obtain ⟨st',h2,e2⟩:=empN_pt l s1 K h1
    exact ⟨st',h2,e1 _ e2⟩
   | true =>
   rw [hb] at h
   simp only [cond_true] at h ⊢
   simp only [insK_ins] at h
   obtain ⟨st',h1,h2⟩:=empN_pt l _ K h
   exact ⟨st',h1,by simp only [insK_ins]; exact h2⟩
mutual
theorem strip_pt:∀ (x:AV) (k:AV→Prop),strip x k→∃ y,k y∧∀ k':AV→Prop,k' y→strip x k'
 | .acc a s xs,k,h=>by simp only [strip] at h; exact ⟨_,h,fun k' h'=>by simp only [strip]; exact h'⟩
 | .int a b,k,h=>by simp only [strip] at h; exact ⟨_,h,fun k' h'=>by simp only [strip]; exact h'⟩
 | .bool a,k,h=>by simp only [strip] at h; exact ⟨_,h,fun k' h'=>by simp only [strip]; exact h'⟩
 | .str a,k,h=>by simp only [strip] at h; exact ⟨_,h,fun k' h'=>by simp only [strip]; exact h'⟩
 | .sl a b c,k,h=>by simp only [strip] at h; exact ⟨_,h,fun k' h'=>by simp only [strip]; exact h'⟩
 | .nils,k,h=>by simp only [strip] at h; exact ⟨_,h,fun k' h'=>by simp only [strip]; exact h'⟩
 | .ro a,k,h=>by simp only [strip] at h; exact ⟨_,h,fun k' h'=>by simp only [strip]; exact h'⟩
 | .nilp,k,h=>by simp only [strip] at h; exact ⟨_,h,fun k' h'=>by simp only [strip]; exact h'⟩
 | .undef,k,h=>by simp only [strip] at h; exact ⟨_,h,fun k' h'=>by simp only [strip]; exact h'⟩
 | .dead,k,h=>by simp only [strip] at h; exact ⟨_,h,fun k' h'=>by simp only [strip]; exact h'⟩
 | .agg cs,k,h=>by
  simp only [strip] at h
  obtain ⟨l,h1,h2⟩:=stripL_pt cs _ h
  exact ⟨_,h1,fun k' h'=>by simp only [strip]; exact h2 _ h'⟩
 | .tup cs,k,h=>by
  simp only [strip] at h
  obtain ⟨l,h1,h2⟩:=stripL_pt cs _ h
  exact ⟨_,h1,fun k' h'=>by simp only [strip]; exact h2 _ h'⟩
 | .fn f cs,k,h=>by
  simp only [strip] at h
  obtain ⟨l,h1,h2⟩:=stripL_pt cs _ h
  exact ⟨_,h1,fun k' h'=>by simp only [strip]; exact h2 _ h'⟩
 | .frz a s n xs,k,h=>by
  simp only [strip] at h
  obtain ⟨hn,h⟩:=chk_iff.1 h
  exact ⟨_,h,fun k' h'=>by simp only [strip]; exact chk_iff.2 ⟨hn,h'⟩⟩
 | .ptr _ _,_,h=>by simp [strip] at h
 | .ms _ _ _ _ _,_,h=>by simp [strip] at h
 | .rw _ _ _,_,h=>by simp [strip] at h
 | .mw _ _ _ _ _ _,_,h=>by simp [strip] at h
 | .prw _ _ _ _ _,_,h=>by simp [strip] at h
 | .mpv _,_,h=>by simp [strip] at h
theorem stripL_pt:∀ (xs:List AV) (k:List AV→Prop),stripL xs k→∃ ys,k ys∧∀ k':List AV→Prop,k' ys→stripL xs k'
 | [],k,h=>by simp only [stripL] at h; exact ⟨_,h,fun k' h'=>by simp only [stripL]; exact h'⟩
 | x::xs,k,h=>by
  simp only [stripL] at h
  obtain ⟨y,h1,h2⟩:=strip_pt x _ h
  obtain ⟨l,h3,h4⟩:=stripL_pt xs _ h1
  exact ⟨_,h3,fun k' h'=>by simp only [stripL]; exact h2 _ (h4 _ h')⟩
end
theorem stripLL_pt:∀ (xs:List (List AV)) (k:List (List AV)→Prop),stripLL xs k→∃ ys,k ys∧∀ k':List (List AV)→Prop,k' ys→stripLL xs k'
 | [],k,h=>by simp only [stripLL] at h; exact ⟨_,h,fun k' h'=>by simp only [stripLL]; exact h'⟩
 | x::xs,k,h=>by
  simp only [stripLL] at h
  obtain ⟨y,h1,h2⟩:=stripL_pt x _ h
  obtain ⟨l,h3,h4⟩:=stripLL_pt xs _ h1
  exact ⟨_,h3,fun k' h'=>by simp only [stripLL]; exact h2 _ (h4 _ h')⟩
theorem closeK_pt {st:St} {k:Nat} {K:St→Prop} (h:closeK st k K):∃ st',K st'∧∀ K':St→Prop,K' st'→closeK st k K':=by
 unfold closeK at h
 split at h
 ·rename_i e s xs hk
  cases hb:Nat.blt e 2000000 with
  | true =>
   rw [hb] at h
   exact ⟨st,h,fun K' h'=>by unfold closeK; rw [hk]; simp only [hb,cond_true]; exact h'⟩
  | false =>
   rw [hb] at h
   obtain ⟨h3,h⟩:=cond_F h
   obtain ⟨ys,h1,h2⟩:=stripLL_pt _ _ h
   exact ⟨_,h1,fun K' h'=>by unfold closeK; rw [hk]; simp only [hb,h3,cond_true,cond_false]; exact h2 _ h'⟩
 ·rename_i hk
  refine ⟨st,h,fun K' h'=>?_⟩
  unfold closeK
  split
  ·rename_i e s xs hk'
   exact absurd hk' (hk e s xs)
  ·exact h'
theorem openK_pt {st:St} {k:Nat} {K:St→Prop} (h:openK st k K):∃ st',K st'∧∀ K':St→Prop,K' st'→openK st k K':=by
 unfold openK at h
 split at h
 ·rename_i e s xs hk
  cases hb:Nat.blt e 1000000 with
  | true =>
   rw [hb] at h
   exact ⟨_,h,fun K' h'=>by unfold openK; rw [hk]; simp only [hb,cond_true]; exact h'⟩
  | false =>
   rw [hb] at h
   exact ⟨st,h,fun K' h'=>by unfold openK; rw [hk]; simp only [hb,cond_false]; exact h'⟩
 ·rename_i hk
  refine ⟨st,h,fun K' h'=>?_⟩
  unfold openK
  split
  ·rename_i e s xs hk'
   exact absurd hk' (hk e s xs)
  ·exact h'
theorem frzK_pt {kp:List Nat} {st:St} {k:Nat} {K:St→Prop} (h:frzK kp st k K):∃ st',K st'∧∀ K':St→Prop,K' st'→frzK kp st k K':=by
 unfold frzK at h
 split at h
 ·rename_i e s xs hk
  cases hi:(inL k kp||!(Nat.blt e 2000000)) with
  | true=>rw [hi] at h; exact h.elim
  | false =>
   rw [hi] at h
   exact ⟨_,h,fun K' h'=>by unfold frzK; rw [hk]; simp only [hi,cond_false]; exact h'⟩
 ·exact h.elim
theorem frzN_pt {kp:List Nat}:∀ (l:List Nat) (st:St) (K:St→Prop),frzN kp l st K→∃ st',K st'∧frzN kp l st (fun s=>s=st')
 | [],st,K,h=>⟨st,h,rfl⟩
 | k::l,st,K,h=>by
  simp only [frzN] at h ⊢
  cases hc:Nat.ble 2000000 k with
  | true =>
   rw [hc] at h
   simp only [cond_true] at h ⊢
   cases hc4:Nat.ble 4000000 k with
   | true =>
    rw [hc4] at h
    simp only [cond_true] at h ⊢
    obtain ⟨s1,h1,e1⟩:=openK_pt h
    obtain ⟨s3,h3,e3⟩:=frzN_pt l _ K h1
    exact ⟨s3,h3,e1 _ e3⟩
   | false =>
    rw [hc4] at h
    simp only [cond_false] at h ⊢
    obtain ⟨s1,h1,e1⟩:=closeK_pt h
    obtain ⟨s3,h3,e3⟩:=frzN_pt l _ K h1
    exact ⟨s3,h3,e1 _ e3⟩
  | false =>
  rw [hc] at h
  simp only [cond_false] at h ⊢
  cases hb:isRowB (lk st.heap k) with
  | false =>
   rw [hb] at h
   exact frzN_pt l st K h
  | true =>
   rw [hb] at h
   simp only [cond_true] at h ⊢
   obtain ⟨s1,h1,e1⟩:=closeK_pt h
   obtain ⟨s2,h2,e2⟩:=frzK_pt h1
   rw [forceS_eq] at h2
   obtain ⟨s3,h3,e3⟩:=frzN_pt l _ K h2
   exact ⟨s3,h3,e1 _ (e2 _ (by rw [forceS_eq]; exact e3))⟩
theorem killN_pt {kp:List Nat}:∀ (l:List Nat) (st:St) (K:St→Prop),killN kp l st K→∃ st',K st'∧killN kp l st (fun s=>s=st')
 | [],st,K,h=>⟨st,h,rfl⟩
 | k::l,st,K,h=>by
  simp only [killN] at h ⊢
  cases hb:fresh kp st k with
  | true=>rw [hb] at h; exact killN_pt l st K h
  | false =>
   rw [hb] at h
   simp only [cond_false,forceS_eq] at h ⊢
   exact killN_pt l _ K h
theorem dropK_pt {d:Nat} {st:St} {K:St→Prop} (h:dropK d st K):∃ st',K st'∧dropK d st (fun s=>s=st'):=by
 obtain ⟨tm,hp⟩:=st
 simp only [dropK,dropT_eq] at h ⊢
 exact ⟨_,h,rfl⟩
theorem empN_det {kp:List Nat} {l:List (Nat × Nat × Nat × Nat)} {st:St} {K:St→Prop} (h:empN kp l st K):∃ st',K st'∧Same kp st st':=by
 obtain ⟨st',h1,h2⟩:=empN_pt l st K h
 refine ⟨st',h1,fun G a w S m hR=>?_⟩
 obtain ⟨s,S',m',rfl,h3⟩:=empN_sound _ _ S m _ h2 hR
 exact ⟨S',m',h3⟩
theorem frzN_det {kp:List Nat} {l:List Nat} {st:St} {K:St→Prop} (h:frzN kp l st K):∃ st',K st'∧Same kp st st':=by
 obtain ⟨st',h1,h2⟩:=frzN_pt l st K h
 refine ⟨st',h1,fun G a w S m hR=>?_⟩
 obtain ⟨s,S',m',rfl,h3⟩:=frzN_sound _ _ S m _ h2 hR
 exact ⟨S',m',h3⟩
theorem killN_det {kp:List Nat} {l:List Nat} {st:St} {K:St→Prop} (h:killN kp l st K):∃ st',K st'∧Same kp st st':=by
 obtain ⟨st',h1,h2⟩:=killN_pt l st K h
 refine ⟨st',h1,fun G a w S m hR=>?_⟩
 obtain ⟨s,rfl,h3⟩:=killN_sound _ _ _ h2 hR
 exact ⟨S,m,h3⟩
theorem dropK_det {kp:List Nat} {d:Nat} {st:St} {K:St→Prop} (h:dropK d st K):∃ st',K st'∧Same kp st st':=by
 obtain ⟨st',h1,h2⟩:=dropK_pt h
 refine ⟨st',h1,fun G a w S m hR=>?_⟩
 obtain ⟨s,rfl,h3⟩:=dropK_sound h2 hR
 exact ⟨S,m,h3⟩
theorem dropS_det {kp:List Nat} {C:Cx} {id:Nat} {st:St} {K:St→Prop} (h:dropS C id st K):∃ st',K st'∧Same kp st st':=by
 obtain ⟨s1,h1,r1⟩:=dropK_det (kp:=kp) h
 obtain ⟨s2,h2,r2⟩:=spnK_same _ _ _ h1
 exact ⟨s2,h2,fun G a w S m hR=>by
  obtain ⟨S',m',hR'⟩:=r1 G a w S m hR
  exact ⟨S',m',r2 _ _ _ _ _ _ hR'⟩⟩
theorem astep_nw {P:Program} {E:Env} {C:Cx} {o:Oper} {st:St} {K:AV→List (Nat × Blk)→List Nat→Prop} (hw:E.nowf=true) (h:astep P E C true o st K):astep P E C false o st K:=by
 unfold astep at h ⊢
 rw [hw] at h
 simp only [Bool.not_true,Bool.and_false,Bool.false_and] at h ⊢
 exact h
theorem arun_det {P:Program} {E:Env} {C:Cx} (hw:E.nowf=true) (hz0:E.nq=false) (hT:TyOK P C.tys) (hS:SpecOK P E) {ops:Array Oper} :
  ∀ (l:List Oper) (st:St) (k:St→Prop),arun P E C ops l st k→∃ fin,k fin∧∀ (G:Gh) (Q:Exit→Act→World→Prop),GOK E G.S0→∀ (a:Act) (w:World) (S:Pin) (m:Nm),Rel G C.kp st a w S m→a.tmps.size=C.nt →
   (∀ a' w' S' m',Rel G C.kp fin a' w' S' m'→a'.tmps.size=C.nt→Q .normal a' w')→wpList P ops Q l a w
 | [],st,k,h=>⟨st,h,fun G Q hG a w S m hR hn hQ=>hQ a w S m hR hn⟩
 | o::rest,st,k,h=>by
  have ex:∀ (st:St),astep P E C true o st (fun r u _=>forceE E.eager o.op r fun r=>updK st o.dst r u fun st'=>arun P E C ops rest st' k)→∃ fin,k fin∧∀ (G:Gh) (Q:Exit→Act→World→Prop),GOK E G.S0→∀ (a:Act) (w:World) (S:Pin) (m:Nm),Rel G C.kp st a w S m→a.tmps.size=C.nt →
    (∀ a' w' S' m',Rel G C.kp fin a' w' S' m'→a'.tmps.size=C.nt→Q .normal a' w')→o.wp P a w (wpList P ops Q rest) Q:=by
   intro st h
   obtain ⟨r,u,rd,h1,h2,h3⟩:=astep_sound hT hS (astep_nw hw h)
   have h1:=h1 (fun e=>by cases e)
   rw [forceE_eq,updK_eq] at h1
   obtain ⟨fin,hk,hf⟩:=arun_det hw hz0 hT hS rest _ k h1
   refine ⟨fin,hk,fun G Q hG a w S m hR hn hQ=>?_⟩
   exact h2 G C.kp st a w S m _ Q hG hR hn (fun _ _=>rfl) (fun _ _=>rfl) h3 (fun v w' S' m' _ hR'=>hf G Q hG _ _ _ _ hR' (by rw [put_size]; exact hn) hQ)
  have sk:∀ (st:St),cond (dstOk C.nt o.dst) (updK st o.dst .undef [] fun st'=>arun P E C ops rest st' k) False→∃ fin,k fin∧∀ (G:Gh) (Q:Exit→Act→World→Prop),GOK E G.S0→∀ (a:Act) (w:World) (S:Pin) (m:Nm),Rel G C.kp st a w S m→a.tmps.size=C.nt →
    (∀ a' w' S' m',Rel G C.kp fin a' w' S' m'→a'.tmps.size=C.nt→Q .normal a' w')→wpList P ops Q rest (a.put o.dst undef) w:=by
   intro st h
   obtain ⟨hd,h⟩:=cond_F h
   rw [updK_eq] at h
   obtain ⟨fin,hk,hf⟩:=arun_det hw hz0 hT hS rest _ k h
   exact ⟨fin,hk,fun G Q hG a w S m hR hn hQ=>hf G Q hG _ _ _ _ (upd_undef hR (by rw [hn]; exact hd)) (by rw [put_size]; exact hn) hQ⟩
  simp only [arun] at h
  split at h
  ·rename_i hg
   rw [nilq_off hz0] at h
   simp only at h
   obtain ⟨s0,h,e0⟩:=frzN_det (kp:=C.kp) h
   obtain ⟨fin,hk,hf⟩:=ex s0 h
   refine ⟨fin,hk,fun G Q hG a w S m hR hn hQ=>?_⟩
   obtain ⟨S2,m2,hR⟩:=e0 G a w S m hR
   unfold wpList
   rw [if_pos (by simp [Region.wanted,hg])]
   exact .inl (hf G Q hG a w S2 m2 hR hn hQ)
  ·rename_i j want hg
   split at h
   ·rename_i t ht
    split at h
    ·rename_i c hc
     have hy:∀ {G:Gh} {a:Act} {w:World} {S:Pin} {m:Nm},Rel G C.kp st a w S m→yielded ops a.tmps j=some c:=fun hR=>by
      have hs:=guard_slot hR hc
      simp only [yielded,ht,Option.bind_some,hs]
     have doit:∀ (h:astep P E C true o (st.put t (.bool c)) (fun r u _=>forceE E.eager o.op r fun r=>updK (st.put t (.bool c)) o.dst r u fun st'=>arun P E C ops rest st' k)) (e:c=want),∃ fin,k fin∧∀ (G:Gh) (Q:Exit→Act→World→Prop),GOK E G.S0→∀ (a:Act) (w:World) (S:Pin) (m:Nm),Rel G C.kp st a w S m→a.tmps.size=C.nt →
       (∀ a' w' S' m',Rel G C.kp fin a' w' S' m'→a'.tmps.size=C.nt→Q .normal a' w')→wpList P ops Q (o::rest) a w:=by
      intro h e
      obtain ⟨fin,hk,hf⟩:=ex _ h
      refine ⟨fin,hk,fun G Q hG a w S m hR hn hQ=>?_⟩
      have:=hy hR
      unfold wpList
      rw [if_pos (by simp [Region.wanted,hg,this,e])]
      exact .inl (hf G Q hG a w S m (hR.known hc) hn hQ)
     have skip:∀ (h:cond (dstOk C.nt o.dst) (updK (st.put t (.bool c)) o.dst .undef [] fun st'=>arun P E C ops rest st' k) False) (e:c≠want),∃ fin,k fin∧∀ (G:Gh) (Q:Exit→Act→World→Prop),GOK E G.S0→∀ (a:Act) (w:World) (S:Pin) (m:Nm),Rel G C.kp st a w S m→a.tmps.size=C.nt →
       (∀ a' w' S' m',Rel G C.kp fin a' w' S' m'→a'.tmps.size=C.nt→Q .normal a' w')→wpList P ops Q (o::rest) a w:=by
      intro h e
      obtain ⟨fin,hk,hf⟩:=sk _ h
      refine ⟨fin,hk,fun G Q hG a w S m hR hn hQ=>?_⟩
      have:=hy hR
      unfold wpList
      rw [if_neg (by simp [Region.wanted,hg,this,e])]
      exact hf G Q hG a w S m (hR.known hc) hn hQ
     cases c with
     | true =>
      simp only [cond_true] at h
      rw [known_eq] at h
      cases want with
      | true=>exact doit h rfl
      | false=>exact skip h (by simp)
     | false =>
      simp only [cond_false] at h
      rw [known_eq] at h
      cases want with
      | true=>exact skip h (by simp)
      | false=>exact doit h rfl
    ·rename_i hc
     obtain ⟨fin,hk,hf⟩:=sk st h
     refine ⟨fin,hk,fun G Q hG a w S m hR hn hQ=>?_⟩
     have hs:=guard_undef hR hc
     have hy:yielded ops a.tmps j=none:=by
      unfold yielded
      rw [ht]
      simp only [Option.bind_some]
     unfold wpList
     rw [if_neg (by simp [Region.wanted,hg,hy])]
     exact hf G Q hG a w S m hR hn hQ
    ·exact h.elim
   ·exact h.elim
def Out (kn:St→Prop) (ke:Nat→St→Prop) (kr:St→Prop):Exit→St→Prop
 | .normal,st=>kn st
 | .exit i,st=>ke i st
 | .ret,st=>kr st
 | _,_=>False
def Leads (P:Program) (E:Env) (C:Cx) (c:Code) (st:St) (o:Exit) (fin:St):Prop :=
 ∀ (G:Gh),GOK E G.S0→∀ (a:Act) (w:World) (S:Pin) (m:Nm),Rel G C.kp st a w S m→a.tmps.size=C.nt →
  c.wp P (fun e a' w'=>e=o∧∃ S' m',Rel G C.kp fin a' w' S' m'∧a'.tmps.size=C.nt) a w
theorem Leads.le {P:Program} {E:Env} {C:Cx} {c:Code} {st st':St} {o:Exit} {fin:St} (h:Leads P E C c st' o fin) (hl:leS st st'):Leads P E C c st o fin :=
 fun G hG a w S m hR hn=>h G hG a w S m (hR.le hl) hn
theorem Leads.same {P:Program} {E:Env} {C:Cx} {c:Code} {st st':St} {o:Exit} {fin:St} (h:Leads P E C c st' o fin) (hl:Same C.kp st st'):Leads P E C c st o fin :=
 fun G hG a w S m hR hn=>by obtain ⟨S',m',hR'⟩:=hl G a w S m hR; exact h G hG a w S' m' hR' hn
theorem Leads.fin {P:Program} {E:Env} {C:Cx} {c:Code} {st fin fin':St} {o:Exit} (h:Leads P E C c st o fin) (hl:Same C.kp fin fin'):Leads P E C c st o fin' :=
 fun G hG a w S m hR hn=>Go.wp_mono (h G hG a w S m hR hn) fun e a' w' ⟨he,S',m',hR',hn'⟩=>by
  obtain ⟨S2,m2,hR2⟩:=hl G a' w' S' m' hR'
  exact ⟨he,S2,m2,hR2,hn'⟩
theorem le_same {kp:List Nat} {st st':St} (h:leS st st'):Same kp st st':=fun G a w S m hR=>⟨S,m,hR.le h⟩
theorem leads_seq {P:Program} {E:Env} {C:Cx} {x y:Code} {st mid fin:St} {o:Exit} (h:Leads P E C x st .normal mid) (k:Leads P E C y mid o fin):Leads P E C (.seq x y) st o fin :=
 fun G hG a w S m hR hn=>wp_seq (Go.wp_mono (h G hG a w S m hR hn) fun e a' w' ⟨he,S',m',hR',hn'⟩=>by
  subst he
  exact k G hG a' w' S' m' hR' hn')
theorem leads_seq' {P:Program} {E:Env} {C:Cx} {x y:Code} {st fin:St} {o:Exit} (h:Leads P E C x st o fin) (ho:o≠.normal):Leads P E C (.seq x y) st o fin :=
 fun G hG a w S m hR hn=>wp_seq (Go.wp_mono (h G hG a w S m hR hn) fun e a' w' ⟨he,hq⟩=>by
  subst he
  cases e with
  | normal=>exact absurd rfl ho
  | _=>exact ⟨rfl,hq⟩)
def LeadsR (P:Program) (E:Env) (C:Cx) (b:Code) (st:St) (o:Exit) (fin:St):Prop :=
 ∃ n:Nat,∀ (G:Gh),GOK E G.S0→∀ (a:Act) (w:World) (S:Pin) (m:Nm),Rel G C.kp st a w S m→a.tmps.size=C.nt →
  Code.rounds P b (fun e a' w'=>e=o∧∃ S' m',Rel G C.kp fin a' w' S' m'∧a'.tmps.size=C.nt) n a w
theorem leadsR_one {P:Program} {E:Env} {C:Cx} {b:Code} {st fin:St} {o:Exit} (h:Leads P E C b st o fin) (ho:o≠.normal):LeadsR P E C b st o fin :=
 ⟨1,fun G hG a w S m hR hn=>by
  rw [rounds_succ]
  exact Go.wp_mono (h G hG a w S m hR hn) fun e a' w' ⟨he,hq⟩=>by
   subst he
   cases e with
   | normal=>exact absurd rfl ho
   | _=>exact ⟨rfl,hq⟩⟩
theorem leadsR_more {P:Program} {E:Env} {C:Cx} {b:Code} {st mid fin:St} {o:Exit} (h:Leads P E C b st .normal mid) (k:LeadsR P E C b mid o fin):LeadsR P E C b st o fin:=by
 obtain ⟨n,hk⟩:=k
 refine ⟨n+1,fun G hG a w S m hR hn=>?_⟩
 rw [rounds_succ]
 exact Go.wp_mono (h G hG a w S m hR hn) fun e a' w' ⟨he,S',m',hR',hn'⟩=>by
  subst he
  exact hk G hG a' w' S' m' hR' hn'
theorem leadsR_same {P:Program} {E:Env} {C:Cx} {b:Code} {st st' fin:St} {o:Exit} (h:LeadsR P E C b st' o fin) (hl:Same C.kp st st'):LeadsR P E C b st o fin:=by
 obtain ⟨n,hk⟩:=h
 exact ⟨n,fun G hG a w S m hR hn=>by obtain ⟨S',m',hR'⟩:=hl G a w S m hR; exact hk G hG a w S' m' hR' hn⟩
theorem leadsR_loop {P:Program} {E:Env} {C:Cx} {b:Code} {st fin:St} {o:Exit} (h:LeadsR P E C b st o fin):Leads P E C (.loop b) st o fin:=by
 obtain ⟨n,hk⟩:=h
 exact fun G hG a w S m hR hn=>wp_loop_rounds n (hk G hG a w S m hR hn)
theorem tested_det {E:Env} {kp:List Nat} {st:St} {c:Operand} {b:Bool} {k:St→Prop} (h:tested st c b k) (e:evO E st c=.bool b):∃ st',k st'∧Same kp st st':=by
 unfold tested at h
 split at h
 ·rw [known_eq] at h
  exact ⟨_,h,fun G a w S m hR=>⟨S,m,hR.known e⟩⟩
 ·exact ⟨st,h,fun G a w S m hR=>⟨S,m,hR⟩⟩
theorem acode_det {P:Program} {E:Env} {C:Cx} {inv:Nat→St→Option LInv} {fuel:Nat} (hw:E.nowf=true) (hz0:E.nq=false) (hT:TyOK P C.tys) (hS:SpecOK P E) (hM:P.follows .mixedOrders=true) :
  ∀ (c:Code) (st:St) (kn:St→Prop) (ke:Nat→St→Prop) (kr:St→Prop),acode P E C inv fuel c st kn ke kr→∃ o fin,Out kn ke kr o fin∧Leads P E C c st o fin
 | .skip,st,kn,ke,kr,h=>⟨.normal,st,h,fun G hG a w S m hR hn=>wp_skip ⟨rfl,S,m,hR,hn⟩⟩
 | .label _,st,kn,ke,kr,h=>⟨.normal,st,h,fun G hG a w S m hR hn=>wp_label ⟨rfl,S,m,hR,hn⟩⟩
 | .region id ops draw,st,kn,ke,kr,h=>by
  simp only [acode] at h
  obtain ⟨s0,h,e0⟩:=casK_det h
  obtain ⟨s1,h,e1⟩:=empN_det h
  obtain ⟨s9,h,e9⟩:=actN_det _ _ _ h
  obtain ⟨s2,h,e2⟩:=frzN_det h
  obtain ⟨s3,h,e3⟩:=killN_det h
  have e:=(((e0.trans e1).trans e9).trans e2).trans e3
  cases draw with
  | true =>
   simp only [cond_true] at h
   unfold adraw at h
   obtain ⟨gs,fin,htr,hk⟩:=arunD_tr hT hS _ _ _ _ h
   simp only [List.nil_append] at hk
   obtain ⟨hord,hk⟩:=cond_F hk
   obtain ⟨s4,h4,e4⟩:=dropS_det (kp:=C.kp) hk
   refine ⟨.normal,s4,h4,(Leads.same ?_ e).fin e4⟩
   exact fun G hG a w S m hR hn=>wp_region_any hM (adraw_core hG htr hord hR hn fun a' w' S' m' hR' hn'=>⟨rfl,S',m',hR',hn'⟩)
  | false =>
   simp only [cond_false] at h
   obtain ⟨fin,hk,hf⟩:=arun_det hw hz0 hT hS _ _ _ h
   obtain ⟨s4,h4,e4⟩:=dropS_det (kp:=C.kp) hk
   refine ⟨.normal,s4,h4,(Leads.same ?_ e).fin e4⟩
   exact fun G hG a w S m hR hn=>wp_region_list (hf G _ hG a w S m hR hn fun a' w' S' m' hR' hn'=>⟨rfl,S',m',hR',hn'⟩)
 | .seq x y,st,kn,ke,kr,h=>by
  simp only [acode] at h
  split at h
  ·rename_i L hL
   obtain ⟨h1,h2⟩:=h
   obtain ⟨o,mid,ho,hl⟩:=acode_det hw hz0 hT hS hM x st _ ke kr h1
   cases o with
   | normal =>
    obtain ⟨z,hp,hle⟩:=ho
    obtain ⟨o,fin,ho,hl2⟩:=acode_det hw hz0 hT hS hM y (L.S z) kn ke kr (LInv.all_get h2 z hp)
    exact ⟨o,fin,ho,leads_seq hl (hl2.le hle)⟩
   | exit i=>exact ⟨.exit i,mid,ho,leads_seq' hl (by simp)⟩
   | ret=>exact ⟨.ret,mid,ho,leads_seq' hl (by simp)⟩
   | _=>exact ho.elim
  ·obtain ⟨o,mid,ho,hl⟩:=acode_det hw hz0 hT hS hM x st _ ke kr h
   cases o with
   | normal =>
    obtain ⟨o,fin,ho,hl2⟩:=acode_det hw hz0 hT hS hM y mid kn ke kr ho
    exact ⟨o,fin,ho,leads_seq hl hl2⟩
   | exit i=>exact ⟨.exit i,mid,ho,leads_seq' hl (by simp)⟩
   | ret=>exact ⟨.ret,mid,ho,leads_seq' hl (by simp)⟩
   | _=>exact ho.elim
 | .cond c x y,st,kn,ke,kr,h=>by
  simp only [acode] at h
  split at h
  ·rename_i q hq
   have hc:∀ {G:Gh} {a:Act} {w:World} {S:Pin} {m:Nm},GOK E G.S0→Rel G C.kp st a w S m→a.eval c=.bool q:=fun hG hR=>by
    have:=evO_cv hG hR c
    rw [hq] at this
    simpa only [CV] using this
   cases q with
   | true =>
    obtain ⟨st',hk,hs⟩:=tested_det (E:=E) (kp:=C.kp) h hq
    obtain ⟨o,fin,ho,hl⟩:=acode_det hw hz0 hT hS hM x st' kn ke kr hk
    refine ⟨o,fin,ho,fun G hG a w S m hR hn=>wp_cond_true (hc hG hR) ?_⟩
    exact (hl.same hs) G hG a w S m hR hn
   | false =>
    obtain ⟨st',hk,hs⟩:=tested_det (E:=E) (kp:=C.kp) h hq
    obtain ⟨o,fin,ho,hl⟩:=acode_det hw hz0 hT hS hM y st' kn ke kr hk
    refine ⟨o,fin,ho,fun G hG a w S m hR hn=>wp_cond_false (hc hG hR) ?_⟩
    exact (hl.same hs) G hG a w S m hR hn
  ·exact h.elim
 | .block id b,st,kn,ke,kr,h=>by
  have fin1:∀ {o:Exit} {fin:St},Leads P E C b st o fin→(o=.normal∨o=.exit id)→Leads P E C (.block id b) st .normal fin:=by
   intro o fin hl ho G hG a w S m hR hn
   refine wp_block (Go.wp_mono (hl G hG a w S m hR hn) fun e a' w' ⟨he,hq⟩=>?_)
   subst he
   rcases ho with rfl | rfl
   ·exact ⟨rfl,hq⟩
   ·simp only [Exit.inBlock,if_true]; exact ⟨trivial,hq⟩
  have fin2:∀ {o:Exit} {fin:St},Leads P E C b st o fin→(o=.ret∨∃ i,o=.exit i∧i≠id)→Leads P E C (.block id b) st o fin:=by
   intro o fin hl ho G hG a w S m hR hn
   refine wp_block (Go.wp_mono (hl G hG a w S m hR hn) fun e a' w' ⟨he,hq⟩=>?_)
   subst he
   rcases ho with rfl | ⟨i,rfl,hi⟩
   ·exact ⟨rfl,hq⟩
   ·simp only [Exit.inBlock,if_neg hi]; exact ⟨trivial,hq⟩
  simp only [acode] at h
  split at h
  ·rename_i L hL
   obtain ⟨h1,h2⟩:=h
   obtain ⟨o,fin,ho,hl⟩:=acode_det hw hz0 hT hS hM b st _ _ kr h1
   cases o with
   | normal =>
    obtain ⟨z,hp,hle⟩:=ho
    exact ⟨.normal,L.S z,LInv.all_get h2 z hp,(fin1 hl (.inl rfl)).fin (le_same hle)⟩
   | exit i =>
    simp only [Out] at ho
    by_cases hi:i=id
    ·subst hi
     rw [nbeq_self] at ho
     obtain ⟨z,hp,hle⟩:=ho
     exact ⟨.normal,L.S z,LInv.all_get h2 z hp,(fin1 hl (.inr rfl)).fin (le_same hle)⟩
    ·rw [nbeq_ne hi] at ho
     exact ⟨.exit i,fin,ho,fin2 hl (.inr ⟨i,rfl,hi⟩)⟩
   | ret=>exact ⟨.ret,fin,ho,fin2 hl (.inl rfl)⟩
   | _=>exact ho.elim
  ·obtain ⟨o,fin,ho,hl⟩:=acode_det hw hz0 hT hS hM b st _ _ kr h
   cases o with
   | normal=>exact ⟨.normal,fin,ho,fin1 hl (.inl rfl)⟩
   | exit i =>
    simp only [Out] at ho
    by_cases hi:i=id
    ·subst hi
     rw [nbeq_self] at ho
     exact ⟨.normal,fin,ho,fin1 hl (.inr rfl)⟩
    ·rw [nbeq_ne hi] at ho
     exact ⟨.exit i,fin,ho,fin2 hl (.inr ⟨i,rfl,hi⟩)⟩
   | ret=>exact ⟨.ret,fin,ho,fin2 hl (.inl rfl)⟩
   | _=>exact ho.elim
 | .loop b,st,kn,ke,kr,h=>by
  simp only [acode] at h
  split at h
  ·rename_i L hL
   obtain ⟨⟨x,hp,hle⟩,hround⟩:=h
   have key:∀ (n:Nat) (x:L.X),L.m x=n→L.p x→∃ o fin,Out kn ke kr o fin∧LeadsR P E C b (L.S x) o fin:=by
    intro n
    induction n using Nat.strongRecOn with
    | _ n ih =>
     intro x hx hp
     obtain ⟨o,mid,ho,hl⟩:=acode_det hw hz0 hT hS hM b (L.S x) _ ke kr (hround x hp)
     cases o with
     | normal =>
      obtain ⟨y,hy,hm,hle⟩:=ho
      obtain ⟨o,fin,ho,hr⟩:=ih (L.m y) (by omega) y rfl hy
      exact ⟨o,fin,ho,leadsR_more hl (leadsR_same hr (le_same hle))⟩
     | exit i=>exact ⟨.exit i,mid,ho,leadsR_one hl (by simp)⟩
     | ret=>exact ⟨.ret,mid,ho,leadsR_one hl (by simp)⟩
     | _=>exact ho.elim
   obtain ⟨o,fin,ho,hr⟩:=key _ x rfl hp
   exact ⟨o,fin,ho,leadsR_loop (leadsR_same hr (le_same hle))⟩
  ·have key:∀ (n:Nat) (st:St),unr (fun st k=>acode P E C inv fuel b st k ke kr) n st→∃ o fin,Out kn ke kr o fin∧LeadsR P E C b st o fin:=by
    intro n
    induction n with
    | zero=>intro st hu; exact hu.elim
    | succ n ih =>
     intro st hu
     obtain ⟨o,mid,ho,hl⟩:=acode_det hw hz0 hT hS hM b st _ ke kr hu
     cases o with
     | normal =>
      obtain ⟨o,fin,ho,hr⟩:=ih mid ho
      exact ⟨o,fin,ho,leadsR_more hl hr⟩
     | exit i=>exact ⟨.exit i,mid,ho,leadsR_one hl (by simp)⟩
     | ret=>exact ⟨.ret,mid,ho,leadsR_one hl (by simp)⟩
     | _=>exact ho.elim
   obtain ⟨o,fin,ho,hr⟩:=key _ st h
   exact ⟨o,fin,ho,leadsR_loop hr⟩
 | .exit id,st,kn,ke,kr,h=>⟨.exit id,st,h,fun G hG a w S m hR hn=>wp_exit ⟨rfl,S,m,hR,hn⟩⟩
 | .ret,st,kn,ke,kr,h=>⟨.ret,st,h,fun G hG a w S m hR hn=>wp_ret ⟨rfl,S,m,hR,hn⟩⟩
 | .goto _,st,kn,ke,kr,h=>by simp [acode] at h
 | .scope _,st,kn,ke,kr,h=>by simp [acode] at h
 | .rangeFunc _ _ _ _,st,kn,ke,kr,h=>by simp [acode] at h
 | .refuse _,st,kn,ke,kr,h=>by simp [acode] at h
theorem resL_det {P:Program} {E:Env} {C:Cx} {st:St} :
  ∀ (l:List ResultVar) (k:List AV→Prop),resL P E st l k→∃ rs,k rs∧∀ (G:Gh) (a:Act) (w:World) (S:Pin) (m:Nm),Rel G C.kp st a w S m→∃ vs,CVl S rs m vs∧vs.length=l.length ∧
   (l.mapM (resOne a.tmps)).run P w=.ok vs w
 | [],k,h=>⟨[],h,fun G a w S m hR=>⟨[],by simp only [CVl],rfl,by simp⟩⟩
 | .tmp t::l,k,h=>by
  simp only [resL] at h
  obtain ⟨rs,h1,hh⟩:=resL_det (C:=C) l _ h
  refine ⟨_,h1,fun G a w S m hR=>?_⟩
  obtain ⟨vs,h2,h3,h4⟩:=hh G a w S m hR
  refine ⟨a.tmps.getD t undef::vs,?_,by simp [h3],?_⟩
  ·simp only [CVl]; exact ⟨_,_,rfl,hR.tmps t,h2⟩
  ·simp only [List.mapM_cons,resOne,Sem.run_bind,Sem.run_pure,Result.andThen_ok]
   rw [h4]; rfl
 | .cell q t::l,k,h=>by
  simp only [resL] at h
  have get:∀ (K:AV→Prop),aload P E none t (st.get q) (lk st.heap) (fun r _ _=>K r)→∃ r,K r∧∀ (G:Gh) (a:Act) (w:World) (S:Pin) (m:Nm),Rel G C.kp st a w S m→∃ ad z,a.tmps.getD q undef=.pointer (some ad)∧(loadVar t ad).run P w=.ok z w∧CV S r m z:=by
   intro K H
   unfold aload at H
   split at H
   ·rename_i k off hx
    split at H
    ·rename_i cs hk
     obtain ⟨r,h1,h2⟩:=loadK_sound H
     refine ⟨r,h1,fun G a w S m hR=>?_⟩
     have hv:=hR.tmps q
     rw [hx] at hv
     simp only [CV] at hv
     obtain ⟨g,hm,hv⟩:=hv
     obtain ⟨g',arr,ty,e1,e2,e3,e4⟩:=hR.held k _ hk
     rw [hm] at e1
     injection e1 with e1
     injection e1 with e1
     injection e1 with e1
     injection e1 with e1
     subst e1
     obtain ⟨z,q1,q2⟩:=run_loads (w:=w) (g:=g) (o:=off) h2 (e3.drop off) (fun j v e=>by
      rw [List.getElem?_drop] at e
      rw [cell_of_row w g (off+j) arr ty (0,0) e2]
      simpa using e)
     refine ⟨⟨g,off,none⟩,z,hv,?_,q2⟩
     simpa [Instr.loadAt,Instr.sureAddr] using q1
    ·exact H.elim
   ·rename_i cs hx
    obtain ⟨r,h1,h2⟩:=loadK_sound H
    refine ⟨r,h1,fun G a w S m hR=>?_⟩
    have hv:=hR.tmps q
    rw [hx] at hv
    simp only [CV] at hv
    obtain ⟨b,off,hv,hc⟩:=hv
    obtain ⟨vs,e1,e2⟩:=hc.vals
    obtain ⟨z,q1,q2⟩:=run_loads (w:=w) (g:=b) (o:=off) h2 (e2.ext (Ext.refl S) (MLe.no m)) (fun j v e=>(hR.agree _ _ _ (e1 j v e)).1)
    refine ⟨⟨b,off,none⟩,z,hv,?_,q2⟩
    simpa [Instr.loadAt,Instr.sureAddr] using q1
   ·rename_i k s Q j fo hx
    split at H
    ·rename_i e s' xs hk
     obtain ⟨hs,H0⟩:=cond_F H
     have hs:=Nat.eq_of_beq_eq_true hs
     subst hs
     obtain ⟨⟨hQ,hj⟩,H1⟩:=chk_iff.1 H0
     obtain ⟨r,h1,h2⟩:=loadK_sound H1
     refine ⟨r,h1,fun G a w S m hR=>?_⟩
     have hv:=hR.tmps q
     rw [hx] at hv
     obtain ⟨g,cur,fr,hv,e2,vs,e6,e7⟩:=prw_at (hR.held k _ hk) hQ hj hv
     obtain ⟨z,q1,q2⟩:=run_loads (w:=w) (g:=g) (o:=j*s+fo) h2 ((e6.drop fo).ext (Ext.refl S) (rowNm_le e m)) (fun i v e=>by
      rw [List.getElem?_drop] at e
      rw [cell_of_row w g _ cur _ fr e2,Nat.add_assoc]
      exact e7 _ v e)
     refine ⟨⟨g,j*s+fo,none⟩,z,hv,?_,q2⟩
     simpa [Instr.loadAt,Instr.sureAddr] using q1
    ·rename_i e s' ks xs hk
     obtain ⟨hs,H0⟩:=cond_F H
     have hs:=Nat.eq_of_beq_eq_true hs
     subst hs
     obtain ⟨⟨hQ,hj⟩,H1⟩:=chk_iff.1 H0
     obtain ⟨r,h1,h2⟩:=loadK_sound H1
     refine ⟨r,h1,fun G a w S m hR=>?_⟩
     have hv:=hR.tmps q
     rw [hx] at hv
     obtain ⟨g,cur,fr,hv,e2,vs,e6,e7⟩:=prw_at (Held.open (hR.held k _ hk)) hQ hj hv
     obtain ⟨z,q1,q2⟩:=run_loads (w:=w) (g:=g) (o:=j*s+fo) h2 ((e6.drop fo).ext (Ext.refl S) (rowNm_le _ m)) (fun i v e=>by
      rw [List.getElem?_drop] at e
      rw [cell_of_row w g _ cur _ fr e2,Nat.add_assoc]
      exact e7 _ v e)
     refine ⟨⟨g,j*s+fo,none⟩,z,hv,?_,q2⟩
     simpa [Instr.loadAt,Instr.sureAddr] using q1
    ·exact H.elim
   ·exact H.elim
  obtain ⟨r,h,he⟩:=get _ h
  obtain ⟨rs,h1,hh⟩:=resL_det (C:=C) l _ h
  refine ⟨_,h1,fun G a w S m hR=>?_⟩
  obtain ⟨ad,z,e1,e2,e3⟩:=he G a w S m hR
  obtain ⟨vs,h2,h3,h4⟩:=hh G a w S m hR
  refine ⟨z::vs,?_,by simp [h3],?_⟩
  ·simp only [CVl]; exact ⟨_,_,rfl,e3,h2⟩
  ·simp only [List.mapM_cons,resOne,Sem.run_bind,e1,asAddr,Sem.run_pure,Result.andThen_ok,e2]
   rw [h4]; rfl
theorem resK_det {P:Program} {E:Env} {C:Cx} {st:St} {fn:Func} {k:AV→Prop} (h:resK P E st fn.results.toList k) :
  ∃ r,k r∧∀ (G:Gh) (a:Act) (w:World) (S:Pin) (m:Nm),Rel G C.kp st a w S m→∃ v,CV S r m v∧(results fn a.tmps).run P w=.ok v w:=by
 unfold resK at h
 obtain ⟨rs,h1,hh⟩:=resL_det (C:=C) _ _ h
 have hrun:∀ (a:Act) (w:World) (vs:List Value),(fn.results.toList.mapM (resOne a.tmps)).run P w=.ok vs w→(results fn a.tmps).run P w=.ok (if h:vs.toArray.size=1 then vs.toArray[0] else .tuple vs.toArray) w:=by
  intro a w vs h4
  rw [results_eq,Array.mapM_eq_mapM_toList]
  simp only [Sem.run_bind,Sem.run_map]
  rw [h4]
  rfl
 split at h1
 ·rename_i x
  refine ⟨x,h1,fun G a w S m hR=>?_⟩
  obtain ⟨vs,h2,h3,h4⟩:=hh G a w S m hR
  simp only [CVl] at h2
  obtain ⟨u,us,rfl,hu,rfl⟩:=h2
  exact ⟨u,hu,by rw [hrun a w _ h4]; simp⟩
 ·rename_i hne
  refine ⟨_,h1,fun G a w S m hR=>?_⟩
  obtain ⟨vs,h2,h3,h4⟩:=hh G a w S m hR
  have hl:=h2.len
  refine ⟨.tuple vs.toArray,by simp only [CV]; exact ⟨_,rfl,by simpa using h2⟩,?_⟩
  rw [hrun a w _ h4]
  have:¬ vs.toArray.size=1:=by
   intro e
   simp at e
   rw [e] at hl
   match rs,hl with
   | [x],_=>exact hne x rfl
  rw [dif_neg this]
def nilB (st:St) (t:Nat):Bool:=match lk st.heap (Nat.div (Nat.sub t 1000000) 100) with
 | some (.cells cs)=>nilAt cs (Nat.mod t 100)
 | _=>false
def empT (kp:List Nat):List (Nat × Nat × Nat × Nat)→St→(St→Prop)→Prop
 | [],st,K=>K st
 | p::l,st,K=>cond (nilB st p.1) (empN kp [p] st fun st=>empT kp l st K) (empT kp l st K)
theorem empT_det {kp:List Nat}:∀ {l:List (Nat × Nat × Nat × Nat)} {st:St} {K:St→Prop},empT kp l st K→∃ st',K st'∧Same kp st st'
 | [],st,K,h=>⟨st,h,fun G a w S m hR=>⟨S,m,hR⟩⟩
 | p::l,st,K,h=>by
  simp only [empT] at h
  cases hb:nilB st p.1 with
  | true =>
   rw [hb] at h
   simp only [cond_true] at h
   obtain ⟨s1,h1,e1⟩:=empN_det h
   obtain ⟨s2,h2,e2⟩:=empT_det h1
   exact ⟨s2,h2,e1.trans e2⟩
  | false =>
   rw [hb] at h
   exact empT_det h
def endQ (kp:List Nat) (F:AV→List Blk→Prop) (st:St) (x:AV):Prop :=
 (fun ks=>rnA (fun k=>idx k ks 0) x fun y=>blksOf (lk st.heap) ks fun bs=>rnBs (fun k=>idx k ks 0) bs fun cs=>F y cs) (foot (lk st.heap) 3 (dedup (nmsA x) kp))
@[irreducible] def fnQ (P:Program) (E:Env) (C:Cx) (inv:Nat→St→Option LInv) (fuel:Nat) (fn:Func) (xs:List AV) (bs:List Blk) (F:AV→List Blk→Prop):Prop :=
 match fn.body with
 | some c=>cond (Nat.beq C.nt fn.ntmps&&Nat.ble xs.length fn.ntmps&&beqNs C.kp (names0 0 bs.length)&&(E.nowf&&!E.nq))
   (acode P E C inv fuel c ⟨slots xs 0,blkSlots bs 0⟩ (fun st=>empT C.kp (C.emp 900000) st fun st=>resF2 P E C st fn.results.toList (endQ C.kp F)) (fun _ _=>False) (fun st=>empT C.kp (C.emp 900000) st fun st=>resF2 P E C st fn.results.toList (endQ C.kp F))) False
 | none=>False
theorem fnQ_sound {P:Program} {E:Env} {C:Cx} {inv:Nat→St→Option LInv} {fuel:Nat} (hT:TyOK P C.tys) (hS:SpecOK P E) (hM:P.follows .mixedOrders=true) {f:FuncId} {fn:Func} (hf:P.funcs[f]?=some fn) {xs:List AV} {bs:List Blk} {F:AV→List Blk→Prop}
    (h:fnQ P E C inv fuel fn xs bs F):∃ r bs',F r bs'∧HC P E.glob f xs bs r bs':=by
  unfold fnQ at h
  split at h
  · rename_i c hc
    obtain ⟨hb,h⟩:=cond_F h
    simp only [Bool.and_eq_true] at hb
    have hnt:=Nat.eq_of_beq_eq_true hb.1.1.1
    have hle:=Nat.le_of_ble_eq_true hb.1.1.2
    have hkp:=beqNs_eq hb.1.2
    have hnw:=hb.2.1
    have hnq:E.nq=false:=by simpa using hb.2.2
    have key:∃ o fin,(o=.normal∨o=.ret)∧empT C.kp (C.emp 900000) fin (fun st=>resF2 P E C st fn.results.toList (endQ C.kp F))∧Leads P E C c ⟨slots xs 0,blkSlots bs 0⟩ o fin:=by
      obtain ⟨o,fin,ho,hl⟩:=acode_det hnw hnq hT hS hM c _ _ _ _ h
      cases o with
      | normal=>exact ⟨.normal,fin,.inl rfl,ho,hl⟩
      | ret=>exact ⟨.ret,fin,.inr rfl,ho,hl⟩
      | exit _=>exact ho.elim
      | _=>exact ho.elim
    obtain ⟨o,fin0,ho,hk0,hl⟩:=key
    obtain ⟨fin1,hk0,hsame0⟩:=empT_det hk0
    unfold resF2 at hk0
    obtain ⟨st,hk,hsame1⟩:=frzN_det hk0
    have hsame:=hsame0.trans hsame1
    obtain ⟨x,h1,hres⟩:=resK_det (C:=C) hk
    unfold endQ at h1
    generalize hks:foot (lk st.heap) 3 (dedup (nmsA x) C.kp)=ks at h1
    have hknd:ks.Nodup:=by rw [← hks]; exact foot_nodup _ _ _ (dedup_nodup _ _ (by rw [hkp]; exact names0_nodup _ _))
    have hpre:∀ q,q < bs.length→ks[q]?=some q:=by
      intro q hq
      obtain ⟨t,ht⟩:=dedup_pre (nmsA x) C.kp
      obtain ⟨t',ht'⟩:=foot_pre (lk st.heap) 3 (dedup (nmsA x) C.kp)
      rw [← hks,ht',ht,hkp,List.append_assoc,List.getElem?_append_left (by rw [names0_len]; exact hq),names0_get _ _ _ hq,Nat.zero_add]
    obtain ⟨y,h4,hy⟩:=rnA_sound _ _ h1
    obtain ⟨cs,h5,hcl,hcs⟩:=blksOf_sound _ _ h4
    obtain ⟨ds,h6,hdl,hds⟩:=rnBs_sound _ _ h5
    refine ⟨y,ds,h6,?_⟩
    intro w S m vs hG hA hnm hheld hinj hv
    have hlen:=hv.len
    simp only [Array.length_toList] at hlen
    let G:Gh:=⟨w,S,m,Mof bs.length m⟩
    have hbl:∀ k b,lk (blkSlots bs 0) k=some b→bs[k]?=some b:=by
      intro k b e
      rw [blkSlots_lk] at e
      simpa using e
    have hbl2:∀ (k:Nat) (b:Blk),bs[k]?=some b→k < bs.length:=fun k b e=>(List.getElem?_eq_some_iff.1 e).1
    have hR0:Rel G C.kp ⟨slots xs 0,blkSlots bs 0⟩ { tmps:=vs++Array.replicate (fn.ntmps - vs.size) undef,defers:=[] } w S m :=
      { defers:=rfl
        pin0:=Ext.refl S
        pinNew:=fun _ _ _ _=>rfl
        agree:=hA
        tmps:=fun t=>by
          unfold St.get
          rw [slots_lk]
          simp only [Nat.zero_le,if_true,Nat.sub_zero]
          cases e:xs[t]? with
          | none=>simp only [CV]
          | some x =>
            obtain ⟨v,hv1,hv2⟩:=hv.get e
            have hlt:t < vs.size:=by have:=(List.getElem?_eq_some_iff.1 hv1).1; simpa using this
            have:vs[t]?=some v:=by simpa using hv1
            simp only [Array.getD_eq_getD_getElem?,Array.getElem?_append_left hlt,this,Option.getD_some]
            exact hv2
        held:=fun k b hk=>hheld k b (hbl k b hk)
        inj:=fun k k' b b' u u' g hk hk' hne hu hu' hg=>hinj k k' u u' g (hbl2 k b (hbl k b hk)) (hbl2 k' b' (hbl k' b' hk')) hne hu hu' hg
        own:=fun k b u g hk hu hg=>.inr ⟨k,u,hbl2 k b (hbl k b hk),hu,hg⟩
        os:=rfl
        tape:=rfl
        output:=rfl
        size:=Nat.le_refl _
        frame:=fun _ _ _=>rfl
        m0:=MLe.refl _
        keep:=fun k u e=>by
          have hlt:=hnm k u e
          rw [hkp]
          exact List.mem_of_getElem? (by rw [names0_get _ 0 k hlt,Nat.zero_add]) }
    refine calls_of_wp hf hc (Go.wp_mono (hl G hG _ w S m hR0 ?_) ?_)
    · simp; omega
    · have fin:∀ a w' S0 m0,Rel G C.kp fin0 a w' S0 m0→a.defers=[]∧∃ v,(results fn a.tmps).run P w'=.ok v w' ∧
          ∃ u S' m',Ending.returned v=.returned u∧w'.os=w.os∧w'.tape=w.tape∧w'.output=w.output∧w.heap.size≤w'.heap.size∧Ext S S' ∧
      (∀ b,b < w.heap.size→¬ Mof bs.length m b→w'.heap[b]?=w.heap[b]?∧∀ o,S' b o=S b o)∧Agree S' w' ∧
      (∀ (q:Nat) (b:Blk),ds[q]?=some b→Held S' m' w' q b)∧InjB ds.length m'∧(∀ q u g,q < ds.length→m' q=some u→bk u=some g→w.heap.size≤g∨Mof bs.length m g)∧MLe m m'∧CV S' y m' u:=by
        intro a w' S0 m0 hR0
        obtain ⟨S',m',hR⟩:=hsame G a w' S0 m0 hR0
        obtain ⟨v,h2,h3⟩:=hres G a w' S' m' hR
        let m2:Nm:=fun q=>(ks[q]?).bind m'
        have hRn:Rn (fun k=>idx k ks 0) m' m2:=by
          intro i j hij
          have:=(idx_get hij).2
          simp only [Nat.sub_zero] at this
          simp only [m2,this,Option.bind_some]
        have hm2:∀ q k,ks[q]?=some k→m2 q=m' k:=fun q k e=>by simp only [m2,e,Option.bind_some]
        have hlen':ds.length=ks.length:=by rw [hdl,hcl]
        have hkb:∀ (q k:Nat),ks[q]?=some k→∃ b,lk st.heap k=some b:=fun q k e=>by obtain ⟨b,_,hb⟩:=hcs q k e; exact ⟨b,hb⟩
        refine ⟨hR.defers,v,h3,v,S',m2,rfl,hR.os,hR.tape,hR.output,hR.size,hR.pin0,fun b hb hn=>⟨hR.frame b hb hn,fun o=>hR.pinNew b o hb hn⟩,hR.agree,?_,?_,?_,?_,hy S' m' m2 v hRn h2⟩
        · intro q b hb
          have hql:q < ks.length:=by rw [← hlen']; exact (List.getElem?_eq_some_iff.1 hb).1
          obtain ⟨c0,hc0,hh⟩:=hcs q ks[q] (by simp [hql])
          have hidx:idx ks[q] ks 0=some q:=by
            have key:∀ (l:List Nat) (q i:Nat) (h:q < l.length),l.Nodup→idx l[q] l i=some (i+q):=by
              intro l
              induction l with
              | nil=>intro q i h; simp at h
              | cons j l ih =>
                intro q i h hn
                rw [List.nodup_cons] at hn
                cases q with
                | zero=>simp [idx,nbeq_self]
                | succ q =>
                  simp at h
                  simp only [idx,List.getElem_cons_succ]
                  rw [nbeq_ne (fun e=>hn.1 (by rw [e]; exact List.getElem_mem h))]
                  simp only [cond_false]
                  rw [ih q (i+1) h hn.2]
                  congr 1; omega
            simpa using key ks q 0 hql hknd
          exact hds q c0 b hc0 hb S' m' m2 w' ks[q] q hRn hidx (hR.held _ _ hh)
        · intro q q' u u' g hq hq' hne hu hu' hg
          rw [hlen'] at hq hq'
          rw [hm2 q ks[q] (by simp [hq])] at hu
          rw [hm2 q' ks[q'] (by simp [hq'])] at hu'
          obtain ⟨b,hb⟩:=hkb q ks[q] (by simp [hq])
          obtain ⟨b',hb'⟩:=hkb q' ks[q'] (by simp [hq'])
          exact hR.inj _ _ b b' u u' g hb hb' (fun e=>hne (nodup_inj (k:=ks[q]) hknd (p:=q) (q:=q') (by simp [hq]) (by rw [e]; simp [hq']))) hu hu' hg
        · intro q u g hq hu hg
          rw [hlen'] at hq
          rw [hm2 q ks[q] (by simp [hq])] at hu
          obtain ⟨b,hb⟩:=hkb q ks[q] (by simp [hq])
          exact hR.own _ b u g hb hu hg
        · intro k u hu
          obtain ⟨u',h9,h10⟩:=hR.m0 k u hu
          exact ⟨u',by rw [hm2 k k (hpre k (hnm k u hu))]; exact h9,h10⟩
      intro e a w' he
      obtain ⟨rfl,S',m',hR,_⟩:=he
      rcases ho with rfl | rfl
      · exact fin a w' S' m' hR
      · exact fin a w' S' m' hR
  · exact h.elim
end Go.Proofs.YtgbbmadjdaphnaaGreatDoor
namespace Go.Proofs.YtgbbmadjdaphnaaGreatDoor
open Go
set_option linter.unusedVariables false
set_option linter.unusedSimpArgs false
def drp:List (Nat × Nat)→Nat→Nat
 | [],_=>0
 | (j,m)::l,i=>cond (Nat.beq j i) m (drp l i)
theorem c0 {b:Bool} {A B:Prop} (h:b=false) (k:B):cond b A B:=by rw [h]; exact k
theorem c1 {b:Bool} {A B:Prop} (h:b=true) (k:A):cond b A B:=by rw [h]; exact k
theorem cd0 {p:Prop} [Decidable p] {A B:Prop} (h:¬ p) (k:B):cond (decide p) A B:=c0 (decide_eq_false h) k
theorem cd1 {p:Prop} [Decidable p] {A B:Prop} (h:p) (k:A):cond (decide p) A B:=c1 (decide_eq_true h) k
theorem cdR {k:IntKind} {n:Int} {A B:Prop} (h:rng k n) (K:A):cond (decide (rng k n)) A B:=c1 (decide_eq_true h) K
theorem cdI {n:Int} {A B:Prop} (h:-9223372036854775808≤n∧n≤9223372036854775807) (K:A):cond (decide (rng .i64 n)) A B:=cdR h K
theorem csplit {b:Bool} {A B:Prop} (h:b=true→A) (k:b=false→B):cond b A B:=by cases b; exact k rfl; exact h rfl
def invs:List (Nat × LInv)→Nat→St→Option LInv
 | [],_,_=>none
 | (j,L)::l,i,st=>cond (Nat.beq j i) (some L) (invs l i st)
def invsN:List (Nat × Nat × (Int→LInv))→Nat→St→Option LInv
 | [],_,_=>none
 | (j,s,L)::l,i,st=>cond (Nat.beq j i) (match lk st.tmps s with
  | some (.int _ n)=>some (L n)
  | _=>none) (invsN l i st)
theorem ccond {b:Bool} {A B:Prop}:cond b A B↔((b=true→A)∧(b=false→B)):=by cases b <;> simp
theorem cdec {p:Prop} [Decidable p] {A B:Prop}:cond (decide p) A B↔((p→A)∧(¬p→B)):=by
 by_cases h:p <;> simp [h]
theorem cdecF {p:Prop} [Decidable p] {A:Prop}:cond (decide p) A False↔(p∧A):=by
 by_cases h:p <;> simp [h]
theorem fok {P:Program} {f:FuncId} {fn:Func} (hf:P.funcs[f]?=some fn) (hn:(fn.name == "runtime.NumGoroutine")=false) (hb:fn.body.isSome=true):Fok P f :=
 ⟨fn,hf,fun e=>by rw [e] at hn; simp at hn,fun e=>by rw [e] at hb; simp at hb⟩
abbrev Sp:=List AV→Option (Prop × AV)
abbrev SpH:=List AV→List Blk→Option (Prop × AV × List Blk)
def SOK (P:Program) (gl:Glob) (f:FuncId) (sp:Sp):Prop:=Fok P f∧∀ xs pre r,sp xs=some (pre,r)→pre→PureC P gl f xs r
def HOK (P:Program) (gl:Glob) (f:FuncId) (sp:SpH):Prop:=Fok P f∧∀ xs bs pre r bs',sp xs bs=some (pre,r,bs')→pre→HC P gl f xs bs r bs'
def AllS (P:Program) (gl:Glob):List (Nat × Sp)→Prop
 | []=>True
 | (f,sp)::l=>SOK P gl f sp∧AllS P gl l
def AllH (P:Program) (gl:Glob):List (Nat × SpH)→Prop
 | []=>True
 | (f,sp)::l=>HOK P gl f sp∧AllH P gl l
theorem AllS.get {P:Program} {gl:Glob}:∀ {l:List (Nat × Sp)} {f:Nat} {sp:Sp},AllS P gl l→lk l f=some sp→SOK P gl f sp
 | [],f,sp,_,e=>by simp [lk] at e
 | (j,s)::l,f,sp,h,e=>by
  simp only [lk] at e
  cases hj:Nat.beq j f with
  | true =>
   rw [hj] at e
   simp only [cond_true,Option.some.injEq] at e
   have hj:=Nat.eq_of_beq_eq_true hj
   subst hj; subst e; exact h.1
  | false=>rw [hj] at e; simp only [cond_false] at e; exact AllS.get h.2 e
theorem AllH.get {P:Program} {gl:Glob}:∀ {l:List (Nat × SpH)} {f:Nat} {sp:SpH},AllH P gl l→lk l f=some sp→HOK P gl f sp
 | [],f,sp,_,e=>by simp [lk] at e
 | (j,s)::l,f,sp,h,e=>by
  simp only [lk] at e
  cases hj:Nat.beq j f with
  | true =>
   rw [hj] at e
   simp only [cond_true,Option.some.injEq] at e
   have hj:=Nat.eq_of_beq_eq_true hj
   subst hj; subst e; exact h.1
  | false=>rw [hj] at e; simp only [cond_false] at e; exact AllH.get h.2 e
abbrev SpQ:=List AV→List Blk→Option ((AV→List Blk→Prop)→Prop)
def QOK (P:Program) (gl:Glob) (f:FuncId) (sp:SpQ):Prop:=Fok P f∧∀ xs bs T,sp xs bs=some T→∀ K,T K→∃ r bs',K r bs'∧HC P gl f xs bs r bs'
def AllQ (P:Program) (gl:Glob):List (Nat × SpQ)→Prop
 | []=>True
 | (f,sp)::l=>QOK P gl f sp∧AllQ P gl l
theorem AllQ.get {P:Program} {gl:Glob}:∀ {l:List (Nat × SpQ)} {f:Nat} {sp:SpQ},AllQ P gl l→lk l f=some sp→QOK P gl f sp
 | [],f,sp,_,e=>by simp [lk] at e
 | (j,s)::l,f,sp,h,e=>by
  simp only [lk] at e
  cases hj:Nat.beq j f with
  | true =>
   rw [hj] at e
   simp only [cond_true,Option.some.injEq] at e
   have hj:=Nat.eq_of_beq_eq_true hj
   subst hj; subst e; exact h.1
  | false=>rw [hj] at e; simp only [cond_false] at e; exact AllQ.get h.2 e
def QsOK (P:Program) (E:Env):Prop:=∀ f sp,E.specQ f=some sp→QOK P E.glob f sp
theorem qsNone {P:Program} {E:Env} (h:E.specQ=fun _=>none):QsOK P E:=fun f sp e=>by rw [h] at e; cases e
theorem qsOf {P:Program} {E:Env} {l:List (Nat × SpQ)} (h:E.specQ=lk l) (a:AllQ P E.glob l):QsOK P E:=fun f sp e=>a.get (by rw [← h]; exact e)
theorem specOK {P:Program} {E:Env} {l:List (Nat × Sp)} {l':List (Nat × SpH)} (h1:E.spec=lk l) (h2:E.specH=lk l') (a:AllS P E.glob l) (b:AllH P E.glob l') (c:XOK P E.add64:=by exact trivial) (d:QsOK P E:=by exact qsNone rfl) (e0:P=Tryz.prog:=by exact rfl):SpecOK P E :=
 ⟨fun f sp e=>a.get (by rw [← h1]; exact e),fun f sp e=>b.get (by rw [← h2]; exact e),c,d,e0⟩
theorem HC.le {P:Program} {gl:Glob} {f:FuncId} {xs:List AV} {bs:List Blk} {r r':AV} {bs' bs2:List Blk} (h:HC P gl f xs bs r bs') (h1:le r r') (h2:leBs bs' bs2):HC P gl f xs bs r' bs2:=by
 intro w S m vs hG hA hnm hheld hinj hv
 refine (h w S m vs hG hA hnm hheld hinj hv).mono ?_
 rintro e w' ⟨u,S',m',he,h3,h4,h5,h6,h7,h8,h9,h10,h11,h12,h13,h14⟩
 have hlen:=leBs_len h2
 refine ⟨u,S',m',he,h3,h4,h5,h6,h7,h8,h9,fun q b hb=>?_,hlen ▸ h11,hlen ▸ h12,h13,le_sound _ _ _ _ h1 h14⟩
 obtain ⟨d,hd,hle⟩:=leBs_get h2 hb
 exact leB_held hle (h10 q d hd)
def orSp (a b:Sp):Sp:=fun xs=>match a xs with | some r=>some r | none=>b xs
theorem SOK.or {P:Program} {gl:Glob} {f:FuncId} {a b:Sp} (h:SOK P gl f a) (k:SOK P gl f b):SOK P gl f (orSp a b) :=
 ⟨h.1,fun xs pre r e hp=>by
  unfold orSp at e
  split at e
  ·next q hq=>injection e with e; subst e; exact h.2 xs pre r hq hp
  ·exact k.2 xs pre r e hp⟩
def orSpH (a b:SpH):SpH:=fun xs bs=>match a xs bs with | some r=>some r | none=>b xs bs
theorem HOK.or {P:Program} {gl:Glob} {f:FuncId} {a b:SpH} (h:HOK P gl f a) (k:HOK P gl f b):HOK P gl f (orSpH a b) :=
 ⟨h.1,fun xs bs pre r bs' e hp=>by
  unfold orSpH at e
  split at e
  ·next q hq=>injection e with e; subst e; exact h.2 xs bs pre r bs' hq hp
  ·exact k.2 xs bs pre r bs' e hp⟩
def orSpQ (a b:SpQ):SpQ:=fun xs bs=>match a xs bs with | some r=>some r | none=>b xs bs
theorem QOK.or {P:Program} {gl:Glob} {f:FuncId} {a b:SpQ} (h:QOK P gl f a) (k:QOK P gl f b):QOK P gl f (orSpQ a b) :=
 ⟨h.1,fun xs bs T e K hT=>by
  unfold orSpQ at e
  split at e
  ·next q hq=>injection e with e; subst e; exact h.2 xs bs _ hq K hT
  ·exact k.2 xs bs T e K hT⟩
theorem tyNil {P:Program}:TyOK P []:=by constructor <;> simp [inT]
theorem tyOf {P:Program} {l:List TypeId} (h:(l.all fun t=>!P.stoodInHeld t&&!P.eqGuardType P.depth t)=true):TyOK P l :=
 ⟨fun t ht=>by have:=List.all_eq_true.1 h t ht; simp at this; exact this.1,fun t ht=>by have:=List.all_eq_true.1 h t ht; simp at this; exact this.2⟩
def cellI:List AV→Int
 | [.int _ n]=>n
 | _=>0
def IntsA (xs:List (List AV)):Prop:=∀ x ∈ xs,∃ n:Int,x=[.int .i64 n]∧rng .i64 n
structure SrcI (xs:List (List AV)):Prop where
 short:xs.length≤2000
 ints:IntsA xs
theorem SrcI.take {xs:List (List AV)} (h:IntsA xs):SrcI (xs.take 2000):=⟨by rw [List.length_take]; omega,fun x hx=>h x (List.mem_of_mem_take hx)⟩
def rawV (xs:List (List AV)) (i:Int):Int:=if (xs.length:Int)≤i then 0 else cellI (xs.getD i.toNat [])
def rawA (xs:List (List AV)) (i:Int):Int:=if (xs.length:Int)≤i then i else i+1
def modZ (x n:Int):Int:=if n < 1 then 0 else x % n
def srcN (xs:List (List AV)) (i n:Int):Int:=modZ (rawV xs i) n
theorem srcN_lt {xs:List (List AV)} {i n:Int} (h:1≤n):0≤srcN xs i n∧srcN xs i n < n:=by
 unfold srcN modZ
 rw [if_neg (by omega)]
 exact ⟨Int.emod_nonneg _ (by omega),Int.emod_lt_of_pos _ (by omega)⟩
theorem rawA_le {xs:List (List AV)} {i:Int} (h:0≤i):0≤rawA xs i:=by unfold rawA; split <;> omega
theorem modZ_go (x n:Int) (h:1≤n):(x.tmod n < 0→modZ x n=x.tmod n+n)∧(¬ x.tmod n < 0→modZ x n=x.tmod n):=by
 unfold modZ
 rw [if_neg (by omega),Int.emod_eq_tmod]
 have hn:(n.natAbs:Int)=n:=by omega
 constructor
 ·intro h1
  rw [if_neg,hn]
  rintro (h2 | h2)
  ·have:=Int.tmod_nonneg n h2; omega
  ·have:=Int.tmod_eq_zero_of_dvd h2; omega
 ·intro h1
  by_cases h2:0≤x∨n ∣ x
  ·rw [if_pos h2]; simp
  ·rw [if_neg h2]
   simp only [not_or] at h2
   exfalso
   have h3:x.tmod n=0:=by
    have h4:=Int.tmod_nonneg n (a:=-x) (by omega)
    rw [Int.neg_tmod] at h4
    omega
   exact h2.2 (Int.dvd_of_tmod_eq_zero h3)
theorem tmod_bd (x n:Int) (h:1≤n):-n < x.tmod n∧x.tmod n < n:=by
 have h1:=Int.tmod_lt_of_pos x (b:=n) (by omega)
 have h2:=modZ_go x n h
 have h3:0≤modZ x n:=by unfold modZ; rw [if_neg (by omega)]; exact Int.emod_nonneg _ (by omega)
 by_cases h4:x.tmod n < 0
 ·have h5:=h2.1 h4
  have h6:modZ x n < n:=by unfold modZ; rw [if_neg (by omega)]; exact Int.emod_lt_of_pos _ (by omega)
  by_cases h7:modZ x n=0
  ·exfalso
   have h8:x % n=0:=by unfold modZ at h7; rw [if_neg (by omega)] at h7; exact h7
   have:=Int.tmod_eq_zero_of_dvd (Int.dvd_of_emod_eq_zero h8)
   omega
  ·omega
 ·omega
end Go.Proofs.YtgbbmadjdaphnaaGreatDoor
namespace Go.Proofs.YtgbbmadjdaphnaaGreatDoor
open Go
set_option linter.unusedVariables false
set_option linter.unusedSimpArgs false
def mod_s:Sp
 | [.int .i64 x,.int .i64 n]=>some (True,.int .i64 (modZ x n))
 | _=>none
def mod_T:Prop :=
 ∀ (gl:Glob) (x n:Int),IR9 x→IR9 n→bif decide (n < (1:Int)) then (0:Int)=modZ x n else bif decide ¬n=(0:Int) then bif decide (x.tmod n < (0:Int)) then bif decide (rng .i64 (x.tmod n+n)) then x.tmod n+n=modZ x n else False else x.tmod n=modZ x n else False
theorem mod_P:mod_T:=by
 unfold mod_T
 intro gl x n hx hn
 rw [ccond]
 simp only [decide_eq_true_eq,decide_eq_false_iff_not]
 refine ⟨fun h=>by unfold modZ; rw [if_pos h],fun h=>?_⟩
 have h1:=modZ_go x n (by omega)
 have h2:=tmod_bd x n (by omega)
 simp only [↓cdecF,cdec]
 simp only [rng]
 refine ⟨by omega,fun h3=>⟨by omega,(h1.1 h3).symm⟩,fun h3=>(h1.2 h3).symm⟩
def mod_S:Prop:=∀ (gl:Glob) (x n:Int),fnK Tryz.prog { glob:=gl,spec:=lk [],specH:=lk [] } { nt:=16,drop:=drp [(1,32),(3,896),(4,1024),(5,28672),(6,32768)] } (fun _ _=>none) 6 Tryz.f22 [.int .i64 x,.int .i64 n] (.int .i64 (modZ x n))
theorem mod_e:mod_T=mod_S:=by kernel_rfl
theorem mod_v:mod_S:=Eq.mp (mod_e ..) (mod_P)
theorem mod_ok (gl:Glob):SOK Tryz.prog gl 22 mod_s:=by
 refine ⟨fok Tryz.func22 (by kernel_rfl) (by kernel_rfl),?_⟩
 intro xs pre r h hp
 unfold mod_s at h
 split at h
 ·simp only [Option.some.injEq,Prod.mk.injEq] at h
  obtain ⟨h1,h2⟩:=h
  subst h1 h2
  exact fnK_sound tyNil (by exact specOK rfl rfl trivial trivial) (by kernel_rfl) Tryz.func22 rfl (mod_v gl _ _)
 ·cases h
def raw_s:SpH
 | [.ptr 0 0],[.cells [.sl 1 false xs,.int .i64 i]]=>some (SrcI xs∧0≤i,.int .i64 (rawV xs i),[.cells [.sl 1 false xs,.int .i64 (rawA xs i)]])
 | _,_=>none
def raw_T:Prop :=
  ∀ (gl:Glob) (xs:List (List AV)) (i:Int),SrcI xs∧0≤i→True→True→IR9 i→bif decide ((↑xs.length:Int)≤i) then (0:Int)=rawV xs i∧((True∧xs=xs)∧i=rawA xs i∧True)∧True else bif decide (rng .i64 (i+(1:Int))) then bif decide (rng .i64 (i+(1:Int) - (1:Int))) then bif decide (0≤i+(1:Int) - (1:Int)∧i+(1:Int) - (1:Int) <
 (↑xs.length:Int)) then ∃ n,List.take [AV.int .i64 n].length (xs.getD (i+(1:Int) - (1:Int)).toNat [])=[AV.int .i64 n]∧n=rawV xs i∧((True∧xs=xs)∧i+(1:Int)=rawA xs i∧True)∧True else False else False else False
theorem raw_P:raw_T:=by
 unfold raw_T
 intro gl xs i ⟨h,h0⟩ _ _ hi
 simp only [↓cdecF,cdec]
 simp only [rng]
 refine ⟨fun h1=>⟨?_,?_,trivial⟩,fun h1=>?_⟩
 ·unfold rawV; rw [if_pos h1]
 ·exact ⟨⟨trivial,trivial⟩,by unfold rawA; rw [if_pos h1],trivial⟩
 ·have hl:=h.short
  have hlt:i.toNat < xs.length:=by omega
  obtain ⟨n,hn,hr⟩:=h.ints xs[i.toNat] (List.getElem_mem hlt)
  have hg:xs.getD i.toNat []=[.int .i64 n]:=by rw [List.getD_eq_getElem?_getD,List.getElem?_eq_getElem hlt,hn]; rfl
  refine ⟨by omega,by omega,by omega,n,?_,?_,⟨⟨trivial,trivial⟩,?_,trivial⟩,trivial⟩
  ·rw [show i+1 - 1=i by omega,hg]; rfl
  ·unfold rawV; rw [if_neg h1,hg]; rfl
  ·unfold rawA; rw [if_neg h1]
def raw_S:Prop:=∀ (gl:Glob) (xs:List (List AV)) (i:Int),SrcI xs∧0≤i→fnH Tryz.prog { glob:=gl,spec:=lk [],specH:=lk [],shape:=[30] } { nt:=31,drop:=drp [(1,4088),(3,1040384),(4,2146435072)],fr:=1000,kp:=[0] } (fun _ _=>none) 6 Tryz.f35 [.ptr 0 0] [.cells [.sl 1 false xs,.int .i64 i]] (.int .i64 (rawV xs i)) [.cells [.sl 1 false xs,.int .i64 (rawA xs i)]]
theorem raw_e:raw_T=raw_S:=by kernel_rfl
theorem raw_v:raw_S:=Eq.mp (raw_e ..) (raw_P)
theorem raw_ok (gl:Glob):HOK Tryz.prog gl 35 raw_s:=by
 refine ⟨fok Tryz.func35 (by kernel_rfl) (by kernel_rfl),?_⟩
 intro xs bs pre r bs2 h hp
 unfold raw_s at h
 split at h
 ·simp only [Option.some.injEq,Prod.mk.injEq] at h
  obtain ⟨h1,h2,h3⟩:=h
  subst h1 h2 h3
  exact fnH_sound tyNil (by exact specOK rfl rfl trivial trivial) (by kernel_rfl) Tryz.func35 (raw_v gl _ _ hp)
 ·cases h
def srcn_s:SpH
 | [.ptr 0 0,.int .i64 n],[.cells [.sl 1 false xs,.int .i64 i]]=>some (SrcI xs∧0≤i,.int .i64 (srcN xs i n),[.cells [.sl 1 false xs,.int .i64 (rawA xs i)]])
 | _,_=>none
def srcn_T:Prop :=
  ∀ (gl:Glob) (xs:List (List AV)) (i n:Int),SrcI xs∧0≤i→True→IR9 n→True→IR9 i→(SrcI xs∧0≤i)∧((-9223372036854775808:Int)≤rawV xs i∧rawV xs i≤(9223372036854775807:Int)→True∧((-9223372036854775808:Int)≤modZ (rawV xs i) n∧modZ (rawV xs i) n ≤
 (9223372036854775807:Int)→modZ (rawV xs i) n=srcN xs i n∧((True∧xs=xs)∧rawA xs i=rawA xs i∧True)∧True))
theorem srcn_P:srcn_T:=by
 unfold srcn_T
 intro gl xs i n h _ hn _ hi
 exact ⟨h,fun _=>⟨trivial,fun _=>⟨rfl,⟨⟨trivial,rfl⟩,rfl,trivial⟩,trivial⟩⟩⟩
def srcn_S:Prop:=∀ (gl:Glob) (xs:List (List AV)) (i n:Int),SrcI xs∧0≤i→fnH Tryz.prog { glob:=gl,spec:=lk [(22,mod_s)],specH:=lk [(35,raw_s)] } { nt:=9,drop:=drp [(1,480)],fr:=1000,kp:=[0] } (fun _ _=>none) 6 Tryz.f10 [.ptr 0 0,.int .i64 n] [.cells [.sl 1 false xs,.int .i64 i]] (.int .i64 (srcN xs i n)) [.cells [.sl 1 false xs,.int .i64 (rawA xs i)]]
theorem srcn_e:srcn_T=srcn_S:=by kernel_rfl
theorem srcn_v:srcn_S:=Eq.mp (srcn_e ..) (srcn_P)
theorem srcn_ok (gl:Glob):HOK Tryz.prog gl 10 srcn_s:=by
 refine ⟨fok Tryz.func10 (by kernel_rfl) (by kernel_rfl),?_⟩
 intro xs bs pre r bs2 h hp
 unfold srcn_s at h
 split at h
 ·simp only [Option.some.injEq,Prod.mk.injEq] at h
  obtain ⟨h1,h2,h3⟩:=h
  subst h1 h2 h3
  exact fnH_sound tyNil (by exact specOK rfl rfl ⟨(mod_ok gl),trivial⟩ ⟨(raw_ok gl),trivial⟩) (by kernel_rfl) Tryz.func10 (srcn_v gl _ _ _ hp)
 ·cases h
def newsrc_s:SpH
 | [.sl 1 false xs],[]=>some (True,.ptr 0 0,[.cells [.sl 1 false (xs.take 2000),.int .i64 0]])
 | _,_=>none
def newsrc_T:Prop :=
 ∀ (gl:Glob) (xs:List (List AV)),True→bif decide (0≤min (↑xs.length:Int) (2000:Int)∧min (↑xs.length:Int) (2000:Int)≤(↑xs.length:Int)) then bif decide ((0:Int)≤(0:Int)∧0≤min (↑xs.length:Int) (2000:Int)) then (0:Nat)=0∧((True∧List.drop (0:Nat) (List.take (min (↑xs.length:Int) (2000:Int)).toNat xs)=List.take (2000:Nat) xs)∧(0:Int)=0∧True)∧True else False else False
theorem newsrc_P:newsrc_T:=by
 unfold newsrc_T
 intro gl xs _
 simp only [↓cdecF]
 refine ⟨by omega,by omega,by trivial,⟨⟨trivial,?_⟩,by trivial,trivial⟩,trivial⟩
 rw [List.drop_zero]
 by_cases h:xs.length≤2000
 ·rw [List.take_of_length_le (by omega),List.take_of_length_le h]
 ·rw [show (min (xs.length:Int) 2000).toNat=2000 by omega]
def newsrc_S:Prop:=∀ (gl:Glob) (xs:List (List AV)),fnH Tryz.prog { glob:=gl,spec:=lk [],specH:=lk [] } { nt:=10,drop:=drp [(1,1016)],fr:=1000,kp:=[] } (fun _ _=>none) 6 Tryz.f6 [.sl 1 false xs] [] (.ptr 0 0) [.cells [.sl 1 false (xs.take 2000),.int .i64 0]]
theorem newsrc_e:newsrc_T=newsrc_S:=by kernel_rfl
theorem newsrc_v:newsrc_S:=Eq.mp (newsrc_e ..) (newsrc_P)
theorem newsrc_ok (gl:Glob):HOK Tryz.prog gl 6 newsrc_s:=by
 refine ⟨fok Tryz.func6 (by kernel_rfl) (by kernel_rfl),?_⟩
 intro xs bs pre r bs2 h hp
 unfold newsrc_s at h
 split at h
 ·simp only [Option.some.injEq,Prod.mk.injEq] at h
  obtain ⟨h1,h2,h3⟩:=h
  subst h1 h2 h3
  exact fnH_sound tyNil (by exact specOK rfl rfl trivial trivial) (by kernel_rfl) Tryz.func6 (newsrc_v gl _)
 ·cases h
end Go.Proofs.YtgbbmadjdaphnaaGreatDoor
namespace Go.Proofs.YtgbbmadjdaphnaaGreatDoor
open Go
def crnT:List Int:=[0,1,2,0,2,3,0,3,4,0,4,5,0,5,1,
 1,6,2,2,7,3,3,8,4,4,9,5,5,10,1,
 6,7,2,7,8,3,8,9,4,9,10,5,10,6,1,
 11,7,6,11,8,7,11,9,8,11,10,9,11,6,10]
def bndT:List Int:=[8000,11000,1800,3300,1800,3300,-1000,1000,-1000,1000,900,1700,2000,3200,2400,3400,2000,3000,4400,6200,2000,2900]
def glb:Glob:=fun g=>cond (Nat.beq g 0) (some (crnT.map (AV.int .i64))) (cond (Nat.beq g 1) (some (bndT.map (AV.int .i64))) none)
end Go.Proofs.YtgbbmadjdaphnaaGreatDoor
namespace Go.Proofs.YtgbbmadjdaphnaaGreatDoor
open Go
set_option linter.unusedVariables false
set_option linter.unusedSimpArgs false
def crn (f:Int) (k:Nat):Int:=crnT.getD (3*f.toNat+k) 0
def fcs:List Int:=[0,1,2,3,4,5,6,7,8,9,10,11,12,13,14,15,16,17,18,19]
def allN:List Int→(Int→Prop)→Prop
 | [],_=>True
 | x::l,p=>p x∧allN l p
theorem allN_get {p:Int→Prop}:∀ {l:List Int} {f:Int},allN l p→f ∈ l→p f
 | [],f,_,h=>by simp at h
 | x::l,f,h,hf=>by
  simp only [allN] at h
  rcases List.mem_cons.1 hf with rfl | hf
  ·exact h.1
  ·exact allN_get h.2 hf
theorem mem_fcs {f:Int} (h:0≤f∧f < 20):f ∈ fcs:=by
 simp only [fcs,List.mem_cons,List.not_mem_nil,or_false]; omega
def fac (n:Int):Bool:=decide (0≤n∧n < 20)
structure Vld (f a b c:Int):Prop where
 face:0≤f∧f < 20
 wa:0≤a∧a≤840
 wb:0≤b∧b≤840
 wc:0≤c∧c≤840
 sum:a+b+c=840
theorem vld_iff (f a b c:Int):Vld f a b c↔(0≤f∧f < 20)∧(0≤a∧a≤840)∧(0≤b∧b≤840)∧(0≤c∧c≤840)∧a+b+c=840 :=
 ⟨fun h=>⟨h.1,h.2,h.3,h.4,h.5⟩,fun h=>⟨h.1,h.2.1,h.2.2.1,h.2.2.2.1,h.2.2.2.2⟩⟩
instance (f a b c:Int):Decidable (Vld f a b c):=decidable_of_iff _ (vld_iff f a b c).symm
def vld (f a b c:Int):Bool:=decide (Vld f a b c)
def wt (f a b c v:Int):Int:=if crn f 2=v then c else if crn f 1=v then b else if crn f 0=v then a else 0
def sel (ws:List Int) (i:Int):Int:=ws.getD i.toNat 0
def face_s:Sp
 | [.int .i64 n]=>some (True,.bool (fac n))
 | _=>none
def face_T:Prop :=
 ∀ (gl:Glob) (n:Int),IR9 n→bif decide (0≤n) then decide (n < (20:Int))=fac n else false=fac n
theorem face_P:face_T:=by
 unfold face_T
 intro gl n hn
 unfold fac
 simp only [cdec,decide_eq_decide,Bool.true_eq,Bool.false_eq,decide_eq_true_eq,decide_eq_false_iff_not]
 omega
def face_S:Prop:=∀ (gl:Glob) (n:Int),fnK Tryz.prog { glob:=gl,spec:=lk [],specH:=lk [] } { nt:=9,drop:=drp [(1,504)] } (fun _ _=>none) 6 Tryz.f74 [.int .i64 n] (.bool (fac n))
theorem face_e:face_T=face_S:=by kernel_rfl
theorem face_v:face_S:=Eq.mp (face_e ..) (face_P)
theorem face_ok (gl:Glob):SOK Tryz.prog gl 74 face_s:=by
 refine ⟨fok Tryz.func74 (by kernel_rfl) (by kernel_rfl),?_⟩
 intro xs pre r h hp
 unfold face_s at h
 split at h
 ·simp only [Option.some.injEq,Prod.mk.injEq] at h
  obtain ⟨h1,h2⟩:=h
  subst h1 h2
  exact fnK_sound tyNil (by exact specOK rfl rfl trivial trivial) (by kernel_rfl) Tryz.func74 rfl (face_v gl _)
 ·cases h
def valid_s (vld:Int→Int→Int→Int→Bool):Sp
 | [.agg [.int .i64 f,.int .i64 a,.int .i64 b,.int .i64 c]]=>some (True,.bool (vld f a b c))
 | _=>none
def valid_T (vld:Int→Int→Int→Int→Bool):Prop :=
  ∀ (gl:Glob) (f a b c:Int),(IR9 f)∧(IR9 a)∧(IR9 b)∧(IR9 c)∧True→bif decide (a < (0:Int)) then false=vld f a b c else bif decide (840 < a) then false=vld f a b c else bif
 decide (b < (0:Int)) then false=vld f a b c else bif decide (840 < b) then false=vld f a b c else bif decide (c < (0:Int)) then false=vld f a b c else bif decide (840 < c) then false=vld f a b c else True∧(True→bif fac f then bif decide (rng .i64 (a+b)) then bif decide (rng .i64 (a+b+c)) then decide (a+b+c=(840:Int))=vld f a b c else False else False else false=vld f a b c)
theorem valid_P:valid_T vld:=by
 unfold valid_T
 intro gl f a b c h
 simp only [↓cdecF,cdec,vld,fac]
 simp only [rng,decide_eq_decide,Bool.false_eq,decide_eq_false_iff_not,vld_iff]
 repeat' (first | exact trivial | intro _ | apply And.intro)
 all_goals omega
def valid_S (vld:Int→Int→Int→Int→Bool):Prop:=∀ (gl:Glob) (f a b c:Int),fnK Tryz.prog { glob:=gl,spec:=lk [(74,face_s)],specH:=lk [] } { nt:=36,drop:=drp [(1,2016),(3,16384),(4,1015808),(6,2097152),(7,68715282432)] } (fun _ _=>none) 6 Tryz.f32 [.agg [.int .i64 f,.int .i64 a,.int .i64 b,.int .i64 c]] (.bool (vld f a b c))
theorem valid_e (vld:Int→Int→Int→Int→Bool):valid_T vld=valid_S vld:=by kernel_rfl
theorem valid_v:valid_S vld:=Eq.mp (valid_e ..) (valid_P)
theorem valid_ok (gl:Glob):SOK Tryz.prog gl 32 (valid_s vld):=by
 refine ⟨fok Tryz.func32 (by kernel_rfl) (by kernel_rfl),?_⟩
 intro xs pre r h hp
 unfold valid_s at h
 split at h
 ·simp only [Option.some.injEq,Prod.mk.injEq] at h
  obtain ⟨h1,h2⟩:=h
  subst h1 h2
  exact fnK_sound tyNil (by exact specOK rfl rfl ⟨(face_ok gl),trivial⟩ trivial) (by kernel_rfl) Tryz.func32 rfl (valid_v gl _ _ _ _)
 ·cases h
def of_s:Sp
 | [.agg [.int .i64 f,.int .i64 a,.int .i64 b,.int .i64 c]]=>some (0≤f∧f < 20,.agg [.int .i64 (wt f a b c 0),.int .i64 (wt f a b c 1),.int .i64 (wt f a b c 2),.int .i64 (wt f a b c 3),.int .i64 (wt f a b c 4),.int .i64 (wt f a b c 5),.int .i64 (wt f a b c 6),.int .i64 (wt f a b c 7),.int .i64 (wt f a b c 8),.int .i64 (wt f a b c 9),.int .i64 (wt f a b c 10),.int .i64 (wt f a b c 11)])
 | _=>none
def on_s:Sp
 | [.int .i64 n,.agg [.int .i64 w0,.int .i64 w1,.int .i64 w2,.int .i64 w3,.int .i64 w4,.int .i64 w5,.int .i64 w6,.int .i64 w7,.int .i64 w8,.int .i64 w9,.int .i64 w10,.int .i64 w11]]=>some (0≤n∧n < 20,.tup [.agg [.int .i64 n,.int .i64 (sel [w0,w1,w2,w3,w4,w5,w6,w7,w8,w9,w10,w11] (crn n 0)),.int .i64 (sel [w0,w1,w2,w3,w4,w5,w6,w7,w8,w9,w10,w11] (crn n 1)),.int .i64 (sel [w0,w1,w2,w3,w4,w5,w6,w7,w8,w9,w10,w11] (crn n 2))],.bool (vld n (sel [w0,w1,w2,w3,w4,w5,w6,w7,w8,w9,w10,w11] (crn n 0)) (sel [w0,w1,w2,w3,w4,w5,w6,w7,w8,w9,w10,w11] (crn n 1)) (sel [w0,w1,w2,w3,w4,w5,w6,w7,w8,w9,w10,w11] (crn n 2)))])
 | _=>none
def of20_T:Prop :=
  ∀ (a b c:Int),(((-9223372036854775808:Int)≤(0:Int)∧(0:Int)≤(9223372036854775807:Int))∧(IR9 a)∧(IR9 b)∧(IR9 c)∧True→a=wt (0:Int) a b c (0:Int)∧b=wt (0:Int) a b c (1:Int)∧c=wt (0:Int) a b c (2:Int)∧(0:Int)=wt (0:Int) a b c
 (3:Int)∧(0:Int)=wt (0:Int) a b c (4:Int)∧(0:Int)=wt (0:Int) a b c (5:Int)∧(0:Int)=wt (0:Int) a b c (6:Int)∧(0:Int)=wt (0:Int) a b c (7:Int)∧(0:Int)=wt (0:Int) a b c (8:Int)∧(0:Int)=wt (0:Int) a b c (9:Int)∧(0:Int)=wt (0:Int) a b c (10:Int)∧(0:Int)=wt (0:Int) a b c (11:Int)∧True)∧(((-9223372036854775808:Int)≤(1:Int)∧(1:Int)≤(9223372036854775807:Int))∧((-9223372036854775808:Int)≤a∧a ≤
 (9223372036854775807:Int))∧(IR9 b)∧(IR9 c)∧True→a=wt (1:Int) a b c (0:Int)∧(0:Int)=wt (1:Int) a b c (1:Int)∧b=wt (1:Int) a b c (2:Int)∧c=wt (1:Int) a b c (3:Int)∧(0:Int)=wt (1:Int) a b c (4:Int)∧(0:Int)=wt (1:Int) a b c (5:Int)∧(0:Int)=wt (1:Int) a b c (6:Int)∧(0:Int)=wt (1:Int) a b c
 (7:Int)∧(0:Int)=wt (1:Int) a b c (8:Int)∧(0:Int)=wt (1:Int) a b c (9:Int)∧(0:Int)=wt (1:Int) a b c (10:Int)∧(0:Int)=wt (1:Int) a b c (11:Int)∧True)∧(((-9223372036854775808:Int)≤(2:Int)∧(2:Int)≤(9223372036854775807:Int))∧(IR9 a)∧(IR9 b)∧((-9223372036854775808:Int)≤c∧c ≤
 (9223372036854775807:Int))∧True→a=wt (2:Int) a b c (0:Int)∧(0:Int)=wt (2:Int) a b c (1:Int)∧(0:Int)=wt (2:Int) a b c (2:Int)∧b=wt (2:Int) a b c (3:Int)∧c=wt (2:Int) a b c (4:Int)∧(0:Int)=wt (2:Int) a b c (5:Int)∧(0:Int)=wt (2:Int) a b c (6:Int)∧(0:Int)=wt (2:Int) a b c (7:Int)∧(0:Int)=wt (2:Int) a b c (8:Int)∧(0:Int)=wt (2:Int) a b c (9:Int)∧(0:Int)=wt (2:Int) a b c (10:Int)∧(0:Int)=wt (2:Int) a b
 c (11:Int)∧True)∧(((-9223372036854775808:Int)≤(3:Int)∧(3:Int)≤(9223372036854775807:Int))∧(IR9 a)∧(IR9 b)∧(IR9 c)∧True→a=wt (3:Int) a b c (0:Int)∧(0:Int)=wt (3:Int) a b c (1:Int)∧(0:Int)=wt (3:Int) a b c (2:Int)∧(0:Int)=wt (3:Int) a
 b c (3:Int)∧b=wt (3:Int) a b c (4:Int)∧c=wt (3:Int) a b c (5:Int)∧(0:Int)=wt (3:Int) a b c (6:Int)∧(0:Int)=wt (3:Int) a b c (7:Int)∧(0:Int)=wt (3:Int) a b c (8:Int)∧(0:Int)=wt (3:Int) a b c (9:Int)∧(0:Int)=wt (3:Int) a b c (10:Int)∧(0:Int)=wt (3:Int) a b c (11:Int)∧True)∧(((-9223372036854775808:Int)≤(4:Int)∧(4:Int)≤(9223372036854775807:Int))∧((-9223372036854775808:Int)≤a∧a ≤
 (9223372036854775807:Int))∧(IR9 b)∧(IR9 c)∧True→a=wt (4:Int) a b c (0:Int)∧c=wt (4:Int) a b c (1:Int)∧(0:Int)=wt (4:Int) a b c (2:Int)∧(0:Int)=wt (4:Int) a b c (3:Int)∧(0:Int)=wt (4:Int) a b c (4:Int)∧b=wt (4:Int) a b c (5:Int)∧(0:Int)=wt (4:Int) a b c (6:Int)∧(0:Int)=wt (4:Int) a b c
 (7:Int)∧(0:Int)=wt (4:Int) a b c (8:Int)∧(0:Int)=wt (4:Int) a b c (9:Int)∧(0:Int)=wt (4:Int) a b c (10:Int)∧(0:Int)=wt (4:Int) a b c (11:Int)∧True)∧(((-9223372036854775808:Int)≤(5:Int)∧(5:Int)≤(9223372036854775807:Int))∧(IR9 a)∧(IR9 b)∧((-9223372036854775808:Int)≤c∧c ≤
 (9223372036854775807:Int))∧True→(0:Int)=wt (5:Int) a b c (0:Int)∧a=wt (5:Int) a b c (1:Int)∧c=wt (5:Int) a b c (2:Int)∧(0:Int)=wt (5:Int) a b c (3:Int)∧(0:Int)=wt (5:Int) a b c (4:Int)∧(0:Int)=wt (5:Int) a b c (5:Int)∧b=wt (5:Int) a b c (6:Int)∧(0:Int)=wt (5:Int) a b c (7:Int)∧(0:Int)=wt (5:Int) a b c (8:Int)∧(0:Int)=wt (5:Int) a b c (9:Int)∧(0:Int)=wt (5:Int) a b c (10:Int)∧(0:Int)=wt (5:Int) a b
 c (11:Int)∧True)∧(((-9223372036854775808:Int)≤(6:Int)∧(6:Int)≤(9223372036854775807:Int))∧(IR9 a)∧(IR9 b)∧(IR9 c)∧True→(0:Int)=wt (6:Int) a b c (0:Int)∧(0:Int)=wt (6:Int) a b c (1:Int)∧a=wt (6:Int) a b c (2:Int)∧c=wt (6:Int) a b c
 (3:Int)∧(0:Int)=wt (6:Int) a b c (4:Int)∧(0:Int)=wt (6:Int) a b c (5:Int)∧(0:Int)=wt (6:Int) a b c (6:Int)∧b=wt (6:Int) a b c (7:Int)∧(0:Int)=wt (6:Int) a b c (8:Int)∧(0:Int)=wt (6:Int) a b c (9:Int)∧(0:Int)=wt (6:Int) a b c (10:Int)∧(0:Int)=wt (6:Int) a b c (11:Int)∧True)∧(((-9223372036854775808:Int)≤(7:Int)∧(7:Int)≤(9223372036854775807:Int))∧((-9223372036854775808:Int)≤a∧a ≤
 (9223372036854775807:Int))∧(IR9 b)∧(IR9 c)∧True→(0:Int)=wt (7:Int) a b c (0:Int)∧(0:Int)=wt (7:Int) a b c (1:Int)∧(0:Int)=wt (7:Int) a b c (2:Int)∧a=wt (7:Int) a b c (3:Int)∧c=wt (7:Int) a b c (4:Int)∧(0:Int)=wt (7:Int) a b c (5:Int)∧(0:Int)=wt (7:Int) a b c (6:Int)∧(0:Int)=wt (7:Int) a b c
 (7:Int)∧b=wt (7:Int) a b c (8:Int)∧(0:Int)=wt (7:Int) a b c (9:Int)∧(0:Int)=wt (7:Int) a b c (10:Int)∧(0:Int)=wt (7:Int) a b c (11:Int)∧True)∧(((-9223372036854775808:Int)≤(8:Int)∧(8:Int)≤(9223372036854775807:Int))∧(IR9 a)∧(IR9 b)∧((-9223372036854775808:Int)≤c∧c ≤
 (9223372036854775807:Int))∧True→(0:Int)=wt (8:Int) a b c (0:Int)∧(0:Int)=wt (8:Int) a b c (1:Int)∧(0:Int)=wt (8:Int) a b c (2:Int)∧(0:Int)=wt (8:Int) a b c (3:Int)∧a=wt (8:Int) a b c (4:Int)∧c=wt (8:Int) a b c (5:Int)∧(0:Int)=wt (8:Int) a b c (6:Int)∧(0:Int)=wt (8:Int) a b c (7:Int)∧(0:Int)=wt (8:Int) a b c (8:Int)∧b=wt (8:Int) a b c (9:Int)∧(0:Int)=wt (8:Int) a b c (10:Int)∧(0:Int)=wt (8:Int) a b
 c (11:Int)∧True)∧(((-9223372036854775808:Int)≤(9:Int)∧(9:Int)≤(9223372036854775807:Int))∧(IR9 a)∧(IR9 b)∧(IR9 c)∧True→(0:Int)=wt (9:Int) a b c (0:Int)∧c=wt (9:Int) a b c (1:Int)∧(0:Int)=wt (9:Int) a b c (2:Int)∧(0:Int)=wt (9:Int) a
 b c (3:Int)∧(0:Int)=wt (9:Int) a b c (4:Int)∧a=wt (9:Int) a b c (5:Int)∧(0:Int)=wt (9:Int) a b c (6:Int)∧(0:Int)=wt (9:Int) a b c (7:Int)∧(0:Int)=wt (9:Int) a b c (8:Int)∧(0:Int)=wt (9:Int) a b c (9:Int)∧b=wt (9:Int) a b c (10:Int)∧(0:Int)=wt (9:Int) a b c (11:Int)∧True)∧(((-9223372036854775808:Int)≤(10:Int)∧(10:Int)≤(9223372036854775807:Int))∧((-9223372036854775808:Int)≤a∧a ≤
 (9223372036854775807:Int))∧(IR9 b)∧(IR9 c)∧True→(0:Int)=wt (10:Int) a b c (0:Int)∧(0:Int)=wt (10:Int) a b c (1:Int)∧c=wt (10:Int) a b c (2:Int)∧(0:Int)=wt (10:Int) a b c (3:Int)∧(0:Int)=wt (10:Int) a b c (4:Int)∧(0:Int)=wt (10:Int) a b c (5:Int)∧a=wt (10:Int) a b c (6:Int)∧b=wt (10:Int) a b
 c (7:Int)∧(0:Int)=wt (10:Int) a b c (8:Int)∧(0:Int)=wt (10:Int) a b c (9:Int)∧(0:Int)=wt (10:Int) a b c (10:Int)∧(0:Int)=wt (10:Int) a b c (11:Int)∧True)∧(((-9223372036854775808:Int)≤(11:Int)∧(11:Int)≤(9223372036854775807:Int))∧(IR9 a)∧(IR9 b)∧((-9223372036854775808:Int)≤c∧c ≤
 (9223372036854775807:Int))∧True→(0:Int)=wt (11:Int) a b c (0:Int)∧(0:Int)=wt (11:Int) a b c (1:Int)∧(0:Int)=wt (11:Int) a b c (2:Int)∧c=wt (11:Int) a b c (3:Int)∧(0:Int)=wt (11:Int) a b c (4:Int)∧(0:Int)=wt (11:Int) a b c (5:Int)∧(0:Int)=wt (11:Int) a b c (6:Int)∧a=wt (11:Int) a b c (7:Int)∧b=wt (11:Int) a b c (8:Int)∧(0:Int)=wt (11:Int) a b c (9:Int)∧(0:Int)=wt (11:Int) a b c (10:Int)∧(0:Int)=wt
 (11:Int) a b c (11:Int)∧True)∧(((-9223372036854775808:Int)≤(12:Int)∧(12:Int)≤(9223372036854775807:Int))∧(IR9 a)∧(IR9 b)∧(IR9 c)∧True→(0:Int)=wt (12:Int) a b c (0:Int)∧(0:Int)=wt (12:Int) a b c (1:Int)∧(0:Int)=wt (12:Int) a b c
 (2:Int)∧(0:Int)=wt (12:Int) a b c (3:Int)∧c=wt (12:Int) a b c (4:Int)∧(0:Int)=wt (12:Int) a b c (5:Int)∧(0:Int)=wt (12:Int) a b c (6:Int)∧(0:Int)=wt (12:Int) a b c (7:Int)∧a=wt (12:Int) a b c (8:Int)∧b=wt (12:Int) a b c (9:Int)∧(0:Int)=wt (12:Int) a b c (10:Int)∧(0:Int)=wt (12:Int) a b c (11:Int)∧True)∧(((-9223372036854775808:Int)≤(13:Int)∧(13:Int) ≤
 (9223372036854775807:Int))∧(IR9 a)∧(IR9 b)∧(IR9 c)∧True→(0:Int)=wt (13:Int) a b c (0:Int)∧(0:Int)=wt (13:Int) a b c (1:Int)∧(0:Int)=wt (13:Int) a b c (2:Int)∧(0:Int)=wt (13:Int) a b c (3:Int)∧(0:Int)=wt (13:Int) a b c (4:Int)∧c=wt
 (13:Int) a b c (5:Int)∧(0:Int)=wt (13:Int) a b c (6:Int)∧(0:Int)=wt (13:Int) a b c (7:Int)∧(0:Int)=wt (13:Int) a b c (8:Int)∧a=wt (13:Int) a b c (9:Int)∧b=wt (13:Int) a b c (10:Int)∧(0:Int)=wt (13:Int) a b c (11:Int)∧True)∧(((-9223372036854775808:Int)≤(14:Int)∧(14:Int)≤(9223372036854775807:Int))∧(IR9 a)∧((-9223372036854775808:Int)≤b∧b ≤
 (9223372036854775807:Int))∧(IR9 c)∧True→(0:Int)=wt (14:Int) a b c (0:Int)∧c=wt (14:Int) a b c (1:Int)∧(0:Int)=wt (14:Int) a b c (2:Int)∧(0:Int)=wt (14:Int) a b c (3:Int)∧(0:Int)=wt (14:Int) a b c (4:Int)∧(0:Int)=wt (14:Int) a b c (5:Int)∧b=wt (14:Int) a b c (6:Int)∧(0:Int)=wt (14:Int) a b c (7:Int)∧(0:Int)=wt (14:Int) a b c (8:Int)∧(0:Int)=wt
 (14:Int) a b c (9:Int)∧a=wt (14:Int) a b c (10:Int)∧(0:Int)=wt (14:Int) a b c (11:Int)∧True)∧(((-9223372036854775808:Int)≤(15:Int)∧(15:Int)≤(9223372036854775807:Int))∧(IR9 a)∧(IR9 b)∧(IR9 c)∧True→(0:Int)=wt (15:Int) a b c
 (0:Int)∧(0:Int)=wt (15:Int) a b c (1:Int)∧(0:Int)=wt (15:Int) a b c (2:Int)∧(0:Int)=wt (15:Int) a b c (3:Int)∧(0:Int)=wt (15:Int) a b c (4:Int)∧(0:Int)=wt (15:Int) a b c (5:Int)∧c=wt (15:Int) a b c (6:Int)∧b=wt (15:Int) a b c (7:Int)∧(0:Int)=wt (15:Int) a b c (8:Int)∧(0:Int)=wt (15:Int) a b c (9:Int)∧(0:Int)=wt (15:Int) a b c (10:Int)∧a=wt (15:Int) a b c (11:Int)∧True)∧(((-9223372036854775808:Int)
≤(16:Int)∧(16:Int)≤(9223372036854775807:Int))∧(IR9 a)∧(IR9 b)∧(IR9 c)∧True→(0:Int)=wt (16:Int) a b c (0:Int)∧(0:Int)=wt (16:Int) a b c (1:Int)∧(0:Int)=wt (16:Int) a b c (2:Int)∧(0:Int)=wt (16:Int) a b c (3:Int)∧(0:Int)=wt (16:Int) a
 b c (4:Int)∧(0:Int)=wt (16:Int) a b c (5:Int)∧(0:Int)=wt (16:Int) a b c (6:Int)∧c=wt (16:Int) a b c (7:Int)∧b=wt (16:Int) a b c (8:Int)∧(0:Int)=wt (16:Int) a b c (9:Int)∧(0:Int)=wt (16:Int) a b c (10:Int)∧a=wt (16:Int) a b c (11:Int)∧True)∧(((-9223372036854775808:Int)≤(17:Int)∧(17:Int)≤(9223372036854775807:Int))∧((-9223372036854775808:Int)≤a∧a ≤
 (9223372036854775807:Int))∧(IR9 b)∧(IR9 c)∧True→(0:Int)=wt (17:Int) a b c (0:Int)∧(0:Int)=wt (17:Int) a b c (1:Int)∧(0:Int)=wt (17:Int) a b c (2:Int)∧(0:Int)=wt (17:Int) a b c (3:Int)∧(0:Int)=wt (17:Int) a b c (4:Int)∧(0:Int)=wt (17:Int) a b c (5:Int)∧(0:Int)=wt (17:Int) a b c
 (6:Int)∧(0:Int)=wt (17:Int) a b c (7:Int)∧c=wt (17:Int) a b c (8:Int)∧b=wt (17:Int) a b c (9:Int)∧(0:Int)=wt (17:Int) a b c (10:Int)∧a=wt (17:Int) a b c (11:Int)∧True)∧(((-9223372036854775808:Int)≤(18:Int)∧(18:Int)≤(9223372036854775807:Int))∧(IR9 a)∧(IR9 b)∧((-9223372036854775808:Int) ≤
 c∧c≤(9223372036854775807:Int))∧True→(0:Int)=wt (18:Int) a b c (0:Int)∧(0:Int)=wt (18:Int) a b c (1:Int)∧(0:Int)=wt (18:Int) a b c (2:Int)∧(0:Int)=wt (18:Int) a b c (3:Int)∧(0:Int)=wt (18:Int) a b c (4:Int)∧(0:Int)=wt (18:Int) a b c (5:Int)∧(0:Int)=wt (18:Int) a b c (6:Int)∧(0:Int)=wt (18:Int) a b c (7:Int)∧(0:Int)=wt (18:Int) a b c (8:Int)∧c=wt (18:Int) a b c (9:Int)∧b=wt (18:Int) a b c
 (10:Int)∧a=wt (18:Int) a b c (11:Int)∧True)∧(((-9223372036854775808:Int)≤(19:Int)∧(19:Int)≤(9223372036854775807:Int))∧(IR9 a)∧(IR9 b)∧(IR9 c)∧True→(0:Int)=wt (19:Int) a b c (0:Int)∧(0:Int)=wt (19:Int) a b c (1:Int)∧(0:Int)=wt
 (19:Int) a b c (2:Int)∧(0:Int)=wt (19:Int) a b c (3:Int)∧(0:Int)=wt (19:Int) a b c (4:Int)∧(0:Int)=wt (19:Int) a b c (5:Int)∧b=wt (19:Int) a b c (6:Int)∧(0:Int)=wt (19:Int) a b c (7:Int)∧(0:Int)=wt (19:Int) a b c (8:Int)∧(0:Int)=wt (19:Int) a b c (9:Int)∧c=wt (19:Int) a b c (10:Int)∧a=wt (19:Int) a b c (11:Int)∧True)∧True
theorem of20_P:of20_T:=by
 unfold of20_T
 intro a b c
 repeat' (first | exact trivial | intro _ | rfl | apply And.intro)
def of20_S:Prop:=∀ a b c:Int,allN fcs fun f=>fnK Tryz.prog { glob:=glb } { nt:=25 } (fun _ _=>none) 6 Tryz.f33 [.agg [.int .i64 f,.int .i64 a,.int .i64 b,.int .i64 c]] (.agg [.int .i64 (wt f a b c 0),.int .i64 (wt f a b c 1),.int .i64 (wt f a b c 2),.int .i64 (wt f a b c 3),.int .i64 (wt f a b c 4),.int .i64 (wt f a b c 5),.int .i64 (wt f a b c 6),.int .i64 (wt f a b c 7),.int .i64 (wt f a b c 8),.int .i64 (wt f a b c 9),.int .i64 (wt f a b c 10),.int .i64 (wt f a b c 11)])
theorem of20_e:of20_T=of20_S:=by kernel_rfl
theorem of20:of20_S:=@Eq.mp (of20_T) (of20_S) (of20_e) (of20_P)
def on20_T:Prop :=
  ∀ (w0 w1 w2 w3 w4 w5 w6 w7 w8 w9 w10 w11:Int),((-9223372036854775808:Int)≤(0:Int)∧(0:Int)≤(9223372036854775807:Int)→(IR9 w0)∧(IR9 w1)∧(IR9 w2)∧((-9223372036854775808:Int)≤w3∧w3 ≤
 (9223372036854775807:Int))∧(IR9 w4)∧(IR9 w5)∧(IR9 w6)∧(IR9 w7)∧(IR9 w8)∧((-9223372036854775808:Int)≤w9∧w9 ≤
 (9223372036854775807:Int))∧(IR9 w10)∧(IR9 w11)∧True→True∧((0:Int)=0∧w0=sel [w0,w1,w2,w3,w4,w5,w6,w7,w8,w9,w10,w11] (0:Int)∧w1=sel [w0,w1,w2,w3,w4,w5,w6,w7,w8,w9,w10,w11] (1:Int)∧w2=sel [w0,w1,w2,w3,w4,w5,w6,w7,w8,w9,w10,w11] (2:Int)∧True)∧vld (0:Int) w0 w1 w2=vld (0:Int) (sel
 [w0,w1,w2,w3,w4,w5,w6,w7,w8,w9,w10,w11] (0:Int)) (sel [w0,w1,w2,w3,w4,w5,w6,w7,w8,w9,w10,w11] (1:Int)) (sel [w0,w1,w2,w3,w4,w5,w6,w7,w8,w9,w10,w11] (2:Int))∧True)∧((-9223372036854775808:Int)≤(1:Int)∧(1:Int)≤(9223372036854775807:Int)→(IR9 w0)∧(IR9 w1)∧((-9223372036854775808:Int) ≤
 w2∧w2≤(9223372036854775807:Int))∧(IR9 w3)∧(IR9 w4)∧(IR9 w5)∧(IR9 w6)∧(IR9 w7)∧((-9223372036854775808:Int)≤w8∧w8 ≤
 (9223372036854775807:Int))∧(IR9 w9)∧(IR9 w10)∧(IR9 w11)∧True→True∧((1:Int)=1∧w0=sel [w0,w1,w2,w3,w4,w5,w6,w7,w8,w9,w10,w11] (0:Int)∧w2=sel [w0,w1,w2,w3,w4,w5,w6,w7,w8,w9,w10,w11] (2:Int)∧w3=sel
 [w0,w1,w2,w3,w4,w5,w6,w7,w8,w9,w10,w11] (3:Int)∧True)∧vld (1:Int) w0 w2 w3=vld (1:Int) (sel [w0,w1,w2,w3,w4,w5,w6,w7,w8,w9,w10,w11] (0:Int)) (sel [w0,w1,w2,w3,w4,w5,w6,w7,w8,w9,w10,w11] (2:Int)) (sel [w0,w1,w2,w3,w4,w5,w6,w7,w8,w9,w10,w11] (3:Int))∧True)∧((-9223372036854775808:Int)≤(2:Int)∧(2:Int)≤(9223372036854775807:Int)→((-9223372036854775808:Int)≤w0∧w0 ≤
 (9223372036854775807:Int))∧(IR9 w1)∧(IR9 w2)∧(IR9 w3)∧(IR9 w4)∧(IR9 w5)∧((-9223372036854775808:Int)≤w6∧w6 ≤
 (9223372036854775807:Int))∧(IR9 w7)∧(IR9 w8)∧(IR9 w9)∧(IR9 w10)∧(IR9 w11)∧True→True∧((2:Int)=2∧w0=sel
 [w0,w1,w2,w3,w4,w5,w6,w7,w8,w9,w10,w11] (0:Int)∧w3=sel [w0,w1,w2,w3,w4,w5,w6,w7,w8,w9,w10,w11] (3:Int)∧w4=sel [w0,w1,w2,w3,w4,w5,w6,w7,w8,w9,w10,w11] (4:Int)∧True)∧vld (2:Int) w0 w3 w4=vld (2:Int) (sel [w0,w1,w2,w3,w4,w5,w6,w7,w8,w9,w10,w11] (0:Int)) (sel [w0,w1,w2,w3,w4,w5,w6,w7,w8,w9,w10,w11] (3:Int)) (sel [w0,w1,w2,w3,w4,w5,w6,w7,w8,w9,w10,w11] (4:Int))∧True)∧((-9223372036854775808:Int) ≤
 (3:Int)∧(3:Int)≤(9223372036854775807:Int)→(IR9 w0)∧(IR9 w1)∧(IR9 w2)∧(IR9 w3)∧(IR9 w4)∧((-9223372036854775808:Int) ≤
 w5∧w5≤(9223372036854775807:Int))∧(IR9 w6)∧(IR9 w7)∧(IR9 w8)∧(IR9 w9)∧(IR9 w10)∧((-9223372036854775808:Int)≤w11∧w11 ≤
 (9223372036854775807:Int))∧True→True∧((3:Int)=3∧w0=sel [w0,w1,w2,w3,w4,w5,w6,w7,w8,w9,w10,w11] (0:Int)∧w4=sel [w0,w1,w2,w3,w4,w5,w6,w7,w8,w9,w10,w11] (4:Int)∧w5=sel [w0,w1,w2,w3,w4,w5,w6,w7,w8,w9,w10,w11] (5:Int)∧True)∧vld (3:Int) w0 w4 w5=vld (3:Int) (sel [w0,w1,w2,w3,w4,w5,w6,w7,w8,w9,w10,w11] (0:Int)) (sel [w0,w1,w2,w3,w4,w5,w6,w7,w8,w9,w10,w11] (4:Int)) (sel
 [w0,w1,w2,w3,w4,w5,w6,w7,w8,w9,w10,w11] (5:Int))∧True)∧((-9223372036854775808:Int)≤(4:Int)∧(4:Int)≤(9223372036854775807:Int)→(IR9 w0)∧(IR9 w1)∧(IR9 w2)∧((-9223372036854775808:Int)≤w3∧w3 ≤
 (9223372036854775807:Int))∧(IR9 w4)∧(IR9 w5)∧(IR9 w6)∧(IR9 w7)∧(IR9 w8)∧((-9223372036854775808:Int)≤w9∧w9 ≤
 (9223372036854775807:Int))∧(IR9 w10)∧(IR9 w11)∧True→True∧((4:Int)=4∧w0=sel [w0,w1,w2,w3,w4,w5,w6,w7,w8,w9,w10,w11] (0:Int)∧w5=sel [w0,w1,w2,w3,w4,w5,w6,w7,w8,w9,w10,w11] (5:Int)∧w1=sel [w0,w1,w2,w3,w4,w5,w6,w7,w8,w9,w10,w11] (1:Int)∧True)∧vld (4:Int) w0 w5 w1=vld (4:Int) (sel
 [w0,w1,w2,w3,w4,w5,w6,w7,w8,w9,w10,w11] (0:Int)) (sel [w0,w1,w2,w3,w4,w5,w6,w7,w8,w9,w10,w11] (5:Int)) (sel [w0,w1,w2,w3,w4,w5,w6,w7,w8,w9,w10,w11] (1:Int))∧True)∧((-9223372036854775808:Int)≤(5:Int)∧(5:Int)≤(9223372036854775807:Int)→(IR9 w0)∧(IR9 w1)∧((-9223372036854775808:Int) ≤
 w2∧w2≤(9223372036854775807:Int))∧(IR9 w3)∧(IR9 w4)∧(IR9 w5)∧(IR9 w6)∧(IR9 w7)∧((-9223372036854775808:Int)≤w8∧w8 ≤
 (9223372036854775807:Int))∧(IR9 w9)∧(IR9 w10)∧(IR9 w11)∧True→True∧((5:Int)=5∧w1=sel [w0,w1,w2,w3,w4,w5,w6,w7,w8,w9,w10,w11] (1:Int)∧w6=sel [w0,w1,w2,w3,w4,w5,w6,w7,w8,w9,w10,w11] (6:Int)∧w2=sel
 [w0,w1,w2,w3,w4,w5,w6,w7,w8,w9,w10,w11] (2:Int)∧True)∧vld (5:Int) w1 w6 w2=vld (5:Int) (sel [w0,w1,w2,w3,w4,w5,w6,w7,w8,w9,w10,w11] (1:Int)) (sel [w0,w1,w2,w3,w4,w5,w6,w7,w8,w9,w10,w11] (6:Int)) (sel [w0,w1,w2,w3,w4,w5,w6,w7,w8,w9,w10,w11] (2:Int))∧True)∧((-9223372036854775808:Int)≤(6:Int)∧(6:Int)≤(9223372036854775807:Int)→((-9223372036854775808:Int)≤w0∧w0 ≤
 (9223372036854775807:Int))∧(IR9 w1)∧(IR9 w2)∧(IR9 w3)∧(IR9 w4)∧(IR9 w5)∧((-9223372036854775808:Int)≤w6∧w6 ≤
 (9223372036854775807:Int))∧(IR9 w7)∧(IR9 w8)∧(IR9 w9)∧(IR9 w10)∧(IR9 w11)∧True→True∧((6:Int)=6∧w2=sel
 [w0,w1,w2,w3,w4,w5,w6,w7,w8,w9,w10,w11] (2:Int)∧w7=sel [w0,w1,w2,w3,w4,w5,w6,w7,w8,w9,w10,w11] (7:Int)∧w3=sel [w0,w1,w2,w3,w4,w5,w6,w7,w8,w9,w10,w11] (3:Int)∧True)∧vld (6:Int) w2 w7 w3=vld (6:Int) (sel [w0,w1,w2,w3,w4,w5,w6,w7,w8,w9,w10,w11] (2:Int)) (sel [w0,w1,w2,w3,w4,w5,w6,w7,w8,w9,w10,w11] (7:Int)) (sel [w0,w1,w2,w3,w4,w5,w6,w7,w8,w9,w10,w11] (3:Int))∧True)∧((-9223372036854775808:Int) ≤
 (7:Int)∧(7:Int)≤(9223372036854775807:Int)→(IR9 w0)∧(IR9 w1)∧(IR9 w2)∧(IR9 w3)∧(IR9 w4)∧((-9223372036854775808:Int) ≤
 w5∧w5≤(9223372036854775807:Int))∧(IR9 w6)∧(IR9 w7)∧(IR9 w8)∧(IR9 w9)∧(IR9 w10)∧((-9223372036854775808:Int)≤w11∧w11 ≤
 (9223372036854775807:Int))∧True→True∧((7:Int)=7∧w3=sel [w0,w1,w2,w3,w4,w5,w6,w7,w8,w9,w10,w11] (3:Int)∧w8=sel [w0,w1,w2,w3,w4,w5,w6,w7,w8,w9,w10,w11] (8:Int)∧w4=sel [w0,w1,w2,w3,w4,w5,w6,w7,w8,w9,w10,w11] (4:Int)∧True)∧vld (7:Int) w3 w8 w4=vld (7:Int) (sel [w0,w1,w2,w3,w4,w5,w6,w7,w8,w9,w10,w11] (3:Int)) (sel [w0,w1,w2,w3,w4,w5,w6,w7,w8,w9,w10,w11] (8:Int)) (sel
 [w0,w1,w2,w3,w4,w5,w6,w7,w8,w9,w10,w11] (4:Int))∧True)∧((-9223372036854775808:Int)≤(8:Int)∧(8:Int)≤(9223372036854775807:Int)→(IR9 w0)∧(IR9 w1)∧(IR9 w2)∧((-9223372036854775808:Int)≤w3∧w3 ≤
 (9223372036854775807:Int))∧(IR9 w4)∧(IR9 w5)∧(IR9 w6)∧(IR9 w7)∧(IR9 w8)∧((-9223372036854775808:Int)≤w9∧w9 ≤
 (9223372036854775807:Int))∧(IR9 w10)∧(IR9 w11)∧True→True∧((8:Int)=8∧w4=sel [w0,w1,w2,w3,w4,w5,w6,w7,w8,w9,w10,w11] (4:Int)∧w9=sel [w0,w1,w2,w3,w4,w5,w6,w7,w8,w9,w10,w11] (9:Int)∧w5=sel [w0,w1,w2,w3,w4,w5,w6,w7,w8,w9,w10,w11] (5:Int)∧True)∧vld (8:Int) w4 w9 w5=vld (8:Int) (sel
 [w0,w1,w2,w3,w4,w5,w6,w7,w8,w9,w10,w11] (4:Int)) (sel [w0,w1,w2,w3,w4,w5,w6,w7,w8,w9,w10,w11] (9:Int)) (sel [w0,w1,w2,w3,w4,w5,w6,w7,w8,w9,w10,w11] (5:Int))∧True)∧((-9223372036854775808:Int)≤(9:Int)∧(9:Int)≤(9223372036854775807:Int)→(IR9 w0)∧(IR9 w1)∧((-9223372036854775808:Int) ≤
 w2∧w2≤(9223372036854775807:Int))∧(IR9 w3)∧(IR9 w4)∧(IR9 w5)∧(IR9 w6)∧(IR9 w7)∧((-9223372036854775808:Int)≤w8∧w8 ≤
 (9223372036854775807:Int))∧(IR9 w9)∧(IR9 w10)∧(IR9 w11)∧True→True∧((9:Int)=9∧w5=sel [w0,w1,w2,w3,w4,w5,w6,w7,w8,w9,w10,w11] (5:Int)∧w10=sel [w0,w1,w2,w3,w4,w5,w6,w7,w8,w9,w10,w11] (10:Int)∧w1=sel
 [w0,w1,w2,w3,w4,w5,w6,w7,w8,w9,w10,w11] (1:Int)∧True)∧vld (9:Int) w5 w10 w1=vld (9:Int) (sel [w0,w1,w2,w3,w4,w5,w6,w7,w8,w9,w10,w11] (5:Int)) (sel [w0,w1,w2,w3,w4,w5,w6,w7,w8,w9,w10,w11] (10:Int)) (sel [w0,w1,w2,w3,w4,w5,w6,w7,w8,w9,w10,w11] (1:Int))∧True)∧((-9223372036854775808:Int)≤(10:Int)∧(10:Int)≤(9223372036854775807:Int)→((-9223372036854775808:Int)≤w0∧w0 ≤
 (9223372036854775807:Int))∧(IR9 w1)∧(IR9 w2)∧(IR9 w3)∧(IR9 w4)∧(IR9 w5)∧((-9223372036854775808:Int)≤w6∧w6 ≤
 (9223372036854775807:Int))∧(IR9 w7)∧(IR9 w8)∧(IR9 w9)∧(IR9 w10)∧(IR9 w11)∧True→True∧((10:Int)=10∧w6=sel
 [w0,w1,w2,w3,w4,w5,w6,w7,w8,w9,w10,w11] (6:Int)∧w7=sel [w0,w1,w2,w3,w4,w5,w6,w7,w8,w9,w10,w11] (7:Int)∧w2=sel [w0,w1,w2,w3,w4,w5,w6,w7,w8,w9,w10,w11] (2:Int)∧True)∧vld (10:Int) w6 w7 w2=vld (10:Int) (sel [w0,w1,w2,w3,w4,w5,w6,w7,w8,w9,w10,w11] (6:Int)) (sel [w0,w1,w2,w3,w4,w5,w6,w7,w8,w9,w10,w11] (7:Int)) (sel [w0,w1,w2,w3,w4,w5,w6,w7,w8,w9,w10,w11] (2:Int))∧True)∧((-9223372036854775808:Int) ≤
 (11:Int)∧(11:Int)≤(9223372036854775807:Int)→(IR9 w0)∧(IR9 w1)∧(IR9 w2)∧(IR9 w3)∧(IR9 w4)∧((-9223372036854775808:Int) ≤
 w5∧w5≤(9223372036854775807:Int))∧(IR9 w6)∧(IR9 w7)∧(IR9 w8)∧(IR9 w9)∧(IR9 w10)∧((-9223372036854775808:Int)≤w11∧w11 ≤
 (9223372036854775807:Int))∧True→True∧((11:Int)=11∧w7=sel [w0,w1,w2,w3,w4,w5,w6,w7,w8,w9,w10,w11] (7:Int)∧w8=sel [w0,w1,w2,w3,w4,w5,w6,w7,w8,w9,w10,w11] (8:Int)∧w3=sel [w0,w1,w2,w3,w4,w5,w6,w7,w8,w9,w10,w11] (3:Int)∧True)∧vld (11:Int) w7 w8 w3=vld (11:Int) (sel [w0,w1,w2,w3,w4,w5,w6,w7,w8,w9,w10,w11] (7:Int)) (sel [w0,w1,w2,w3,w4,w5,w6,w7,w8,w9,w10,w11] (8:Int)) (sel
 [w0,w1,w2,w3,w4,w5,w6,w7,w8,w9,w10,w11] (3:Int))∧True)∧((-9223372036854775808:Int)≤(12:Int)∧(12:Int)≤(9223372036854775807:Int)→(IR9 w0)∧(IR9 w1)∧(IR9 w2)∧((-9223372036854775808:Int)≤w3∧w3 ≤
 (9223372036854775807:Int))∧(IR9 w4)∧(IR9 w5)∧(IR9 w6)∧(IR9 w7)∧(IR9 w8)∧((-9223372036854775808:Int)≤w9∧w9 ≤
 (9223372036854775807:Int))∧(IR9 w10)∧(IR9 w11)∧True→True∧((12:Int)=12∧w8=sel [w0,w1,w2,w3,w4,w5,w6,w7,w8,w9,w10,w11] (8:Int)∧w9=sel [w0,w1,w2,w3,w4,w5,w6,w7,w8,w9,w10,w11] (9:Int)∧w4=sel [w0,w1,w2,w3,w4,w5,w6,w7,w8,w9,w10,w11] (4:Int)∧True)∧vld (12:Int) w8 w9 w4=vld (12:Int) (sel
 [w0,w1,w2,w3,w4,w5,w6,w7,w8,w9,w10,w11] (8:Int)) (sel [w0,w1,w2,w3,w4,w5,w6,w7,w8,w9,w10,w11] (9:Int)) (sel [w0,w1,w2,w3,w4,w5,w6,w7,w8,w9,w10,w11] (4:Int))∧True)∧((-9223372036854775808:Int)≤(13:Int)∧(13:Int)≤(9223372036854775807:Int)→(IR9 w0)∧(IR9 w1)∧((-9223372036854775808:Int) ≤
 w2∧w2≤(9223372036854775807:Int))∧(IR9 w3)∧(IR9 w4)∧(IR9 w5)∧(IR9 w6)∧(IR9 w7)∧((-9223372036854775808:Int)≤w8∧w8 ≤
 (9223372036854775807:Int))∧(IR9 w9)∧(IR9 w10)∧(IR9 w11)∧True→True∧((13:Int)=13∧w9=sel [w0,w1,w2,w3,w4,w5,w6,w7,w8,w9,w10,w11] (9:Int)∧w10=sel [w0,w1,w2,w3,w4,w5,w6,w7,w8,w9,w10,w11] (10:Int)∧w5=sel
 [w0,w1,w2,w3,w4,w5,w6,w7,w8,w9,w10,w11] (5:Int)∧True)∧vld (13:Int) w9 w10 w5=vld (13:Int) (sel [w0,w1,w2,w3,w4,w5,w6,w7,w8,w9,w10,w11] (9:Int)) (sel [w0,w1,w2,w3,w4,w5,w6,w7,w8,w9,w10,w11] (10:Int)) (sel [w0,w1,w2,w3,w4,w5,w6,w7,w8,w9,w10,w11] (5:Int))∧True)∧((-9223372036854775808:Int)≤(14:Int)∧(14:Int)≤(9223372036854775807:Int)→((-9223372036854775808:Int)≤w0∧w0 ≤
 (9223372036854775807:Int))∧(IR9 w1)∧(IR9 w2)∧(IR9 w3)∧(IR9 w4)∧(IR9 w5)∧((-9223372036854775808:Int)≤w6∧w6 ≤
 (9223372036854775807:Int))∧(IR9 w7)∧(IR9 w8)∧(IR9 w9)∧(IR9 w10)∧(IR9 w11)∧True→True∧((14:Int)=14∧w10=sel
 [w0,w1,w2,w3,w4,w5,w6,w7,w8,w9,w10,w11] (10:Int)∧w6=sel [w0,w1,w2,w3,w4,w5,w6,w7,w8,w9,w10,w11] (6:Int)∧w1=sel [w0,w1,w2,w3,w4,w5,w6,w7,w8,w9,w10,w11] (1:Int)∧True)∧vld (14:Int) w10 w6 w1=vld (14:Int) (sel [w0,w1,w2,w3,w4,w5,w6,w7,w8,w9,w10,w11] (10:Int)) (sel [w0,w1,w2,w3,w4,w5,w6,w7,w8,w9,w10,w11] (6:Int)) (sel [w0,w1,w2,w3,w4,w5,w6,w7,w8,w9,w10,w11] (1:Int))∧True)∧((-9223372036854775808:Int) ≤
 (15:Int)∧(15:Int)≤(9223372036854775807:Int)→(IR9 w0)∧(IR9 w1)∧(IR9 w2)∧(IR9 w3)∧(IR9 w4)∧((-9223372036854775808:Int) ≤
 w5∧w5≤(9223372036854775807:Int))∧(IR9 w6)∧(IR9 w7)∧(IR9 w8)∧(IR9 w9)∧(IR9 w10)∧((-9223372036854775808:Int)≤w11∧w11 ≤
 (9223372036854775807:Int))∧True→True∧((15:Int)=15∧w11=sel [w0,w1,w2,w3,w4,w5,w6,w7,w8,w9,w10,w11] (11:Int)∧w7=sel [w0,w1,w2,w3,w4,w5,w6,w7,w8,w9,w10,w11] (7:Int)∧w6=sel [w0,w1,w2,w3,w4,w5,w6,w7,w8,w9,w10,w11] (6:Int)∧True)∧vld (15:Int) w11 w7 w6=vld (15:Int) (sel [w0,w1,w2,w3,w4,w5,w6,w7,w8,w9,w10,w11] (11:Int)) (sel [w0,w1,w2,w3,w4,w5,w6,w7,w8,w9,w10,w11] (7:Int)) (sel
 [w0,w1,w2,w3,w4,w5,w6,w7,w8,w9,w10,w11] (6:Int))∧True)∧((-9223372036854775808:Int)≤(16:Int)∧(16:Int)≤(9223372036854775807:Int)→(IR9 w0)∧(IR9 w1)∧(IR9 w2)∧((-9223372036854775808:Int)≤w3∧w3 ≤
 (9223372036854775807:Int))∧(IR9 w4)∧(IR9 w5)∧(IR9 w6)∧(IR9 w7)∧(IR9 w8)∧((-9223372036854775808:Int)≤w9∧w9 ≤
 (9223372036854775807:Int))∧(IR9 w10)∧(IR9 w11)∧True→True∧((16:Int)=16∧w11=sel [w0,w1,w2,w3,w4,w5,w6,w7,w8,w9,w10,w11] (11:Int)∧w8=sel [w0,w1,w2,w3,w4,w5,w6,w7,w8,w9,w10,w11] (8:Int)∧w7=sel [w0,w1,w2,w3,w4,w5,w6,w7,w8,w9,w10,w11] (7:Int)∧True)∧vld (16:Int) w11 w8 w7=vld (16:Int) (sel
 [w0,w1,w2,w3,w4,w5,w6,w7,w8,w9,w10,w11] (11:Int)) (sel [w0,w1,w2,w3,w4,w5,w6,w7,w8,w9,w10,w11] (8:Int)) (sel [w0,w1,w2,w3,w4,w5,w6,w7,w8,w9,w10,w11] (7:Int))∧True)∧((-9223372036854775808:Int)≤(17:Int)∧(17:Int)≤(9223372036854775807:Int)→(IR9 w0)∧(IR9 w1)∧((-9223372036854775808:Int) ≤
 w2∧w2≤(9223372036854775807:Int))∧(IR9 w3)∧(IR9 w4)∧(IR9 w5)∧(IR9 w6)∧(IR9 w7)∧((-9223372036854775808:Int)≤w8∧w8 ≤
 (9223372036854775807:Int))∧(IR9 w9)∧(IR9 w10)∧(IR9 w11)∧True→True∧((17:Int)=17∧w11=sel [w0,w1,w2,w3,w4,w5,w6,w7,w8,w9,w10,w11] (11:Int)∧w9=sel [w0,w1,w2,w3,w4,w5,w6,w7,w8,w9,w10,w11] (9:Int)∧w8=sel
 [w0,w1,w2,w3,w4,w5,w6,w7,w8,w9,w10,w11] (8:Int)∧True)∧vld (17:Int) w11 w9 w8=vld (17:Int) (sel [w0,w1,w2,w3,w4,w5,w6,w7,w8,w9,w10,w11] (11:Int)) (sel [w0,w1,w2,w3,w4,w5,w6,w7,w8,w9,w10,w11] (9:Int)) (sel [w0,w1,w2,w3,w4,w5,w6,w7,w8,w9,w10,w11] (8:Int))∧True)∧((-9223372036854775808:Int)≤(18:Int)∧(18:Int)≤(9223372036854775807:Int)→((-9223372036854775808:Int)≤w0∧w0 ≤
 (9223372036854775807:Int))∧(IR9 w1)∧(IR9 w2)∧(IR9 w3)∧(IR9 w4)∧(IR9 w5)∧((-9223372036854775808:Int)≤w6∧w6 ≤
 (9223372036854775807:Int))∧(IR9 w7)∧(IR9 w8)∧(IR9 w9)∧(IR9 w10)∧(IR9 w11)∧True→True∧((18:Int)=18∧w11=sel
 [w0,w1,w2,w3,w4,w5,w6,w7,w8,w9,w10,w11] (11:Int)∧w10=sel [w0,w1,w2,w3,w4,w5,w6,w7,w8,w9,w10,w11] (10:Int)∧w9=sel [w0,w1,w2,w3,w4,w5,w6,w7,w8,w9,w10,w11] (9:Int)∧True)∧vld (18:Int) w11 w10 w9=vld (18:Int) (sel [w0,w1,w2,w3,w4,w5,w6,w7,w8,w9,w10,w11] (11:Int)) (sel [w0,w1,w2,w3,w4,w5,w6,w7,w8,w9,w10,w11] (10:Int)) (sel [w0,w1,w2,w3,w4,w5,w6,w7,w8,w9,w10,w11] (9:Int))∧True)∧((-9223372036854775808:Int)
≤(19:Int)∧(19:Int)≤(9223372036854775807:Int)→(IR9 w0)∧(IR9 w1)∧(IR9 w2)∧(IR9 w3)∧(IR9 w4)∧((-9223372036854775808:Int)
≤w5∧w5≤(9223372036854775807:Int))∧(IR9 w6)∧(IR9 w7)∧(IR9 w8)∧(IR9 w9)∧(IR9 w10)∧((-9223372036854775808:Int)≤w11∧w11
≤(9223372036854775807:Int))∧True→True∧((19:Int)=19∧w11=sel [w0,w1,w2,w3,w4,w5,w6,w7,w8,w9,w10,w11] (11:Int)∧w6=sel [w0,w1,w2,w3,w4,w5,w6,w7,w8,w9,w10,w11] (6:Int)∧w10=sel [w0,w1,w2,w3,w4,w5,w6,w7,w8,w9,w10,w11] (10:Int)∧True)∧vld (19:Int) w11 w6 w10=vld (19:Int) (sel [w0,w1,w2,w3,w4,w5,w6,w7,w8,w9,w10,w11] (11:Int)) (sel [w0,w1,w2,w3,w4,w5,w6,w7,w8,w9,w10,w11] (6:Int)) (sel
 [w0,w1,w2,w3,w4,w5,w6,w7,w8,w9,w10,w11] (10:Int))∧True)∧True
theorem on20_P:on20_T:=by
 unfold on20_T
 intro w0 w1 w2 w3 w4 w5 w6 w7 w8 w9 w10 w11
 repeat' (first | exact trivial | intro _ | rfl | apply And.intro)
def on20_S:Prop:=∀ w0 w1 w2 w3 w4 w5 w6 w7 w8 w9 w10 w11:Int,allN fcs fun n=>fnK Tryz.prog { glob:=glb,spec:=lk [(32,valid_s vld)] } { nt:=28 } (fun _ _=>none) 6 Tryz.f34 [.int .i64 n,.agg [.int .i64 w0,.int .i64 w1,.int .i64 w2,.int .i64 w3,.int .i64 w4,.int .i64 w5,.int .i64 w6,.int .i64 w7,.int .i64 w8,.int .i64 w9,.int .i64 w10,.int .i64 w11]] (.tup [.agg [.int .i64 n,.int .i64 (sel [w0,w1,w2,w3,w4,w5,w6,w7,w8,w9,w10,w11] (crn n 0)),.int .i64 (sel [w0,w1,w2,w3,w4,w5,w6,w7,w8,w9,w10,w11] (crn n 1)),.int .i64 (sel [w0,w1,w2,w3,w4,w5,w6,w7,w8,w9,w10,w11] (crn n 2))],.bool (vld n (sel [w0,w1,w2,w3,w4,w5,w6,w7,w8,w9,w10,w11] (crn n 0)) (sel [w0,w1,w2,w3,w4,w5,w6,w7,w8,w9,w10,w11] (crn n 1)) (sel [w0,w1,w2,w3,w4,w5,w6,w7,w8,w9,w10,w11] (crn n 2)))])
theorem on20_e:on20_T=on20_S:=by kernel_rfl
theorem on20:on20_S:=@Eq.mp (on20_T) (on20_S) (on20_e) (on20_P)
theorem of_ok:SOK Tryz.prog glb 33 of_s:=by
 refine ⟨fok Tryz.func33 (by kernel_rfl) (by kernel_rfl),?_⟩
 intro xs pre r h hp
 unfold of_s at h
 split at h
 ·simp only [Option.some.injEq,Prod.mk.injEq] at h
  obtain ⟨h1,h2⟩:=h
  subst h1 h2
  exact fnK_sound tyNil (by exact specOK (l:=[]) (l':=[]) rfl rfl trivial trivial) (by kernel_rfl) Tryz.func33 rfl (allN_get (of20 _ _ _) (mem_fcs hp))
 ·cases h
theorem on_ok:SOK Tryz.prog glb 34 on_s:=by
 refine ⟨fok Tryz.func34 (by kernel_rfl) (by kernel_rfl),?_⟩
 intro xs pre r h hp
 unfold on_s at h
 split at h
 ·simp only [Option.some.injEq,Prod.mk.injEq] at h
  obtain ⟨h1,h2⟩:=h
  subst h1 h2
  exact fnK_sound tyNil (by exact specOK (l':=[]) rfl rfl ⟨valid_ok glb,trivial⟩ trivial) (by kernel_rfl) Tryz.func34 rfl (allN_get (on20 _ _ _ _ _ _ _ _ _ _ _ _) (mem_fcs hp))
 ·cases h
end Go.Proofs.YtgbbmadjdaphnaaGreatDoor
namespace Go.Proofs.YtgbbmadjdaphnaaGreatDoor
open Go
set_option linter.unusedVariables false
set_option linter.unusedSimpArgs false
def onW (f a b c n:Int) (k:Nat):Int:=wt f a b c (crn n k)
def onV (f a b c n:Int):Bool:=vld n (onW f a b c n 0) (onW f a b c n 1) (onW f a b c n 2)
def wts (f a b c:Int):List Int:=[wt f a b c 0,wt f a b c 1,wt f a b c 2,wt f a b c 3,wt f a b c 4,wt f a b c 5,wt f a b c 6,wt f a b c 7,wt f a b c 8,wt f a b c 9,wt f a b c 10,wt f a b c 11]
theorem sel_wts (f a b c:Int) {n:Int} (h:0≤n∧n < 20):sel (wts f a b c) (crn n 0)=onW f a b c n 0∧sel (wts f a b c) (crn n 1)=onW f a b c n 1∧sel (wts f a b c) (crn n 2)=onW f a b c n 2:=by
 refine allN_get (l:=fcs) (p:=fun n=>sel (wts f a b c) (crn n 0)=onW f a b c n 0∧sel (wts f a b c) (crn n 1)=onW f a b c n 1∧sel (wts f a b c) (crn n 2)=onW f a b c n 2) ?_ (mem_fcs h)
 simp only [allN,fcs]
 repeat' (first | exact trivial | rfl | apply And.intro)
def nrmL (f a b c:Int):List Int→Int × Int × Int × Int
 | []=>(f,a,b,c)
 | n::l=>if onV f a b c n then (n,onW f a b c n 0,onW f a b c n 1,onW f a b c n 2) else nrmL f a b c l
theorem nrmL_t {f a b c n:Int} {l:List Int} (h:onV f a b c n=true):nrmL f a b c (n::l)=(n,onW f a b c n 0,onW f a b c n 1,onW f a b c n 2):=by simp [nrmL,h]
theorem nrmL_f {f a b c n:Int} {l:List Int} (h:onV f a b c n=false):nrmL f a b c (n::l)=nrmL f a b c l:=by simp [nrmL,h]
def nrm (f a b c:Int):Int × Int × Int × Int:=if vld f a b c then nrmL f a b c fcs else (0,0,0,0)
def err (v:Bool):Int:=if v then 0 else 1
def sameW (f a b c f' a' b' c':Int):Bool:=decide (wts f a b c=wts f' a' b' c')
def normal_s (vld:Int→Int→Int→Int→Bool) (nrm:Int→Int→Int→Int→Int × Int × Int × Int):Sp
 | [.agg [.int .i64 f,.int .i64 a,.int .i64 b,.int .i64 c]]=>some (True,.tup [.agg [.int .i64 (nrm f a b c).1,.int .i64 (nrm f a b c).2.1,.int .i64 (nrm f a b c).2.2.1,.int .i64 (nrm f a b c).2.2.2],.int .i64 (err (vld f a b c))])
 | _=>none
abbrev wt12 (f a b c:Int):=[wt f a b c (0:Int),wt f a b c (1:Int),wt f a b c (2:Int),wt f a b c (3:Int),wt f a b c (4:Int),wt f a b c (5:Int),wt f a b c (6:Int),wt f a b c (7:Int),wt f a b c (8:Int),wt f a b c (9:Int),wt f a b c (10:Int),wt f a b c (11:Int)]
def normal_T (vld':Int→Int→Int→Int→Bool) (nrm:Int→Int→Int→Int→Int × Int × Int × Int):Prop :=
  ∀ (f a b c:Int),(IR9 f)∧(IR9 a)∧(IR9 b)∧(IR9 c)∧True→True∧bif !vld f a b c then ((0:Int)=(nrm f a b c).fst∧(0:Int)=(nrm f a b c).snd.fst∧(0:Int)=(nrm f a
 b c).snd.snd.fst∧(0:Int)=(nrm f a b c).snd.snd.snd∧True)∧(1:Int)=err (vld' f a b c)∧True else (0≤f∧f < (20:Int))∧((0:Int)≤(0:Int)∧(0:Int) < (20:Int))∧bif vld (0:Int) (sel (wt12 f a b c) (0:Int)) (sel (wt12 f a b c) (1:Int)) (sel (wt12 f a b c) (2:Int)) then ((0:Int)=(nrm f a b c).fst∧sel (wt12 f a b c) (0:Int)=(nrm f a b c).snd.fst∧sel (wt12 f a b c) (1:Int)=(nrm
 f a b c).snd.snd.fst∧sel (wt12 f a b c) (2:Int)=(nrm f a b c).snd.snd.snd∧True)∧(0:Int)=err (vld' f a b c)∧True else ((0:Int)≤(1:Int)∧(1:Int) < (20:Int))∧bif vld (1:Int) (sel (wt12 f a b c) (0:Int)) (sel (wt12 f a b c) (2:Int)) (sel (wt12 f a b c) (3:Int)) then ((1:Int)=(nrm f a b c).fst∧sel (wt12 f a b c) (0:Int)=(nrm f a b c).snd.fst∧sel (wt12 f a b c) (2:Int)=(nrm f a
 b c).snd.snd.fst∧sel (wt12 f a b c) (3:Int)=(nrm f a b c).snd.snd.snd∧True)∧(0:Int)=err (vld' f a b c)∧True else ((0:Int)≤(2:Int)∧(2:Int) < (20:Int))∧bif vld (2:Int) (sel (wt12 f a b c) (0:Int)) (sel (wt12 f a b c) (3:Int)) (sel (wt12 f a b c) (4:Int)) then ((2:Int)=(nrm f a b c).fst∧sel (wt12 f a b c) (0:Int)=(nrm f a b c).snd.fst∧sel (wt12 f a b c) (3:Int)=(nrm f a b
 c).snd.snd.fst∧sel (wt12 f a b c) (4:Int)=(nrm f a b c).snd.snd.snd∧True)∧(0:Int)=err (vld' f a b c)∧True else ((0:Int)≤(3:Int)∧(3:Int) < (20:Int))∧bif vld (3:Int) (sel (wt12 f a b c) (0:Int)) (sel (wt12 f a b c) (4:Int)) (sel (wt12 f a b c) (5:Int)) then ((3:Int)=(nrm f a b c).fst∧sel (wt12 f a b c) (0:Int)=(nrm f a b c).snd.fst∧sel (wt12 f a b c) (4:Int)=(nrm f a b
 c).snd.snd.fst∧sel (wt12 f a b c) (5:Int)=(nrm f a b c).snd.snd.snd∧True)∧(0:Int)=err (vld' f a b c)∧True else ((0:Int)≤(4:Int)∧(4:Int) < (20:Int))∧bif vld (4:Int) (sel (wt12 f a b c) (0:Int)) (sel (wt12 f a b c) (5:Int)) (sel (wt12 f a b c) (1:Int)) then ((4:Int)=(nrm f a b c).fst∧sel (wt12 f a b c) (0:Int)=(nrm f a b c).snd.fst∧sel (wt12 f a b c) (5:Int)=(nrm f a b
 c).snd.snd.fst∧sel (wt12 f a b c) (1:Int)=(nrm f a b c).snd.snd.snd∧True)∧(0:Int)=err (vld' f a b c)∧True else ((0:Int)≤(5:Int)∧(5:Int) < (20:Int))∧bif vld (5:Int) (sel (wt12 f a b c) (1:Int)) (sel (wt12 f a b c) (6:Int)) (sel (wt12 f a b c) (2:Int)) then ((5:Int)=(nrm f a b c).fst∧sel (wt12 f a b c) (1:Int)=(nrm f a b c).snd.fst∧sel (wt12 f a b c) (6:Int)=(nrm f a b
 c).snd.snd.fst∧sel (wt12 f a b c) (2:Int)=(nrm f a b c).snd.snd.snd∧True)∧(0:Int)=err (vld' f a b c)∧True else ((0:Int)≤(6:Int)∧(6:Int) < (20:Int))∧bif vld (6:Int) (sel (wt12 f a b c) (2:Int)) (sel (wt12 f a b c) (7:Int)) (sel (wt12 f a b c) (3:Int)) then ((6:Int)=(nrm f a b c).fst∧sel (wt12 f a b c) (2:Int)=(nrm f a b c).snd.fst∧sel (wt12 f a b c) (7:Int)=(nrm f a b
 c).snd.snd.fst∧sel (wt12 f a b c) (3:Int)=(nrm f a b c).snd.snd.snd∧True)∧(0:Int)=err (vld' f a b c)∧True else ((0:Int)≤(7:Int)∧(7:Int) < (20:Int))∧bif vld (7:Int) (sel (wt12 f a b c) (3:Int)) (sel (wt12 f a b c) (8:Int)) (sel (wt12 f a b c) (4:Int)) then ((7:Int)=(nrm f a b c).fst∧sel (wt12 f a b c) (3:Int)=(nrm f a b c).snd.fst∧sel (wt12 f a b c) (8:Int)=(nrm f a b
 c).snd.snd.fst∧sel (wt12 f a b c) (4:Int)=(nrm f a b c).snd.snd.snd∧True)∧(0:Int)=err (vld' f a b c)∧True else ((0:Int)≤(8:Int)∧(8:Int) < (20:Int))∧bif vld (8:Int) (sel (wt12 f a b c) (4:Int)) (sel (wt12 f a b c) (9:Int)) (sel (wt12 f a b c) (5:Int)) then ((8:Int)=(nrm f a b c).fst∧sel (wt12 f a b c) (4:Int)=(nrm f a b c).snd.fst∧sel (wt12 f a b c) (9:Int)=(nrm f a b
 c).snd.snd.fst∧sel (wt12 f a b c) (5:Int)=(nrm f a b c).snd.snd.snd∧True)∧(0:Int)=err (vld' f a b c)∧True else ((0:Int)≤(9:Int)∧(9:Int) < (20:Int))∧bif vld (9:Int) (sel (wt12 f a b c) (5:Int)) (sel (wt12 f a b c) (10:Int)) (sel (wt12 f a b c) (1:Int)) then ((9:Int)=(nrm f a b c).fst∧sel (wt12 f a b c) (5:Int)=(nrm f a b c).snd.fst∧sel (wt12 f a b c) (10:Int)=(nrm f a b
 c).snd.snd.fst∧sel (wt12 f a b c) (1:Int)=(nrm f a b c).snd.snd.snd∧True)∧(0:Int)=err (vld' f a b c)∧True else ((0:Int)≤(10:Int)∧(10:Int) < (20:Int))∧bif vld (10:Int) (sel (wt12 f a b c) (6:Int)) (sel (wt12 f a b c) (7:Int)) (sel (wt12 f a b c) (2:Int)) then ((10:Int)=(nrm f a b c).fst∧sel (wt12 f a b c) (6:Int)=(nrm f a b c).snd.fst∧sel (wt12 f a b c) (7:Int)=(nrm f a b
 c).snd.snd.fst∧sel (wt12 f a b c) (2:Int)=(nrm f a b c).snd.snd.snd∧True)∧(0:Int)=err (vld' f a b c)∧True else ((0:Int)≤(11:Int)∧(11:Int) < (20:Int))∧bif vld (11:Int) (sel (wt12 f a b c) (7:Int)) (sel (wt12 f a b c) (8:Int)) (sel (wt12 f a b c) (3:Int)) then ((11:Int)=(nrm f a b c).fst∧sel (wt12 f a b c) (7:Int)=(nrm f a b c).snd.fst∧sel (wt12 f a b c) (8:Int)=(nrm f a b
 c).snd.snd.fst∧sel (wt12 f a b c) (3:Int)=(nrm f a b c).snd.snd.snd∧True)∧(0:Int)=err (vld' f a b c)∧True else ((0:Int)≤(12:Int)∧(12:Int) < (20:Int))∧bif vld (12:Int) (sel (wt12 f a b c) (8:Int)) (sel (wt12 f a b c) (9:Int)) (sel (wt12 f a b c) (4:Int)) then ((12:Int)=(nrm f a b c).fst∧sel (wt12 f a b c) (8:Int)=(nrm f a b c).snd.fst∧sel (wt12 f a b c) (9:Int)=(nrm f a b
 c).snd.snd.fst∧sel (wt12 f a b c) (4:Int)=(nrm f a b c).snd.snd.snd∧True)∧(0:Int)=err (vld' f a b c)∧True else ((0:Int)≤(13:Int)∧(13:Int) < (20:Int))∧bif vld (13:Int) (sel (wt12 f a b c) (9:Int)) (sel (wt12 f a b c) (10:Int)) (sel (wt12 f a b c) (5:Int)) then ((13:Int)=(nrm f a b c).fst∧sel (wt12 f a b c) (9:Int)=(nrm f a b c).snd.fst∧sel (wt12 f a b c) (10:Int)=(nrm f a
 b c).snd.snd.fst∧sel (wt12 f a b c) (5:Int)=(nrm f a b c).snd.snd.snd∧True)∧(0:Int)=err (vld' f a b c)∧True else ((0:Int)≤(14:Int)∧(14:Int) < (20:Int))∧bif vld (14:Int) (sel (wt12 f a b c) (10:Int)) (sel (wt12 f a b c) (6:Int)) (sel (wt12 f a b c) (1:Int)) then ((14:Int)=(nrm f a b c).fst∧sel (wt12 f a b c) (10:Int)=(nrm f a b c).snd.fst∧sel (wt12 f a b c) (6:Int)=(nrm f
 a b c).snd.snd.fst∧sel (wt12 f a b c) (1:Int)=(nrm f a b c).snd.snd.snd∧True)∧(0:Int)=err (vld' f a b c)∧True else ((0:Int)≤(15:Int)∧(15:Int) < (20:Int))∧bif vld (15:Int) (sel (wt12 f a b c) (11:Int)) (sel (wt12 f a b c) (7:Int)) (sel (wt12 f a b c) (6:Int)) then ((15:Int)=(nrm f a b c).fst∧sel (wt12 f a b c) (11:Int)=(nrm f a b c).snd.fst∧sel (wt12 f a b c) (7:Int)=(nrm
 f a b c).snd.snd.fst∧sel (wt12 f a b c) (6:Int)=(nrm f a b c).snd.snd.snd∧True)∧(0:Int)=err (vld' f a b c)∧True else ((0:Int)≤(16:Int)∧(16:Int) < (20:Int))∧bif vld (16:Int) (sel (wt12 f a b c) (11:Int)) (sel (wt12 f a b c) (8:Int)) (sel (wt12 f a b c) (7:Int)) then ((16:Int)=(nrm f a b c).fst∧sel (wt12 f a b c) (11:Int)=(nrm f a b c).snd.fst∧sel (wt12 f a b c)
 (8:Int)=(nrm f a b c).snd.snd.fst∧sel (wt12 f a b c) (7:Int)=(nrm f a b c).snd.snd.snd∧True)∧(0:Int)=err (vld' f a b c)∧True else ((0:Int)≤(17:Int)∧(17:Int) < (20:Int))∧bif vld (17:Int) (sel (wt12 f a b c) (11:Int)) (sel (wt12 f a b c) (9:Int)) (sel (wt12 f a b c) (8:Int)) then ((17:Int)=(nrm f a b c).fst∧sel (wt12 f a b c) (11:Int)=(nrm f a b c).snd.fst∧sel (wt12 f a b
 c) (9:Int)=(nrm f a b c).snd.snd.fst∧sel (wt12 f a b c) (8:Int)=(nrm f a b c).snd.snd.snd∧True)∧(0:Int)=err (vld' f a b c)∧True else ((0:Int)≤(18:Int)∧(18:Int) < (20:Int))∧bif vld (18:Int) (sel (wt12 f a b c) (11:Int)) (sel (wt12 f a b c) (10:Int)) (sel (wt12 f a b c) (9:Int)) then ((18:Int)=(nrm f a b c).fst∧sel (wt12 f a b c) (11:Int)=(nrm f a b c).snd.fst∧sel (wt12 f a
 b c) (10:Int)=(nrm f a b c).snd.snd.fst∧sel (wt12 f a b c) (9:Int)=(nrm f a b c).snd.snd.snd∧True)∧(0:Int)=err (vld' f a b c)∧True else ((0:Int)≤(19:Int)∧(19:Int) < (20:Int))∧bif vld (19:Int) (sel (wt12 f a b c) (11:Int)) (sel (wt12 f a b c) (6:Int)) (sel (wt12 f a b c) (10:Int)) then ((19:Int)=(nrm f a b c).fst∧sel (wt12 f a b c) (11:Int)=(nrm f a b c).snd.fst∧sel (wt12
 f a b c) (6:Int)=(nrm f a b c).snd.snd.fst∧sel (wt12 f a b c) (10:Int)=(nrm f a b c).snd.snd.snd∧True)∧(0:Int)=err (vld' f a b c)∧True else (f=(nrm f a b c).fst∧a=(nrm f a b c).snd.fst∧b=(nrm f a b c).snd.snd.fst∧c=(nrm f a b c).snd.snd.snd∧True)∧(0:Int)=err (vld' f a b c)∧True
theorem normal_P:normal_T vld nrm:=by
  unfold normal_T
  intro f a b c h
  refine ⟨trivial,?_⟩
  unfold nrm err
  cases hv:vld f a b c with
  | false=>exact ⟨⟨rfl,rfl,rfl,rfl,trivial⟩,rfl,trivial⟩
  | true =>
    have v:Vld f a b c:=of_decide_eq_true hv
    rw [if_pos rfl]
    refine ⟨v.face,?_⟩
    unfold fcs
    iterate 20
      (refine ⟨⟨by decide,by decide⟩,csplit (fun h=>?_) (fun h=>?_)⟩
       · rw [nrmL_t (f:=f) (a:=a) (b:=b) (c:=c) h]; exact ⟨⟨rfl,rfl,rfl,rfl,trivial⟩,rfl,trivial⟩
       rw [nrmL_f (f:=f) (a:=a) (b:=b) (c:=c) h])
    exact ⟨⟨rfl,rfl,rfl,rfl,trivial⟩,rfl,trivial⟩
def normal_S (vld:Int→Int→Int→Int→Bool) (nrm:Int→Int→Int→Int→Int × Int × Int × Int):Prop:=∀ (f a b c:Int),fnK Tryz.prog { glob:=glb,spec:=lk [(32,(valid_s Go.Proofs.YtgbbmadjdaphnaaGreatDoor.vld)),(33,of_s),(34,on_s)],specH:=lk [],nowf:=true } { nt:=27,drop:=drp [(1,768),(2,2048),(3,12288),(6,65536),(7,8257536),(9,16777216),(10,33554432),(11,67108864)] } (fun _ _=>none) 21 Tryz.f75 [.agg [.int .i64 f,.int .i64 a,.int .i64 b,.int .i64 c]] (.tup [.agg [.int .i64 (nrm f a b c).1,.int .i64 (nrm f a b c).2.1,.int .i64 (nrm f a b c).2.2.1,.int .i64 (nrm f a b c).2.2.2],.int .i64 (err (vld f a b c))])
theorem normal_e (vld:Int→Int→Int→Int→Bool) (nrm:Int→Int→Int→Int→Int × Int × Int × Int):normal_T vld nrm=normal_S vld nrm:=by kernel_rfl
theorem normal_v:normal_S vld nrm:=Eq.mp (normal_e ..) (normal_P)
theorem normal_ok:SOK Tryz.prog glb 75 (normal_s vld nrm):=by
 refine ⟨fok Tryz.func75 (by kernel_rfl) (by kernel_rfl),?_⟩
 intro xs pre r h hp
 unfold normal_s at h
 split at h
 ·simp only [Option.some.injEq,Prod.mk.injEq] at h
  obtain ⟨h1,h2⟩:=h
  subst h1 h2
  exact fnK_sound tyNil (by exact specOK rfl rfl ⟨(valid_ok glb),(of_ok),(on_ok),trivial⟩ trivial) (by kernel_rfl) Tryz.func75 rfl (normal_v  _ _ _ _)
 ·cases h
end Go.Proofs.YtgbbmadjdaphnaaGreatDoor
namespace Go.Proofs.YtgbbmadjdaphnaaGreatDoor
open Go
set_option linter.unusedVariables false
set_option linter.unusedSimpArgs false
def onRow (f a b c n:Int):List AV:=[.int .i64 n,.int .i64 (onW f a b c n 0),.int .i64 (onW f a b c n 1),.int .i64 (onW f a b c n 2)]
def adrR (f a b c:Int):Nat→List (List AV)
 | 0=>[]
 | n+1=>if onV f a b c n then adrR f a b c n++[onRow f a b c n] else adrR f a b c n
def adr (f a b c:Int):List (List AV):=if vld f a b c then adrR f a b c 20 else []
structure AdrP (f a b c:Int) (x:Int × List (List AV)):Prop where
 lo:0≤x.1
 hi:x.1≤20
 row:x.2=adrR f a b c x.1.toNat
def adrI (f a b c:Int):LInv:=⟨Int × List (List AV),fun x=>⟨[(4,.ptr 4 0),(5,.rw 500 4 x.2.length),(14,.int .i64 x.1)],[(4,.cells [.int .i64 (wt f a b c 0),.int .i64 (wt f a b c 1),.int .i64 (wt f a b c 2),.int .i64 (wt f a b c 3),.int .i64 (wt f a b c 4),.int .i64 (wt f a b c 5),.int .i64 (wt f a b c 6),.int .i64 (wt f a b c 7),.int .i64 (wt f a b c 8),.int .i64 (wt f a b c 9),.int .i64 (wt f a b c 10),.int .i64 (wt f a b c 11)]),(500,.row 27 4 x.2)]⟩,
 AdrP f a b c,fun x=>(20 - x.1).toNat,none⟩
theorem adr_len (f a b c:Int):∀ n,(adrR f a b c n).length≤n
 | 0=>by simp [adrR]
 | n+1=>by
  have:=adr_len f a b c n
  simp only [adrR]
  split
  ·simp; omega
  ·omega
theorem adr_step {f a b c n:Int} (h:0≤n):adrR f a b c (n+1).toNat=if onV f a b c n then adrR f a b c n.toNat++[onRow f a b c n] else adrR f a b c n.toNat:=by
 rw [show (n+1).toNat=n.toNat+1 by omega]
 simp only [adrR]
 rw [show ((n.toNat:Nat):Int)=n by omega]
end Go.Proofs.YtgbbmadjdaphnaaGreatDoor
namespace Go.Proofs.YtgbbmadjdaphnaaGreatDoor
open Go
set_option linter.unusedVariables false
set_option linter.unusedSimpArgs false
def itr {σ:Type} (g:Int→σ→σ):Nat→Int→σ→σ
 | 0,_,s=>s
 | k+1,b,s=>itr g k (b+1) (g b s)
def upto {σ:Type} (g:Int→σ→σ) (b e:Int) (s:σ):σ:=itr g (e - b).toNat b s
theorem upto_lt {σ:Type} {g:Int→σ→σ} {b e:Int} {s:σ} (h:b < e):upto g b e s=upto g (b+1) e (g b s):=by
 unfold upto; rw [show (e - b).toNat=(e - (b+1)).toNat+1 by omega]; rfl
theorem upto_ge {σ:Type} {g:Int→σ→σ} {b e:Int} {s:σ} (h:e≤b):upto g b e s=s:=by
 unfold upto; rw [show (e - b).toNat=0 by omega]; rfl
theorem upto_ind {σ:Type} {g:Int→σ→σ} {p:σ→Prop} (hg:∀ b s,p s→p (g b s)) (b e:Int) {s:σ} (h:p s):p (upto g b e s):=by
 unfold upto
 generalize (e - b).toNat=k
 induction k generalizing b s with
 | zero=>exact h
 | succ k ih=>exact ih (b+1) (hg b s h)
abbrev Pt:=List (List AV) × List (Int × AV)
def hN (n:Int):Int:=(840:Int).tdiv n
def rowP (f a b c:Int):List AV:=[.int .i64 f,.int .i64 a,.int .i64 b,.int .i64 c]
def eqP (nrm:Int→Int→Int→Int→Int × Int × Int × Int) (f a b c:Int):Bool:=decide ((nrm f a b c).1=f)&&(decide ((nrm f a b c).2.1=a)&&(decide ((nrm f a b c).2.2.1=b)&&(decide ((nrm f a b c).2.2.2=c)&&true)))
def ptS (nrm:Int→Int→Int→Int→Int × Int × Int × Int) (n f a b:Int) (s:Pt):Pt :=
 if eqP nrm f (a*hN n) (b*hN n) ((n - a - b)*hN n)=true then (s.1++[rowP f (a*hN n) (b*hN n) ((n - a - b)*hN n)],mPut s.2 (codeK [f,a*hN n,b*hN n,(n - a - b)*hN n]) (.int .i64 s.1.length)) else s
def ptB (nrm:Int→Int→Int→Int→Int × Int × Int × Int) (n f a b:Int) (s:Pt):Pt:=upto (ptS nrm n f a) b (n - a+1) s
def ptA (nrm:Int→Int→Int→Int→Int × Int × Int × Int) (n f a:Int) (s:Pt):Pt:=upto (fun a s=>ptB nrm n f a 0 s) a (n+1) s
def ptF (nrm:Int→Int→Int→Int→Int × Int × Int × Int) (n f:Int) (s:Pt):Pt:=upto (fun f s=>ptA nrm n f 0 s) f 20 s
def ptG (nrm:Int→Int→Int→Int→Int × Int × Int × Int) (n:Int):Pt:=ptF nrm n 0 ([],[])
structure PtL (s:Pt) (m:Int):Prop where
 r:(s.1.length:Int)≤m
 i:(s.2.length:Int)≤m
structure PtX (nrm:Int→Int→Int→Int→Int × Int × Int × Int) (n:Int) (x:Int × Pt):Prop where
 lo:0≤x.1
 hi:x.1≤20
 go:ptF nrm n x.1 x.2=ptG nrm n
 sm:PtL x.2 (25*x.1)
structure PtY (nrm:Int→Int→Int→Int→Int × Int × Int × Int) (n f:Int) (x:Int × Pt):Prop where
 fl:0≤f
 fh:f < 20
 lo:0≤x.1
 hi:x.1≤n+1
 go:ptF nrm n (f+1) (ptA nrm n f x.1 x.2)=ptG nrm n
 sm:PtL x.2 (25*f+5*x.1)
structure PtZ (nrm:Int→Int→Int→Int→Int × Int × Int × Int) (n f a:Int) (x:Int × Pt):Prop where
 fl:0≤f
 fh:f < 20
 al:0≤a
 ah:a≤n
 lo:0≤x.1
 hi:x.1≤n - a+1
 go:ptF nrm n (f+1) (ptA nrm n f (a+1) (ptB nrm n f a x.1 x.2))=ptG nrm n
 sm:PtL x.2 (25*f+5*a+x.1)
def ptH (n:Int) (s:Pt):List (Nat × Blk):=[(1015,.cells [.int .i64 n,.int .i64 (hN n),.rw 1500 4 s.1.length,.mpv 1013,.nils,.nils,.nils]),(1500,.row 27 4 s.1),(1013,.mp 27 3 s.2)]
def pt3 (nrm:Int→Int→Int→Int→Int × Int × Int × Int) (n:Int):LInv:=⟨Int × Pt,fun x=>⟨[(0,.int .i64 n),(3,.ptr 1015 0),(16,.int .i64 x.1)],ptH n x.2⟩,PtX nrm n,fun x=>(20 - x.1).toNat,none⟩
def pt6 (nrm:Int→Int→Int→Int→Int × Int × Int × Int) (n f:Int):LInv:=⟨Int × Pt,fun x=>⟨[(0,.int .i64 n),(3,.ptr 1015 0),(16,.int .i64 f),(4,.int .i64 f),(5,.int .i64 x.1)],ptH n x.2⟩,PtY nrm n f,fun x=>(n+1 - x.1).toNat,none⟩
def pt9 (nrm:Int→Int→Int→Int→Int × Int × Int × Int) (n f a:Int):LInv:=⟨Int × Pt,fun x=>⟨[(0,.int .i64 n),(3,.ptr 1015 0),(16,.int .i64 f),(4,.int .i64 f),(5,.int .i64 a),(6,.int .i64 x.1)],ptH n x.2⟩,PtZ nrm n f a,fun x=>(n - a+1 - x.1).toNat,none⟩
def inv2 (j s t:Nat) (L:Int→Int→LInv) (i:Nat) (st:St) (o:Option LInv):Option LInv:=cond (Nat.beq j i) (match lk st.tmps s,lk st.tmps t with
 | some (.int _ a),some (.int _ b)=>some (L a b)
 | _,_=>none) o
theorem csp {p:Prop} [Decidable p] {A B:Prop} (h:p→A) (k:¬ p→B):cond (decide p) A B:=csplit (fun q=>h (of_decide_eq_true q)) (fun q=>k (of_decide_eq_false q))
theorem n14 {n:Int} (h1:1≤n) (h4:n≤4):n=1∨n=2∨n=3∨n=4:=by omega
theorem hN_b {n:Int} (h1:1≤n) (h4:n≤4):210≤hN n∧hN n≤840∧n*hN n=840:=by
 rcases n14 h1 h4 with rfl | rfl | rfl | rfl <;> decide
theorem mulB {x h:Int} (x0:0≤x) (x5:x≤5) (h0:0≤h) (h8:h≤840):0≤x*h∧x*h≤4200 :=
 ⟨Int.mul_nonneg x0 h0,Int.le_trans (Int.mul_le_mul x5 h8 h0 (by decide)) (by decide)⟩
theorem mDel_le (n:Int):∀ l:List (Int × AV),(mDel l n).length≤l.length
 | []=>Nat.le_refl _
 | (k,x)::l=>by
  have:=mDel_le n l
  simp only [mDel]
  cases decide (k=n) <;> simp <;> omega
def mfreq_s:Sp
 | [.int .i64 n]=>some (True,.bool (decide (1≤n∧n≤8)))
 | _=>none
def mfreq_T:Prop :=
 ∀ (gl:Glob) (n:Int),(-9223372036854775808:Int)≤n∧n≤(9223372036854775807:Int)→bif decide ((1:Int)≤n) then decide (n≤(8:Int))=decide ((1:Int)≤n∧n ≤
 (8:Int)) else false=decide ((1:Int)≤n∧n≤(8:Int))
theorem mfreq_P:mfreq_T:=by
 unfold mfreq_T
 intro gl n hn
 simp only [cdec,decide_eq_decide,Bool.true_eq,Bool.false_eq,decide_eq_true_eq,decide_eq_false_iff_not]
 omega
def mfreq_S:Prop:=∀ (gl:Glob) (n:Int),fnK Tryz.prog { glob:=gl,spec:=lk [],specH:=lk [] } { nt:=9,drop:=drp [(1,504)] } (fun _ _=>none) 6 Tryz.f36 [.int .i64 n] (.bool (decide (1≤n∧n≤8)))
theorem mfreq_e:mfreq_T=mfreq_S:=by kernel_rfl
theorem mfreq_v:mfreq_S:=Eq.mp (mfreq_e ..) (mfreq_P)
theorem mfreq_ok (gl:Glob):SOK Tryz.prog gl 36 mfreq_s:=by
 refine ⟨fok Tryz.func36 (by kernel_rfl) (by kernel_rfl),?_⟩
 intro xs pre r h hp
 unfold mfreq_s at h
 split at h
 ·simp only [Option.some.injEq,Prod.mk.injEq] at h
  obtain ⟨h1,h2⟩:=h
  subst h1 h2
  exact fnK_sound tyNil (by exact specOK rfl rfl trivial trivial) (by kernel_rfl) Tryz.func36 rfl (mfreq_v gl _)
 ·cases h
def mpts_s (nrm:Int→Int→Int→Int→Int × Int × Int × Int) (vld:Int→Int→Int→Int→Bool):SpH
 | [.int .i64 n],[]=>some (1≤n∧n≤4,.ptr 0 0,[.cells [.int .i64 n,.int .i64 (hN n),.sl 4 false (ptG nrm n).1,.mpv 1,.nils,.nils,.nils],.mp 27 3 (ptG nrm n).2])
 | _,_=>none
def mpts_T (nrm:Int→Int→Int→Int→Int × Int × Int × Int) (vld:Int→Int→Int→Int→Bool):Prop :=
  ∀ (n:Int),(1:Int)≤n∧n≤(4:Int)→(-9223372036854775808:Int)≤n∧n≤(9223372036854775807:Int)→bif decide ¬n=(0:Int) then bif decide (rng IntKind.i64
  (Int.tdiv (840:Int) n)) then (∃ x,PtX nrm n x∧(n=n∧(0:Nat)=(0:Nat)∧(0:Int)=x.fst∧True)∧(n=n∧Int.tdiv (840:Int) n=hN n∧(0:Nat) =
  x.snd.fst.length∧True∧True∧True∧True∧True)∧[]=x.snd.fst∧[]=x.snd.snd∧True)∧∀ (x:Int × Pt),PtX nrm n x→bif decide (x.fst < (20:Int)) then (∃ x_1,PtY
  nrm n x.fst x_1∧(n=n∧(0:Nat)=(0:Nat)∧x.fst=x.fst∧x.fst=x.fst∧(0:Int)=x_1.fst∧True)∧(n=n∧hN n=hN n∧x.snd.fst.length=x_1.snd.fst.length∧True
 ∧True∧True∧True∧True)∧x.snd.fst=x_1.snd.fst∧x.snd.snd=x_1.snd.snd∧True)∧∀ (x_1:Int × Pt),PtY nrm n x.fst x_1→bif decide (x_1.fst≤n) then (∃ x_2,PtZ nrm n
  x.fst x_1.fst x_2∧(n=n∧(0:Nat)=(0:Nat)∧x.fst=x.fst∧x.fst=x.fst∧x_1.fst=x_1.fst∧(0:Int)=x_2.fst∧True)∧(n=n∧hN n=hN n∧x_1.snd.fst.length =
  x_2.snd.fst.length∧True∧True∧True∧True∧True)∧x_1.snd.fst=x_2.snd.fst∧x_1.snd.snd=x_2.snd.snd∧True)∧∀ (x_2:Int × Pt),PtZ nrm n x.fst x_1.fst x_2→bif
  decide (rng IntKind.i64 (x_1.fst+x_2.fst)) then bif decide (x_1.fst+x_2.fst≤n) then bif decide (rng IntKind.i64 (x_1.fst*hN n)) then bif decide (rng IntKind.i64 (x_2.fst *
  hN n)) then bif decide (rng IntKind.i64 (n - x_1.fst)) then bif decide (rng IntKind.i64 (n - x_1.fst - x_2.fst)) then bif decide (rng IntKind.i64 ((n - x_1.fst - x_2.fst)*hN n))
  then True∧bif decide ((nrm x.fst (x_1.fst*hN n) (x_2.fst*hN n) ((n - x_1.fst - x_2.fst)*hN n)).fst=x.fst)&&(decide ((nrm x.fst (x_1.fst*hN n) (x_2.fst*hN n) ((n -
  x_1.fst - x_2.fst)*hN n)).snd.fst=x_1.fst*hN n)&&(decide ((nrm x.fst (x_1.fst*hN n) (x_2.fst*hN n) ((n - x_1.fst - x_2.fst)*hN n)).snd.snd.fst=x_2.fst*hN n) &&
  (decide ((nrm x.fst (x_1.fst*hN n) (x_2.fst*hN n) ((n - x_1.fst - x_2.fst)*hN n)).snd.snd.snd=(n - x_1.fst - x_2.fst)*hN n)&&true))) then bif decide (x_2.snd.snd.length
 ≤(140737488355327:Nat)) then bif decide (x_2.snd.fst.length=x_2.snd.fst.length∧x_2.snd.fst.length+[[AV.int IntKind.i64 x.fst,AV.int IntKind.i64 (x_1.fst*hN n),AV.int
  IntKind.i64 (x_2.fst*hN n),AV.int IntKind.i64 ((n - x_1.fst - x_2.fst)*hN n)]].length≤(9223372036854775807:Nat)∧(x_2.snd.fst.length+[[AV.int IntKind.i64 x.fst,AV.int
  IntKind.i64 (x_1.fst*hN n),AV.int IntKind.i64 (x_2.fst*hN n),AV.int IntKind.i64 ((n - x_1.fst - x_2.fst)*hN n)]].length)*(32:Nat)≤(140737488355328:Nat)) then bif
  decide (rng IntKind.i64 (x_2.fst+(1:Int))) then ∃ y,PtZ nrm n x.fst x_1.fst y∧(pt9 nrm n x.fst x_1.fst).m y < (pt9 nrm n x.fst x_1.fst).m x_2∧(n=n∧(0:Nat)=(0 :
  Nat)∧x.fst=x.fst∧x.fst=x.fst∧x_1.fst=x_1.fst∧x_2.fst+(1:Int)=y.fst∧True)∧(n=n∧hN n=hN n∧(x_2.snd.fst++[[AV.int IntKind.i64 x.fst,AV.int
  IntKind.i64 (x_1.fst*hN n),AV.int IntKind.i64 (x_2.fst*hN n),AV.int IntKind.i64 ((n - x_1.fst - x_2.fst)*hN n)]]).length=y.snd.fst.length∧True∧True∧True∧True ∧
  True)∧x_2.snd.fst++[[AV.int IntKind.i64 x.fst,AV.int IntKind.i64 (x_1.fst*hN n),AV.int IntKind.i64 (x_2.fst*hN n),AV.int IntKind.i64 ((n - x_1.fst - x_2.fst)*hN n)]] =
  y.snd.fst∧mPut x_2.snd.snd (codeK [x.fst,x_1.fst*hN n,x_2.fst*hN n,(n - x_1.fst - x_2.fst)*hN n]) (AV.int IntKind.i64 (↑x_2.snd.fst.length:Int))=y.snd.snd∧True
  else False else False else False else bif decide (rng IntKind.i64 (x_2.fst+(1:Int))) then ∃ y,PtZ nrm n x.fst x_1.fst y∧(pt9 nrm n x.fst x_1.fst).m y < (pt9 nrm n x.fst
  x_1.fst).m x_2∧(n=n∧(0:Nat)=(0:Nat)∧x.fst=x.fst∧x.fst=x.fst∧x_1.fst=x_1.fst∧x_2.fst+(1:Int)=y.fst∧True)∧(n=n∧hN n=hN n ∧
  x_2.snd.fst.length=y.snd.fst.length∧True∧True∧True∧True∧True)∧x_2.snd.fst=y.snd.fst∧x_2.snd.snd=y.snd.snd∧True else False else False else False else False
  else False else False else bif decide (rng IntKind.i64 (x_1.fst+(1:Int))) then ∃ y,PtY nrm n x.fst y∧(pt6 nrm n x.fst).m y < (pt6 nrm n x.fst).m x_1∧(n=n∧(0:Nat) =
  (0:Nat)∧x.fst=x.fst∧x.fst=x.fst∧x_1.fst+(1:Int)=y.fst∧True)∧(n=n∧hN n=hN n∧x_2.snd.fst.length=y.snd.fst.length∧True∧True∧True∧True∧True) ∧
  x_2.snd.fst=y.snd.fst∧x_2.snd.snd=y.snd.snd∧True else False else False else bif decide (rng IntKind.i64 (x.fst+(1:Int))) then ∃ y,PtX nrm n y∧(pt3 nrm n).m y < (pt3
  nrm n).m x∧(n=n∧(0:Nat)=(0:Nat)∧x.fst+(1:Int)=y.fst∧True)∧(n=n∧hN n=hN n∧x_1.snd.fst.length=y.snd.fst.length∧True∧True∧True∧True∧True) ∧
  x_1.snd.fst=y.snd.fst∧x_1.snd.snd=y.snd.snd∧True else False else bif decide (x.snd.fst.length=x.snd.fst.length) then (0:Nat)=(0:Nat)∧(n=n∧hN n=hN n∧(True
 ∧x.snd.fst=(ptG nrm n).fst)∧True∧True∧True∧True∧True)∧x.snd.snd=(ptG nrm n).snd∧True else False else False else False
theorem mpts_P:mpts_T nrm vld:=by
 unfold mpts_T
 intro n ⟨n1,n4⟩ _
 obtain ⟨h2,h8,_⟩:=hN_b n1 n4
 refine cd1 (by omega) (cdI (show -9223372036854775808≤hN n∧hN n≤9223372036854775807 by omega) ⟨⟨(0,[],[]),⟨by decide,by decide,rfl,⟨by decide,by decide⟩⟩,by (repeat' (first | exact trivial | exact rfl | assumption | apply And.intro))⟩,?_⟩)
 rintro ⟨f,s⟩ ⟨fl,fh,fg,fs⟩
 refine csp (fun h=>⟨⟨(0,s),⟨fl,h,Int.le_refl 0,by simp only; omega,(upto_lt h).symm.trans fg,⟨by have:=fs.r; simp only at this ⊢; omega,by have:=fs.i; simp only at this ⊢; omega⟩⟩,by (repeat' (first | exact trivial | exact rfl | assumption | apply And.intro))⟩,?_⟩) (fun h=>?_)
 ·clear fg fs
  rintro ⟨a,s⟩ ⟨f0,f20,al,ah,ag,as_⟩
  refine csp (fun h=>⟨⟨(0,s),⟨f0,f20,al,h,Int.le_refl 0,by simp only at h ⊢; omega,?_,⟨by have:=as_.r; simp only at this ⊢; omega,by have:=as_.i; simp only at this ⊢; omega⟩⟩,by (repeat' (first | exact trivial | exact rfl | assumption | apply And.intro))⟩,?_⟩) (fun h=>?_)
  ·have e:ptA nrm n f a s=ptA nrm n f (a+1) (ptB nrm n f a 0 s):=upto_lt (by simp only at h; omega)
   simp only at ag ⊢
   rw [← e]; exact ag
  ·clear ag as_
   rintro ⟨b,s⟩ ⟨_,_,a0,an,bl,bh,bg,bs⟩
   simp only at a0 an bl bh bg f0 f20
   obtain ⟨m1,m2⟩:=mulB (x:=a) (h:=hN n) a0 (by omega) (by omega) h8
   obtain ⟨m3,m4⟩:=mulB (x:=b) (h:=hN n) bl (by omega) (by omega) h8
   refine cdI (by simp only; omega) (csp (fun h=>?_) (fun h=>?_))
   ·simp only at h
    obtain ⟨m5,m6⟩:=mulB (x:=n - a - b) (h:=hN n) (by omega) (by omega) (by omega) h8
    have br:=bs.r
    have bi:=bs.i
    simp only at br bi
    have e:ptB nrm n f a b s=ptB nrm n f a (b+1) (ptS nrm n f a b s):=upto_lt (by omega)
    rw [e] at bg
    refine cdI (by simp only; omega) (cdI (by simp only; omega) (cdI (by simp only; omega) (cdI (by simp only; omega) (cdI (by simp only; omega) ⟨trivial,csplit (fun q=>?_) (fun q=>?_)⟩))))
    ·have es:ptS nrm n f a b s=(s.1++[rowP f (a*hN n) (b*hN n) ((n - a - b)*hN n)],mPut s.2 (codeK [f,a*hN n,b*hN n,(n - a - b)*hN n]) (.int .i64 s.1.length)):=if_pos q
     rw [es] at bg
     refine cd1 (by simp only; omega) (cd1 ⟨rfl,by simp only [List.length_singleton]; omega,by simp only [List.length_singleton]; omega⟩ (cdI (by simp only; omega) ⟨(b+1,(s.1++[rowP f (a*hN n) (b*hN n) ((n - a - b)*hN n)],mPut s.2 (codeK [f,a*hN n,b*hN n,(n - a - b)*hN n]) (.int .i64 s.1.length))),⟨f0,f20,a0,an,by simp only; omega,by simp only; omega,bg,⟨?_,?_⟩⟩,?_,by (repeat' (first | exact trivial | exact rfl | assumption | apply And.intro))⟩))
     ·simp only [List.length_append,List.length_singleton]; omega
     ·have:=mDel_le (codeK [f,a*hN n,b*hN n,(n - a - b)*hN n]) s.2
      simp only [mPut,List.length_cons]; omega
     ·simp only [pt9]; omega
    ·have es:ptS nrm n f a b s=s:=if_neg (by unfold eqP; rw [q]; decide)
     rw [es] at bg
     refine cdI (by simp only; omega) ⟨(b+1,s),⟨f0,f20,a0,an,by simp only; omega,by simp only; omega,bg,⟨by simp only; omega,by simp only; omega⟩⟩,by simp only [pt9]; omega,by (repeat' (first | exact trivial | exact rfl | assumption | apply And.intro))⟩
   ·simp only at h
    have e:ptB nrm n f a b s=s:=upto_ge (by omega)
    rw [e] at bg
    have br:=bs.r
    have bi:=bs.i
    simp only at br bi
    exact cdI (by simp only; omega) ⟨(a+1,s),⟨f0,f20,by simp only; omega,by simp only; omega,bg,⟨by simp only; omega,by simp only; omega⟩⟩,by simp only [pt6]; omega,by (repeat' (first | exact trivial | exact rfl | assumption | apply And.intro))⟩
  ·simp only at h al ah ag f0 f20
   have e:ptA nrm n f a s=s:=upto_ge (by omega)
   rw [e] at ag
   have br:=as_.r
   have bi:=as_.i
   simp only at br bi
   exact cdI (by simp only; omega) ⟨(f+1,s),⟨by simp only; omega,by simp only; omega,ag,⟨by simp only; omega,by simp only; omega⟩⟩,by simp only [pt3]; omega,by (repeat' (first | exact trivial | exact rfl | assumption | apply And.intro))⟩
 ·simp only at h fl fh fg
  have e:ptF nrm n f s=s:=upto_ge (by omega)
  rw [e] at fg
  subst fg
  exact cd1 rfl (by (repeat' (first | exact trivial | exact rfl | assumption | apply And.intro)))
def mpts_S (nrm:Int→Int→Int→Int→Int × Int × Int × Int) (vld:Int→Int→Int→Int→Bool):Prop:=∀ (n:Int),1≤n∧n≤4→fnH Tryz.prog { glob:=glb,spec:=lk [(75,(normal_s vld nrm))],specH:=lk [],nowf:=true } { nt:=85,drop:=drp [(1,64512),(4,262144),(6,1572864),(7,12582912),(9,251658240),(10,1610612736),(11,36028794871480320),(12,1116892707587883008),(13,3458764513820540928),(14,9435509593702435651584),(15,9661961823951294107222016),(16,9671406556917033397649408),(17,19342813113834066795298816)],fr:=1000,kp:=[],tys:=[27],frz:=fun id=>cond (Nat.beq id 17) [1001500] [],emp:=fun id=>cond (Nat.beq id 2) [(1101502,1500,27,4)] [] } (fun id st=>cond (Nat.beq id 3) (some (pt3 nrm n)) (inv2 9 4 5 (pt9 nrm n) id st (invsN [(6,4,pt6 nrm n)] id st))) 6 Tryz.f37 [.int .i64 n] [] (.ptr 0 0) [.cells [.int .i64 n,.int .i64 (hN n),.sl 4 false (ptG nrm n).1,.mpv 1,.nils,.nils,.nils],.mp 27 3 (ptG nrm n).2]
theorem mpts_e (nrm:Int→Int→Int→Int→Int × Int × Int × Int) (vld:Int→Int→Int→Int→Bool):mpts_T nrm vld=mpts_S nrm vld:=by kernel_rfl
theorem mpts_v:mpts_S nrm vld:=Eq.mp (mpts_e ..) (mpts_P)
theorem mpts_ok:HOK Tryz.prog glb 37 (mpts_s nrm vld):=by
 refine ⟨fok Tryz.func37 (by kernel_rfl) (by kernel_rfl),?_⟩
 intro xs bs pre r bs2 h hp
 unfold mpts_s at h
 split at h
 ·simp only [Option.some.injEq,Prod.mk.injEq] at h
  obtain ⟨h1,h2,h3⟩:=h
  subst h1 h2 h3
  exact fnH_sound (tyOf (by kernel_rfl)) (by exact specOK rfl rfl ⟨(normal_ok),trivial⟩ trivial) (by kernel_rfl) Tryz.func37 (mpts_v  _ hp)
 ·cases h
end Go.Proofs.YtgbbmadjdaphnaaGreatDoor
namespace Go.Proofs.YtgbbmadjdaphnaaGreatDoor
open Go
set_option linter.unusedVariables false
set_option linter.unusedSimpArgs false
theorem gg (g:Bool):cond g (g=true) True:=by cases g <;> trivial
structure PlS (f a b c:Int):Prop where
 f:0≤f∧f < 20
 a:-10000≤a∧a≤10000
 b:-10000≤b∧b≤10000
 c:-10000≤c∧c≤10000
def atV (nrm:Int→Int→Int→Int→Int × Int × Int × Int) (l:List (Int × AV)) (f a b c:Int):Int:=mInt l (codeK [(nrm f a b c).1,(nrm f a b c).2.1,(nrm f a b c).2.2.1,(nrm f a b c).2.2.2])
def mmoved_s:Sp
 | [.agg [.int .i64 f,.int .i64 a,.int .i64 b,.int .i64 c],.int .i64 x,.int .i64 y,.int .i64 z]=>some (PlS f a b c∧PlS f x y z,.agg [.int .i64 f,.int .i64 (a+x),.int .i64 (b+y),.int .i64 (c+z)])
 | _=>none
def mmoved_T:Prop :=
 ∀ (gl:Glob) (f a b c x y z:Int),PlS f a b c∧PlS f x y z→((-9223372036854775808:Int)≤f∧f≤(9223372036854775807:Int))∧((-9223372036854775808:Int)≤a∧a ≤
 (9223372036854775807:Int))∧((-9223372036854775808:Int)≤b∧b≤(9223372036854775807:Int))∧((-9223372036854775808:Int)≤c∧c≤(9223372036854775807:Int))∧True →
 (-9223372036854775808:Int)≤x∧x≤(9223372036854775807:Int)→(-9223372036854775808:Int)≤y∧y≤(9223372036854775807:Int)→(-9223372036854775808:Int)≤z∧z ≤
 (9223372036854775807:Int)→bif decide (rng IntKind.i64 (a+x)) then bif decide (rng IntKind.i64 (b+y)) then bif decide (rng IntKind.i64 (c+z)) then f=f∧a+x=a+x ∧
 b+y=b+y∧c+z=c+z∧True else False else False else False
theorem mmoved_P:mmoved_T:=by
 unfold mmoved_T
 intro gl f a b c x y z ⟨h,k⟩
 intros
 have h1:=h.a; have h2:=h.b; have h3:=h.c; have k1:=k.a; have k2:=k.b; have k3:=k.c
 exact cdI (by omega) (cdI (by omega) (cdI (by omega) (by (repeat' (first | exact trivial | exact rfl | assumption | apply And.intro)))))
def mmoved_S:Prop:=∀ (gl:Glob) (f a b c x y z:Int),PlS f a b c∧PlS f x y z→fnK Tryz.prog { glob:=gl,spec:=lk [],specH:=lk [],nowf:=true } { nt:=24,drop:=drp [(1,16776704)] } (fun _ _=>none) 6 Tryz.f123 [.agg [.int .i64 f,.int .i64 a,.int .i64 b,.int .i64 c],.int .i64 x,.int .i64 y,.int .i64 z] (.agg [.int .i64 f,.int .i64 (a+x),.int .i64 (b+y),.int .i64 (c+z)])
theorem mmoved_e:mmoved_T=mmoved_S:=by kernel_rfl
theorem mmoved_v:mmoved_S:=Eq.mp (mmoved_e ..) (mmoved_P)
theorem mmoved_ok (gl:Glob):SOK Tryz.prog gl 123 mmoved_s:=by
 refine ⟨fok Tryz.func123 (by kernel_rfl) (by kernel_rfl),?_⟩
 intro xs pre r h hp
 unfold mmoved_s at h
 split at h
 ·simp only [Option.some.injEq,Prod.mk.injEq] at h
  obtain ⟨h1,h2⟩:=h
  subst h1 h2
  exact fnK_sound tyNil (by exact specOK rfl rfl trivial trivial) (by kernel_rfl) Tryz.func123 rfl (mmoved_v gl _ _ _ _ _ _ _ hp)
 ·cases h
def matA_s (nrm:Int→Int→Int→Int→Int × Int × Int × Int) (vld:Int→Int→Int→Int→Bool):SpH
 | [.ptr 0 0,.agg [.int .i64 f,.int .i64 a,.int .i64 b,.int .i64 c]],[.cells [.int .i64 n,.int .i64 h,.sl 4 g nd,.mpv 1,.rw 2 3 m,.nils,.nils],.mp 27 3 l,.row 162 3 cs]=>some (True,.int .i64 (atV nrm l f a b c),[.cells [.int .i64 n,.int .i64 h,.sl 4 g nd,.mpv 1,.rw 2 3 m,.nils,.nils],.mp 27 3 l,.row 162 3 cs])
 | _,_=>none
def matA_T (nrm:Int→Int→Int→Int→Int × Int × Int × Int) (vld:Int→Int→Int→Int→Bool):Prop :=
  ∀ (n h f a b c:Int) (g:Bool) (nd cs:List (List AV)) (l:List (Int × AV)) (m:Nat),True→((-9223372036854775808:Int)≤f∧f≤(9223372036854775807:Int)) ∧
  ((-9223372036854775808:Int)≤a∧a≤(9223372036854775807:Int))∧((-9223372036854775808:Int)≤b∧b≤(9223372036854775807:Int))∧((-9223372036854775808:Int)≤c∧c
 ≤(9223372036854775807:Int))∧True→(-9223372036854775808:Int)≤n∧n≤(9223372036854775807:Int)→(-9223372036854775808:Int)≤h∧h≤(9223372036854775807:Int) →
  True→True→True→True→True→True∧mInt l (codeK [(nrm f a b c).fst,(nrm f a b c).snd.fst,(nrm f a b c).snd.snd.fst,(nrm f a b c).snd.snd.snd])=atV nrm l f a b c∧(n =
  n∧h=h∧((bif g then g=true else True)∧nd=nd)∧True∧m=m∧True∧True∧True)∧l=l∧cs=cs∧True
theorem matA_P:matA_T nrm vld:=by
 unfold matA_T
 intros; (repeat' (first | exact trivial | exact rfl | exact gg _ | assumption | exact Int.add_zero _ | apply And.intro))
def matA_S (nrm:Int→Int→Int→Int→Int × Int × Int × Int) (vld:Int→Int→Int→Int→Bool):Prop:=∀ (n h f a b c:Int) (g:Bool) (nd cs:List (List AV)) (l:List (Int × AV)) (m:Nat),fnH Tryz.prog { glob:=glb,spec:=lk [(75,(normal_s vld nrm))],specH:=lk [],nowf:=true } { nt:=18,drop:=drp [(1,3968),(2,258048)],fr:=1000,kp:=[0,1,2] } (fun _ _=>none) 6 Tryz.f124 [.ptr 0 0,.agg [.int .i64 f,.int .i64 a,.int .i64 b,.int .i64 c]] [.cells [.int .i64 n,.int .i64 h,.sl 4 g nd,.mpv 1,.rw 2 3 m,.nils,.nils],.mp 27 3 l,.row 162 3 cs] (.int .i64 (atV nrm l f a b c)) [.cells [.int .i64 n,.int .i64 h,.sl 4 g nd,.mpv 1,.rw 2 3 m,.nils,.nils],.mp 27 3 l,.row 162 3 cs]
theorem matA_e (nrm:Int→Int→Int→Int→Int × Int × Int × Int) (vld:Int→Int→Int→Int→Bool):matA_T nrm vld=matA_S nrm vld:=by kernel_rfl
theorem matA_v:matA_S nrm vld:=Eq.mp (matA_e ..) (matA_P)
theorem matA_ok:HOK Tryz.prog glb 124 (matA_s nrm vld):=by
 refine ⟨fok Tryz.func124 (by kernel_rfl) (by kernel_rfl),?_⟩
 intro xs bs pre r bs2 h hp
 unfold matA_s at h
 split at h
 ·simp only [Option.some.injEq,Prod.mk.injEq] at h
  obtain ⟨h1,h2,h3⟩:=h
  subst h1 h2 h3
  exact fnH_sound tyNil (by exact specOK rfl rfl ⟨(normal_ok),trivial⟩ trivial) (by kernel_rfl) Tryz.func124 (matA_v  _ _ _ _ _ _ _ _ _ _ _)
 ·cases h
def matC_s (nrm:Int→Int→Int→Int→Int × Int × Int × Int) (vld:Int→Int→Int→Int→Bool):SpH
 | [.ptr 0 0,.agg [.int .i64 f,.int .i64 a,.int .i64 b,.int .i64 c]],[.cells [.int .i64 n,.int .i64 h,.sl 4 g nd,.mpv 1,.sl 3 g4 cl,.sl 2 g5 ed,.sl 1 g6 nx],.mp 27 3 l]=>some (True,.int .i64 (atV nrm l f a b c),[.cells [.int .i64 n,.int .i64 h,.sl 4 g nd,.mpv 1,.sl 3 g4 cl,.sl 2 g5 ed,.sl 1 g6 nx],.mp 27 3 l])
 | _,_=>none
def matC_T (nrm:Int→Int→Int→Int→Int × Int × Int × Int) (vld:Int→Int→Int→Int→Bool):Prop :=
  ∀ (n h f a b c:Int) (g g4 g5 g6:Bool) (nd cl ed nx:List (List AV)) (l:List (Int × AV)),True→((-9223372036854775808:Int)≤f∧f≤(9223372036854775807:Int)) ∧
  ((-9223372036854775808:Int)≤a∧a≤(9223372036854775807:Int))∧((-9223372036854775808:Int)≤b∧b≤(9223372036854775807:Int))∧((-9223372036854775808:Int)≤c∧c
 ≤(9223372036854775807:Int))∧True→(-9223372036854775808:Int)≤n∧n≤(9223372036854775807:Int)→(-9223372036854775808:Int)≤h∧h≤(9223372036854775807:Int) →
  True→True→True→True→True→True∧mInt l (codeK [(nrm f a b c).fst,(nrm f a b c).snd.fst,(nrm f a b c).snd.snd.fst,(nrm f a b c).snd.snd.snd])=atV nrm l f a b c∧(n =
  n∧h=h∧((bif g then g=true else True)∧nd=nd)∧True∧((bif g4 then g4=true else True)∧cl=cl)∧((bif g5 then g5=true else True)∧ed=ed)∧((bif g6 then g6 =
  true else True)∧nx=nx)∧True)∧l=l∧True
theorem matC_P:matC_T nrm vld:=by
 unfold matC_T
 intros; (repeat' (first | exact trivial | exact rfl | exact gg _ | assumption | exact Int.add_zero _ | apply And.intro))
def matC_S (nrm:Int→Int→Int→Int→Int × Int × Int × Int) (vld:Int→Int→Int→Int→Bool):Prop:=∀ (n h f a b c:Int) (g g4 g5 g6:Bool) (nd cl ed nx:List (List AV)) (l:List (Int × AV)),fnH Tryz.prog { glob:=glb,spec:=lk [(75,(normal_s vld nrm))],specH:=lk [],nowf:=true } { nt:=18,drop:=drp [(1,3968),(2,258048)],fr:=1000,kp:=[0,1] } (fun _ _=>none) 6 Tryz.f124 [.ptr 0 0,.agg [.int .i64 f,.int .i64 a,.int .i64 b,.int .i64 c]] [.cells [.int .i64 n,.int .i64 h,.sl 4 g nd,.mpv 1,.sl 3 g4 cl,.sl 2 g5 ed,.sl 1 g6 nx],.mp 27 3 l] (.int .i64 (atV nrm l f a b c)) [.cells [.int .i64 n,.int .i64 h,.sl 4 g nd,.mpv 1,.sl 3 g4 cl,.sl 2 g5 ed,.sl 1 g6 nx],.mp 27 3 l]
theorem matC_e (nrm:Int→Int→Int→Int→Int × Int × Int × Int) (vld:Int→Int→Int→Int→Bool):matC_T nrm vld=matC_S nrm vld:=by kernel_rfl
theorem matC_v:matC_S nrm vld:=Eq.mp (matC_e ..) (matC_P)
theorem matC_ok:HOK Tryz.prog glb 124 (matC_s nrm vld):=by
 refine ⟨fok Tryz.func124 (by kernel_rfl) (by kernel_rfl),?_⟩
 intro xs bs pre r bs2 h hp
 unfold matC_s at h
 split at h
 ·simp only [Option.some.injEq,Prod.mk.injEq] at h
  obtain ⟨h1,h2,h3⟩:=h
  subst h1 h2 h3
  exact fnH_sound tyNil (by exact specOK rfl rfl ⟨(normal_ok),trivial⟩ trivial) (by kernel_rfl) Tryz.func124 (matC_v  _ _ _ _ _ _ _ _ _ _ _ _ _ _ _)
 ·cases h
def mupA_s:SpH
 | [.ptr 0 0,.agg [.int .i64 f,.int .i64 a,.int .i64 b,.int .i64 c]],[.cells [.int .i64 n,.int .i64 h,.sl 4 g nd,.mpv 1,.rw 2 3 m,.nils,.nils],.mp 27 3 l,.row 162 3 cs]=>some (PlS f a b c∧0≤h∧h≤840,.agg [.int .i64 f,.int .i64 (a+h),.int .i64 b,.int .i64 c,.int .i64 f,.int .i64 a,.int .i64 (b+h),.int .i64 c,.int .i64 f,.int .i64 a,.int .i64 b,.int .i64 (c+h)],[.cells [.int .i64 n,.int .i64 h,.sl 4 g nd,.mpv 1,.rw 2 3 m,.nils,.nils],.mp 27 3 l,.row 162 3 cs])
 | _,_=>none
def mupA_T:Prop :=
  ∀ (gl:Glob) (n h f a b c:Int) (g:Bool) (nd cs:List (List AV)) (l:List (Int × AV)) (m:Nat),PlS f a b c∧(0:Int)≤h∧h≤(840:Int)→True→((-9223372036854775808
 :Int)≤f∧f≤(9223372036854775807:Int))∧((-9223372036854775808:Int)≤a∧a≤(9223372036854775807:Int))∧((-9223372036854775808:Int)≤b∧b≤(9223372036854775807
 :Int))∧((-9223372036854775808:Int)≤c∧c≤(9223372036854775807:Int))∧True→(-9223372036854775808:Int)≤n∧n≤(9223372036854775807:Int)→(-9223372036854775808 :
  Int)≤h∧h≤(9223372036854775807:Int)→True→True→True→True→True→(PlS f a b c∧PlS f h (0:Int) (0:Int))∧(PlS f a b c∧PlS f (0:Int) h (0:Int))∧(PlS f a
  b c∧PlS f (0:Int) (0:Int) h)∧(f=f∧a+h=a+h∧b+(0:Int)=b∧c+(0:Int)=c∧f=f∧a+(0:Int)=a∧b+h=b+h∧c+(0:Int)=c∧f=f∧a+(0
 :Int)=a∧b+(0:Int)=b∧c+h=c+h∧True)∧(n=n∧h=h∧((bif g then g=true else True)∧nd=nd)∧True∧m=m∧True∧True∧True)∧l=l∧cs=cs∧True
theorem mupA_P:mupA_T:=by
 unfold mupA_T
 intro gl n h f a b c g nd cs l m ⟨hp,h0,h8⟩
 intros
 have q1:PlS f h 0 0:=⟨hp.f,by omega,by omega,by omega⟩
 have q2:PlS f 0 h 0:=⟨hp.f,by omega,by omega,by omega⟩
 have q3:PlS f 0 0 h:=⟨hp.f,by omega,by omega,by omega⟩
 (repeat' (first | exact trivial | exact rfl | exact gg _ | assumption | exact Int.add_zero _ | apply And.intro))
def mupA_S:Prop:=∀ (gl:Glob) (n h f a b c:Int) (g:Bool) (nd cs:List (List AV)) (l:List (Int × AV)) (m:Nat),PlS f a b c∧0≤h∧h≤840→fnH Tryz.prog { glob:=gl,spec:=lk [(123,mmoved_s)],specH:=lk [],nowf:=true } { nt:=24,drop:=drp [(1,16777184)],fr:=1000,kp:=[0,1,2] } (fun _ _=>none) 6 Tryz.f125 [.ptr 0 0,.agg [.int .i64 f,.int .i64 a,.int .i64 b,.int .i64 c]] [.cells [.int .i64 n,.int .i64 h,.sl 4 g nd,.mpv 1,.rw 2 3 m,.nils,.nils],.mp 27 3 l,.row 162 3 cs] (.agg [.int .i64 f,.int .i64 (a+h),.int .i64 b,.int .i64 c,.int .i64 f,.int .i64 a,.int .i64 (b+h),.int .i64 c,.int .i64 f,.int .i64 a,.int .i64 b,.int .i64 (c+h)]) [.cells [.int .i64 n,.int .i64 h,.sl 4 g nd,.mpv 1,.rw 2 3 m,.nils,.nils],.mp 27 3 l,.row 162 3 cs]
theorem mupA_e:mupA_T=mupA_S:=by kernel_rfl
theorem mupA_v:mupA_S:=Eq.mp (mupA_e ..) (mupA_P)
theorem mupA_ok (gl:Glob):HOK Tryz.prog gl 125 mupA_s:=by
 refine ⟨fok Tryz.func125 (by kernel_rfl) (by kernel_rfl),?_⟩
 intro xs bs pre r bs2 h hp
 unfold mupA_s at h
 split at h
 ·simp only [Option.some.injEq,Prod.mk.injEq] at h
  obtain ⟨h1,h2,h3⟩:=h
  subst h1 h2 h3
  exact fnH_sound tyNil (by exact specOK rfl rfl ⟨(mmoved_ok gl),trivial⟩ trivial) (by kernel_rfl) Tryz.func125 (mupA_v gl _ _ _ _ _ _ _ _ _ _ _ hp)
 ·cases h
def mupC_s:SpH
 | [.ptr 0 0,.agg [.int .i64 f,.int .i64 a,.int .i64 b,.int .i64 c]],[.cells [.int .i64 n,.int .i64 h,.sl 4 g nd,.mpv 1,.sl 3 g4 cl,.sl 2 g5 ed,.sl 1 g6 nx],.mp 27 3 l]=>some (PlS f a b c∧0≤h∧h≤840,.agg [.int .i64 f,.int .i64 (a+h),.int .i64 b,.int .i64 c,.int .i64 f,.int .i64 a,.int .i64 (b+h),.int .i64 c,.int .i64 f,.int .i64 a,.int .i64 b,.int .i64 (c+h)],[.cells [.int .i64 n,.int .i64 h,.sl 4 g nd,.mpv 1,.sl 3 g4 cl,.sl 2 g5 ed,.sl 1 g6 nx],.mp 27 3 l])
 | _,_=>none
def mupC_T:Prop :=
  ∀ (gl:Glob) (n h f a b c:Int) (g g4 g5 g6:Bool) (nd cl ed nx:List (List AV)) (l:List (Int × AV)),PlS f a b c∧(0:Int)≤h∧h≤(840:Int)→True →
  ((-9223372036854775808:Int)≤f∧f≤(9223372036854775807:Int))∧((-9223372036854775808:Int)≤a∧a≤(9223372036854775807:Int))∧((-9223372036854775808:Int)≤b∧b
 ≤(9223372036854775807:Int))∧((-9223372036854775808:Int)≤c∧c≤(9223372036854775807:Int))∧True→(-9223372036854775808:Int)≤n∧n≤(9223372036854775807:Int) →
  (-9223372036854775808:Int)≤h∧h≤(9223372036854775807:Int)→True→True→True→True→True→(PlS f a b c∧PlS f h (0:Int) (0:Int))∧(PlS f a b c∧PlS f (0:Int)
  h (0:Int))∧(PlS f a b c∧PlS f (0:Int) (0:Int) h)∧(f=f∧a+h=a+h∧b+(0:Int)=b∧c+(0:Int)=c∧f=f∧a+(0:Int)=a∧b+h=b+h∧c+(0 :
  Int)=c∧f=f∧a+(0:Int)=a∧b+(0:Int)=b∧c+h=c+h∧True)∧(n=n∧h=h∧((bif g then g=true else True)∧nd=nd)∧True∧((bif g4 then g4=true
  else True)∧cl=cl)∧((bif g5 then g5=true else True)∧ed=ed)∧((bif g6 then g6=true else True)∧nx=nx)∧True)∧l=l∧True
theorem mupC_P:mupC_T:=by
 unfold mupC_T
 intro gl n h f a b c g g4 g5 g6 nd cl ed nx l ⟨hp,h0,h8⟩
 intros
 have q1:PlS f h 0 0:=⟨hp.f,by omega,by omega,by omega⟩
 have q2:PlS f 0 h 0:=⟨hp.f,by omega,by omega,by omega⟩
 have q3:PlS f 0 0 h:=⟨hp.f,by omega,by omega,by omega⟩
 (repeat' (first | exact trivial | exact rfl | exact gg _ | assumption | exact Int.add_zero _ | apply And.intro))
def mupC_S:Prop:=∀ (gl:Glob) (n h f a b c:Int) (g g4 g5 g6:Bool) (nd cl ed nx:List (List AV)) (l:List (Int × AV)),PlS f a b c∧0≤h∧h≤840→fnH Tryz.prog { glob:=gl,spec:=lk [(123,mmoved_s)],specH:=lk [],nowf:=true } { nt:=24,drop:=drp [(1,16777184)],fr:=1000,kp:=[0,1] } (fun _ _=>none) 6 Tryz.f125 [.ptr 0 0,.agg [.int .i64 f,.int .i64 a,.int .i64 b,.int .i64 c]] [.cells [.int .i64 n,.int .i64 h,.sl 4 g nd,.mpv 1,.sl 3 g4 cl,.sl 2 g5 ed,.sl 1 g6 nx],.mp 27 3 l] (.agg [.int .i64 f,.int .i64 (a+h),.int .i64 b,.int .i64 c,.int .i64 f,.int .i64 a,.int .i64 (b+h),.int .i64 c,.int .i64 f,.int .i64 a,.int .i64 b,.int .i64 (c+h)]) [.cells [.int .i64 n,.int .i64 h,.sl 4 g nd,.mpv 1,.sl 3 g4 cl,.sl 2 g5 ed,.sl 1 g6 nx],.mp 27 3 l]
theorem mupC_e:mupC_T=mupC_S:=by kernel_rfl
theorem mupC_v:mupC_S:=Eq.mp (mupC_e ..) (mupC_P)
theorem mupC_ok (gl:Glob):HOK Tryz.prog gl 125 mupC_s:=by
 refine ⟨fok Tryz.func125 (by kernel_rfl) (by kernel_rfl),?_⟩
 intro xs bs pre r bs2 h hp
 unfold mupC_s at h
 split at h
 ·simp only [Option.some.injEq,Prod.mk.injEq] at h
  obtain ⟨h1,h2,h3⟩:=h
  subst h1 h2 h3
  exact fnH_sound tyNil (by exact specOK rfl rfl ⟨(mmoved_ok gl),trivial⟩ trivial) (by kernel_rfl) Tryz.func125 (mupC_v gl _ _ _ _ _ _ _ _ _ _ _ _ _ _ _ hp)
 ·cases h
def mdnA_s:SpH
 | [.ptr 0 0,.agg [.int .i64 f,.int .i64 a,.int .i64 b,.int .i64 c]],[.cells [.int .i64 n,.int .i64 h,.sl 4 g nd,.mpv 1,.rw 2 3 m,.nils,.nils],.mp 27 3 l,.row 162 3 cs]=>some (PlS f a b c∧0≤h∧h≤840,.agg [.int .i64 f,.int .i64 a,.int .i64 (b+h),.int .i64 (c+h),.int .i64 f,.int .i64 (a+h),.int .i64 b,.int .i64 (c+h),.int .i64 f,.int .i64 (a+h),.int .i64 (b+h),.int .i64 c],[.cells [.int .i64 n,.int .i64 h,.sl 4 g nd,.mpv 1,.rw 2 3 m,.nils,.nils],.mp 27 3 l,.row 162 3 cs])
 | _,_=>none
def mdnA_T:Prop :=
  ∀ (gl:Glob) (n h f a b c:Int) (g:Bool) (nd cs:List (List AV)) (l:List (Int × AV)) (m:Nat),PlS f a b c∧(0:Int)≤h∧h≤(840:Int)→True→((-9223372036854775808
 :Int)≤f∧f≤(9223372036854775807:Int))∧((-9223372036854775808:Int)≤a∧a≤(9223372036854775807:Int))∧((-9223372036854775808:Int)≤b∧b≤(9223372036854775807
 :Int))∧((-9223372036854775808:Int)≤c∧c≤(9223372036854775807:Int))∧True→(-9223372036854775808:Int)≤n∧n≤(9223372036854775807:Int)→(-9223372036854775808 :
  Int)≤h∧h≤(9223372036854775807:Int)→True→True→True→True→True→(PlS f a b c∧PlS f (0:Int) h h)∧(PlS f a b c∧PlS f h (0:Int) h)∧(PlS f a b c∧PlS f h h
  (0:Int))∧(f=f∧a+(0:Int)=a∧b+h=b+h∧c+h=c+h∧f=f∧a+h=a+h∧b+(0:Int)=b∧c+h=c+h∧f=f∧a+h=a+h∧b+h=b+h∧c+(0
 :Int)=c∧True)∧(n=n∧h=h∧((bif g then g=true else True)∧nd=nd)∧True∧m=m∧True∧True∧True)∧l=l∧cs=cs∧True
theorem mdnA_P:mdnA_T:=by
 unfold mdnA_T
 intro gl n h f a b c g nd cs l m ⟨hp,h0,h8⟩
 intros
 have q1:PlS f 0 h h:=⟨hp.f,by omega,by omega,by omega⟩
 have q2:PlS f h 0 h:=⟨hp.f,by omega,by omega,by omega⟩
 have q3:PlS f h h 0:=⟨hp.f,by omega,by omega,by omega⟩
 (repeat' (first | exact trivial | exact rfl | exact gg _ | assumption | exact Int.add_zero _ | apply And.intro))
def mdnA_S:Prop:=∀ (gl:Glob) (n h f a b c:Int) (g:Bool) (nd cs:List (List AV)) (l:List (Int × AV)) (m:Nat),PlS f a b c∧0≤h∧h≤840→fnH Tryz.prog { glob:=gl,spec:=lk [(123,mmoved_s)],specH:=lk [],nowf:=true } { nt:=36,drop:=drp [(1,68719476704)],fr:=1000,kp:=[0,1,2] } (fun _ _=>none) 6 Tryz.f126 [.ptr 0 0,.agg [.int .i64 f,.int .i64 a,.int .i64 b,.int .i64 c]] [.cells [.int .i64 n,.int .i64 h,.sl 4 g nd,.mpv 1,.rw 2 3 m,.nils,.nils],.mp 27 3 l,.row 162 3 cs] (.agg [.int .i64 f,.int .i64 a,.int .i64 (b+h),.int .i64 (c+h),.int .i64 f,.int .i64 (a+h),.int .i64 b,.int .i64 (c+h),.int .i64 f,.int .i64 (a+h),.int .i64 (b+h),.int .i64 c]) [.cells [.int .i64 n,.int .i64 h,.sl 4 g nd,.mpv 1,.rw 2 3 m,.nils,.nils],.mp 27 3 l,.row 162 3 cs]
theorem mdnA_e:mdnA_T=mdnA_S:=by kernel_rfl
theorem mdnA_v:mdnA_S:=Eq.mp (mdnA_e ..) (mdnA_P)
theorem mdnA_ok (gl:Glob):HOK Tryz.prog gl 126 mdnA_s:=by
 refine ⟨fok Tryz.func126 (by kernel_rfl) (by kernel_rfl),?_⟩
 intro xs bs pre r bs2 h hp
 unfold mdnA_s at h
 split at h
 ·simp only [Option.some.injEq,Prod.mk.injEq] at h
  obtain ⟨h1,h2,h3⟩:=h
  subst h1 h2 h3
  exact fnH_sound tyNil (by exact specOK rfl rfl ⟨(mmoved_ok gl),trivial⟩ trivial) (by kernel_rfl) Tryz.func126 (mdnA_v gl _ _ _ _ _ _ _ _ _ _ _ hp)
 ·cases h
def mdnC_s:SpH
 | [.ptr 0 0,.agg [.int .i64 f,.int .i64 a,.int .i64 b,.int .i64 c]],[.cells [.int .i64 n,.int .i64 h,.sl 4 g nd,.mpv 1,.sl 3 g4 cl,.sl 2 g5 ed,.sl 1 g6 nx],.mp 27 3 l]=>some (PlS f a b c∧0≤h∧h≤840,.agg [.int .i64 f,.int .i64 a,.int .i64 (b+h),.int .i64 (c+h),.int .i64 f,.int .i64 (a+h),.int .i64 b,.int .i64 (c+h),.int .i64 f,.int .i64 (a+h),.int .i64 (b+h),.int .i64 c],[.cells [.int .i64 n,.int .i64 h,.sl 4 g nd,.mpv 1,.sl 3 g4 cl,.sl 2 g5 ed,.sl 1 g6 nx],.mp 27 3 l])
 | _,_=>none
def mdnC_T:Prop :=
  ∀ (gl:Glob) (n h f a b c:Int) (g g4 g5 g6:Bool) (nd cl ed nx:List (List AV)) (l:List (Int × AV)),PlS f a b c∧(0:Int)≤h∧h≤(840:Int)→True →
  ((-9223372036854775808:Int)≤f∧f≤(9223372036854775807:Int))∧((-9223372036854775808:Int)≤a∧a≤(9223372036854775807:Int))∧((-9223372036854775808:Int)≤b∧b
 ≤(9223372036854775807:Int))∧((-9223372036854775808:Int)≤c∧c≤(9223372036854775807:Int))∧True→(-9223372036854775808:Int)≤n∧n≤(9223372036854775807:Int) →
  (-9223372036854775808:Int)≤h∧h≤(9223372036854775807:Int)→True→True→True→True→True→(PlS f a b c∧PlS f (0:Int) h h)∧(PlS f a b c∧PlS f h (0:Int) h) ∧
  (PlS f a b c∧PlS f h h (0:Int))∧(f=f∧a+(0:Int)=a∧b+h=b+h∧c+h=c+h∧f=f∧a+h=a+h∧b+(0:Int)=b∧c+h=c+h∧f=f∧a+h=a+h
 ∧b+h=b+h∧c+(0:Int)=c∧True)∧(n=n∧h=h∧((bif g then g=true else True)∧nd=nd)∧True∧((bif g4 then g4=true else True)∧cl=cl)∧((bif g5 then g5
 =true else True)∧ed=ed)∧((bif g6 then g6=true else True)∧nx=nx)∧True)∧l=l∧True
theorem mdnC_P:mdnC_T:=by
 unfold mdnC_T
 intro gl n h f a b c g g4 g5 g6 nd cl ed nx l ⟨hp,h0,h8⟩
 intros
 have q1:PlS f 0 h h:=⟨hp.f,by omega,by omega,by omega⟩
 have q2:PlS f h 0 h:=⟨hp.f,by omega,by omega,by omega⟩
 have q3:PlS f h h 0:=⟨hp.f,by omega,by omega,by omega⟩
 (repeat' (first | exact trivial | exact rfl | exact gg _ | assumption | exact Int.add_zero _ | apply And.intro))
def mdnC_S:Prop:=∀ (gl:Glob) (n h f a b c:Int) (g g4 g5 g6:Bool) (nd cl ed nx:List (List AV)) (l:List (Int × AV)),PlS f a b c∧0≤h∧h≤840→fnH Tryz.prog { glob:=gl,spec:=lk [(123,mmoved_s)],specH:=lk [],nowf:=true } { nt:=36,drop:=drp [(1,68719476704)],fr:=1000,kp:=[0,1] } (fun _ _=>none) 6 Tryz.f126 [.ptr 0 0,.agg [.int .i64 f,.int .i64 a,.int .i64 b,.int .i64 c]] [.cells [.int .i64 n,.int .i64 h,.sl 4 g nd,.mpv 1,.sl 3 g4 cl,.sl 2 g5 ed,.sl 1 g6 nx],.mp 27 3 l] (.agg [.int .i64 f,.int .i64 a,.int .i64 (b+h),.int .i64 (c+h),.int .i64 f,.int .i64 (a+h),.int .i64 b,.int .i64 (c+h),.int .i64 f,.int .i64 (a+h),.int .i64 (b+h),.int .i64 c]) [.cells [.int .i64 n,.int .i64 h,.sl 4 g nd,.mpv 1,.sl 3 g4 cl,.sl 2 g5 ed,.sl 1 g6 nx],.mp 27 3 l]
theorem mdnC_e:mdnC_T=mdnC_S:=by kernel_rfl
theorem mdnC_v:mdnC_S:=Eq.mp (mdnC_e ..) (mdnC_P)
theorem mdnC_ok (gl:Glob):HOK Tryz.prog gl 126 mdnC_s:=by
 refine ⟨fok Tryz.func126 (by kernel_rfl) (by kernel_rfl),?_⟩
 intro xs bs pre r bs2 h hp
 unfold mdnC_s at h
 split at h
 ·simp only [Option.some.injEq,Prod.mk.injEq] at h
  obtain ⟨h1,h2,h3⟩:=h
  subst h1 h2 h3
  exact fnH_sound tyNil (by exact specOK rfl rfl ⟨(mmoved_ok gl),trivial⟩ trivial) (by kernel_rfl) Tryz.func126 (mdnC_v gl _ _ _ _ _ _ _ _ _ _ _ _ _ _ _ hp)
 ·cases h
end Go.Proofs.YtgbbmadjdaphnaaGreatDoor
namespace Go.Proofs.YtgbbmadjdaphnaaGreatDoor
open Go Go.Shelf
def srtC_ren:Go.Shelf.Ren:=⟨fun | 6=>86 | 15=>139 | 14=>138 | 28=>165 | 29=>166 | 20=>157 | 21=>158 | 22=>159 | 23=>160 | 24=>161 | 25=>162 | 26=>163 | 27=>164 | 46=>199 | 47=>200 | 48=>201 | 49=>202 | 50=>203 | 57=>215 | n=>n,fun | 22=>147 | 24=>162 | 25=>164 | 3=>3 | 39=>73 | 0=>0 | 53=>244 | 55=>67 | 4=>4 | 46=>238 | 45=>237 | 50=>157 | 5=>5 | 9=>9 | 66=>268 | 70=>272 | 76=>281 | 77=>282 | n=>n,fun | n=>n⟩
theorem srtC:Go.Proofs.SlLaysF0.n6 Tryz.prog srtC_ren:={
 mixed:=by kernel_rfl
 f6:=⟨Tryz.f86.name,by decide,Tryz.func86.trans (congrArg some (by kernel_rfl))⟩
 f14:=⟨Tryz.f138.name,by decide,Tryz.func138.trans (congrArg some (by kernel_rfl))⟩
 f15:=Tryz.func139.trans (congrArg some (by kernel_rfl))
 f20:=⟨Tryz.f157.name,by decide,Tryz.func157.trans (congrArg some (by kernel_rfl))⟩
 f21:=⟨Tryz.f158.name,by decide,Tryz.func158.trans (congrArg some (by kernel_rfl))⟩
 f22:=⟨Tryz.f159.name,by decide,Tryz.func159.trans (congrArg some (by kernel_rfl))⟩
 f23:=⟨Tryz.f160.name,by decide,Tryz.func160.trans (congrArg some (by kernel_rfl))⟩
 f24:=⟨Tryz.f161.name,by decide,Tryz.func161.trans (congrArg some (by kernel_rfl))⟩
 f25:=⟨Tryz.f162.name,by decide,Tryz.func162.trans (congrArg some (by kernel_rfl))⟩
 f26:=⟨Tryz.f163.name,by decide,Tryz.func163.trans (congrArg some (by kernel_rfl))⟩
 f27:=⟨Tryz.f164.name,by decide,Tryz.func164.trans (congrArg some (by kernel_rfl))⟩
 f28:=Tryz.func165.trans (congrArg some (by kernel_rfl))
 f29:=Tryz.func166.trans (congrArg some (by kernel_rfl))
 f46:=⟨Tryz.f199.name,by decide,Tryz.func199.trans (congrArg some (by kernel_rfl))⟩
 f47:=Tryz.func200.trans (congrArg some (by kernel_rfl))
 f48:=Tryz.func201.trans (congrArg some (by kernel_rfl))
 f49:=⟨Tryz.f202.name,by decide,Tryz.func202.trans (congrArg some (by kernel_rfl))⟩
 f50:=⟨Tryz.f203.name,by decide,Tryz.func203.trans (congrArg some (by kernel_rfl))⟩
 f57:=⟨Tryz.f215.name,by decide,Tryz.func215.trans (congrArg some (by kernel_rfl))⟩
 t0:=Tryz.underlying0
 a0:=Tryz.isAgg0
 z0:=Tryz.sizeOf0
 v0:=Tryz.zeroValue0
 t3:=Tryz.underlying3
 a3:=Tryz.isAgg3
 z3:=Tryz.sizeOf3
 v3:=Tryz.zeroValue3
 t4:=Tryz.underlying4
 a4:=Tryz.isAgg4
 z4:=Tryz.sizeOf4
 v4:=Tryz.zeroValue4
 t5:=Tryz.underlying5
 a5:=Tryz.isAgg5
 z5:=Tryz.sizeOf5
 v5:=Tryz.zeroValue5
 t9:=Tryz.underlying9
 a9:=Tryz.isAgg9
 z9:=Tryz.sizeOf9
 v9:=Tryz.zeroValue9
 t22:=Tryz.underlying147
 a22:=Tryz.isAgg147
 z22:=Tryz.sizeOf147
 v22:=Tryz.zeroValue147
 t25:=Tryz.underlying164
 a25:=Tryz.isAgg164
 z25:=Tryz.sizeOf164
 v25:=Tryz.zeroValue164
 t39:=Tryz.underlying73
 a39:=Tryz.isAgg73
 z39:=Tryz.sizeOf73
 v39:=Tryz.zeroValue73
 t45:=Tryz.underlying237
 a45:=Tryz.isAgg237
 z45:=Tryz.sizeOf237
 v45:=Tryz.zeroValue237
 t46:=Tryz.underlying238
 a46:=Tryz.isAgg238
 z46:=Tryz.sizeOf238
 v46:=Tryz.zeroValue238
 t50:=Tryz.underlying157
 a50:=Tryz.isAgg157
 z50:=Tryz.sizeOf157
 v50:=Tryz.zeroValue157
 t53:=Tryz.underlying244
 a53:=Tryz.isAgg244
 z53:=Tryz.sizeOf244
 v53:=Tryz.zeroValue244
 t55:=Tryz.underlying67
 a55:=Tryz.isAgg67
 z55:=Tryz.sizeOf67
 v55:=Tryz.zeroValue67
 t66:=Tryz.underlying268
 a66:=Tryz.isAgg268
 z66:=Tryz.sizeOf268
 v66:=Tryz.zeroValue268
 t70:=Tryz.underlying272
 a70:=Tryz.isAgg272
 z70:=Tryz.sizeOf272
 v70:=Tryz.zeroValue272
 t76:=Tryz.underlying281
 a76:=Tryz.isAgg281
 z76:=Tryz.sizeOf281
 v76:=Tryz.zeroValue281
 t77:=Tryz.underlying282
 a77:=Tryz.isAgg282
 z77:=Tryz.sizeOf282
 v77:=Tryz.zeroValue282 }
def srtE_ren:Go.Shelf.Ren:=⟨fun | 6=>90 | 15=>139 | 14=>141 | 28=>165 | 29=>166 | 20=>167 | 21=>168 | 22=>169 | 23=>170 | 24=>171 | 25=>172 | 26=>173 | 27=>174 | 46=>204 | 47=>200 | 48=>201 | 49=>205 | 50=>206 | 57=>216 | n=>n,fun | 22=>109 | 24=>143 | 25=>166 | 3=>3 | 39=>73 | 0=>0 | 53=>244 | 55=>67 | 4=>4 | 46=>238 | 45=>237 | 50=>157 | 5=>5 | 9=>9 | 66=>268 | 70=>272 | 76=>281 | 77=>282 | n=>n,fun | n=>n⟩
theorem srtE:Go.Proofs.SlLaysF0.n6 Tryz.prog srtE_ren:={
 mixed:=by kernel_rfl
 f6:=⟨Tryz.f90.name,by decide,Tryz.func90.trans (congrArg some (by kernel_rfl))⟩
 f14:=⟨Tryz.f141.name,by decide,Tryz.func141.trans (congrArg some (by kernel_rfl))⟩
 f15:=Tryz.func139.trans (congrArg some (by kernel_rfl))
 f20:=⟨Tryz.f167.name,by decide,Tryz.func167.trans (congrArg some (by kernel_rfl))⟩
 f21:=⟨Tryz.f168.name,by decide,Tryz.func168.trans (congrArg some (by kernel_rfl))⟩
 f22:=⟨Tryz.f169.name,by decide,Tryz.func169.trans (congrArg some (by kernel_rfl))⟩
 f23:=⟨Tryz.f170.name,by decide,Tryz.func170.trans (congrArg some (by kernel_rfl))⟩
 f24:=⟨Tryz.f171.name,by decide,Tryz.func171.trans (congrArg some (by kernel_rfl))⟩
 f25:=⟨Tryz.f172.name,by decide,Tryz.func172.trans (congrArg some (by kernel_rfl))⟩
 f26:=⟨Tryz.f173.name,by decide,Tryz.func173.trans (congrArg some (by kernel_rfl))⟩
 f27:=⟨Tryz.f174.name,by decide,Tryz.func174.trans (congrArg some (by kernel_rfl))⟩
 f28:=Tryz.func165.trans (congrArg some (by kernel_rfl))
 f29:=Tryz.func166.trans (congrArg some (by kernel_rfl))
 f46:=⟨Tryz.f204.name,by decide,Tryz.func204.trans (congrArg some (by kernel_rfl))⟩
 f47:=Tryz.func200.trans (congrArg some (by kernel_rfl))
 f48:=Tryz.func201.trans (congrArg some (by kernel_rfl))
 f49:=⟨Tryz.f205.name,by decide,Tryz.func205.trans (congrArg some (by kernel_rfl))⟩
 f50:=⟨Tryz.f206.name,by decide,Tryz.func206.trans (congrArg some (by kernel_rfl))⟩
 f57:=⟨Tryz.f216.name,by decide,Tryz.func216.trans (congrArg some (by kernel_rfl))⟩
 t0:=Tryz.underlying0
 a0:=Tryz.isAgg0
 z0:=Tryz.sizeOf0
 v0:=Tryz.zeroValue0
 t3:=Tryz.underlying3
 a3:=Tryz.isAgg3
 z3:=Tryz.sizeOf3
 v3:=Tryz.zeroValue3
 t4:=Tryz.underlying4
 a4:=Tryz.isAgg4
 z4:=Tryz.sizeOf4
 v4:=Tryz.zeroValue4
 t5:=Tryz.underlying5
 a5:=Tryz.isAgg5
 z5:=Tryz.sizeOf5
 v5:=Tryz.zeroValue5
 t9:=Tryz.underlying9
 a9:=Tryz.isAgg9
 z9:=Tryz.sizeOf9
 v9:=Tryz.zeroValue9
 t22:=Tryz.underlying109
 a22:=Tryz.isAgg109
 z22:=Tryz.sizeOf109
 v22:=Tryz.zeroValue109
 t25:=Tryz.underlying166
 a25:=Tryz.isAgg166
 z25:=Tryz.sizeOf166
 v25:=Tryz.zeroValue166
 t39:=Tryz.underlying73
 a39:=Tryz.isAgg73
 z39:=Tryz.sizeOf73
 v39:=Tryz.zeroValue73
 t45:=Tryz.underlying237
 a45:=Tryz.isAgg237
 z45:=Tryz.sizeOf237
 v45:=Tryz.zeroValue237
 t46:=Tryz.underlying238
 a46:=Tryz.isAgg238
 z46:=Tryz.sizeOf238
 v46:=Tryz.zeroValue238
 t50:=Tryz.underlying157
 a50:=Tryz.isAgg157
 z50:=Tryz.sizeOf157
 v50:=Tryz.zeroValue157
 t53:=Tryz.underlying244
 a53:=Tryz.isAgg244
 z53:=Tryz.sizeOf244
 v53:=Tryz.zeroValue244
 t55:=Tryz.underlying67
 a55:=Tryz.isAgg67
 z55:=Tryz.sizeOf67
 v55:=Tryz.zeroValue67
 t66:=Tryz.underlying268
 a66:=Tryz.isAgg268
 z66:=Tryz.sizeOf268
 v66:=Tryz.zeroValue268
 t70:=Tryz.underlying272
 a70:=Tryz.isAgg272
 z70:=Tryz.sizeOf272
 v70:=Tryz.zeroValue272
 t76:=Tryz.underlying281
 a76:=Tryz.isAgg281
 z76:=Tryz.sizeOf281
 v76:=Tryz.zeroValue281
 t77:=Tryz.underlying282
 a77:=Tryz.isAgg282
 z77:=Tryz.sizeOf282
 v77:=Tryz.zeroValue282 }
def srtS_ren:Go.Shelf.Ren:=⟨fun | 6=>127 | 15=>139 | 14=>156 | 28=>165 | 29=>166 | 20=>191 | 21=>192 | 22=>193 | 23=>194 | 24=>195 | 25=>196 | 26=>197 | 27=>198 | 46=>212 | 47=>200 | 48=>201 | 49=>213 | 50=>214 | 57=>219 | n=>n,fun | 22=>102 | 24=>106 | 25=>153 | 3=>3 | 39=>73 | 0=>0 | 53=>244 | 55=>67 | 4=>4 | 46=>238 | 45=>237 | 50=>157 | 5=>5 | 9=>9 | 66=>268 | 70=>272 | 76=>281 | 77=>282 | n=>n,fun | n=>n⟩
theorem srtS:Go.Proofs.SlLaysF0.n6 Tryz.prog srtS_ren:={
 mixed:=by kernel_rfl
 f6:=⟨Tryz.f127.name,by decide,Tryz.func127.trans (congrArg some (by kernel_rfl))⟩
 f14:=⟨Tryz.f156.name,by decide,Tryz.func156.trans (congrArg some (by kernel_rfl))⟩
 f15:=Tryz.func139.trans (congrArg some (by kernel_rfl))
 f20:=⟨Tryz.f191.name,by decide,Tryz.func191.trans (congrArg some (by kernel_rfl))⟩
 f21:=⟨Tryz.f192.name,by decide,Tryz.func192.trans (congrArg some (by kernel_rfl))⟩
 f22:=⟨Tryz.f193.name,by decide,Tryz.func193.trans (congrArg some (by kernel_rfl))⟩
 f23:=⟨Tryz.f194.name,by decide,Tryz.func194.trans (congrArg some (by kernel_rfl))⟩
 f24:=⟨Tryz.f195.name,by decide,Tryz.func195.trans (congrArg some (by kernel_rfl))⟩
 f25:=⟨Tryz.f196.name,by decide,Tryz.func196.trans (congrArg some (by kernel_rfl))⟩
 f26:=⟨Tryz.f197.name,by decide,Tryz.func197.trans (congrArg some (by kernel_rfl))⟩
 f27:=⟨Tryz.f198.name,by decide,Tryz.func198.trans (congrArg some (by kernel_rfl))⟩
 f28:=Tryz.func165.trans (congrArg some (by kernel_rfl))
 f29:=Tryz.func166.trans (congrArg some (by kernel_rfl))
 f46:=⟨Tryz.f212.name,by decide,Tryz.func212.trans (congrArg some (by kernel_rfl))⟩
 f47:=Tryz.func200.trans (congrArg some (by kernel_rfl))
 f48:=Tryz.func201.trans (congrArg some (by kernel_rfl))
 f49:=⟨Tryz.f213.name,by decide,Tryz.func213.trans (congrArg some (by kernel_rfl))⟩
 f50:=⟨Tryz.f214.name,by decide,Tryz.func214.trans (congrArg some (by kernel_rfl))⟩
 f57:=⟨Tryz.f219.name,by decide,Tryz.func219.trans (congrArg some (by kernel_rfl))⟩
 t0:=Tryz.underlying0
 a0:=Tryz.isAgg0
 z0:=Tryz.sizeOf0
 v0:=Tryz.zeroValue0
 t3:=Tryz.underlying3
 a3:=Tryz.isAgg3
 z3:=Tryz.sizeOf3
 v3:=Tryz.zeroValue3
 t4:=Tryz.underlying4
 a4:=Tryz.isAgg4
 z4:=Tryz.sizeOf4
 v4:=Tryz.zeroValue4
 t5:=Tryz.underlying5
 a5:=Tryz.isAgg5
 z5:=Tryz.sizeOf5
 v5:=Tryz.zeroValue5
 t9:=Tryz.underlying9
 a9:=Tryz.isAgg9
 z9:=Tryz.sizeOf9
 v9:=Tryz.zeroValue9
 t22:=Tryz.underlying102
 a22:=Tryz.isAgg102
 z22:=Tryz.sizeOf102
 v22:=Tryz.zeroValue102
 t25:=Tryz.underlying153
 a25:=Tryz.isAgg153
 z25:=Tryz.sizeOf153
 v25:=Tryz.zeroValue153
 t39:=Tryz.underlying73
 a39:=Tryz.isAgg73
 z39:=Tryz.sizeOf73
 v39:=Tryz.zeroValue73
 t45:=Tryz.underlying237
 a45:=Tryz.isAgg237
 z45:=Tryz.sizeOf237
 v45:=Tryz.zeroValue237
 t46:=Tryz.underlying238
 a46:=Tryz.isAgg238
 z46:=Tryz.sizeOf238
 v46:=Tryz.zeroValue238
 t50:=Tryz.underlying157
 a50:=Tryz.isAgg157
 z50:=Tryz.sizeOf157
 v50:=Tryz.zeroValue157
 t53:=Tryz.underlying244
 a53:=Tryz.isAgg244
 z53:=Tryz.sizeOf244
 v53:=Tryz.zeroValue244
 t55:=Tryz.underlying67
 a55:=Tryz.isAgg67
 z55:=Tryz.sizeOf67
 v55:=Tryz.zeroValue67
 t66:=Tryz.underlying268
 a66:=Tryz.isAgg268
 z66:=Tryz.sizeOf268
 v66:=Tryz.zeroValue268
 t70:=Tryz.underlying272
 a70:=Tryz.isAgg272
 z70:=Tryz.sizeOf272
 v70:=Tryz.zeroValue272
 t76:=Tryz.underlying281
 a76:=Tryz.isAgg281
 z76:=Tryz.sizeOf281
 v76:=Tryz.zeroValue281
 t77:=Tryz.underlying282
 a77:=Tryz.isAgg282
 z77:=Tryz.sizeOf282
 v77:=Tryz.zeroValue282 }
end Go.Proofs.YtgbbmadjdaphnaaGreatDoor
namespace Go.Proofs.YtgbbmadjdaphnaaGreatDoor
open Go Go.Sort
set_option linter.unusedVariables false
set_option linter.unusedSimpArgs false
def okA:AV→Bool
 | .int .i64 n=>decide (-1000000≤n∧n≤1000000)
 | _=>false
def okR (k:Nat) (r:List AV):Bool:=Nat.beq r.length k&&r.all okA
abbrev RwT (k:Nat):={ r:List AV // okR k r=true }
def aI:AV→Int
 | .int _ n=>n
 | _=>0
def nI (r:List AV) (i:Nat):Int:=aI (r.getD i .undef)
def encR {k:Nat} (r:RwT k):List Value:=r.1.map fun y=>.int .i64 (aI y)
instance (k:Nat):Inhabited (RwT k):=⟨⟨List.replicate k (.int .i64 0),by simp only [okR,List.length_replicate,nbeq_self,Bool.true_and,List.all_replicate]; simp [okA]⟩⟩
def toT (k:Nat) (xs:List (List AV)):List (RwT k):=xs.filterMap fun r=>if h:okR k r=true then some ⟨r,h⟩ else none
def sortR (k:Nat) (cf:RwT k→RwT k→Int) (xs:List (List AV)):List (List AV):=(pdq (ltOf cf) (toT k xs).toArray 0 (toT k xs).length (Lib.bitLen (toT k xs).length) true true).toList.map Subtype.val
theorem toT_val {k:Nat}:∀ {xs:List (List AV)},(∀ r ∈ xs,okR k r=true)→(toT k xs).map Subtype.val=xs
 | [],_=>rfl
 | x::xs,h=>by
  have hx:=h x (by simp)
  have ih:=toT_val (xs:=xs) (fun r hr=>h r (by simp [hr]))
  simp only [toT,List.filterMap_cons,hx,dif_pos,List.map_cons] at ih ⊢
  rw [ih]
theorem okR_at {k:Nat} {r:List AV} (h:okR k r=true) {i:Nat} {y:AV} (e:r[i]?=some y):r.length=k∧y=.int .i64 (aI y)∧-1000000≤aI y∧aI y≤1000000:=by
 simp only [okR,Bool.and_eq_true,List.all_eq_true] at h
 refine ⟨Nat.eq_of_beq_eq_true h.1,?_⟩
 have:=h.2 y (List.mem_of_getElem? e)
 cases y with
 | int q n=>cases q <;> simp only [okA,Bool.false_eq_true] at this; exact ⟨rfl,of_decide_eq_true this⟩
 | _=>cases this
theorem encR_len {k:Nat} (r:RwT k):(encR r).length=k:=by
 have:=r.2
 simp only [okR,Bool.and_eq_true] at this
 simp only [encR,List.length_map]
 exact Nat.eq_of_beq_eq_true this.1
theorem encR_one {k:Nat} (r:RwT k):∀ v ∈ encR r,v.oneCell'=true:=by
 intro v hv
 simp only [encR,List.mem_map] at hv
 obtain ⟨y,_,rfl⟩:=hv
 rfl
theorem sortR_perm {k:Nat} {cf:RwT k→RwT k→Int} (hO:SWO (ltOf cf)) {xs:List (List AV)} (h:∀ r ∈ xs,okR k r=true):(sortR k cf xs).Perm xs:=by
 have hp:=(pdq_sorts (ltOf cf) hO (toT k xs).toArray 0 (toT k xs).length (Lib.bitLen (toT k xs).length) true true (Nat.zero_le _) (by simp) (Or.inl rfl)).1
 obtain ⟨h1,_,h3⟩:=hp
 have e1:∀ a:Array (RwT k),a.size=(toT k xs).length→(a.extract 0 (toT k xs).length).toList=a.toList:=by
  intro a ha
  rw [← ha]; simp
 rw [e1 _ (by rw [h1]; simp),e1 _ (by simp)] at h3
 have:=h3.map Subtype.val
 rw [show (toT k xs).toArray.toList=toT k xs from rfl,toT_val h] at this
 exact this
theorem sortR_sorted {k:Nat} {cf:RwT k→RwT k→Int} (hO:SWO (ltOf cf)) (xs:List (List AV)):∃ d':List (RwT k),sortR k cf xs=d'.map Subtype.val∧d'.Pairwise fun a b=>ltOf cf b a=false:=by
 have hp:=pdq_sorts (ltOf cf) hO (toT k xs).toArray 0 (toT k xs).length (Lib.bitLen (toT k xs).length) true true (Nat.zero_le _) (by simp) (Or.inl rfl)
 refine ⟨_,rfl,List.pairwise_iff_getElem.2 fun i j hi hj hij=>?_⟩
 have hs:=hp.1.1
 simp only [List.size_toArray] at hs
 have:=hp.2 i j (Nat.zero_le _) hij (by simpa [hs] using hj)
 rw [getElem!_pos _ j (by simpa using hj),getElem!_pos _ i (by simpa using hi)] at this
 exact this
theorem sort_hc {k T f g:Nat} {ρ:Go.Shelf.Ren} {cf:RwT k→RwT k→Int} (hk0:0 < k) (hT:T < 1000000) (L:Go.Proofs.SlLaysF0.n6 Tryz.prog ρ) (hf:ρ.f 6=f) (aE:∀ w,(isAgg (ρ.t 24)).run Tryz.prog w=.ok true w) (zE:∀ w,(Go.sizeOf (ρ.t 24)).run Tryz.prog w=.ok k w)
  (hO:SWO (ltOf cf)) (eg:∀ args w,(callFunc g args).run Tryz.prog w=.ok (.enter g args) w) (hcmp:∀ (blk size:Nat) (w:World),CmpLays Tryz.prog g #[] encR k cf blk 0 size w) {gl:Glob} {xs:List (List AV)} (hx:∀ r ∈ xs,okR k r=true) (hne:xs≠[]) (hlen:xs.length≤1000000) :
  HC Tryz.prog gl f [.rw 0 k xs.length,.fn g []] [.row T k xs] (.tup []) [.row T k (sortR k cf xs)]:=by
 intro w S m vs hG hA hnm hheld hinj hv
 obtain ⟨L0,hL0⟩:∃ L0:List Value,L0=vs.toList:=⟨_,rfl⟩
 rw [← hL0] at hv
 simp only [CVl] at hv
 obtain ⟨v0,l1,e0,hv0,v1,l2,rfl,hv1,rfl⟩:=hv
 simp only [CV,CVl] at hv0 hv1
 obtain ⟨us,rfl,hus⟩:=hv1
 have hus:us=#[]:=by simpa using hus
 subst hus
 have hvs:vs=#[v0,.func (.func g) #[] #[]]:=by rw [← Array.toArray_toList (xs:=vs),← hL0,e0]
 subst hvs
 obtain ⟨A,c,a1,a2,a3,a4⟩:=hheld 0 _ rfl
 have hl0:0 < xs.length:=by cases xs with | nil=>exact absurd rfl hne | cons _ _=>simp
 rcases a4 with ⟨_,rfl⟩ | ⟨b,cur,fr,rfl,b1,b2,b3,b4,b5⟩
 ·omega
 have hfr:=RowMk.lt b2 hT
 subst hfr
 rw [rowTy_lt hT] at b1
 obtain ⟨_,A2,q2,c2,h1,h2,h3⟩:=hv0
 rw [a1] at h1
 simp only [Option.some.injEq,Value.iface.injEq,Value.slice.injEq,true_and] at h1
 obtain ⟨rfl,rfl,rfl⟩:=h1
 have hv0:=h3 rfl
 subst hv0
 obtain ⟨d,hd⟩:∃ d,d=(toT k xs).toArray:=⟨_,rfl⟩
 have hval:=toT_val hx
 have hdl:(toT k xs).length=xs.length:=by rw [← hval,List.length_map,hval]
 have hds:d.size=xs.length:=by rw [hd,List.size_toArray,hdl]
 have hdj:∀ (j:Nat) (hj:j < d.size),(d[j]).1=xs[j]'(by omega):=by
  intro j hj
  subst hd
  have:((toT k xs).map Subtype.val)[j]?=xs[j]?:=by rw [hval]
  rw [List.getElem?_map,List.getElem?_eq_getElem (by rw [hdl]; omega),List.getElem?_eq_getElem (by omega)] at this
  simpa using this
 have hH:HoldsK encR k w b 0 d:=by
  intro t ht
  have hsz:(flatK encR k d).size=d.size*k:=by simp [flatK]
  rw [hsz] at ht
  rw [get_flatK encR k d t ht]
  have hj:t / k < d.size:=(Nat.div_lt_iff_lt_mul hk0).2 ht
  have hi:t % k < k:=Nat.mod_lt _ hk0
  rw [getElem!_pos d _ hj]
  have hjx:t / k < xs.length:=by omega
  obtain ⟨r1,r2⟩:=b5 (t / k) _ (List.getElem?_eq_getElem hjx)
  have hil:t % k < xs[t / k].length:=by rw [r1]; exact hi
  obtain ⟨v,hv1,hv2,hv3⟩:=r2 (t % k) _ (List.getElem?_eq_getElem hil)
  have hok:=okR_at (hx _ (List.getElem_mem hjx)) (List.getElem?_eq_getElem hil)
  have ht2:t / k*k+t % k=t:=by rw [Nat.mul_comm]; exact Nat.div_add_mod t k
  rw [ht2] at hv1
  rw [hok.2.1] at hv3
  simp only [CV] at hv3
  have hen:v=((encR d[t / k])[t % k]!):=by
   have e2:(encR d[t / k])[t % k]?=some (.int .i64 (aI xs[t / k][t % k])):=by
    unfold encR
    rw [List.getElem?_map,hdj _ hj,List.getElem?_eq_getElem hil]; rfl
   rw [List.getElem!_eq_getElem?_getD,e2]
   exact hv3.1
  rw [← hen]
  refine ⟨?_,by simp [World.frozen?,b1]⟩
  simp only [World.cell?,b1,Nat.zero_add,id]
  exact hv1
 have hblk:b < w.heap.size:=(Array.getElem?_eq_some_iff.1 b1).1
 have hcon:=Go.Proofs.AnyQ.slices_SortFunc_eq L k aE zE encR encR_len encR_one cf hO g #[] b 0 c d w eg (hcmp b d.size w) hH hblk (by omega)
 rw [hf,hds] at hcon
 refine hcon.mono ?_
 rintro e w' ⟨rfl,nn,os,rfl⟩
 obtain ⟨D,hD⟩:∃ D,D=pdq (ltOf cf) d 0 xs.length (Lib.bitLen xs.length) true true:=⟨_,rfl⟩
 have hsr:sortR k cf xs=D.toList.map Subtype.val:=by rw [hD,hd,sortR,hdl]
 have hDs:D.size=xs.length:=by
  have:=(pdq_sorts (ltOf cf) hO d 0 xs.length (Lib.bitLen xs.length) true true (Nat.zero_le _) (by omega) (Or.inl rfl)).1.1
  rw [hD,this,hds]
 rw [← hD]
 have heap:∀ i,i < w.heap.size→(sortWorldK encR k w b 0 nn D os).heap[i]?=if b=i then some (.cells (putCells id 0 (flatK encR k D) cur) T (0,0)) else w.heap[i]?:=by
  intro i hi
  unfold sortWorldK putRowK putRow mapBlock grow Sort.ahead
  simp only
  rw [Array.getElem?_append_left (by simpa using hi),Array.getElem?_modify]
  by_cases h:b=i
  ·subst h
   rw [if_pos rfl,if_pos rfl,b1]; rfl
  ·rw [if_neg h,if_neg h]
 have hMb:Mof 1 m b:=⟨0,_,by decide,a1,rfl⟩
 refine ⟨.tuple #[],S,m,rfl,rfl,rfl,rfl,?_,Ext.refl S,?_,?_,?_,hinj,?_,MLe.refl m,?_⟩
 ·unfold sortWorldK putRowK putRow mapBlock grow Sort.ahead
  simp
 ·intro i hi hn
  refine ⟨?_,fun _=>rfl⟩
  rw [heap i hi,if_neg (fun e:b=i=>hn (by subst e; exact hMb))]
 ·intro i o v e
  obtain ⟨h1,h2⟩:=hA i o v e
  refine ⟨?_,h2⟩
  have hi:i < w.heap.size:=hA.lt e
  have hne:b≠i:=fun q=>by subst q; rw [b4 o] at e; cases e
  simp only [World.cell?] at h1 ⊢
  rw [heap i hi,if_neg hne]; exact h1
 ·intro q bb hq
  cases q with
  | succ q=>simp at hq
  | zero =>
   simp only [List.getElem?_cons_zero,Option.some.injEq] at hq
   subst hq
   have hyl:(sortR k cf xs).length=xs.length:=by rw [hsr]; simp [hDs]
   refine ⟨some ⟨b,0,none⟩,c,by rw [hyl]; exact a1,by omega,a3,.inr ⟨b,putCells id 0 (flatK encR k D) cur,(0,0),rfl,?_,RowMk.none,?_,b4,?_⟩⟩
   ·rw [heap b hblk,if_pos rfl,rowTy_lt hT]
   ·unfold putCells
    simp [b3]
   ·intro j x hj
    rw [hsr,List.getElem?_map] at hj
    cases hjD:D.toList[j]? with
    | none=>rw [hjD] at hj; cases hj
    | some r =>
     rw [hjD] at hj
     simp only [Option.map_some,Option.some.injEq] at hj
     subst hj
     have hjl:j < D.size:=by have:=(List.getElem?_eq_some_iff.1 hjD).1; simpa using this
     have hr:D[j]=r:=by
      have:=(List.getElem?_eq_some_iff.1 hjD).2
      simpa using this
     have hrl:r.1.length=k:=by have:=encR_len r; simpa [encR] using this
     refine ⟨hrl,fun i y hi=>?_⟩
     have hil:i < k:=by rw [← hrl]; exact (List.getElem?_eq_some_iff.1 hi).1
     have hok:=okR_at r.2 hi
     have hlt:j*k+i < D.size*k:=Nat.lt_of_lt_of_le (Nat.add_lt_add_left hil _) (by rw [← Nat.succ_mul]; exact Nat.mul_le_mul_right k hjl)
     refine ⟨.int .i64 (aI y),?_,rfl,?_⟩
     ·unfold putCells
      have hlc:j*k+i < cur.size:=by
       rw [b3]
       exact Nat.lt_of_lt_of_le hlt (Nat.mul_le_mul_right k (by omega))
      rw [Array.getElem?_mapIdx,Array.getElem?_eq_getElem hlc,Option.map_some]
      have hsz:(flatK encR k D).size=D.size*k:=by simp [flatK]
      rw [if_pos ⟨Nat.zero_le _,by rw [hsz]; omega⟩,Nat.sub_zero,get_flatK encR k D _ hlt]
      have e1:(j*k+i) / k=j:=by
       rw [Nat.mul_comm,Nat.mul_add_div hk0,Nat.div_eq_of_lt hil]; rfl
      have e2:(j*k+i) % k=i:=by rw [Nat.mul_comm,Nat.mul_add_mod]; exact Nat.mod_eq_of_lt hil
      rw [e1,e2,getElem!_pos D j hjl,hr]
      have e3:(encR r)[i]?=some (.int .i64 (aI y)):=by
       unfold encR
       rw [List.getElem?_map,hi]; rfl
      rw [List.getElem!_eq_getElem?_getD,e3]; rfl
     ·have hb:=hok.2.2
      have hy:=hok.2.1
      generalize aI y=z at hy hb ⊢
      subst hy
      simp only [CV]
      exact ⟨trivial,by show _∧_; omega⟩
 ·intro q u g' hq hu hg
  exact .inr ⟨q,u,hq,hu,hg⟩
 ·simp only [CV,CVl]; exact ⟨#[],rfl,rfl⟩
end Go.Proofs.YtgbbmadjdaphnaaGreatDoor
namespace Go.Proofs.YtgbbmadjdaphnaaGreatDoor
open Go Go.Sort Go.RowKit
set_option linter.unusedVariables false
set_option linter.unusedSimpArgs false
@[irreducible] def cmpZ (x y:Int):Int:=if x < y then -1 else if y < x then 1 else 0
set_option maxHeartbeats 400000 in
theorem isnan_any (x:Int) (w:World):Calls Tryz.prog 140 #[.int .i64 x] w fun e w'=>e=.returned (.bool false)∧w'=w:=by
 go_enter Tryz.func140,Tryz.ntmps140
 go_wp2
 go_ret
 exact ⟨by simp,rfl⟩
set_option maxHeartbeats 1000000 in
theorem cmp_any (x y:Int) (w:World):Calls Tryz.prog 89 #[.int .i64 x,.int .i64 y] w fun e w'=>e=.returned (.int .i64 (cmpZ x y))∧w'=w:=by
 unfold cmpZ
 by_cases c1:x < y
 ·rw [if_pos c1]
  go_enter Tryz.func89,Tryz.ntmps89
  go_wp2_with (go_at_call 140; refine (isnan_any _ _).mono ?_; rintro e w' ⟨rfl,rfl⟩)
  go_ret
  exact ⟨rfl,rfl⟩
 ·rw [if_neg c1]
  by_cases c2:y < x
  ·rw [if_pos c2]
   go_enter Tryz.func89,Tryz.ntmps89
   go_wp2_with (go_at_call 140; refine (isnan_any _ _).mono ?_; rintro e w' ⟨rfl,rfl⟩)
   go_ret
   exact ⟨rfl,rfl⟩
  ·rw [if_neg c2]
   go_enter Tryz.func89,Tryz.ntmps89
   go_wp2_with (go_at_call 140; refine (isnan_any _ _).mono ?_; rintro e w' ⟨rfl,rfl⟩)
   go_ret
   exact ⟨rfl,rfl⟩
theorem enc2 (x:RwT 2):(encR x).toArray=#[.int .i64 (nI x.1 0),.int .i64 (nI x.1 1)]:=by
 obtain ⟨r,h⟩:=x
 have hl:r.length=2:=by have:=encR_len ⟨r,h⟩; simpa [encR] using this
 match r,hl with
 | [a,b],_=>rfl
theorem enc3 (x:RwT 3):(encR x).toArray=#[.int .i64 (nI x.1 0),.int .i64 (nI x.1 1),.int .i64 (nI x.1 2)]:=by
 obtain ⟨r,h⟩:=x
 have hl:r.length=3:=by have:=encR_len ⟨r,h⟩; simpa [encR] using this
 match r,hl with
 | [a,b,c],_=>rfl
theorem nI_b {k:Nat} (x:RwT k) {i:Nat} (hi:i < k):-1000000≤nI x.1 i∧nI x.1 i≤1000000:=by
 have hl:x.1.length=k:=by have:=encR_len x; simpa [encR] using this
 have e:x.1[i]?=some (x.1[i]'(by omega)):=List.getElem?_eq_getElem _
 have h:=okR_at x.2 e
 unfold nI
 rw [List.getD_eq_getElem?_getD,e]
 exact h.2.2
set_option maxHeartbeats 1000000 in
theorem locc_any (a b c d:Int) (ha:-1000000≤a∧a≤1000000) (hc:-1000000≤c∧c≤1000000) (W:World):Calls Tryz.prog 128 #[.agg #[.int .i64 a,.int .i64 b],.agg #[.int .i64 c,.int .i64 d]] W fun e w'=>e=.returned (.int .i64 (a - c))∧∃ q os',w'=grow (W.drewN q) os':=by
 go_enter Tryz.func128,Tryz.ntmps128
 go_wp2
 go_ret
 exact ⟨rfl,0,_,by rw [alloc_eq_grow,alloc_eq_grow,grow_grow]; rfl⟩
@[irreducible] def or3 (x y z:Int):Int:=if x≠0 then x else if y≠0 then y else z
@[irreducible] def or2 (x y:Int):Int:=if x≠0 then x else y
set_option maxHeartbeats 1000000 in
theorem or3_any (b:Nat) (x y z:Int) (c:Nat) (W:World) (h0:W.cell? ⟨b,0,none⟩=some (.int .i64 x)) (h1:W.cell? ⟨b,1,none⟩=some (.int .i64 y)) (h2:W.cell? ⟨b,2,none⟩=some (.int .i64 z)) :
  Calls Tryz.prog 88 #[.slice (some ⟨b,0,none⟩) 3 c] W fun e w'=>e=.returned (.int .i64 (or3 x y z))∧w'=W:=by
 unfold or3
 by_cases hx:x=0
 ·by_cases hy:y=0
  ·subst hx hy
   by_cases hz:z=0
   ·subst hz
    go_enter Tryz.func88,Tryz.ntmps88
    go_wp2
    go_rounds 4
    go_ret
    exact ⟨rfl,rfl⟩
   ·go_enter Tryz.func88,Tryz.ntmps88
    go_wp2
    go_rounds 4
    go_ret
    exact ⟨rfl,rfl⟩
  ·subst hx
   go_enter Tryz.func88,Tryz.ntmps88
   go_wp2
   go_rounds 4
   go_ret
   exact ⟨rfl,rfl⟩
 ·go_enter Tryz.func88,Tryz.ntmps88
  go_wp2
  go_rounds 4
  go_ret
  exact ⟨rfl,rfl⟩
set_option maxHeartbeats 1000000 in
theorem or2_any (b:Nat) (x y:Int) (c:Nat) (W:World) (h0:W.cell? ⟨b,0,none⟩=some (.int .i64 x)) (h1:W.cell? ⟨b,1,none⟩=some (.int .i64 y)) :
  Calls Tryz.prog 88 #[.slice (some ⟨b,0,none⟩) 2 c] W fun e w'=>e=.returned (.int .i64 (or2 x y))∧w'=W:=by
 unfold or2
 by_cases hx:x=0
 ·subst hx
  by_cases hy:y=0
  ·subst hy
   go_enter Tryz.func88,Tryz.ntmps88
   go_wp2
   go_rounds 3
   go_ret
   exact ⟨rfl,rfl⟩
  ·go_enter Tryz.func88,Tryz.ntmps88
   go_wp2
   go_rounds 3
   go_ret
   exact ⟨rfl,rfl⟩
 ·go_enter Tryz.func88,Tryz.ntmps88
  go_wp2
  go_rounds 3
  go_ret
  exact ⟨rfl,rfl⟩
theorem gr3 (W:World) (A B C:Obj):((W.alloc A).alloc B).drew.alloc C=grow (W.drewN 1) (#[A]++#[B]++#[C]):=by
 rw [alloc_eq_grow W,alloc_eq_grow (grow W #[A]),alloc_eq_grow,grow_grow]
 exact grow_grow W.drew _ _
set_option maxHeartbeats 2000000 in
theorem bld2_any (a b c d:Int) (w:World):Calls Tryz.prog 91 #[.agg #[.int .i64 a,.int .i64 b],.agg #[.int .i64 c,.int .i64 d]] w fun e w'=>e=.returned (.int .i64 (or2 (cmpZ a c) (cmpZ b d)))∧∃ q os',w'=grow (w.drewN q) os':=by
 go_enter Tryz.func91,Tryz.ntmps91
 go_wp2_with fail
 go_region_held3 (fun w'=>w'.cell? ⟨w.heap.size,0,none⟩=some (.int .i64 a)∧w'.cell? ⟨w.heap.size,1,none⟩=some (.int .i64 b)∧w'.cell? ⟨w.heap.size+1,0,none⟩=some (.int .i64 c)∧w'.cell? ⟨w.heap.size+1,1,none⟩=some (.int .i64 d))
  (go_keep)
  ((first
   | (go_at_call 89; refine (cmp_any _ _ _).mono ?_; rintro e w2 ⟨rfl,rfl⟩)
   | (go_at_call 88; refine (or2_any _ (cmpZ a c) (cmpZ b d) _ _ ?h1 ?h2).mono ?_; (case h1=>go_simp); (case h2=>go_simp); rintro e w2 ⟨rfl,rfl⟩)))
 all_goals
  go_wp2
  go_ret
  exact ⟨rfl,1,_,gr3 _ _ _ _⟩
set_option maxHeartbeats 4000000 in
theorem bld1_any (a b p c d q:Int) (w:World):Calls Tryz.prog 87 #[.agg #[.int .i64 a,.int .i64 b,.int .i64 p],.agg #[.int .i64 c,.int .i64 d,.int .i64 q]] w fun e w'=>e=.returned (.int .i64 (or3 (cmpZ a c) (cmpZ b d) (cmpZ p q)))∧∃ q os',w'=grow (w.drewN q) os':=by
 go_enter Tryz.func87,Tryz.ntmps87
 go_wp2_with fail
 go_region_held3 (fun w'=>w'.cell? ⟨w.heap.size,0,none⟩=some (.int .i64 a)∧w'.cell? ⟨w.heap.size,1,none⟩=some (.int .i64 b)∧w'.cell? ⟨w.heap.size,2,none⟩=some (.int .i64 p)∧w'.cell? ⟨w.heap.size+1,0,none⟩=some (.int .i64 c)∧w'.cell? ⟨w.heap.size+1,1,none⟩=some (.int .i64 d)∧w'.cell? ⟨w.heap.size+1,2,none⟩=some (.int .i64 q))
  (go_keep)
  ((first
   | (go_at_call 89; refine (cmp_any _ _ _).mono ?_; rintro e w2 ⟨rfl,rfl⟩)
   | (go_at_call 88; refine (or3_any _ (cmpZ a c) (cmpZ b d) (cmpZ p q) _ _ ?h1 ?h2 ?h3).mono ?_; (case h1=>go_simp); (case h2=>go_simp); (case h3=>go_simp); rintro e w2 ⟨rfl,rfl⟩)))
 all_goals
  go_wp2
  go_ret
  exact ⟨rfl,1,_,gr3 _ _ _ _⟩
def cf3 (x y:RwT 3):Int:=or3 (cmpZ (nI x.1 0) (nI y.1 0)) (cmpZ (nI x.1 1) (nI y.1 1)) (cmpZ (nI x.1 2) (nI y.1 2))
def cf2 (x y:RwT 2):Int:=or2 (cmpZ (nI x.1 0) (nI y.1 0)) (cmpZ (nI x.1 1) (nI y.1 1))
def cfS (x y:RwT 2):Int:=nI x.1 0 - nI y.1 0
theorem cf3_iff (x y:RwT 3):ltOf cf3 x y=decide (nI x.1 0 < nI y.1 0∨(nI x.1 0=nI y.1 0∧(nI x.1 1 < nI y.1 1∨(nI x.1 1=nI y.1 1∧nI x.1 2 < nI y.1 2)))):=by
 unfold ltOf cf3 or3 cmpZ
 apply decide_eq_decide.2
 generalize nI x.1 0=a; generalize nI x.1 1=b; generalize nI x.1 2=c
 generalize nI y.1 0=d; generalize nI y.1 1=e; generalize nI y.1 2=f
 by_cases h1:a < d
 ·simp [h1]
 ·by_cases h2:d < a
  ·simp [h1,h2]; omega
  ·have:a=d:=by omega
   subst this
   by_cases h3:b < e
   ·simp [h3]
   ·by_cases h4:e < b
    ·simp [h3,h4]; omega
    ·have:b=e:=by omega
     subst this
     by_cases h5:c < f
     ·simp [h5]
     ·by_cases h6:f < c <;> simp [h5,h6]
theorem cf2_iff (x y:RwT 2):ltOf cf2 x y=decide (nI x.1 0 < nI y.1 0∨(nI x.1 0=nI y.1 0∧nI x.1 1 < nI y.1 1)):=by
 unfold ltOf cf2 or2 cmpZ
 apply decide_eq_decide.2
 generalize nI x.1 0=a; generalize nI x.1 1=b
 generalize nI y.1 0=d; generalize nI y.1 1=e
 by_cases h1:a < d
 ·simp [h1]
 ·by_cases h2:d < a
  ·simp [h1,h2]; omega
  ·have:a=d:=by omega
   subst this
   by_cases h3:b < e
   ·simp [h3]
   ·by_cases h4:e < b <;> simp [h3,h4]
theorem cfS_iff (x y:RwT 2):ltOf cfS x y=decide (nI x.1 0 < nI y.1 0):=by
 unfold ltOf cfS
 exact decide_eq_decide.2 (by omega)
theorem swo3:SWO (ltOf cf3) where
 irrefl x:=by rw [cf3_iff]; simp
 trans x y z h1 h2:=by rw [cf3_iff] at *; have h1:=of_decide_eq_true h1; have h2:=of_decide_eq_true h2; exact decide_eq_true (by omega)
 ntrans x y z h1 h2:=by rw [cf3_iff] at *; have h1:=of_decide_eq_false h1; have h2:=of_decide_eq_false h2; exact decide_eq_false (by omega)
theorem swo2:SWO (ltOf cf2) where
 irrefl x:=by rw [cf2_iff]; simp
 trans x y z h1 h2:=by rw [cf2_iff] at *; have h1:=of_decide_eq_true h1; have h2:=of_decide_eq_true h2; exact decide_eq_true (by omega)
 ntrans x y z h1 h2:=by rw [cf2_iff] at *; have h1:=of_decide_eq_false h1; have h2:=of_decide_eq_false h2; exact decide_eq_false (by omega)
theorem swoS:SWO (ltOf cfS) where
 irrefl x:=by rw [cfS_iff]; simp
 trans x y z h1 h2:=by rw [cfS_iff] at *; have h1:=of_decide_eq_true h1; have h2:=of_decide_eq_true h2; exact decide_eq_true (by omega)
 ntrans x y z h1 h2:=by rw [cfS_iff] at *; have h1:=of_decide_eq_false h1; have h2:=of_decide_eq_false h2; exact decide_eq_false (by omega)
structure AllR (k:Nat) (xs:List (List AV)) (n:Nat):Prop where
 ok:∀ r ∈ xs,okR k r=true
 ne:xs≠[]
 le:xs.length≤1000000
 eq:n=xs.length
def srtC_s:SpH
 | [.rw 0 3 n,.fn 87 []],[.row 162 3 xs]=>some (AllR 3 xs n,.tup [],[.row 162 3 (sortR 3 cf3 xs)])
 | _,_=>none
def srtE_s:SpH
 | [.rw 0 2 n,.fn 91 []],[.row 143 2 xs]=>some (AllR 2 xs n,.tup [],[.row 143 2 (sortR 2 cf2 xs)])
 | _,_=>none
def srtS_s:SpH
 | [.rw 0 2 n,.fn 128 []],[.row 106 2 xs]=>some (AllR 2 xs n,.tup [],[.row 106 2 (sortR 2 cfS xs)])
 | _,_=>none
theorem srtC_ok (gl:Glob):HOK Tryz.prog gl 86 srtC_s:=by
 refine ⟨fok Tryz.func86 (by kernel_rfl) (by kernel_rfl),?_⟩
 intro xs bs pre r bs2 h hp
 unfold srtC_s at h
 split at h
 ·simp only [Option.some.injEq,Prod.mk.injEq] at h
  obtain ⟨h1,h2,h3⟩:=h
  subst h1 h2 h3
  obtain ⟨o1,o2,o3,rfl⟩:=hp
  refine sort_hc (by decide) (by decide) srtC rfl Tryz.isAgg162 Tryz.sizeOf162 swo3 (enters_of Tryz.func87 (by kernel_rfl) rfl) (fun blk size w m os dk hs x y=>?_) o1 o2 o3
  rw [enc3 x,enc3 y]
  exact bld1_any _ _ _ _ _ _ _
 ·cases h
theorem srtE_ok (gl:Glob):HOK Tryz.prog gl 90 srtE_s:=by
 refine ⟨fok Tryz.func90 (by kernel_rfl) (by kernel_rfl),?_⟩
 intro xs bs pre r bs2 h hp
 unfold srtE_s at h
 split at h
 ·simp only [Option.some.injEq,Prod.mk.injEq] at h
  obtain ⟨h1,h2,h3⟩:=h
  subst h1 h2 h3
  obtain ⟨o1,o2,o3,rfl⟩:=hp
  refine sort_hc (by decide) (by decide) srtE rfl Tryz.isAgg143 Tryz.sizeOf143 swo2 (enters_of Tryz.func91 (by kernel_rfl) rfl) (fun blk size w m os dk hs x y=>?_) o1 o2 o3
  rw [enc2 x,enc2 y]
  exact bld2_any _ _ _ _ _
 ·cases h
theorem srtS_ok (gl:Glob):HOK Tryz.prog gl 127 srtS_s:=by
 refine ⟨fok Tryz.func127 (by kernel_rfl) (by kernel_rfl),?_⟩
 intro xs bs pre r bs2 h hp
 unfold srtS_s at h
 split at h
 ·simp only [Option.some.injEq,Prod.mk.injEq] at h
  obtain ⟨h1,h2,h3⟩:=h
  subst h1 h2 h3
  obtain ⟨o1,o2,o3,rfl⟩:=hp
  refine sort_hc (by decide) (by decide) srtS rfl Tryz.isAgg106 Tryz.sizeOf106 swoS (enters_of Tryz.func128 (by kernel_rfl) rfl) (fun blk size w m os dk hs x y=>?_) o1 o2 o3
  rw [enc2 x,enc2 y]
  exact locc_any _ _ _ _ (nI_b x (by decide)) (nI_b y (by decide)) _
 ·cases h
end Go.Proofs.YtgbbmadjdaphnaaGreatDoor
