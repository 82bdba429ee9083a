import Derived.Test.YtgbbmadjdaphnaaGreatDoorTPf
import Derived.Test.YtgbbmadjdaphnaaGreatDoorTPd
import Derived.ProofKit
import Derived.OpenShut
import Derived.ShutString
import Derived.ChangeOld
import Derived.Carry
import Derived.Deep.Slices
import Derived.WideShapes
import Derived.LaidMore
set_option maxRecDepth 100000
namespace Go.Proofs.YtgbbmadjdaphnaaGreatDoor
open Go
set_option linter.unusedVariables false
set_option linter.unusedSimpArgs false
theorem eqE_iff {x y:List AV} (hx:okR 2 x=true) (hy:okR 2 y=true):eqE x y=true↔x=y:=by
 have ex:=(ok2 hx).1
 have ey:=(ok2 hy).1
 constructor
 ·intro h
  simp only [eqE,Bool.and_eq_true,decide_eq_true_eq,and_true] at h
  rw [ex,ey,h.1,h.2]
 ·rintro rfl
  simp [eqE]
theorem cmpB_mem:∀ (l:List (List AV)) (p:List AV),okR 2 p=true→(∀ r ∈ l,okR 2 r=true)→∀ r ∈ l,r=p∨r ∈ cmpB p l
 | [],p,_,_,r,hr=>by simp at hr
 | x::l,p,hp,hl,r,hr=>by
  have hx:=hl x List.mem_cons_self
  have hl':=fun r hr=>hl r (List.mem_cons_of_mem _ hr)
  unfold cmpB
  split
  ·rename_i e
   have e:=(eqE_iff hx hp).1 e
   rcases List.mem_cons.1 hr with rfl | hr
   ·exact .inl e
   ·rcases cmpB_mem l x hx hl' r hr with rfl | h
    ·exact .inl e
    ·exact .inr h
  ·rcases List.mem_cons.1 hr with rfl | hr
   ·exact .inr List.mem_cons_self
   ·rcases cmpB_mem l x hx hl' r hr with rfl | h
    ·exact .inr List.mem_cons_self
    ·exact .inr (List.mem_cons_of_mem _ h)
theorem cmpct_mem {l:List (List AV)} (hl:∀ r ∈ l,okR 2 r=true) (r:List AV):r ∈ cmpct l↔r ∈ l:=by
 refine ⟨(cmpct_sub l).1 r,fun h=>?_⟩
 match l,h with
 | x::l,h =>
  rcases List.mem_cons.1 h with rfl | h
  ·exact List.mem_cons_self
  ·rcases cmpB_mem l x (hl x List.mem_cons_self) (fun r hr=>hl r (List.mem_cons_of_mem _ hr)) r h with rfl | h
   ·exact List.mem_cons_self
   ·exact List.mem_cons_of_mem _ h
def leE (x y:List AV):Prop:=nI x 0 < nI y 0∨(nI x 0=nI y 0∧nI x 1≤nI y 1)
theorem cmpB_nodup:∀ (l:List (List AV)) (p:List AV),(∀ r ∈ p::l,okR 2 r=true)→(p::l).Pairwise leE→(cmpB p l).length=l.length→(p::l).Nodup
 | [],p,_,_,_=>by simp
 | x::l,p,ho,hs,hn=>by
  have hp:=ho p List.mem_cons_self
  have hx:=ho x (List.mem_cons_of_mem _ List.mem_cons_self)
  rw [List.pairwise_cons] at hs
  unfold cmpB at hn
  split at hn
  ·have:=(cmpB_sub l x).2
   simp only [List.length_cons] at hn; omega
  ·rename_i e
   have e:x≠p:=fun q=>e ((eqE_iff hx hp).2 q)
   simp only [List.length_cons,Nat.add_right_cancel_iff] at hn
   have ih:=cmpB_nodup l x (fun r hr=>ho r (List.mem_cons_of_mem _ hr)) hs.2 hn
   refine List.nodup_cons.2 ⟨fun hm=>?_,ih⟩
   rcases List.mem_cons.1 hm with q | hm
   ·exact e q.symm
   ·have hs2:=(List.pairwise_cons.1 hs.2).1 p hm
    have hs1:=hs.1 x List.mem_cons_self
    refine e ?_
    rw [(ok2 hx).1,(ok2 hp).1]
    unfold leE at hs1 hs2
    rw [show nI x 0=nI p 0 by omega,show nI x 1=nI p 1 by omega]
theorem dupE_of {xs:List (List AV)} (ho:∀ r ∈ xs,okR 2 r=true) (hd:¬ xs.Nodup):DupE (sortR 2 cf2 xs):=by
 have hp:=sortR_perm (cf:=cf2) swo2 ho
 obtain ⟨d,e,hs⟩:=sortR_sorted (cf:=cf2) swo2 xs
 have hs':(sortR 2 cf2 xs).Pairwise leE:=by
  rw [e,List.pairwise_map]
  refine hs.imp fun {a b} h=>?_
  rw [cf2_iff] at h
  have:=of_decide_eq_false h
  unfold leE
  omega
 have ho':∀ r ∈ sortR 2 cf2 xs,okR 2 r=true:=fun r hr=>ho r (hp.mem_iff.1 hr)
 have hd':¬ (sortR 2 cf2 xs).Nodup:=fun h=>hd (hp.nodup_iff.1 h)
 unfold DupE
 have hle:=(cmpct_sub (sortR 2 cf2 xs)).2
 rcases Nat.lt_or_ge (cmpct (sortR 2 cf2 xs)).length (sortR 2 cf2 xs).length with h | h
 ·exact h
 ·exfalso
  revert hd' ho' hs' hle h
  generalize sortR 2 cf2 xs=ys
  intro hs' ho' hd' hle h
  match ys,h,hle,ho',hd',hs' with
  | [],_,_,_,hd',_=>exact hd' (by simp)
  | x::l,h,hle,ho',hd',hs' =>
   simp only [cmpct,List.length_cons] at h hle
   exact hd' (cmpB_nodup l x ho' hs' (by omega))
theorem addE_len (xss:List (List (List AV))) (e:List AV):(addE xss e).length=xss.length:=by simp [addE]
theorem addE_mem {xss:List (List (List AV))} {p q:Nat} (hp:p < xss.length) (hq:q < xss.length) (k:Nat) (y:Int):[AV.int .i64 y] ∈ (addE xss [.int .i64 p,.int .i64 q]).getD k []↔[AV.int .i64 y] ∈ xss.getD k []∨(k=p∧y=q)∨(k=q∧y=p):=by
 have one:∀ (zss:List (List (List AV))) (i:Nat) (z:Int),i < zss.length→([AV.int .i64 y] ∈ (zss.set i (zss.getD i []++[[.int .i64 z]])).getD k []↔[AV.int .i64 y] ∈ zss.getD k []∨(k=i∧y=z)):=fun zss i z hi=>by
  rw [List.getD_eq_getElem?_getD,List.getElem?_set]
  by_cases h:i=k
  ·subst h
   rw [if_pos rfl,if_pos hi,Option.getD_some,List.mem_append]
   simp
  ·rw [if_neg h,← List.getD_eq_getElem?_getD]
   simp only [show ¬ k=i from fun e=>h e.symm,false_and,or_false]
 show [AV.int .i64 y] ∈ (List.set (xss.set p (xss.getD p []++[[.int .i64 q]])) q ((xss.set p (xss.getD p []++[[.int .i64 q]])).getD q []++[[.int .i64 p]])).getD k []↔_
 rw [one _ q p (by rw [List.length_set]; exact hq),one _ p q hp,or_assoc]
theorem nbrF_mem {N:Nat}:∀ (es:List (List AV)) (xss:List (List (List AV))),xss.length=N→(∀ e ∈ es,∃ p q:Nat,e=[.int .i64 p,.int .i64 q]∧p < N∧q < N)→∀ (k:Nat) (y:Int),[AV.int .i64 y] ∈ (es.foldl addE xss).getD k []↔[AV.int .i64 y] ∈ xss.getD k []∨[.int .i64 k,.int .i64 y] ∈ es∨[.int .i64 y,.int .i64 k] ∈ es
 | [],xss,_,_,k,y=>by simp
 | e::es,xss,hl,he,k,y=>by
  obtain ⟨p,q,rfl,hp,hq⟩:=he e List.mem_cons_self
  rw [List.foldl_cons,nbrF_mem es _ (by rw [addE_len,hl]) (fun e h=>he e (List.mem_cons_of_mem _ h)) k y,addE_mem (by rw [hl]; exact hp) (by rw [hl]; exact hq)]
  simp only [List.mem_cons,List.cons.injEq,AV.int.injEq,true_and,and_true]
  constructor
  ·rintro ((h | ⟨h1,h2⟩ | ⟨h1,h2⟩) | h | h)
   ·exact .inl h
   ·exact .inr (.inl (.inl ⟨by omega,h2⟩))
   ·exact .inr (.inr (.inl ⟨h2,by omega⟩))
   ·exact .inr (.inl (.inr h))
   ·exact .inr (.inr (.inr h))
  ·rintro (h | (⟨h1,h2⟩ | h) | (⟨h1,h2⟩ | h))
   ·exact .inl (.inl h)
   ·exact .inl (.inr (.inl ⟨by omega,h2⟩))
   ·exact .inr (.inl h)
   ·exact .inl (.inr (.inr ⟨by omega,h1⟩))
   ·exact .inr (.inr h)
theorem nbrL_mem {N:Nat} {es:List (List AV)} (h:EdgP N es) (k:Nat) (y:Int):[AV.int .i64 y] ∈ (nbrL N es).getD k []↔[.int .i64 k,.int .i64 y] ∈ es∨[.int .i64 y,.int .i64 k] ∈ es:=by
 unfold nbrL
 rw [nbrF_mem (N:=N) es _ (by simp) (fun e he=>by
  obtain ⟨i,hi,e2⟩:=List.getElem_of_mem he
  obtain ⟨p,q,e3,hp,hq⟩:=h.sh i hi
  rw [List.getD_eq_getElem?_getD,List.getElem?_eq_getElem hi,Option.getD_some,e2] at e3
  exact ⟨p,q,e3,hp,hq⟩)]
 have:¬ [AV.int .i64 y] ∈ (List.replicate N ([]:List (List AV))).getD k []:=by
  rw [List.getD_eq_getElem?_getD,List.getElem?_replicate]
  split <;> simp
 simp only [this,false_or]
theorem ungI_mem {ys:List (List AV)} (h:∀ r ∈ ys,okR 1 r=true) (z:Int):z ∈ ungI ys↔[AV.int .i64 z] ∈ ys:=by
 simp only [ungI,List.mem_map]
 constructor
 ·rintro ⟨r,hr,rfl⟩
  rw [← (ok1 (h r hr)).1]; exact hr
 ·intro hm
  exact ⟨_,hm,rfl⟩
theorem sortI_mem (ys:List (List AV)) (z:Int):z ∈ ungI (sortI ys)↔z ∈ ungI ys:=by
 rw [sortI_eq,ungI_ints]
 exact (List.mergeSort_perm _ _).mem_iff
section
variable {nrm:NrT} {n:Int} (h:BldQ nrm n)
include h
theorem nbr_ok:NbP (ptG nrm n).1.length (edgG nrm n).length (nbrL (ptG nrm n).1.length (edgG nrm n)):=by
 have:=nbrL_ok (edg_p h) (edgG nrm n).length (Nat.le_refl _)
 rwa [List.take_length] at this
theorem nxt_len:(nxtG nrm n).length=(ptG nrm n).1.length:=by
 simp only [nxtG,nxtL,List.length_map,(nbr_ok h).len]
theorem nxt_at {k:Nat} (hk:k < (ptG nrm n).1.length):(nxtG nrm n).getD k []=[.sl 1 false (sortI ((nbrL (ptG nrm n).1.length (edgG nrm n)).getD k []))]:=by
 have hl:=(nbr_ok h).len
 have e:(nbrL (ptG nrm n).1.length (edgG nrm n))[k]?=some ((nbrL (ptG nrm n).1.length (edgG nrm n)).getD k []):=by
  rw [List.getD_eq_getElem?_getD,List.getElem?_eq_getElem (by omega)]; rfl
 rw [List.getD_eq_getElem?_getD,nxtG,nxtL,List.getElem?_map,List.getElem?_map,e]; rfl
theorem nb_eq {k:Nat} (hk:k < (ptG nrm n).1.length):nb (nxtG nrm n) k=ungI (sortI ((nbrL (ptG nrm n).1.length (edgG nrm n)).getD k [])):=by
 unfold nb; rw [nxt_at h hk]
theorem nbr_at {k:Nat} (hk:k < (ptG nrm n).1.length):(∀ r ∈ (nbrL (ptG nrm n).1.length (edgG nrm n)).getD k [],okR 1 r=true)∧((nbrL (ptG nrm n).1.length (edgG nrm n)).getD k []).length≤10000:=by
 have hn:=nbr_ok h
 obtain ⟨h1,h2⟩:=hn.ok _ (getD_mem (d:=[]) (i:=k) (by rw [hn.len]; exact hk))
 have:=(edgG_in h).2
 exact ⟨h1,by omega⟩
theorem nb_mem {k:Nat} (hk:k < (ptG nrm n).1.length) (y:Int):y ∈ nb (nxtG nrm n) k↔[.int .i64 k,.int .i64 y] ∈ edL (clG nrm n)∨[.int .i64 y,.int .i64 k] ∈ edL (clG nrm n):=by
 have h3:=clG_in h.l2 h.rg
 have p3:=sortR_perm (cf:=cf3) swo3 (fun r hr=>(h3 r hr).ok)
 have h2:∀ q ∈ edL (celG nrm n),InR (ptG nrm n).1.length 2 q:=fun q hq=>by
  simp only [edL,List.mem_flatMap] at hq
  obtain ⟨r,hr,hq⟩:=hq
  exact edR_in h.l2 (h3 r (p3.mem_iff.1 hr)) q hq
 have p2:=sortR_perm (cf:=cf2) swo2 (fun r hr=>(h2 r hr).ok)
 have e:∀ r,r ∈ edgG nrm n↔r ∈ edL (clG nrm n):=fun r=>by
  rw [show edgG nrm n=cmpct (sortR 2 cf2 (edL (celG nrm n))) from rfl,cmpct_mem (fun r hr=>(h2 r (p2.mem_iff.1 hr)).ok)]
  show r ∈ sortR 2 cf2 (edL (celG nrm n))↔_
  rw [p2.mem_iff]
  simp only [edL,List.mem_flatMap]
  exact exists_congr fun c=>and_congr_left fun _=>p3.mem_iff
 rw [nb_eq h hk,sortI_mem,ungI_mem (nbr_at h hk).1,nbrL_mem (edg_p h),e,e]
theorem nb_row {k:Nat} (hk:k < (ptG nrm n).1.length):(nxtG nrm n).getD k []=[.sl 1 false (intsL (nb (nxtG nrm n) k))]∧(nb (nxtG nrm n) k).length≤10000:=by
 rw [nb_eq h hk,nxt_at h hk]
 refine ⟨?_,?_⟩
 ·rw [sortI_eq,ungI_ints]
 ·rw [show (ungI (sortI ((nbrL (ptG nrm n).1.length (edgG nrm n)).getD k []))).length=(sortI ((nbrL (ptG nrm n).1.length (edgG nrm n)).getD k [])).length by simp [ungI],sortI_len]
  exact (nbr_at h hk).2
theorem nb_in {k:Nat} (hk:k < (ptG nrm n).1.length):∀ z ∈ nb (nxtG nrm n) k,0≤z∧z < (ptG nrm n).1.length:=by
 have h3:=clG_in h.l2 h.rg
 have h2:∀ q ∈ edL (clG nrm n),InR (ptG nrm n).1.length 2 q:=fun q hq=>by
  simp only [edL,List.mem_flatMap] at hq
  obtain ⟨r,hr,hq⟩:=hq
  exact edR_in h.l2 (h3 r hr) q hq
 intro z hz
 rcases (nb_mem h hk z).1 hz with hz | hz
 ·exact (h2 _ hz).at_ 1 (by decide)
 ·exact (h2 _ hz).at_ 0 (by decide)
theorem nb_sym {k j:Nat} (hk:k < (ptG nrm n).1.length) (hj:j < (ptG nrm n).1.length):(j:Int) ∈ nb (nxtG nrm n) k↔(k:Int) ∈ nb (nxtG nrm n) j:=by
 rw [nb_mem h hk,nb_mem h hj]; exact or_comm
theorem nb_conn (rk:Nat→Nat) (hc:∀ k,1≤k→k < (ptG nrm n).1.length→∃ j:Nat,j < (ptG nrm n).1.length∧rk j < rk k∧(j:Int) ∈ nb (nxtG nrm n) k) {a:Nat} (ha:a < (ptG nrm n).1.length) (V:Nat→Prop) (h0:V a) (hV:∀ k,k < (ptG nrm n).1.length→V k→∀ z ∈ nb (nxtG nrm n) k,V z.toNat):∀ k,k < (ptG nrm n).1.length→V k:=by
 have dn:∀ m k,rk k≤m→k < (ptG nrm n).1.length→V k→V 0:=fun m=>by
  induction m with
  | zero =>
   intro k hm hk hv
   rcases Nat.eq_zero_or_pos k with rfl | hp
   ·exact hv
   ·obtain ⟨j,hj,hr,_⟩:=hc k hp hk
    omega
  | succ m ih =>
   intro k hm hk hv
   rcases Nat.eq_zero_or_pos k with rfl | hp
   ·exact hv
   ·obtain ⟨j,hj,hr,hm⟩:=hc k hp hk
    exact ih j (by omega) hj (by simpa using hV k hk hv _ hm)
 have v0:=dn _ a (Nat.le_refl _) ha h0
 have up:∀ m k,rk k≤m→k < (ptG nrm n).1.length→V k:=fun m=>by
  induction m with
  | zero =>
   intro k hm hk
   rcases Nat.eq_zero_or_pos k with rfl | hp
   ·exact v0
   ·obtain ⟨j,hj,hr,_⟩:=hc k hp hk
    omega
  | succ m ih =>
   intro k hm hk
   rcases Nat.eq_zero_or_pos k with rfl | hp
   ·exact v0
   ·obtain ⟨j,hj,hr,hm⟩:=hc k hp hk
    have:=hV j hj (ih j (by omega) hj) _ ((nb_sym h hk hj).1 hm)
    simpa using this
 exact fun k hk=>up _ k (Nat.le_refl _) hk
end
structure GrdP (nrm:NrT) (n:Int):Prop where
 bq:BldQ nrm n
 ln:((ptG nrm n).1.length:Int)=10*n*n+2
 fn:FnN (ptG nrm n).1.length
 cn:∃ rk:Nat→Nat,∀ k,1≤k→k < (ptG nrm n).1.length→∃ j:Nat,j < (ptG nrm n).1.length∧rk j < rk k∧(j:Int) ∈ nb (nxtG nrm n) k
theorem GrdP.dis {nrm:NrT} {n a:Int} (h:GrdP nrm n) (ha:0≤a∧a < (ptG nrm n).1.length):DisP (ptG nrm n).1.length (ptG nrm n).1 (nxtG nrm n) a :=
 ⟨rfl,h.fn,nxt_len h.bq,fun k hk=>⟨(nb_row h.bq hk).1,nb_in h.bq hk,(nb_row h.bq hk).2⟩,ha,fun V h0 hV=>by
  obtain ⟨rk,hc⟩:=h.cn
  exact nb_conn h.bq rk hc (by omega) V h0 hV⟩
theorem GrdP.hop {nrm:NrT} {n a b:Int} (h:GrdP nrm n) (ha:0≤a∧a < (ptG nrm n).1.length) (hb:0≤b∧b < (ptG nrm n).1.length):HopP nrm n a b:=⟨h.bq,h.ln,h.dis ha,hb⟩
end Go.Proofs.YtgbbmadjdaphnaaGreatDoor
namespace Go.Proofs.YtgbbmadjdaphnaaGreatDoor
open Go
set_option linter.unusedVariables false
set_option linter.unusedSimpArgs false
def rgB (l:List (Int × AV)) (N:Nat):Bool:=l.all fun p=>match p.2 with
 | .int _ z=>decide (0≤z)&&decide (z < N)
 | _=>false
theorem mGet_mem:∀ (l:List (Int × AV)) (q:Int) (x:AV),mGet l q=some x→∃ p ∈ l,p.2=x
 | [],q,x,h=>by simp [mGet] at h
 | (k,y)::l,q,x,h=>by
  unfold mGet at h
  cases hd:decide (k=q) with
  | true =>
   rw [hd] at h
   injection h with h
   exact ⟨_,List.mem_cons_self,h⟩
  | false =>
   rw [hd] at h
   obtain ⟨p,hp,e⟩:=mGet_mem l q x h
   exact ⟨p,List.mem_cons_of_mem _ hp,e⟩
theorem rgB_of {l:List (Int × AV)} {N:Nat} (h:rgB l N=true) (hN:1≤N) (q:Int):0≤mInt l q∧mInt l q < N:=by
 unfold mInt
 cases hm:mGet l q with
 | none=>simp only; omega
 | some x =>
  obtain ⟨p,hp,e⟩:=mGet_mem l q x hm
  have:=List.all_eq_true.1 h p hp
  rw [e] at this
  cases x <;> first | (simp only [Bool.false_eq_true] at this) | skip
  simp only [Bool.and_eq_true,decide_eq_true_eq] at this
  exact this
def dupB (l:List (List AV)):Bool:=match l with
 | x::l=>l.any fun y=>decide (nI x 0=nI y 0)&&decide (nI x 1=nI y 1)
 | []=>false
theorem dupB_of {l:List (List AV)} (ho:∀ r ∈ l,okR 2 r=true) (h:dupB l=true):¬ l.Nodup:=by
 match l,ho,h with
 | x::l,ho,h =>
  obtain ⟨y,hy,e⟩:=List.any_eq_true.1 h
  simp only [Bool.and_eq_true,decide_eq_true_eq] at e
  have:x=y:=by rw [(ok2 (ho x List.mem_cons_self)).1,(ok2 (ho y (List.mem_cons_of_mem _ hy))).1,e.1,e.2]
  intro hn
  rw [List.nodup_cons] at hn
  exact hn.1 (this ▸ hy)
def ins1 (x:Int):List Int→List Int
 | []=>[x]
 | y::l=>if x≤y then x::y::l else y::ins1 x l
def t3 (a b c:Int):List Int:=ins1 a (ins1 b (ins1 c []))
theorem t3_cases (a b c:Int):t3 a b c=[a,b,c]∨t3 a b c=[a,c,b]∨t3 a b c=[b,a,c]∨t3 a b c=[b,c,a]∨t3 a b c=[c,a,b]∨t3 a b c=[c,b,a]:=by
 by_cases h1:b≤c <;> by_cases h2:a≤b <;> by_cases h3:a≤c <;> simp [t3,ins1,h1,h2,h3]
theorem t3_s3 (a b c:Int) (i:Nat):s3 a b c i=(t3 a b c).getD i 0:=by
 have h1:=s3_all a b c
 have hp:([a,b,c].mergeSort fun x y=>decide (x≤y)).Perm [a,b,c]:=List.mergeSort_perm _ _
 have hs:([a,b,c].mergeSort fun x y=>decide (x≤y)).Pairwise (fun x y=>decide (x≤y)=true):=List.pairwise_mergeSort (le:=fun (x y:Int)=>decide (x≤y)) (fun _ _ _ h k=>decide_eq_true (Int.le_trans (of_decide_eq_true h) (of_decide_eq_true k))) (fun x y=>by simp only [Bool.or_eq_true,decide_eq_true_eq]; omega) _
 have ht:(t3 a b c).Perm [a,b,c]:=by
  rcases t3_cases a b c with e | e | e | e | e | e <;> rw [e]
  ·exact .cons _ (.swap ..)
  ·exact .swap ..
  ·exact (List.Perm.cons _ (.swap ..)).trans (.swap ..)
  ·exact (List.Perm.swap ..).trans (.cons _ (.swap ..))
  ·exact ((List.Perm.cons _ (.swap ..)).trans (.swap ..)).trans (.cons _ (.swap ..))
 have ho:(t3 a b c).Pairwise (fun x y=>decide (x≤y)=true):=by
  by_cases h1:b≤c <;> by_cases h2:a≤b <;> by_cases h3:a≤c <;> simp only [t3,ins1,h1,h2,h3,if_true,if_false]
  all_goals (simp only [List.pairwise_cons,List.mem_cons,List.not_mem_nil,or_false,forall_eq_or_imp,forall_eq,false_implies,implies_true,List.Pairwise.nil,and_true,decide_eq_true_eq]; omega)
 have e:([a,b,c].mergeSort fun x y=>decide (x≤y))=t3 a b c:=(hp.trans ht.symm).eq_of_pairwise (fun x y _ _ h k=>by have:=of_decide_eq_true h; have:=of_decide_eq_true k; omega) hs ho
 unfold s3
 rw [e]
def celR' (x y z:Int):List AV:=[.int .i64 ((t3 x y z).getD 0 0),.int .i64 ((t3 x y z).getD 1 0),.int .i64 ((t3 x y z).getD 2 0)]
theorem celR_e:celR=celR':=by
 funext x y z
 simp only [celR,celR',t3_s3]
def celL' (nrm:NrT) (l:List (Int × AV)) (f a b c f' a' b' c' f'' a'' b'' c'':Int):List AV:=celR' (atV nrm l f a b c) (atV nrm l f' a' b' c') (atV nrm l f'' a'' b'' c'')
theorem celL_e:celL=celL':=by
 unfold celL celL'
 rw [celR_e]
def celU' (nrm:NrT) (l:List (Int × AV)) (h f a b c:Int):List AV:=celL' nrm l f (a+h) b c f a (b+h) c f a b (c+h)
def celD' (nrm:NrT) (l:List (Int × AV)) (h f a b c:Int):List AV:=celL' nrm l f (a+0) (b+0+h) (c+(0 - h)+h) f (a+0+h) (b+0) (c+(0 - h)+h) f (a+0+h) (b+0+h) (c+(0 - h))
def celN' (nrm:NrT) (l:List (Int × AV)) (h f a b c:Int):List (List AV):=if h≤c then [celU' nrm l h f a b c,celD' nrm l h f a b c] else [celU' nrm l h f a b c]
theorem celN_e:celN=celN':=by
 unfold celN celN' celU celD celU' celD'
 rw [celL_e]
def clB' (nrm:NrT) (l:List (Int × AV)) (n f a b:Int) (cs:List (List AV)):List (List AV):=upto (fun b cs=>cs++celN' nrm l (hN n) f (a*hN n) (b*hN n) ((n - 1 - a - b)*hN n)) b (n - a) cs
def clA' (nrm:NrT) (l:List (Int × AV)) (n f a:Int) (cs:List (List AV)):List (List AV):=upto (fun a cs=>clB' nrm l n f a 0 cs) a n cs
def clG' (nrm:NrT) (n:Int):List (List AV):=upto (fun f cs=>clA' nrm (ptG nrm n).2 n f 0 cs) 0 20 []
theorem clG_e (nrm:NrT) (n:Int):clG nrm n=clG' nrm n:=by
 unfold clG clF clA clB clG' clA' clB'
 rw [celN_e]
def rkN (R k:Nat):Nat:=(R >>> (4*k)) % 16
def conS (R:Nat) (m:Nat) (e:List AV):Nat:=m ||| (if rkN R (nI e 0).toNat < rkN R (nI e 1).toNat then 1 <<< (nI e 1).toNat else 0) ||| (if rkN R (nI e 1).toNat < rkN R (nI e 0).toNat then 1 <<< (nI e 0).toNat else 0)
def conM (R:Nat) (E:List (List AV)):Nat:=E.foldl (conS R) 0
theorem conM_of (R:Nat):∀ (E:List (List AV)) (m k:Nat),(E.foldl (conS R) m).testBit k=true→m.testBit k=true∨∃ e ∈ E,(k=(nI e 1).toNat∧rkN R (nI e 0).toNat < rkN R (nI e 1).toNat)∨(k=(nI e 0).toNat∧rkN R (nI e 1).toNat < rkN R (nI e 0).toNat)
 | [],m,k,h=>.inl h
 | e::E,m,k,h=>by
  rcases conM_of R E _ k h with h | ⟨e',he,h⟩
  ·unfold conS at h
   simp only [Nat.testBit_or,Bool.or_eq_true] at h
   rcases h with (h | h) | h
   ·exact .inl h
   ·split at h
    ·rename_i q
     rw [Nat.one_shiftLeft,Nat.testBit_two_pow] at h
     exact .inr ⟨e,List.mem_cons_self,.inl ⟨(of_decide_eq_true h).symm,q⟩⟩
    ·simp at h
   ·split at h
    ·rename_i q
     rw [Nat.one_shiftLeft,Nat.testBit_two_pow] at h
     exact .inr ⟨e,List.mem_cons_self,.inr ⟨(of_decide_eq_true h).symm,q⟩⟩
    ·simp at h
  ·exact .inr ⟨e',List.mem_cons_of_mem _ he,h⟩
theorem grd_of {n:Int} {N R M:Nat} (lo:1≤n) (hi:n≤4) (hl:(ptG nrm n).1.length=N) (hN:FnN N) (hn:(N:Int)=10*n*n+2) (hr:rgB (ptG nrm n).2 N=true) (hd:dupB (edL (clG' nrm n))=true) (hc:conM R (edL (clG' nrm n))=M) (hm:((List.range N).all fun k=>Nat.beq k 0||M.testBit k)=true):GrdP nrm n:=by
 rw [← clG_e] at hd hc
 subst hl
 have hb:1≤(ptG nrm n).1.length∧(ptG nrm n).1.length≤200:=by
  rcases n14 lo hi with rfl | rfl | rfl | rfl <;> omega
 have rg:=fun q=>rgB_of hr hb.1 q
 have h3:=clG_in hb.2 rg
 have p3:=sortR_perm (cf:=cf3) swo3 (fun r hr=>(h3 r hr).ok)
 have h2:∀ q ∈ edL (clG nrm n),InR (ptG nrm n).1.length 2 q:=fun q hq=>by
  simp only [edL,List.mem_flatMap] at hq
  obtain ⟨r,hr,hq⟩:=hq
  exact edR_in hb.2 (h3 r hr) q hq
 have pe:(edL (celG nrm n)).Perm (edL (clG nrm n)):=List.Perm.flatMap_right _ p3
 have bq:BldQ nrm n:=⟨lo,hi,hb.1,hb.2,rg,dupE_of (fun r hr=>(h2 r (pe.mem_iff.1 hr)).ok) (fun h=>dupB_of (fun r hr=>(h2 r hr).ok) hd (pe.nodup_iff.1 h))⟩
 refine ⟨bq,hn,hN,rkN R,fun k h1 hk=>?_⟩
 have hk':=List.all_eq_true.1 hm k (List.mem_range.2 hk)
 rw [show Nat.beq k 0=false by cases k with | zero=>omega | succ k=>rfl,Bool.false_or,← hc] at hk'
 rcases conM_of R _ 0 k hk' with h | ⟨e,he,h⟩
 ·simp at h
 ·have hi:=h2 e he
  have a0:=hi.at_ 0 (by decide)
  have a1:=hi.at_ 1 (by decide)
  have ee:=(ok2 hi.ok).1
  rcases h with ⟨h,q⟩ | ⟨h,q⟩
  ·refine ⟨(nI e 0).toNat,by omega,by rw [h]; exact q,(nb_mem bq hk _).2 (.inr ?_)⟩
   rw [h,Int.toNat_of_nonneg a0.1,Int.toNat_of_nonneg a1.1,← ee]; exact he
  ·refine ⟨(nI e 1).toNat,by omega,by rw [h]; exact q,(nb_mem bq hk _).2 (.inl ?_)⟩
   rw [h,Int.toNat_of_nonneg a0.1,Int.toNat_of_nonneg a1.1,← ee]; exact he
set_option maxRecDepth 100000
theorem grd1:GrdP nrm 1:=grd_of (N:=12) (R:=37598431154448) (M:=2 ^ 12 - 2) (by decide) (by decide) (by decide +kernel) ⟨by decide⟩ (by decide) (by decide +kernel) (by decide +kernel) (by decide +kernel) (by decide +kernel)
theorem grd2:GrdP nrm 2:=grd_of (N:=42) (R:=101232966331496240185835299411381208861964018782736) (M:=2 ^ 42 - 2) (by decide) (by decide) (by decide +kernel) ⟨by decide⟩ (by decide) (by decide +kernel) (by decide +kernel) (by decide +kernel) (by decide +kernel)
theorem grd3:GrdP nrm 3:=grd_of (N:=92) (R:=202923900431804540595840157732782267169813756972528061880052644228143977041602257887018629737622925387090702864) (M:=2 ^ 92 - 2) (by decide) (by decide) (by decide +kernel) ⟨by decide⟩ (by decide) (by decide +kernel) (by decide +kernel) (by decide +kernel) (by decide +kernel)
set_option maxHeartbeats 4000000 in
theorem grd4:GrdP nrm 4:=grd_of (N:=162) (R:=540516211928003985854673203636444622452167699900938366240087114385255666763550310049734314078511322582291367934349720539192689137038052992539962660468080882437888109281466824767669729944820527632) (M:=2 ^ 162 - 2) (by decide) (by decide) (by decide +kernel) ⟨by decide⟩ (by decide) (by decide +kernel) (by decide +kernel) (by decide +kernel) (by decide +kernel)
theorem grd {n:Int} (h:1≤n∧n≤4):GrdP nrm n:=by
 rcases n14 h.1 h.2 with rfl | rfl | rfl | rfl
 ·exact grd1
 ·exact grd2
 ·exact grd3
 ·exact grd4
end Go.Proofs.YtgbbmadjdaphnaaGreatDoor
namespace Go.Proofs.YtgbbmadjdaphnaaGreatDoor
open Go
set_option linter.unusedVariables false
set_option linter.unusedSimpArgs false
def oweig_s:Sp
 | [.int .i64 n]=>some (True,.bool (decide (1≤n∧n≤1000)))
 | _=>none
def oweig_T:Prop :=
  ∀ (gl:Glob) (n:Int),(-9223372036854775808:Int)≤n∧n≤(9223372036854775807:Int)→bif decide ((1:Int)≤n) then decide (n≤(1000:Int))=decide ((1:Int)≤n∧n
 ≤(1000:Int)) else false=decide ((1:Int)≤n∧n≤(1000:Int))
theorem oweig_P:oweig_T:=by
 unfold oweig_T
 intro gl n hn
 simp only [cdec,decide_eq_decide,Bool.true_eq,Bool.false_eq,decide_eq_true_eq,decide_eq_false_iff_not]
 omega
def oweig_S:Prop:=∀ (gl:Glob) (n:Int),fnK Tryz.prog { glob:=gl,spec:=lk [],specH:=lk [] } { nt:=9,drop:=drp [(1,504)] } (fun _ _=>none) 6 Tryz.f96 [.int .i64 n] (.bool (decide (1≤n∧n≤1000)))
theorem oweig_e:oweig_T=oweig_S:=by kernel_rfl
theorem oweig_v:oweig_S:=Eq.mp (oweig_e ..) (oweig_P)
theorem oweig_ok (gl:Glob):SOK Tryz.prog gl 96 oweig_s:=by
 refine ⟨fok Tryz.func96 (by kernel_rfl) (by kernel_rfl),?_⟩
 intro xs pre r h hp
 unfold oweig_s at h
 split at h
 ·simp only [Option.some.injEq,Prod.mk.injEq] at h
  obtain ⟨h1,h2⟩:=h
  subst h1 h2
  exact fnK_sound tyNil (by exact specOK rfl rfl trivial trivial) (by kernel_rfl) Tryz.func96 rfl (oweig_v gl _)
 ·cases h
structure OroP (nrm:NrT) (n x a b c:Int) (rd:List (List AV)):Prop where
 lo:1≤n
 hi:n≤4
 v:Vld x a b c
 rg:∀ q,0≤mInt (ptG nrm n).2 q∧mInt (ptG nrm n).2 q < 1000
 rp:RdsP rd
 ok:vdE rd=0
 fd:fdB rd 1=true
def orows_s (nrm:Int→Int→Int→Int→Int × Int × Int × Int) (vld:Int→Int→Int→Int→Bool):Sp
 | [.int .i64 n,.sl 8 f [[.int .i64 k,.str nm,.int .i64 t,.int .i64 x,.int .i64 a,.int .i64 b,.int .i64 c,.sl 2 g rd]],.int .i64 1,.int .i64 2]=>some (OroP nrm n x a b c rd,.tup [.sl 4 false [[.sl 2 false (locL nrm (ptG nrm n).2 n x a b c),.int .i64 (fdV rd 1),.int .i64 2,.int .i64 0]],.int .i64 0])
 | _=>none
def orows_T (nrm:Int→Int→Int→Int→Int × Int × Int × Int) (vld:Int→Int→Int→Int→Bool) (iL:Int→ByteArray) (inLo:Int→Int) (inHi:Int→Int) (inD:Int→Int) (inE:Int→Int) (vdE:List (List AV)→Int) (fdV:List (List AV)→Int→Int) (fdB:List (List AV)→Int→Bool):Prop :=
  ∀ (f g:Bool) (n k t x a b c:Int) (nm:ByteArray) (rd:List (List AV)),OroP nrm n x a b c rd→(-9223372036854775808:Int)≤n∧n≤(9223372036854775807:Int)→True →
  (-9223372036854775808:Int)≤(1:Int)∧(1:Int)≤(9223372036854775807:Int)→(-9223372036854775808:Int)≤(2:Int)∧(2:Int)≤(9223372036854775807:Int)→True∧bif
  !decide ((1:Int)≤n∧n≤(8:Int)) then [[AV.sl (2:Nat) false (locL nrm (ptG nrm n).snd n x a b c),AV.int IntKind.i64 (fdV rd (1:Int)),AV.int IntKind.i64 (2:Int),
  AV.int IntKind.i64 (0:Int)]]=[]∧(1:Int)=(0:Int)∧True else True∧bif decide ¬inE (1:Int)=(0:Int) then [[AV.sl (2:Nat) false (locL nrm (ptG nrm n).snd n x a b
  c),AV.int IntKind.i64 (fdV rd (1:Int)),AV.int IntKind.i64 (2:Int),AV.int IntKind.i64 (0:Int)]]=[]∧inE (1:Int)=(0:Int)∧True else True∧RdsP rd∧bif decide
  ¬vdE rd=(0:Int) then [[AV.sl (2:Nat) false (locL nrm (ptG nrm n).snd n x a b c),AV.int IntKind.i64 (fdV rd (1:Int)),AV.int IntKind.i64 (2:Int),AV.int IntKind.i64 (0 :
  Int)]]=[]∧vdE rd=(0:Int)∧True else ((1:Int)≤n∧n≤(4:Int))∧RdsP rd∧bif !fdB rd (1:Int) then [[AV.sl (2:Nat) false (locL nrm (ptG nrm n).snd n x a b c),
  AV.int IntKind.i64 (fdV rd (1:Int)),AV.int IntKind.i64 (2:Int),AV.int IntKind.i64 (0:Int)]]=[]∧(0:Int)=(0:Int)∧True else True∧bif !vld x a b c then [[AV.sl (2
 :Nat) false (locL nrm (ptG nrm n).snd n x a b c),AV.int IntKind.i64 (fdV rd (1:Int)),AV.int IntKind.i64 (2:Int),AV.int IntKind.i64 (0:Int)]]=[]∧(1:Int)=(0:Int)
 ∧True else LocP nrm (ptG nrm n).snd n (hN n) x a b c∧(True∧[[AV.sl (2:Nat) false (locL nrm (ptG nrm n).snd n x a b c),AV.int IntKind.i64 (fdV rd (1:Int)),AV.int
  IntKind.i64 (2:Int),AV.int IntKind.i64 (0:Int)]]=[[AV.sl (2:Nat) false (locL nrm (ptG nrm n).snd n x a b c),AV.int IntKind.i64 (fdV rd (1:Int)),AV.int IntKind.i64 (2 :
  Int),AV.int IntKind.i64 (0:Int)]])∧(0:Int)=(0:Int)∧True
theorem orows_P:orows_T nrm vld iL inLo inHi inD inE vdE fdV fdB:=by
 unfold orows_T
 intro f g n k t x a b c nm rd hP
 intros
 have h1:=hP.lo
 have h4:=hP.hi
 have e1:decide (1≤n∧n≤8)=true:=decide_eq_true (by omega)
 have e3:decide (¬ vdE rd=0)=false:=by rw [hP.ok]; rfl
 have e5:vld x a b c=true:=vld_t hP.v
 rw [e1,e3,hP.fd,e5]
 exact ⟨trivial,trivial,trivial,hP.rp,⟨h1,h4⟩,hP.rp,trivial,⟨h1,h4,rfl,hP.v,hP.rg⟩,by (repeat' (first | exact trivial | exact rfl | assumption | apply And.intro))⟩
def orows_S (nrm:Int→Int→Int→Int→Int × Int × Int × Int) (vld:Int→Int→Int→Int→Bool) (iL:Int→ByteArray) (inLo:Int→Int) (inHi:Int→Int) (inD:Int→Int) (inE:Int→Int) (vdE:List (List AV)→Int) (fdV:List (List AV)→Int→Int) (fdB:List (List AV)→Int→Bool):Prop:=∀ (f g:Bool) (n k t x a b c:Int) (nm:ByteArray) (rd:List (List AV)),OroP nrm n x a b c rd→fnK Tryz.prog { glob:=glb,spec:=lk [(36,mfreq_s),(95,(edesc_s iL inLo inHi inD inE)),(96,oweig_s),(79,(evalid_s vdE)),(82,(efind_s fdV fdB)),(32,(valid_s vld))],specH:=lk [(37,(mptsC_s vld nrm)),(77,(mloc_s nrm vld))],nowf:=true } { nt:=88,drop:=drp [(1,6291456),(3,520094720),(4,536870912),(5,2147483648),(6,12884901888),(10,1649267441664),(11,15393162788864),(12,17592186044416),(13,70368744177664),(14,140737488355328),(15,844424930131968),(19,126100789566373888),(20,18302628885633695744),(21,37760485118883452157952),(22,226673591177742970257408),(23,9066943647109718810296320),(25,9671406556917033397649408),(26,58028439341502200385896448),(28,154742504910672534362390528)] } (fun _ _=>none) 8 Tryz.f45 [.int .i64 n,.sl 8 f [[.int .i64 k,.str nm,.int .i64 t,.int .i64 x,.int .i64 a,.int .i64 b,.int .i64 c,.sl 2 g rd]],.int .i64 1,.int .i64 2] (.tup [.sl 4 false [[.sl 2 false (locL nrm (ptG nrm n).2 n x a b c),.int .i64 (fdV rd 1),.int .i64 2,.int .i64 0]],.int .i64 0])
theorem orows_e (nrm:Int→Int→Int→Int→Int × Int × Int × Int) (vld:Int→Int→Int→Int→Bool) (iL:Int→ByteArray) (inLo:Int→Int) (inHi:Int→Int) (inD:Int→Int) (inE:Int→Int) (vdE:List (List AV)→Int) (fdV:List (List AV)→Int→Int) (fdB:List (List AV)→Int→Bool):orows_T nrm vld iL inLo inHi inD inE vdE fdV fdB=orows_S nrm vld iL inLo inHi inD inE vdE fdV fdB:=by kernel_rfl
theorem orows_v:orows_S nrm vld iL inLo inHi inD inE vdE fdV fdB:=Eq.mp (orows_e ..) (orows_P)
theorem orows_ok:SOK Tryz.prog glb 45 (orows_s nrm vld):=by
 refine ⟨fok Tryz.func45 (by kernel_rfl) (by kernel_rfl),?_⟩
 intro xs pre r h hp
 unfold orows_s at h
 split at h
 ·simp only [Option.some.injEq,Prod.mk.injEq] at h
  obtain ⟨h1,h2⟩:=h
  subst h1 h2
  exact fnK_sound tyNil (by exact specOK rfl rfl ⟨(mfreq_ok glb),(edesc_ok),(oweig_ok glb),(evalid_ok),(efind_ok glb),(valid_ok glb),trivial⟩ ⟨(mptsC_ok),(mloc_ok),trivial⟩) (by kernel_rfl) Tryz.func45 rfl (orows_v  _ _ _ _ _ _ _ _ _ _ _ hp)
 ·cases h
def aRd:List (List AV):=[[.int .i64 1,.int .i64 10000]]
def aw21_s (nrm:Int→Int→Int→Int→Int × Int × Int × Int) (vld:Int→Int→Int→Int→Bool):Sp
 | []=>some (True,.bool true)
 | _=>none
def aw21_T (nrm:Int→Int→Int→Int→Int × Int × Int × Int) (vld:Int→Int→Int→Int→Bool):Prop :=
  OroP nrm (3:Int) (0:Int) (840:Int) (0:Int) (0:Int) [[AV.int IntKind.i64 (1:Int),AV.int IntKind.i64 (10000:Int)]]∧∃ xs,List.take [AV.sl (2:Nat) false xs].length
  (List.drop (0:Nat) ([[AV.sl (2:Nat) false (locL nrm (ptG nrm (3:Int)).snd (3:Int) (0:Int) (840:Int) (0:Int) (0:Int)),AV.int IntKind.i64 (10000:Int),AV.int
  IntKind.i64 (2:Int),AV.int IntKind.i64 (0:Int)]].getD (0:Nat) []))=[AV.sl (2:Nat) false xs]∧bif decide ((↑xs.length:Int)=(1:Int)) then ∃ xs,List.take [AV.sl (2
 :Nat) false xs].length (List.drop (0:Nat) ([[AV.sl (2:Nat) false (locL nrm (ptG nrm (3:Int)).snd (3:Int) (0:Int) (840:Int) (0:Int) (0:Int)),AV.int IntKind.i64
  (10000:Int),AV.int IntKind.i64 (2:Int),AV.int IntKind.i64 (0:Int)]].getD (0:Nat) []))=[AV.sl (2:Nat) false xs]∧bif decide ((0:Int)≤(0:Int)∧(0:Int) <
  (↑xs.length:Int)) then ∃ n,List.take [AV.int IntKind.i64 n].length (List.drop (1:Nat) (xs.getD (0:Nat) []))=[AV.int IntKind.i64 n]∧decide (n=(840:Int))=true else
  False else false=true
theorem aw21_P:aw21_T nrm vld:=by
 unfold aw21_T
 have hb:=(grd (n:=3) (by decide)).bq
 have hv:Vld 0 840 0 0:=⟨by decide,by decide,by decide,by decide,by decide⟩
 have hr:RdsP aRd:=⟨fun i hi=>by
  have hi:i < 1:=hi
  rw [show i=0 by omega]
  exact ⟨1,10000,rfl,by decide,by decide⟩,by decide⟩
 have hL:locL nrm (ptG nrm 3).2 3 0 840 0 0=[[.int .i64 (atV nrm (ptG nrm 3).2 0 840 0 0),.int .i64 840]]:=by unfold locL; rw [if_pos (by decide)]
 refine ⟨⟨by decide,by decide,hv,fun q=>⟨(hb.rg q).1,by have:=(hb.rg q).2; have:=hb.l2; omega⟩,hr,by decide +kernel,by decide +kernel⟩,?_⟩
 rw [hL]
 exact ⟨_,rfl,cd1 rfl ⟨_,rfl,cd1 (by decide) ⟨_,rfl,rfl⟩⟩⟩
def aw21_S (nrm:Int→Int→Int→Int→Int × Int × Int × Int) (vld:Int→Int→Int→Int→Bool):Prop:=fnK Tryz.prog { glob:=glb,spec:=lk [(45,(orows_s nrm vld))],specH:=lk [],shape:=[23,31,34],slz:=[(23,[2]),(31,[2])],nowf:=true,bst:=[39] } { nt:=37,drop:=drp [(1,4088),(2,137438949376)] } (fun _ _=>none) 6 Tryz.f15 [] (.bool true)
theorem aw21_e (nrm:Int→Int→Int→Int→Int × Int × Int × Int) (vld:Int→Int→Int→Int→Bool):aw21_T nrm vld=aw21_S nrm vld:=by kernel_rfl
theorem aw21_v:aw21_S nrm vld:=Eq.mp (aw21_e ..) (aw21_P)
theorem aw21_ok:SOK Tryz.prog glb 15 (aw21_s nrm vld):=by
 refine ⟨fok Tryz.func15 (by kernel_rfl) (by kernel_rfl),?_⟩
 intro xs pre r h hp
 unfold aw21_s at h
 split at h
 ·simp only [Option.some.injEq,Prod.mk.injEq] at h
  obtain ⟨h1,h2⟩:=h
  subst h1 h2
  exact fnK_sound tyNil (by exact specOK rfl rfl ⟨(orows_ok),trivial⟩ trivial) (by kernel_rfl) Tryz.func15 rfl (aw21_v  )
 ·cases h
end Go.Proofs.YtgbbmadjdaphnaaGreatDoor
namespace Go.Proofs.YtgbbmadjdaphnaaGreatDoor
open Go
set_option linter.unusedVariables false
set_option linter.unusedSimpArgs false
structure SrcQ (xs:List (List AV)) (i:Int):Prop where
 s:SrcI xs
 lo:0≤i
structure RawQ (v j:Int):Prop where
 fv:-9223372036854775808≤v∧v≤9223372036854775807
 fj:0≤j
structure NumQ (n v j:Int):Prop where
 fv:1≤n→0≤v∧v < n
 fz:n < 1→v=0
 fj:0≤j
def qn_s:SpQ
 | [.ptr 0 0,.int .i64 n],[.cells [.sl 1 false xs,.int .i64 i]]=>some (fun K=>SrcQ xs i∧∀ v j:Int,NumQ n v j→K (.int .i64 v) [.cells [.sl 1 false xs,.int .i64 j]])
 | _,_=>none
theorem qn_ok (gl:Glob):QOK Tryz.prog gl 10 qn_s:=by
 refine ⟨(srcn_ok gl).1,fun xs bs T h K hT=>?_⟩
 unfold qn_s at h
 split at h
 ·simp only [Option.some.injEq] at h
  subst h
  obtain ⟨hp,hK⟩:=hT
  refine ⟨_,_,hK _ _ ⟨fun h=>srcN_lt h,fun h=>?_,rawA_le hp.lo⟩,(srcn_ok gl).2 _ _ _ _ _ rfl ⟨hp.s,hp.lo⟩⟩
  unfold srcN modZ
  rw [if_pos h]
 ·cases h
def qrange_s:SpQ
 | [.ptr 0 0,.int .i64 lo,.int .i64 hi],[.cells [.sl 1 false xs,.int .i64 i]]=>some (fun K=>(SrcQ xs i∧lo≤hi∧-1000000000≤lo∧hi≤1000000000)∧(∀ (v j:Int),((lo≤v∧v≤hi)∧0≤j)→K (.int .i64 v) [.cells [.sl 1 false xs,.int .i64 j]]))
 | _,_=>none
def qrange_T:Prop :=
 ∀ (gl:Glob) (xs:List (List AV)) (i lo hi:Int),SrcQ xs i∧lo≤hi∧(-1000000000:Int)≤lo∧hi≤(1000000000:Int)→bif decide (rng IntKind.i64 (hi - lo)) then bif
 decide (rng IntKind.i64 (hi - lo+(1:Int))) then SrcQ xs i∧∀ (v j:Int),NumQ (hi - lo+(1:Int)) v j→bif decide (rng IntKind.i64 (lo+v)) then ∃ v_1 j_1,((lo≤v_1 ∧
 v_1≤hi)∧(0:Int)≤j_1)∧lo+v=v_1∧((True∧xs=xs)∧j=j_1∧True)∧True else False else False else False
theorem qrange_P:qrange_T:=by
 unfold qrange_T
 intro gl xs i lo hi ⟨hs,h1,h2,h3⟩
 refine cdI (by omega) (cdI (by omega) ⟨hs,fun v j hq=>?_⟩)
 have hv:=hq.fv (by omega)
 have hj:=hq.fj
 exact cdI (by omega) ⟨_,_,⟨by omega,hj⟩,rfl,⟨⟨trivial,rfl⟩,rfl,trivial⟩,trivial⟩
def qrange_S:Prop:=∀ (gl:Glob) (xs:List (List AV)) (i lo hi:Int),SrcQ xs i∧lo≤hi∧-1000000000≤lo∧hi≤1000000000→fnQ Tryz.prog { glob:=gl,spec:=lk [],specH:=lk [],specQ:=lk [(10,qn_s)],nowf:=true } { nt:=15,drop:=drp [(1,32640)],fr:=1000,kp:=[0] } (fun _ _=>none) 6 Tryz.f7 [.ptr 0 0,.int .i64 lo,.int .i64 hi] [.cells [.sl 1 false xs,.int .i64 i]] (fun r2 bs2=>∃ (v j:Int),((lo≤v∧v≤hi)∧0≤j)∧le r2 (.int .i64 v)∧leBs bs2 [.cells [.sl 1 false xs,.int .i64 j]])
theorem qrange_e:qrange_T=qrange_S:=by kernel_rfl
theorem qrange_v:qrange_S:=Eq.mp (qrange_e ..) (qrange_P)
theorem qrange_ok (gl:Glob):QOK Tryz.prog gl 7 qrange_s:=by
 refine ⟨fok Tryz.func7 (by kernel_rfl) (by kernel_rfl),?_⟩
 intro xs bs T h K hT
 unfold qrange_s at h
 split at h
 ·simp only [Option.some.injEq] at h
  subst h
  obtain ⟨hp,hK⟩:=hT
  obtain ⟨r,bs2,⟨o0,o1,hq,hl,hb⟩,hC⟩:=fnQ_sound tyNil (by exact specOK rfl rfl trivial trivial (d:=qsOf rfl ⟨(qn_ok gl),trivial⟩)) (by kernel_rfl) Tryz.func7 (qrange_v gl _ _ _ _ hp)
  exact ⟨_,_,hK o0 o1 hq,hC.le hl hb⟩
 ·cases h
end Go.Proofs.YtgbbmadjdaphnaaGreatDoor
namespace Go.Proofs.YtgbbmadjdaphnaaGreatDoor
open Go
set_option linter.unusedVariables false
set_option linter.unusedSimpArgs false
def rValid_s (vld:Int→Int→Int→Int→Bool):Sp
 | [.agg [.int .i64 f,.int .i64 a,.int .i64 b,.int .i64 c]]=>some (True,.bool (vld f a b c))
 | _=>none
def rValid_T (vld:Int→Int→Int→Int→Bool):Prop :=
  ∀ (gl:Glob) (f a b c:Int),(IR9 f)∧(IR9 a)∧(IR9 b)∧(IR9 c)∧True→bif decide (0≤f) then bif decide (f < (20:Int)) then bif decide (0≤a) then bif decide (a ≤
 (840:Int)) then bif decide (0≤b) then bif decide (b≤(840:Int)) then bif decide (0≤c) then bif decide (c≤(840:Int)) then bif decide (rng .i64 (a+b)) then bif decide (rng .i64 (a+b+c)) then decide (a+b+c=(840:Int))=vld f a b c else False else False else false=vld f a b c else false=vld f a b c else false=vld f a b c else false=vld f a b c else false=vld f a b c else
 false=vld f a b c else false=vld f a b c else false=vld f a b c
theorem rValid_P:rValid_T vld:=by
 unfold rValid_T
 intro gl f a b c h
 have hf:∀ {x:Bool},(¬ Vld f a b c→x=false)→(x=false→¬ Vld f a b c)→x=vld f a b c:=by
  intro x h1 h2
  unfold vld
  by_cases q:Vld f a b c
  ·rw [decide_eq_true q]; cases x with
   | true=>rfl
   | false=>exact absurd q (h2 rfl)
  ·rw [decide_eq_false q]; exact h1 q
 rw [vld_iff] at hf
 repeat (first
  | refine cdI (by omega) ?_
  | refine cs (fun q=>?_) (fun q=>hf (fun _=>rfl) (fun _=>by omega)))
 refine hf (fun q=>decide_eq_false (by omega)) (fun q=>?_)
 have q:=of_decide_eq_false q
 omega
def rValid_S (vld:Int→Int→Int→Int→Bool):Prop:=∀ (gl:Glob) (f a b c:Int),fnK Tryz.prog { glob:=gl,spec:=lk [],specH:=lk [] } { nt:=52,drop:=drp [(1,4503599627370488)] } (fun _ _=>none) 6 Tryz.f120 [.agg [.int .i64 f,.int .i64 a,.int .i64 b,.int .i64 c]] (.bool (vld f a b c))
theorem rValid_e (vld:Int→Int→Int→Int→Bool):rValid_T vld=rValid_S vld:=by kernel_rfl
theorem rValid_v:rValid_S vld:=Eq.mp (rValid_e ..) (rValid_P)
theorem rValid_ok (gl:Glob):SOK Tryz.prog gl 120 (rValid_s vld):=by
 refine ⟨fok Tryz.func120 (by kernel_rfl) (by kernel_rfl),?_⟩
 intro xs pre r h hp
 unfold rValid_s at h
 split at h
 ·simp only [Option.some.injEq,Prod.mk.injEq] at h
  obtain ⟨h1,h2⟩:=h
  subst h1 h2
  exact fnK_sound tyNil (by exact specOK rfl rfl trivial trivial) (by kernel_rfl) Tryz.func120 rfl (rValid_v gl _ _ _ _)
 ·cases h
def w64 (x:Int):Int:=IntKind.i64.wrap x
theorem w64_id {x:Int} (h:-9223372036854775808≤x∧x≤9223372036854775807):w64 x=x:=wrap_eq (k:=.i64) h
theorem fcs_cases {n:Int} (h:0≤n∧n < 20):n=0∨n=1∨n=2∨n=3∨n=4∨n=5∨n=6∨n=7∨n=8∨n=9∨n=10∨n=11∨n=12∨n=13∨n=14∨n=15∨n=16∨n=17∨n=18∨n=19:=by omega
def rCorners_s (fac:Int→Bool) (crn:Int→Nat→Int):Sp
 | [.int .i64 n]=>some (True,.tup [.agg [.int .i64 (if fac n then crn n 0 else 0),.int .i64 (if fac n then crn n 1 else 0),.int .i64 (if fac n then crn n 2 else 0)],.int .i64 (if fac n then 0 else 1)])
 | _=>none
def rCorners_T (fac:Int→Bool) (crn:Int→Nat→Int):Prop :=
  ∀ (gl:Glob) (n:Int),IR9 n→bif decide (n < (0:Int)) then (((0:Int)=if fac n=true then crn n (0:Nat) else (0:Int))∧((0:Int)=if fac n=true then crn n (1:Nat) else (0:Int))∧((0:Int)=if fac n=true then crn n (2:Nat) else (0:Int))∧True)∧((1:Int)=if fac n=true then (0:Int) else (1:Int))∧True else bif decide (20≤n) then (((0:Int)=if fac
 n=true then crn n (0:Nat) else (0:Int))∧((0:Int)=if fac n=true then crn n (1:Nat) else (0:Int))∧((0:Int)=if fac n=true then crn n (2:Nat) else (0:Int))∧True)∧((1:Int)=if fac n=true then (0:Int) else (1:Int))∧True else bif decide (rng .i64 (n.tmod (5:Int)+(1:Int))) then bif decide (rng .i64 (n.tdiv (5:Int))) then bif decide (n.tdiv (5:Int)=0) then bif decide (rng .i64 ((1:Int)+n.tmod (5:Int)))
 then bif decide (rng .i64 ((1:Int)+(n.tmod (5:Int)+(1:Int)).tmod (5:Int))) then (((0:Int)=if fac n=true then crn n (0:Nat) else (0:Int))∧((1:Int)+n.tmod (5:Int)=if fac n=true then crn n (1:Nat) else (0:Int))∧((1:Int)+(n.tmod (5:Int)+(1:Int)).tmod (5:Int)=if fac n=true then crn n (2:Nat) else (0:Int))∧True)∧((0:Int)=if fac n=true then (0:Int) else (1:Int))∧True else False else False else
 bif decide (n.tdiv (5:Int)=1) then bif decide (rng .i64 ((1:Int)+n.tmod (5:Int))) then bif decide (rng .i64 ((6:Int)+n.tmod (5:Int))) then bif decide (rng .i64 ((1:Int)+(n.tmod (5:Int)+(1:Int)).tmod (5:Int))) then (((1:Int)+n.tmod (5:Int)=if fac n=true then crn n (0:Nat) else (0:Int))∧((6:Int)+n.tmod (5:Int)=if fac n=true then crn n (1:Nat) else (0:Int))∧((1:Int)+(n.tmod (5:Int) +
 (1:Int)).tmod (5:Int)=if fac n=true then crn n (2:Nat) else (0:Int))∧True)∧((0:Int)=if fac n=true then (0:Int) else (1:Int))∧True else False else False else False else bif decide (n.tdiv (5:Int)=2) then bif decide (rng .i64 ((6:Int)+n.tmod (5:Int))) then bif decide (rng .i64 ((6:Int)+(n.tmod (5:Int)+(1:Int)).tmod (5:Int))) then bif decide (rng .i64 ((1:Int)+(n.tmod (5:Int)+(1:Int)).tmod
 (5:Int))) then (((6:Int)+n.tmod (5:Int)=if fac n=true then crn n (0:Nat) else (0:Int))∧((6:Int)+(n.tmod (5:Int)+(1:Int)).tmod (5:Int)=if fac n=true then crn n (1:Nat) else (0:Int))∧((1:Int)+(n.tmod (5:Int)+(1:Int)).tmod (5:Int)=if fac n=true then crn n (2:Nat) else (0:Int))∧True)∧((0:Int)=if fac n=true then (0:Int) else (1:Int))∧True else False else False else False else bif decide (rng
 .i64 ((6:Int)+(n.tmod (5:Int)+(1:Int)).tmod (5:Int))) then bif decide (rng .i64 ((6:Int)+n.tmod (5:Int))) then (((11:Int)=if fac n=true then crn n (0:Nat) else (0:Int))∧((6:Int)+(n.tmod (5:Int)+(1:Int)).tmod (5:Int)=if fac n=true then crn n (1:Nat) else (0:Int))∧((6:Int)+n.tmod (5:Int)=if fac n=true then crn n (2:Nat) else (0:Int))∧True)∧((0:Int)=if fac n=true then (0:Int) else
 (1:Int))∧True else False else False else False else False
theorem rCorners_P:rCorners_T fac crn:=by
 unfold rCorners_T
 intro gl n hn
 refine cs (fun h=>?_) (fun h1=>cs (fun h=>?_) (fun h2=>?_))
 ·have:fac n=false:=decide_eq_false (by omega)
  rw [this]; exact ⟨⟨rfl,rfl,rfl,trivial⟩,rfl,trivial⟩
 ·have:fac n=false:=decide_eq_false (by omega)
  rw [this]; exact ⟨⟨rfl,rfl,rfl,trivial⟩,rfl,trivial⟩
 have:fac n=true:=decide_eq_true (by omega)
 rw [this]
 rcases fcs_cases (n:=n) (by omega) with rfl | rfl | rfl | rfl | rfl | rfl | rfl | rfl | rfl | rfl | rfl | rfl | rfl | rfl | rfl | rfl | rfl | rfl | rfl | rfl
 all_goals
  repeat (first | refine cdI (by decide) ?_ | refine cd1 (by decide) ?_ | refine cd0 (by decide) ?_)
  exact ⟨⟨by decide,by decide,by decide,trivial⟩,rfl,trivial⟩
def rCorners_S (fac:Int→Bool) (crn:Int→Nat→Int):Prop:=∀ (gl:Glob) (n:Int),fnK Tryz.prog { glob:=gl,spec:=lk [],specH:=lk [],nowf:=true } { nt:=50,drop:=drp [(1,1984),(2,4096),(3,24576),(4,229376),(5,262144),(6,2097152),(7,130023424),(8,268435456),(9,68182605824),(10,137438953472),(11,34909494181888),(12,1090715534753792)] } (fun _ _=>none) 6 Tryz.f155 [.int .i64 n] (.tup [.agg [.int .i64 (if fac n then crn n 0 else 0),.int .i64 (if fac n then crn n 1 else 0),.int .i64 (if fac n then crn n 2 else 0)],.int .i64 (if fac n then 0 else 1)])
theorem rCorners_e (fac:Int→Bool) (crn:Int→Nat→Int):rCorners_T fac crn=rCorners_S fac crn:=by kernel_rfl
theorem rCorners_v:rCorners_S fac crn:=Eq.mp (rCorners_e ..) (rCorners_P)
theorem rCorners_ok (gl:Glob):SOK Tryz.prog gl 155 (rCorners_s fac crn):=by
 refine ⟨fok Tryz.func155 (by kernel_rfl) (by kernel_rfl),?_⟩
 intro xs pre r h hp
 unfold rCorners_s at h
 split at h
 ·simp only [Option.some.injEq,Prod.mk.injEq] at h
  obtain ⟨h1,h2⟩:=h
  subst h1 h2
  exact fnK_sound tyNil (by exact specOK rfl rfl trivial trivial) (by kernel_rfl) Tryz.func155 rfl (rCorners_v gl _)
 ·cases h
def rWeights20_T:Prop :=
  ∀ (gl:Glob) (a b c:Int),(((-9223372036854775808:Int)≤(0:Int)∧(0:Int)≤(9223372036854775807:Int))∧(IR9 a)∧(IR9 b)∧(IR9 c)∧True→True∧a=wt (0:Int) a b c (0:Int)∧b=wt (0:Int) a b c (1:Int)∧c=wt (0:Int) a b c (2:Int)∧(0:Int)=wt (0:Int)
 a b c (3:Int)∧(0:Int)=wt (0:Int) a b c (4:Int)∧(0:Int)=wt (0:Int) a b c (5:Int)∧(0:Int)=wt (0:Int) a b c (6:Int)∧(0:Int)=wt (0:Int) a b c (7:Int)∧(0:Int)=wt (0:Int) a b c (8:Int)∧(0:Int)=wt (0:Int) a b c (9:Int)∧(0:Int)=wt (0:Int) a b c (10:Int)∧(0:Int)=wt (0:Int) a b c (11:Int)∧True)∧(((-9223372036854775808:Int)≤(1:Int)∧(1:Int)≤(9223372036854775807:Int))∧((-9223372036854775808:Int)≤a∧a ≤
 (9223372036854775807:Int))∧(IR9 b)∧(IR9 c)∧True→True∧a=wt (1:Int) a b c (0:Int)∧(0:Int)=wt (1:Int) a b c (1:Int)∧b=wt (1:Int) a b c (2:Int)∧c=wt (1:Int) a b c (3:Int)∧(0:Int)=wt (1:Int) a b c (4:Int)∧(0:Int)=wt (1:Int) a b c (5:Int)∧(0:Int)=wt (1:Int) a b c (6:Int)∧(0:Int)=wt (1:Int) a b c
 (7:Int)∧(0:Int)=wt (1:Int) a b c (8:Int)∧(0:Int)=wt (1:Int) a b c (9:Int)∧(0:Int)=wt (1:Int) a b c (10:Int)∧(0:Int)=wt (1:Int) a b c (11:Int)∧True)∧(((-9223372036854775808:Int)≤(2:Int)∧(2:Int)≤(9223372036854775807:Int))∧(IR9 a)∧(IR9 b)∧((-9223372036854775808:Int)≤c∧c ≤
 (9223372036854775807:Int))∧True→True∧a=wt (2:Int) a b c (0:Int)∧(0:Int)=wt (2:Int) a b c (1:Int)∧(0:Int)=wt (2:Int) a b c (2:Int)∧b=wt (2:Int) a b c (3:Int)∧c=wt (2:Int) a b c (4:Int)∧(0:Int)=wt (2:Int) a b c (5:Int)∧(0:Int)=wt (2:Int) a b c (6:Int)∧(0:Int)=wt (2:Int) a b c (7:Int)∧(0:Int)=wt (2:Int) a b c (8:Int)∧(0:Int)=wt (2:Int) a b c (9:Int)∧(0:Int)=wt (2:Int) a b c (10:Int)∧(0:Int)=wt (2:Int)
 a b c (11:Int)∧True)∧(((-9223372036854775808:Int)≤(3:Int)∧(3:Int)≤(9223372036854775807:Int))∧(IR9 a)∧(IR9 b)∧(IR9 c)∧True→True∧a=wt (3:Int) a b c (0:Int)∧(0:Int)=wt (3:Int) a b c (1:Int)∧(0:Int)=wt (3:Int) a b c (2:Int)∧(0:Int)=wt
 (3:Int) a b c (3:Int)∧b=wt (3:Int) a b c (4:Int)∧c=wt (3:Int) a b c (5:Int)∧(0:Int)=wt (3:Int) a b c (6:Int)∧(0:Int)=wt (3:Int) a b c (7:Int)∧(0:Int)=wt (3:Int) a b c (8:Int)∧(0:Int)=wt (3:Int) a b c (9:Int)∧(0:Int)=wt (3:Int) a b c (10:Int)∧(0:Int)=wt (3:Int) a b c (11:Int)∧True)∧(((-9223372036854775808:Int)≤(4:Int)∧(4:Int)≤(9223372036854775807:Int))∧((-9223372036854775808:Int)≤a∧a ≤
 (9223372036854775807:Int))∧(IR9 b)∧(IR9 c)∧True→True∧a=wt (4:Int) a b c (0:Int)∧c=wt (4:Int) a b c (1:Int)∧(0:Int)=wt (4:Int) a b c (2:Int)∧(0:Int)=wt (4:Int) a b c (3:Int)∧(0:Int)=wt (4:Int) a b c (4:Int)∧b=wt (4:Int) a b c (5:Int)∧(0:Int)=wt (4:Int) a b c (6:Int)∧(0:Int)=wt (4:Int) a b c
 (7:Int)∧(0:Int)=wt (4:Int) a b c (8:Int)∧(0:Int)=wt (4:Int) a b c (9:Int)∧(0:Int)=wt (4:Int) a b c (10:Int)∧(0:Int)=wt (4:Int) a b c (11:Int)∧True)∧(((-9223372036854775808:Int)≤(5:Int)∧(5:Int)≤(9223372036854775807:Int))∧(IR9 a)∧(IR9 b)∧((-9223372036854775808:Int)≤c∧c ≤
 (9223372036854775807:Int))∧True→True∧(0:Int)=wt (5:Int) a b c (0:Int)∧a=wt (5:Int) a b c (1:Int)∧c=wt (5:Int) a b c (2:Int)∧(0:Int)=wt (5:Int) a b c (3:Int)∧(0:Int)=wt (5:Int) a b c (4:Int)∧(0:Int)=wt (5:Int) a b c (5:Int)∧b=wt (5:Int) a b c (6:Int)∧(0:Int)=wt (5:Int) a b c (7:Int)∧(0:Int)=wt (5:Int) a b c (8:Int)∧(0:Int)=wt (5:Int) a b c (9:Int)∧(0:Int)=wt (5:Int) a b c (10:Int)∧(0:Int)=wt (5:Int)
 a b c (11:Int)∧True)∧(((-9223372036854775808:Int)≤(6:Int)∧(6:Int)≤(9223372036854775807:Int))∧(IR9 a)∧(IR9 b)∧(IR9 c)∧True→True∧(0:Int)=wt (6:Int) a b c (0:Int)∧(0:Int)=wt (6:Int) a b c (1:Int)∧a=wt (6:Int) a b c (2:Int)∧c=wt (6:Int)
 a b c (3:Int)∧(0:Int)=wt (6:Int) a b c (4:Int)∧(0:Int)=wt (6:Int) a b c (5:Int)∧(0:Int)=wt (6:Int) a b c (6:Int)∧b=wt (6:Int) a b c (7:Int)∧(0:Int)=wt (6:Int) a b c (8:Int)∧(0:Int)=wt (6:Int) a b c (9:Int)∧(0:Int)=wt (6:Int) a b c (10:Int)∧(0:Int)=wt (6:Int) a b c (11:Int)∧True)∧(((-9223372036854775808:Int)≤(7:Int)∧(7:Int)≤(9223372036854775807:Int))∧((-9223372036854775808:Int)≤a∧a ≤
 (9223372036854775807:Int))∧(IR9 b)∧(IR9 c)∧True→True∧(0:Int)=wt (7:Int) a b c (0:Int)∧(0:Int)=wt (7:Int) a b c (1:Int)∧(0:Int)=wt (7:Int) a b c (2:Int)∧a=wt (7:Int) a b c (3:Int)∧c=wt (7:Int) a b c (4:Int)∧(0:Int)=wt (7:Int) a b c (5:Int)∧(0:Int)=wt (7:Int) a b c (6:Int)∧(0:Int)=wt (7:Int)
 a b c (7:Int)∧b=wt (7:Int) a b c (8:Int)∧(0:Int)=wt (7:Int) a b c (9:Int)∧(0:Int)=wt (7:Int) a b c (10:Int)∧(0:Int)=wt (7:Int) a b c (11:Int)∧True)∧(((-9223372036854775808:Int)≤(8:Int)∧(8:Int)≤(9223372036854775807:Int))∧(IR9 a)∧(IR9 b)∧((-9223372036854775808:Int)≤c∧c ≤
 (9223372036854775807:Int))∧True→True∧(0:Int)=wt (8:Int) a b c (0:Int)∧(0:Int)=wt (8:Int) a b c (1:Int)∧(0:Int)=wt (8:Int) a b c (2:Int)∧(0:Int)=wt (8:Int) a b c (3:Int)∧a=wt (8:Int) a b c (4:Int)∧c=wt (8:Int) a b c (5:Int)∧(0:Int)=wt (8:Int) a b c (6:Int)∧(0:Int)=wt (8:Int) a b c (7:Int)∧(0:Int)=wt (8:Int) a b c (8:Int)∧b=wt (8:Int) a b c (9:Int)∧(0:Int)=wt (8:Int) a b c (10:Int)∧(0:Int)=wt (8:Int)
 a b c (11:Int)∧True)∧(((-9223372036854775808:Int)≤(9:Int)∧(9:Int)≤(9223372036854775807:Int))∧(IR9 a)∧(IR9 b)∧(IR9 c)∧True→True∧(0:Int)=wt (9:Int) a b c (0:Int)∧c=wt (9:Int) a b c (1:Int)∧(0:Int)=wt (9:Int) a b c (2:Int)∧(0:Int)=wt
 (9:Int) a b c (3:Int)∧(0:Int)=wt (9:Int) a b c (4:Int)∧a=wt (9:Int) a b c (5:Int)∧(0:Int)=wt (9:Int) a b c (6:Int)∧(0:Int)=wt (9:Int) a b c (7:Int)∧(0:Int)=wt (9:Int) a b c (8:Int)∧(0:Int)=wt (9:Int) a b c (9:Int)∧b=wt (9:Int) a b c (10:Int)∧(0:Int)=wt (9:Int) a b c (11:Int)∧True)∧(((-9223372036854775808:Int)≤(10:Int)∧(10:Int)≤(9223372036854775807:Int))∧((-9223372036854775808:Int)≤a∧a ≤
 (9223372036854775807:Int))∧(IR9 b)∧(IR9 c)∧True→True∧(0:Int)=wt (10:Int) a b c (0:Int)∧(0:Int)=wt (10:Int) a b c (1:Int)∧c=wt (10:Int) a b c (2:Int)∧(0:Int)=wt (10:Int) a b c (3:Int)∧(0:Int)=wt (10:Int) a b c (4:Int)∧(0:Int)=wt (10:Int) a b c (5:Int)∧a=wt (10:Int) a b c (6:Int)∧b=wt
 (10:Int) a b c (7:Int)∧(0:Int)=wt (10:Int) a b c (8:Int)∧(0:Int)=wt (10:Int) a b c (9:Int)∧(0:Int)=wt (10:Int) a b c (10:Int)∧(0:Int)=wt (10:Int) a b c (11:Int)∧True)∧(((-9223372036854775808:Int)≤(11:Int)∧(11:Int)≤(9223372036854775807:Int))∧(IR9 a)∧(IR9 b)∧((-9223372036854775808:Int) ≤
 c∧c≤(9223372036854775807:Int))∧True→True∧(0:Int)=wt (11:Int) a b c (0:Int)∧(0:Int)=wt (11:Int) a b c (1:Int)∧(0:Int)=wt (11:Int) a b c (2:Int)∧c=wt (11:Int) a b c (3:Int)∧(0:Int)=wt (11:Int) a b c (4:Int)∧(0:Int)=wt (11:Int) a b c (5:Int)∧(0:Int)=wt (11:Int) a b c (6:Int)∧a=wt (11:Int) a b c (7:Int)∧b=wt (11:Int) a b c (8:Int)∧(0:Int)=wt (11:Int) a b c (9:Int)∧(0:Int)=wt (11:Int) a b c
 (10:Int)∧(0:Int)=wt (11:Int) a b c (11:Int)∧True)∧(((-9223372036854775808:Int)≤(12:Int)∧(12:Int)≤(9223372036854775807:Int))∧(IR9 a)∧(IR9 b)∧(IR9 c)∧True→True∧(0:Int)=wt (12:Int) a b c (0:Int)∧(0:Int)=wt (12:Int) a b c
 (1:Int)∧(0:Int)=wt (12:Int) a b c (2:Int)∧(0:Int)=wt (12:Int) a b c (3:Int)∧c=wt (12:Int) a b c (4:Int)∧(0:Int)=wt (12:Int) a b c (5:Int)∧(0:Int)=wt (12:Int) a b c (6:Int)∧(0:Int)=wt (12:Int) a b c (7:Int)∧a=wt (12:Int) a b c (8:Int)∧b=wt (12:Int) a b c (9:Int)∧(0:Int)=wt (12:Int) a b c (10:Int)∧(0:Int)=wt (12:Int) a b c (11:Int)∧True)∧(((-9223372036854775808:Int)≤(13:Int)∧(13:Int) ≤
 (9223372036854775807:Int))∧(IR9 a)∧(IR9 b)∧(IR9 c)∧True→True∧(0:Int)=wt (13:Int) a b c (0:Int)∧(0:Int)=wt (13:Int) a b c (1:Int)∧(0:Int)=wt (13:Int) a b c (2:Int)∧(0:Int)=wt (13:Int) a b c (3:Int)∧(0:Int)=wt (13:Int) a b c (4:Int)∧c=wt
 (13:Int) a b c (5:Int)∧(0:Int)=wt (13:Int) a b c (6:Int)∧(0:Int)=wt (13:Int) a b c (7:Int)∧(0:Int)=wt (13:Int) a b c (8:Int)∧a=wt (13:Int) a b c (9:Int)∧b=wt (13:Int) a b c (10:Int)∧(0:Int)=wt (13:Int) a b c (11:Int)∧True)∧(((-9223372036854775808:Int)≤(14:Int)∧(14:Int)≤(9223372036854775807:Int))∧(IR9 a)∧((-9223372036854775808:Int)≤b∧b ≤
 (9223372036854775807:Int))∧(IR9 c)∧True→True∧(0:Int)=wt (14:Int) a b c (0:Int)∧c=wt (14:Int) a b c (1:Int)∧(0:Int)=wt (14:Int) a b c (2:Int)∧(0:Int)=wt (14:Int) a b c (3:Int)∧(0:Int)=wt (14:Int) a b c (4:Int)∧(0:Int)=wt (14:Int) a b c (5:Int)∧b=wt (14:Int) a b c (6:Int)∧(0:Int)=wt (14:Int) a b c (7:Int)∧(0:Int)=wt (14:Int) a b c
 (8:Int)∧(0:Int)=wt (14:Int) a b c (9:Int)∧a=wt (14:Int) a b c (10:Int)∧(0:Int)=wt (14:Int) a b c (11:Int)∧True)∧(((-9223372036854775808:Int)≤(15:Int)∧(15:Int)≤(9223372036854775807:Int))∧(IR9 a)∧(IR9 b)∧(IR9 c)∧True→True∧(0:Int)=wt
 (15:Int) a b c (0:Int)∧(0:Int)=wt (15:Int) a b c (1:Int)∧(0:Int)=wt (15:Int) a b c (2:Int)∧(0:Int)=wt (15:Int) a b c (3:Int)∧(0:Int)=wt (15:Int) a b c (4:Int)∧(0:Int)=wt (15:Int) a b c (5:Int)∧c=wt (15:Int) a b c (6:Int)∧b=wt (15:Int) a b c (7:Int)∧(0:Int)=wt (15:Int) a b c (8:Int)∧(0:Int)=wt (15:Int) a b c (9:Int)∧(0:Int)=wt (15:Int) a b c (10:Int)∧a=wt (15:Int) a b c
 (11:Int)∧True)∧(((-9223372036854775808:Int)≤(16:Int)∧(16:Int)≤(9223372036854775807:Int))∧(IR9 a)∧(IR9 b)∧(IR9 c)∧True→True∧(0:Int)=wt (16:Int) a b c (0:Int)∧(0:Int)=wt (16:Int) a b c (1:Int)∧(0:Int)=wt (16:Int) a b c
 (2:Int)∧(0:Int)=wt (16:Int) a b c (3:Int)∧(0:Int)=wt (16:Int) a b c (4:Int)∧(0:Int)=wt (16:Int) a b c (5:Int)∧(0:Int)=wt (16:Int) a b c (6:Int)∧c=wt (16:Int) a b c (7:Int)∧b=wt (16:Int) a b c (8:Int)∧(0:Int)=wt (16:Int) a b c (9:Int)∧(0:Int)=wt (16:Int) a b c (10:Int)∧a=wt (16:Int) a b c (11:Int)∧True)∧(((-9223372036854775808:Int)≤(17:Int)∧(17:Int) ≤
 (9223372036854775807:Int))∧(IR9 a)∧(IR9 b)∧(IR9 c)∧True→True∧(0:Int)=wt (17:Int) a b c (0:Int)∧(0:Int)=wt (17:Int) a b c (1:Int)∧(0:Int)=wt (17:Int) a b c (2:Int)∧(0:Int)=wt (17:Int) a b c (3:Int)∧(0:Int)=wt (17:Int) a b c
 (4:Int)∧(0:Int)=wt (17:Int) a b c (5:Int)∧(0:Int)=wt (17:Int) a b c (6:Int)∧(0:Int)=wt (17:Int) a b c (7:Int)∧c=wt (17:Int) a b c (8:Int)∧b=wt (17:Int) a b c (9:Int)∧(0:Int)=wt (17:Int) a b c (10:Int)∧a=wt (17:Int) a b c (11:Int)∧True)∧(((-9223372036854775808:Int)≤(18:Int)∧(18:Int)≤(9223372036854775807:Int))∧((-9223372036854775808:Int)≤a∧a ≤
 (9223372036854775807:Int))∧(IR9 b)∧(IR9 c)∧True→True∧(0:Int)=wt (18:Int) a b c (0:Int)∧(0:Int)=wt (18:Int) a b c (1:Int)∧(0:Int)=wt (18:Int) a b c (2:Int)∧(0:Int)=wt (18:Int) a b c (3:Int)∧(0:Int)=wt (18:Int) a b c (4:Int)∧(0:Int)=wt (18:Int) a b c (5:Int)∧(0:Int)=wt (18:Int) a b c
 (6:Int)∧(0:Int)=wt (18:Int) a b c (7:Int)∧(0:Int)=wt (18:Int) a b c (8:Int)∧c=wt (18:Int) a b c (9:Int)∧b=wt (18:Int) a b c (10:Int)∧a=wt (18:Int) a b c (11:Int)∧True)∧(((-9223372036854775808:Int)≤(19:Int)∧(19:Int)≤(9223372036854775807:Int))∧(IR9 a)∧(IR9 b)∧((-9223372036854775808:Int) ≤
 c∧c≤(9223372036854775807:Int))∧True→True∧(0:Int)=wt (19:Int) a b c (0:Int)∧(0:Int)=wt (19:Int) a b c (1:Int)∧(0:Int)=wt (19:Int) a b c (2:Int)∧(0:Int)=wt (19:Int) a b c (3:Int)∧(0:Int)=wt (19:Int) a b c (4:Int)∧(0:Int)=wt (19:Int) a b c (5:Int)∧b=wt (19:Int) a b c (6:Int)∧(0:Int)=wt (19:Int) a b c (7:Int)∧(0:Int)=wt (19:Int) a b c (8:Int)∧(0:Int)=wt (19:Int) a b c (9:Int)∧c=wt (19:Int) a b c
 (10:Int)∧a=wt (19:Int) a b c (11:Int)∧True)∧True
theorem rWeights20_P:rWeights20_T:=by
 unfold rWeights20_T
 intro gl a b c
 repeat' (first | exact trivial | intro _ | rfl | apply And.intro)
def rWeights20_S:Prop:=∀ (gl:Glob) (a b c:Int),allN fcs fun f=>fnK Tryz.prog { glob:=gl,spec:=lk [(155,rCorners_s fac crn)],nowf:=true } { nt:=28 } (fun _ _=>none) 6 Tryz.f121 [.agg [.int .i64 f,.int .i64 a,.int .i64 b,.int .i64 c]] (.agg [.int .i64 (wt f a b c 0),.int .i64 (wt f a b c 1),.int .i64 (wt f a b c 2),.int .i64 (wt f a b c 3),.int .i64 (wt f a b c 4),.int .i64 (wt f a b c 5),.int .i64 (wt f a b c 6),.int .i64 (wt f a b c 7),.int .i64 (wt f a b c 8),.int .i64 (wt f a b c 9),.int .i64 (wt f a b c 10),.int .i64 (wt f a b c 11)])
theorem rWeights20_e:rWeights20_T=rWeights20_S:=by kernel_rfl
theorem rWeights20:rWeights20_S:=@Eq.mp (rWeights20_T) (rWeights20_S) (rWeights20_e) (rWeights20_P)
def rOn20_T:Prop :=
  ∀ (gl:Glob) (w0 w1 w2 w3 w4 w5 w6 w7 w8 w9 w10 w11:Int),((-9223372036854775808:Int)≤(0:Int)∧(0:Int)≤(9223372036854775807:Int)→(IR9 w0)∧(IR9 w1)∧(IR9 w2)∧((-9223372036854775808:Int)≤w3∧w3 ≤
 (9223372036854775807:Int))∧(IR9 w4)∧(IR9 w5)∧(IR9 w6)∧(IR9 w7)∧(IR9 w8)∧((-9223372036854775808:Int)≤w9∧w9 ≤
 (9223372036854775807:Int))∧(IR9 w10)∧(IR9 w11)∧True→True∧((0:Int)=0∧w0=sel [w0,w1,w2,w3,w4,w5,w6,w7,w8,w9,w10,w11] (0:Int)∧w1=sel [w0,w1,w2,w3,w4,w5,w6,w7,w8,w9,w10,w11] (1:Int)∧w2=sel [w0,w1,w2,w3,w4,w5,w6,w7,w8,w9,w10,w11] (2:Int)∧True)∧decide (IntKind.i64.wrap (IntKind.i64.wrap (w0 +
 w1)+w2)=(840:Int))=decide (w64 (w64 (sel [w0,w1,w2,w3,w4,w5,w6,w7,w8,w9,w10,w11] (0:Int)+sel [w0,w1,w2,w3,w4,w5,w6,w7,w8,w9,w10,w11] (1:Int))+sel [w0,w1,w2,w3,w4,w5,w6,w7,w8,w9,w10,w11] (2:Int))=(840:Int))∧True)∧((-9223372036854775808:Int)≤(1:Int)∧(1:Int)≤(9223372036854775807:Int)→(IR9 w0)∧((-9223372036854775808:Int)≤w1∧w1 ≤
 (9223372036854775807:Int))∧(IR9 w2)∧(IR9 w3)∧(IR9 w4)∧(IR9 w5)∧(IR9 w6)∧((-9223372036854775808:Int)≤w7∧w7 ≤
 (9223372036854775807:Int))∧(IR9 w8)∧(IR9 w9)∧(IR9 w10)∧(IR9 w11)∧True→True∧((1:Int)=1∧w0=sel [w0,w1,w2,w3,w4,w5,w6,w7,w8,w9,w10,w11] (0:Int)∧w2=sel
 [w0,w1,w2,w3,w4,w5,w6,w7,w8,w9,w10,w11] (2:Int)∧w3=sel [w0,w1,w2,w3,w4,w5,w6,w7,w8,w9,w10,w11] (3:Int)∧True)∧decide (IntKind.i64.wrap (IntKind.i64.wrap (w0+w2)+w3)=(840:Int))=decide (w64 (w64 (sel [w0,w1,w2,w3,w4,w5,w6,w7,w8,w9,w10,w11] (0:Int)+sel [w0,w1,w2,w3,w4,w5,w6,w7,w8,w9,w10,w11] (2:Int))+sel [w0,w1,w2,w3,w4,w5,w6,w7,w8,w9,w10,w11]
 (3:Int))=(840:Int))∧True)∧((-9223372036854775808:Int)≤(2:Int)∧(2:Int)≤(9223372036854775807:Int)→(IR9 w0)∧(IR9 w1)∧(IR9 w2)∧(IR9 w3)∧((-9223372036854775808:Int)≤w4∧w4 ≤
 (9223372036854775807:Int))∧(IR9 w5)∧(IR9 w6)∧(IR9 w7)∧(IR9 w8)∧(IR9 w9)∧((-9223372036854775808:Int)≤w10∧w10 ≤
 (9223372036854775807:Int))∧(IR9 w11)∧True→True∧((2:Int)=2∧w0=sel [w0,w1,w2,w3,w4,w5,w6,w7,w8,w9,w10,w11] (0:Int)∧w3=sel [w0,w1,w2,w3,w4,w5,w6,w7,w8,w9,w10,w11] (3:Int)∧w4=sel [w0,w1,w2,w3,w4,w5,w6,w7,w8,w9,w10,w11] (4:Int)∧True)∧decide (IntKind.i64.wrap (IntKind.i64.wrap (w0+w3)+w4)=(840:Int))=decide (w64 (w64 (sel
 [w0,w1,w2,w3,w4,w5,w6,w7,w8,w9,w10,w11] (0:Int)+sel [w0,w1,w2,w3,w4,w5,w6,w7,w8,w9,w10,w11] (3:Int))+sel [w0,w1,w2,w3,w4,w5,w6,w7,w8,w9,w10,w11] (4:Int))=(840:Int))∧True)∧((-9223372036854775808:Int)≤(3:Int)∧(3:Int)≤(9223372036854775807:Int)→(IR9 w0)∧((-9223372036854775808:Int)≤w1∧w1 ≤
 (9223372036854775807:Int))∧(IR9 w2)∧(IR9 w3)∧(IR9 w4)∧(IR9 w5)∧(IR9 w6)∧((-9223372036854775808:Int)≤w7∧w7 ≤
 (9223372036854775807:Int))∧(IR9 w8)∧(IR9 w9)∧(IR9 w10)∧(IR9 w11)∧True→True∧((3:Int)=3∧w0=sel [w0,w1,w2,w3,w4,w5,w6,w7,w8,w9,w10,w11] (0:Int)∧w4=sel
 [w0,w1,w2,w3,w4,w5,w6,w7,w8,w9,w10,w11] (4:Int)∧w5=sel [w0,w1,w2,w3,w4,w5,w6,w7,w8,w9,w10,w11] (5:Int)∧True)∧decide (IntKind.i64.wrap (IntKind.i64.wrap (w0+w4)+w5)=(840:Int))=decide (w64 (w64 (sel [w0,w1,w2,w3,w4,w5,w6,w7,w8,w9,w10,w11] (0:Int)+sel [w0,w1,w2,w3,w4,w5,w6,w7,w8,w9,w10,w11] (4:Int))+sel [w0,w1,w2,w3,w4,w5,w6,w7,w8,w9,w10,w11]
 (5:Int))=(840:Int))∧True)∧((-9223372036854775808:Int)≤(4:Int)∧(4:Int)≤(9223372036854775807:Int)→(IR9 w0)∧(IR9 w1)∧(IR9 w2)∧(IR9 w3)∧((-9223372036854775808:Int)≤w4∧w4 ≤
 (9223372036854775807:Int))∧(IR9 w5)∧(IR9 w6)∧(IR9 w7)∧(IR9 w8)∧(IR9 w9)∧((-9223372036854775808:Int)≤w10∧w10 ≤
 (9223372036854775807:Int))∧(IR9 w11)∧True→True∧((4:Int)=4∧w0=sel [w0,w1,w2,w3,w4,w5,w6,w7,w8,w9,w10,w11] (0:Int)∧w5=sel [w0,w1,w2,w3,w4,w5,w6,w7,w8,w9,w10,w11] (5:Int)∧w1=sel [w0,w1,w2,w3,w4,w5,w6,w7,w8,w9,w10,w11] (1:Int)∧True)∧decide (IntKind.i64.wrap (IntKind.i64.wrap (w0+w5)+w1)=(840:Int))=decide (w64 (w64 (sel
 [w0,w1,w2,w3,w4,w5,w6,w7,w8,w9,w10,w11] (0:Int)+sel [w0,w1,w2,w3,w4,w5,w6,w7,w8,w9,w10,w11] (5:Int))+sel [w0,w1,w2,w3,w4,w5,w6,w7,w8,w9,w10,w11] (1:Int))=(840:Int))∧True)∧((-9223372036854775808:Int)≤(5:Int)∧(5:Int)≤(9223372036854775807:Int)→(IR9 w0)∧((-9223372036854775808:Int)≤w1∧w1 ≤
 (9223372036854775807:Int))∧(IR9 w2)∧(IR9 w3)∧(IR9 w4)∧(IR9 w5)∧(IR9 w6)∧((-9223372036854775808:Int)≤w7∧w7 ≤
 (9223372036854775807:Int))∧(IR9 w8)∧(IR9 w9)∧(IR9 w10)∧(IR9 w11)∧True→True∧((5:Int)=5∧w1=sel [w0,w1,w2,w3,w4,w5,w6,w7,w8,w9,w10,w11] (1:Int)∧w6=sel
 [w0,w1,w2,w3,w4,w5,w6,w7,w8,w9,w10,w11] (6:Int)∧w2=sel [w0,w1,w2,w3,w4,w5,w6,w7,w8,w9,w10,w11] (2:Int)∧True)∧decide (IntKind.i64.wrap (IntKind.i64.wrap (w1+w6)+w2)=(840:Int))=decide (w64 (w64 (sel [w0,w1,w2,w3,w4,w5,w6,w7,w8,w9,w10,w11] (1:Int)+sel [w0,w1,w2,w3,w4,w5,w6,w7,w8,w9,w10,w11] (6:Int))+sel [w0,w1,w2,w3,w4,w5,w6,w7,w8,w9,w10,w11]
 (2:Int))=(840:Int))∧True)∧((-9223372036854775808:Int)≤(6:Int)∧(6:Int)≤(9223372036854775807:Int)→(IR9 w0)∧(IR9 w1)∧(IR9 w2)∧(IR9 w3)∧((-9223372036854775808:Int)≤w4∧w4 ≤
 (9223372036854775807:Int))∧(IR9 w5)∧(IR9 w6)∧(IR9 w7)∧(IR9 w8)∧(IR9 w9)∧((-9223372036854775808:Int)≤w10∧w10 ≤
 (9223372036854775807:Int))∧(IR9 w11)∧True→True∧((6:Int)=6∧w2=sel [w0,w1,w2,w3,w4,w5,w6,w7,w8,w9,w10,w11] (2:Int)∧w7=sel [w0,w1,w2,w3,w4,w5,w6,w7,w8,w9,w10,w11] (7:Int)∧w3=sel [w0,w1,w2,w3,w4,w5,w6,w7,w8,w9,w10,w11] (3:Int)∧True)∧decide (IntKind.i64.wrap (IntKind.i64.wrap (w2+w7)+w3)=(840:Int))=decide (w64 (w64 (sel
 [w0,w1,w2,w3,w4,w5,w6,w7,w8,w9,w10,w11] (2:Int)+sel [w0,w1,w2,w3,w4,w5,w6,w7,w8,w9,w10,w11] (7:Int))+sel [w0,w1,w2,w3,w4,w5,w6,w7,w8,w9,w10,w11] (3:Int))=(840:Int))∧True)∧((-9223372036854775808:Int)≤(7:Int)∧(7:Int)≤(9223372036854775807:Int)→(IR9 w0)∧((-9223372036854775808:Int)≤w1∧w1 ≤
 (9223372036854775807:Int))∧(IR9 w2)∧(IR9 w3)∧(IR9 w4)∧(IR9 w5)∧(IR9 w6)∧((-9223372036854775808:Int)≤w7∧w7 ≤
 (9223372036854775807:Int))∧(IR9 w8)∧(IR9 w9)∧(IR9 w10)∧(IR9 w11)∧True→True∧((7:Int)=7∧w3=sel [w0,w1,w2,w3,w4,w5,w6,w7,w8,w9,w10,w11] (3:Int)∧w8=sel
 [w0,w1,w2,w3,w4,w5,w6,w7,w8,w9,w10,w11] (8:Int)∧w4=sel [w0,w1,w2,w3,w4,w5,w6,w7,w8,w9,w10,w11] (4:Int)∧True)∧decide (IntKind.i64.wrap (IntKind.i64.wrap (w3+w8)+w4)=(840:Int))=decide (w64 (w64 (sel [w0,w1,w2,w3,w4,w5,w6,w7,w8,w9,w10,w11] (3:Int)+sel [w0,w1,w2,w3,w4,w5,w6,w7,w8,w9,w10,w11] (8:Int))+sel [w0,w1,w2,w3,w4,w5,w6,w7,w8,w9,w10,w11]
 (4:Int))=(840:Int))∧True)∧((-9223372036854775808:Int)≤(8:Int)∧(8:Int)≤(9223372036854775807:Int)→(IR9 w0)∧(IR9 w1)∧(IR9 w2)∧(IR9 w3)∧((-9223372036854775808:Int)≤w4∧w4 ≤
 (9223372036854775807:Int))∧(IR9 w5)∧(IR9 w6)∧(IR9 w7)∧(IR9 w8)∧(IR9 w9)∧((-9223372036854775808:Int)≤w10∧w10 ≤
 (9223372036854775807:Int))∧(IR9 w11)∧True→True∧((8:Int)=8∧w4=sel [w0,w1,w2,w3,w4,w5,w6,w7,w8,w9,w10,w11] (4:Int)∧w9=sel [w0,w1,w2,w3,w4,w5,w6,w7,w8,w9,w10,w11] (9:Int)∧w5=sel [w0,w1,w2,w3,w4,w5,w6,w7,w8,w9,w10,w11] (5:Int)∧True)∧decide (IntKind.i64.wrap (IntKind.i64.wrap (w4+w9)+w5)=(840:Int))=decide (w64 (w64 (sel
 [w0,w1,w2,w3,w4,w5,w6,w7,w8,w9,w10,w11] (4:Int)+sel [w0,w1,w2,w3,w4,w5,w6,w7,w8,w9,w10,w11] (9:Int))+sel [w0,w1,w2,w3,w4,w5,w6,w7,w8,w9,w10,w11] (5:Int))=(840:Int))∧True)∧((-9223372036854775808:Int)≤(9:Int)∧(9:Int)≤(9223372036854775807:Int)→(IR9 w0)∧((-9223372036854775808:Int)≤w1∧w1 ≤
 (9223372036854775807:Int))∧(IR9 w2)∧(IR9 w3)∧(IR9 w4)∧(IR9 w5)∧(IR9 w6)∧((-9223372036854775808:Int)≤w7∧w7 ≤
 (9223372036854775807:Int))∧(IR9 w8)∧(IR9 w9)∧(IR9 w10)∧(IR9 w11)∧True→True∧((9:Int)=9∧w5=sel [w0,w1,w2,w3,w4,w5,w6,w7,w8,w9,w10,w11] (5:Int)∧w10=sel
 [w0,w1,w2,w3,w4,w5,w6,w7,w8,w9,w10,w11] (10:Int)∧w1=sel [w0,w1,w2,w3,w4,w5,w6,w7,w8,w9,w10,w11] (1:Int)∧True)∧decide (IntKind.i64.wrap (IntKind.i64.wrap (w5+w10)+w1)=(840:Int))=decide (w64 (w64 (sel [w0,w1,w2,w3,w4,w5,w6,w7,w8,w9,w10,w11] (5:Int)+sel [w0,w1,w2,w3,w4,w5,w6,w7,w8,w9,w10,w11] (10:Int))+sel [w0,w1,w2,w3,w4,w5,w6,w7,w8,w9,w10,w11]
 (1:Int))=(840:Int))∧True)∧((-9223372036854775808:Int)≤(10:Int)∧(10:Int)≤(9223372036854775807:Int)→(IR9 w0)∧(IR9 w1)∧(IR9 w2)∧(IR9 w3)∧((-9223372036854775808:Int)≤w4∧w4 ≤
 (9223372036854775807:Int))∧(IR9 w5)∧(IR9 w6)∧(IR9 w7)∧(IR9 w8)∧(IR9 w9)∧((-9223372036854775808:Int)≤w10∧w10 ≤
 (9223372036854775807:Int))∧(IR9 w11)∧True→True∧((10:Int)=10∧w6=sel [w0,w1,w2,w3,w4,w5,w6,w7,w8,w9,w10,w11] (6:Int)∧w7=sel [w0,w1,w2,w3,w4,w5,w6,w7,w8,w9,w10,w11] (7:Int)∧w2=sel [w0,w1,w2,w3,w4,w5,w6,w7,w8,w9,w10,w11] (2:Int)∧True)∧decide (IntKind.i64.wrap (IntKind.i64.wrap (w6+w7)+w2)=(840:Int))=decide (w64 (w64 (sel
 [w0,w1,w2,w3,w4,w5,w6,w7,w8,w9,w10,w11] (6:Int)+sel [w0,w1,w2,w3,w4,w5,w6,w7,w8,w9,w10,w11] (7:Int))+sel [w0,w1,w2,w3,w4,w5,w6,w7,w8,w9,w10,w11] (2:Int))=(840:Int))∧True)∧((-9223372036854775808:Int)≤(11:Int)∧(11:Int)≤(9223372036854775807:Int)→(IR9 w0)∧((-9223372036854775808:Int)≤w1∧w1 ≤
 (9223372036854775807:Int))∧(IR9 w2)∧(IR9 w3)∧(IR9 w4)∧(IR9 w5)∧(IR9 w6)∧((-9223372036854775808:Int)≤w7∧w7 ≤
 (9223372036854775807:Int))∧(IR9 w8)∧(IR9 w9)∧(IR9 w10)∧(IR9 w11)∧True→True∧((11:Int)=11∧w7=sel [w0,w1,w2,w3,w4,w5,w6,w7,w8,w9,w10,w11] (7:Int)∧w8=sel
 [w0,w1,w2,w3,w4,w5,w6,w7,w8,w9,w10,w11] (8:Int)∧w3=sel [w0,w1,w2,w3,w4,w5,w6,w7,w8,w9,w10,w11] (3:Int)∧True)∧decide (IntKind.i64.wrap (IntKind.i64.wrap (w7+w8)+w3)=(840:Int))=decide (w64 (w64 (sel [w0,w1,w2,w3,w4,w5,w6,w7,w8,w9,w10,w11] (7:Int)+sel [w0,w1,w2,w3,w4,w5,w6,w7,w8,w9,w10,w11] (8:Int))+sel [w0,w1,w2,w3,w4,w5,w6,w7,w8,w9,w10,w11]
 (3:Int))=(840:Int))∧True)∧((-9223372036854775808:Int)≤(12:Int)∧(12:Int)≤(9223372036854775807:Int)→(IR9 w0)∧(IR9 w1)∧(IR9 w2)∧(IR9 w3)∧((-9223372036854775808:Int)≤w4∧w4 ≤
 (9223372036854775807:Int))∧(IR9 w5)∧(IR9 w6)∧(IR9 w7)∧(IR9 w8)∧(IR9 w9)∧((-9223372036854775808:Int)≤w10∧w10 ≤
 (9223372036854775807:Int))∧(IR9 w11)∧True→True∧((12:Int)=12∧w8=sel [w0,w1,w2,w3,w4,w5,w6,w7,w8,w9,w10,w11] (8:Int)∧w9=sel [w0,w1,w2,w3,w4,w5,w6,w7,w8,w9,w10,w11] (9:Int)∧w4=sel [w0,w1,w2,w3,w4,w5,w6,w7,w8,w9,w10,w11] (4:Int)∧True)∧decide (IntKind.i64.wrap (IntKind.i64.wrap (w8+w9)+w4)=(840:Int))=decide (w64 (w64 (sel
 [w0,w1,w2,w3,w4,w5,w6,w7,w8,w9,w10,w11] (8:Int)+sel [w0,w1,w2,w3,w4,w5,w6,w7,w8,w9,w10,w11] (9:Int))+sel [w0,w1,w2,w3,w4,w5,w6,w7,w8,w9,w10,w11] (4:Int))=(840:Int))∧True)∧((-9223372036854775808:Int)≤(13:Int)∧(13:Int)≤(9223372036854775807:Int)→(IR9 w0)∧((-9223372036854775808:Int)≤w1∧w1 ≤
 (9223372036854775807:Int))∧(IR9 w2)∧(IR9 w3)∧(IR9 w4)∧(IR9 w5)∧(IR9 w6)∧((-9223372036854775808:Int)≤w7∧w7 ≤
 (9223372036854775807:Int))∧(IR9 w8)∧(IR9 w9)∧(IR9 w10)∧(IR9 w11)∧True→True∧((13:Int)=13∧w9=sel [w0,w1,w2,w3,w4,w5,w6,w7,w8,w9,w10,w11] (9:Int)∧w10=sel
 [w0,w1,w2,w3,w4,w5,w6,w7,w8,w9,w10,w11] (10:Int)∧w5=sel [w0,w1,w2,w3,w4,w5,w6,w7,w8,w9,w10,w11] (5:Int)∧True)∧decide (IntKind.i64.wrap (IntKind.i64.wrap (w9+w10)+w5)=(840:Int))=decide (w64 (w64 (sel [w0,w1,w2,w3,w4,w5,w6,w7,w8,w9,w10,w11] (9:Int)+sel [w0,w1,w2,w3,w4,w5,w6,w7,w8,w9,w10,w11] (10:Int))+sel [w0,w1,w2,w3,w4,w5,w6,w7,w8,w9,w10,w11]
 (5:Int))=(840:Int))∧True)∧((-9223372036854775808:Int)≤(14:Int)∧(14:Int)≤(9223372036854775807:Int)→(IR9 w0)∧(IR9 w1)∧(IR9 w2)∧(IR9 w3)∧((-9223372036854775808:Int)≤w4∧w4 ≤
 (9223372036854775807:Int))∧(IR9 w5)∧(IR9 w6)∧(IR9 w7)∧(IR9 w8)∧(IR9 w9)∧((-9223372036854775808:Int)≤w10∧w10 ≤
 (9223372036854775807:Int))∧(IR9 w11)∧True→True∧((14:Int)=14∧w10=sel [w0,w1,w2,w3,w4,w5,w6,w7,w8,w9,w10,w11] (10:Int)∧w6=sel [w0,w1,w2,w3,w4,w5,w6,w7,w8,w9,w10,w11] (6:Int)∧w1=sel [w0,w1,w2,w3,w4,w5,w6,w7,w8,w9,w10,w11] (1:Int)∧True)∧decide (IntKind.i64.wrap (IntKind.i64.wrap (w10+w6)+w1)=(840:Int))=decide (w64 (w64 (sel
 [w0,w1,w2,w3,w4,w5,w6,w7,w8,w9,w10,w11] (10:Int)+sel [w0,w1,w2,w3,w4,w5,w6,w7,w8,w9,w10,w11] (6:Int))+sel [w0,w1,w2,w3,w4,w5,w6,w7,w8,w9,w10,w11] (1:Int))=(840:Int))∧True)∧((-9223372036854775808:Int)≤(15:Int)∧(15:Int)≤(9223372036854775807:Int)→(IR9 w0)∧((-9223372036854775808:Int)≤w1∧w1 ≤
 (9223372036854775807:Int))∧(IR9 w2)∧(IR9 w3)∧(IR9 w4)∧(IR9 w5)∧(IR9 w6)∧((-9223372036854775808:Int)≤w7∧w7 ≤
 (9223372036854775807:Int))∧(IR9 w8)∧(IR9 w9)∧(IR9 w10)∧(IR9 w11)∧True→True∧((15:Int)=15∧w11=sel [w0,w1,w2,w3,w4,w5,w6,w7,w8,w9,w10,w11] (11:Int)∧w7=sel
 [w0,w1,w2,w3,w4,w5,w6,w7,w8,w9,w10,w11] (7:Int)∧w6=sel [w0,w1,w2,w3,w4,w5,w6,w7,w8,w9,w10,w11] (6:Int)∧True)∧decide (IntKind.i64.wrap (IntKind.i64.wrap (w11+w7)+w6)=(840:Int))=decide (w64 (w64 (sel [w0,w1,w2,w3,w4,w5,w6,w7,w8,w9,w10,w11] (11:Int)+sel [w0,w1,w2,w3,w4,w5,w6,w7,w8,w9,w10,w11] (7:Int))+sel [w0,w1,w2,w3,w4,w5,w6,w7,w8,w9,w10,w11]
 (6:Int))=(840:Int))∧True)∧((-9223372036854775808:Int)≤(16:Int)∧(16:Int)≤(9223372036854775807:Int)→(IR9 w0)∧(IR9 w1)∧(IR9 w2)∧(IR9 w3)∧((-9223372036854775808:Int)≤w4∧w4 ≤
 (9223372036854775807:Int))∧(IR9 w5)∧(IR9 w6)∧(IR9 w7)∧(IR9 w8)∧(IR9 w9)∧((-9223372036854775808:Int)≤w10∧w10 ≤
 (9223372036854775807:Int))∧(IR9 w11)∧True→True∧((16:Int)=16∧w11=sel [w0,w1,w2,w3,w4,w5,w6,w7,w8,w9,w10,w11] (11:Int)∧w8=sel [w0,w1,w2,w3,w4,w5,w6,w7,w8,w9,w10,w11] (8:Int)∧w7=sel [w0,w1,w2,w3,w4,w5,w6,w7,w8,w9,w10,w11] (7:Int)∧True)∧decide (IntKind.i64.wrap (IntKind.i64.wrap (w11+w8)+w7)=(840:Int))=decide (w64 (w64 (sel
 [w0,w1,w2,w3,w4,w5,w6,w7,w8,w9,w10,w11] (11:Int)+sel [w0,w1,w2,w3,w4,w5,w6,w7,w8,w9,w10,w11] (8:Int))+sel [w0,w1,w2,w3,w4,w5,w6,w7,w8,w9,w10,w11] (7:Int))=(840:Int))∧True)∧((-9223372036854775808:Int)≤(17:Int)∧(17:Int)≤(9223372036854775807:Int)→(IR9 w0)∧((-9223372036854775808:Int)≤w1∧w1 ≤
 (9223372036854775807:Int))∧(IR9 w2)∧(IR9 w3)∧(IR9 w4)∧(IR9 w5)∧(IR9 w6)∧((-9223372036854775808:Int)≤w7∧w7 ≤
 (9223372036854775807:Int))∧(IR9 w8)∧(IR9 w9)∧(IR9 w10)∧(IR9 w11)∧True→True∧((17:Int)=17∧w11=sel [w0,w1,w2,w3,w4,w5,w6,w7,w8,w9,w10,w11] (11:Int)∧w9=sel
 [w0,w1,w2,w3,w4,w5,w6,w7,w8,w9,w10,w11] (9:Int)∧w8=sel [w0,w1,w2,w3,w4,w5,w6,w7,w8,w9,w10,w11] (8:Int)∧True)∧decide (IntKind.i64.wrap (IntKind.i64.wrap (w11+w9)+w8)=(840:Int))=decide (w64 (w64 (sel [w0,w1,w2,w3,w4,w5,w6,w7,w8,w9,w10,w11] (11:Int)+sel [w0,w1,w2,w3,w4,w5,w6,w7,w8,w9,w10,w11] (9:Int))+sel [w0,w1,w2,w3,w4,w5,w6,w7,w8,w9,w10,w11]
 (8:Int))=(840:Int))∧True)∧((-9223372036854775808:Int)≤(18:Int)∧(18:Int)≤(9223372036854775807:Int)→(IR9 w0)∧(IR9 w1)∧(IR9 w2)∧(IR9 w3)∧((-9223372036854775808:Int)≤w4∧w4 ≤
 (9223372036854775807:Int))∧(IR9 w5)∧(IR9 w6)∧(IR9 w7)∧(IR9 w8)∧(IR9 w9)∧((-9223372036854775808:Int)≤w10∧w10 ≤
 (9223372036854775807:Int))∧(IR9 w11)∧True→True∧((18:Int)=18∧w11=sel [w0,w1,w2,w3,w4,w5,w6,w7,w8,w9,w10,w11] (11:Int)∧w10=sel [w0,w1,w2,w3,w4,w5,w6,w7,w8,w9,w10,w11] (10:Int)∧w9=sel [w0,w1,w2,w3,w4,w5,w6,w7,w8,w9,w10,w11] (9:Int)∧True)∧decide (IntKind.i64.wrap (IntKind.i64.wrap (w11+w10)+w9)=(840:Int))=decide (w64 (w64 (sel
 [w0,w1,w2,w3,w4,w5,w6,w7,w8,w9,w10,w11] (11:Int)+sel [w0,w1,w2,w3,w4,w5,w6,w7,w8,w9,w10,w11] (10:Int))+sel [w0,w1,w2,w3,w4,w5,w6,w7,w8,w9,w10,w11] (9:Int))=(840:Int))∧True)∧((-9223372036854775808:Int)≤(19:Int)∧(19:Int)≤(9223372036854775807:Int)→(IR9 w0)∧((-9223372036854775808:Int)≤w1∧w1 ≤
 (9223372036854775807:Int))∧(IR9 w2)∧(IR9 w3)∧(IR9 w4)∧(IR9 w5)∧(IR9 w6)∧((-9223372036854775808:Int)≤w7∧w7 ≤
 (9223372036854775807:Int))∧(IR9 w8)∧(IR9 w9)∧(IR9 w10)∧(IR9 w11)∧True→True∧((19:Int)=19∧w11=sel [w0,w1,w2,w3,w4,w5,w6,w7,w8,w9,w10,w11] (11:Int)∧w6=sel
 [w0,w1,w2,w3,w4,w5,w6,w7,w8,w9,w10,w11] (6:Int)∧w10=sel [w0,w1,w2,w3,w4,w5,w6,w7,w8,w9,w10,w11] (10:Int)∧True)∧decide (IntKind.i64.wrap (IntKind.i64.wrap (w11+w6)+w10)=(840:Int))=decide (w64 (w64 (sel [w0,w1,w2,w3,w4,w5,w6,w7,w8,w9,w10,w11] (11:Int)+sel [w0,w1,w2,w3,w4,w5,w6,w7,w8,w9,w10,w11] (6:Int))+sel [w0,w1,w2,w3,w4,w5,w6,w7,w8,w9,w10,w11] (10:Int))=(840:Int))∧True)∧True
theorem rOn20_P:rOn20_T:=by
 unfold rOn20_T
 intro gl w0 w1 w2 w3 w4 w5 w6 w7 w8 w9 w10 w11
 repeat' (first | exact trivial | intro _ | rfl | apply And.intro)
def rOn20_S:Prop:=∀ (gl:Glob) (w0 w1 w2 w3 w4 w5 w6 w7 w8 w9 w10 w11:Int),allN fcs fun n=>fnK Tryz.prog { glob:=gl,spec:=lk [(155,rCorners_s fac crn)],nowf:=true,wrap:=true } { nt:=38 } (fun _ _=>none) 6 Tryz.f122 [.int .i64 n,.agg [.int .i64 w0,.int .i64 w1,.int .i64 w2,.int .i64 w3,.int .i64 w4,.int .i64 w5,.int .i64 w6,.int .i64 w7,.int .i64 w8,.int .i64 w9,.int .i64 w10,.int .i64 w11]] (.tup [.agg [.int .i64 n,.int .i64 (sel [w0,w1,w2,w3,w4,w5,w6,w7,w8,w9,w10,w11] (crn n 0)),.int .i64 (sel [w0,w1,w2,w3,w4,w5,w6,w7,w8,w9,w10,w11] (crn n 1)),.int .i64 (sel [w0,w1,w2,w3,w4,w5,w6,w7,w8,w9,w10,w11] (crn n 2))],.bool (decide (w64 (w64 ((sel [w0,w1,w2,w3,w4,w5,w6,w7,w8,w9,w10,w11] (crn n 0))+(sel [w0,w1,w2,w3,w4,w5,w6,w7,w8,w9,w10,w11] (crn n 1)))+(sel [w0,w1,w2,w3,w4,w5,w6,w7,w8,w9,w10,w11] (crn n 2)))=840))])
theorem rOn20_e:rOn20_T=rOn20_S:=by kernel_rfl
theorem rOn20:rOn20_S:=@Eq.mp (rOn20_T) (rOn20_S) (rOn20_e) (rOn20_P)
def rWeights_s:Sp
 | [.agg [.int .i64 f,.int .i64 a,.int .i64 b,.int .i64 c]]=>some (0≤f∧f < 20,.agg [.int .i64 (wt f a b c 0),.int .i64 (wt f a b c 1),.int .i64 (wt f a b c 2),.int .i64 (wt f a b c 3),.int .i64 (wt f a b c 4),.int .i64 (wt f a b c 5),.int .i64 (wt f a b c 6),.int .i64 (wt f a b c 7),.int .i64 (wt f a b c 8),.int .i64 (wt f a b c 9),.int .i64 (wt f a b c 10),.int .i64 (wt f a b c 11)])
 | _=>none
def rOn_s:Sp
 | [.int .i64 n,.agg [.int .i64 w0,.int .i64 w1,.int .i64 w2,.int .i64 w3,.int .i64 w4,.int .i64 w5,.int .i64 w6,.int .i64 w7,.int .i64 w8,.int .i64 w9,.int .i64 w10,.int .i64 w11]]=>some (0≤n∧n < 20,.tup [.agg [.int .i64 n,.int .i64 (sel [w0,w1,w2,w3,w4,w5,w6,w7,w8,w9,w10,w11] (crn n 0)),.int .i64 (sel [w0,w1,w2,w3,w4,w5,w6,w7,w8,w9,w10,w11] (crn n 1)),.int .i64 (sel [w0,w1,w2,w3,w4,w5,w6,w7,w8,w9,w10,w11] (crn n 2))],.bool (decide (w64 (w64 ((sel [w0,w1,w2,w3,w4,w5,w6,w7,w8,w9,w10,w11] (crn n 0))+(sel [w0,w1,w2,w3,w4,w5,w6,w7,w8,w9,w10,w11] (crn n 1)))+(sel [w0,w1,w2,w3,w4,w5,w6,w7,w8,w9,w10,w11] (crn n 2)))=840))])
 | _=>none
theorem rWeights_ok (gl:Glob):SOK Tryz.prog gl 121 rWeights_s:=by
 refine ⟨fok Tryz.func121 (by kernel_rfl) (by kernel_rfl),?_⟩
 intro xs pre r h hp
 unfold rWeights_s at h
 split at h
 ·simp only [Option.some.injEq,Prod.mk.injEq] at h
  obtain ⟨h1,h2⟩:=h
  subst h1 h2
  exact fnK_sound tyNil (by exact specOK (l':=[]) rfl rfl ⟨rCorners_ok gl,trivial⟩ trivial) (by kernel_rfl) Tryz.func121 rfl (allN_get (rWeights20 _ _ _ _) (mem_fcs hp))
 ·cases h
theorem rOn_ok (gl:Glob):SOK Tryz.prog gl 122 rOn_s:=by
 refine ⟨fok Tryz.func122 (by kernel_rfl) (by kernel_rfl),?_⟩
 intro xs pre r h hp
 unfold rOn_s at h
 split at h
 ·simp only [Option.some.injEq,Prod.mk.injEq] at h
  obtain ⟨h1,h2⟩:=h
  subst h1 h2
  exact fnK_sound tyNil (by exact specOK (l':=[]) rfl rfl ⟨rCorners_ok gl,trivial⟩ trivial) (by kernel_rfl) Tryz.func122 rfl (allN_get (rOn20 _ _ _ _ _ _ _ _ _ _ _ _ _) (mem_fcs hp))
 ·cases h
theorem onS_eq {f a b c n:Int} (hv:Vld f a b c) (hn:0≤n∧n < 20):decide (w64 (w64 (onW f a b c n 0+onW f a b c n 1)+onW f a b c n 2)=840)=onV f a b c n:=by
 have hb:∀ v,0≤wt f a b c v∧wt f a b c v≤840:=by
  intro v
  obtain ⟨_,ha,hb,hc,_⟩:=hv
  unfold wt
  split
  ·exact hc
  ·split
   ·exact hb
   ·split
    ·exact ha
    ·omega
 have h0:0≤onW f a b c n 0∧onW f a b c n 0≤840:=hb _
 have h1:0≤onW f a b c n 1∧onW f a b c n 1≤840:=hb _
 have h2:0≤onW f a b c n 2∧onW f a b c n 2≤840:=hb _
 unfold onV vld
 rw [w64_id (x:=onW f a b c n 0+onW f a b c n 1) (by omega),w64_id (by omega)]
 refine decide_eq_decide.2 ?_
 rw [vld_iff]
 exact ⟨fun h=>⟨hn,h0,h1,h2,h⟩,fun h=>h.2.2.2.2⟩
def adrJ (f a b c:Int):LInv:=⟨Int × List (List AV),fun x=>⟨[(4,.ptr 4 0),(5,.rw 500 4 x.2.length),(6,.int .i64 x.1)],[(4,.cells [.int .i64 (wt f a b c 0),.int .i64 (wt f a b c 1),.int .i64 (wt f a b c 2),.int .i64 (wt f a b c 3),.int .i64 (wt f a b c 4),.int .i64 (wt f a b c 5),.int .i64 (wt f a b c 6),.int .i64 (wt f a b c 7),.int .i64 (wt f a b c 8),.int .i64 (wt f a b c 9),.int .i64 (wt f a b c 10),.int .i64 (wt f a b c 11)]),(500,.row 27 4 x.2)]⟩,
 AdrP f a b c,fun x=>(20 - x.1).toNat,none⟩
def rAddresses_s (vld:Int→Int→Int→Int→Bool) (adr:Int→Int→Int→Int→List (List AV)):Sp
 | [.agg [.int .i64 f,.int .i64 a,.int .i64 b,.int .i64 c]]=>some (True,.tup [.sl 4 false (adr f a b c),.int .i64 (err (vld f a b c))])
 | _=>none
def rAddresses_T (vld':Int→Int→Int→Int→Bool) (adr:Int→Int→Int→Int→List (List AV)):Prop :=
  ∀ (gl:Glob) (f a b c:Int),(IR9 f)∧(IR9 a)∧(IR9 b)∧(IR9 c)∧True→True∧bif !vld f a b c then adr f a b c=[]∧(1:Int)=err (vld' f a b c)∧True else ((0:Int) ≤
 f∧f < (20:Int))∧(∃ x,AdrP f a b c x∧((0:Nat)=0∧(0:Nat)=x.snd.length∧(0:Int)=x.fst∧True)∧(wt f a b c (0:Int)=wt f a b c (0:Int)∧wt f a b c (1:Int)=wt f a b c (1:Int)∧wt f a b c (2:Int)=wt f a b c (2:Int)∧wt f a b c (3:Int)=wt f a b c (3:Int)∧wt f a b c (4:Int)=wt f a b c (4:Int)∧wt f a b c (5:Int)=wt f a b c (5:Int)∧wt f a b c (6:Int)=wt f a b c (6:Int)∧wt f a b c (7:Int)=wt f a b c (7:Int)∧wt f a b
 c (8:Int)=wt f a b c (8:Int)∧wt f a b c (9:Int)=wt f a b c (9:Int)∧wt f a b c (10:Int)=wt f a b c (10:Int)∧wt f a b c (11:Int)=wt f a b c (11:Int)∧True)∧[]=x.snd∧True)∧∀ (x:Int × List (List AV)),AdrP f a b c x→bif decide (x.fst < (20:Int)) then (0≤x.fst∧x.fst < (20:Int))∧bif decide (w64 (w64 (sel [wt f a b c (0:Int),wt f a b c (1:Int),wt f a b c (2:Int),wt f a b c (3:Int),wt f a b c
 (4:Int),wt f a b c (5:Int),wt f a b c (6:Int),wt f a b c (7:Int),wt f a b c (8:Int),wt f a b c (9:Int),wt f a b c (10:Int),wt f a b c (11:Int)] (crn x.fst (0:Nat))+sel [wt f a b c (0:Int),wt f a b c (1:Int),wt f a b c (2:Int),wt f a b c (3:Int),wt f a b c (4:Int),wt f a b c (5:Int),wt f a b c (6:Int),wt f a b c (7:Int),wt f a b c (8:Int),wt f a b c (9:Int),wt f a b c (10:Int),wt f a b c (11:Int)]
 (crn x.fst (1:Nat)))+sel [wt f a b c (0:Int),wt f a b c (1:Int),wt f a b c (2:Int),wt f a b c (3:Int),wt f a b c (4:Int),wt f a b c (5:Int),wt f a b c (6:Int),wt f a b c (7:Int),wt f a b c (8:Int),wt f a b c (9:Int),wt f a b c (10:Int),wt f a b c (11:Int)] (crn x.fst (2:Nat)))=(840:Int)) then bif decide (x.snd.length=x.snd.length∧x.snd.length+[[AV.int .i64 x.fst,.int .i64 (sel [wt f a b c
 (0:Int),wt f a b c (1:Int),wt f a b c (2:Int),wt f a b c (3:Int),wt f a b c (4:Int),wt f a b c (5:Int),wt f a b c (6:Int),wt f a b c (7:Int),wt f a b c (8:Int),wt f a b c (9:Int),wt f a b c (10:Int),wt f a b c (11:Int)] (crn x.fst (0:Nat))),.int .i64 (sel [wt f a b c (0:Int),wt f a b c (1:Int),wt f a b c (2:Int),wt f a b c (3:Int),wt f a b c (4:Int),wt f a b c (5:Int),wt f a b c (6:Int),wt f a b c
 (7:Int),wt f a b c (8:Int),wt f a b c (9:Int),wt f a b c (10:Int),wt f a b c (11:Int)] (crn x.fst (1:Nat))),.int .i64 (sel [wt f a b c (0:Int),wt f a b c (1:Int),wt f a b c (2:Int),wt f a b c (3:Int),wt f a b c (4:Int),wt f a b c (5:Int),wt f a b c (6:Int),wt f a b c (7:Int),wt f a b c (8:Int),wt f a b c (9:Int),wt f a b c (10:Int),wt f a b c (11:Int)] (crn x.fst (2:Nat)))]].length ≤
 (9223372036854775807:Nat)∧(x.snd.length+[[AV.int .i64 x.fst,.int .i64 (sel [wt f a b c (0:Int),wt f a b c (1:Int),wt f a b c (2:Int),wt f a b c (3:Int),wt f a b c (4:Int),wt f a b c (5:Int),wt f a b c (6:Int),wt f a b c (7:Int),wt f a b c (8:Int),wt f a b c (9:Int),wt f a b c (10:Int),wt f a b c (11:Int)] (crn x.fst (0:Nat))),.int .i64 (sel [wt f a b c (0:Int),wt f a b c (1:Int),wt f a b c
 (2:Int),wt f a b c (3:Int),wt f a b c (4:Int),wt f a b c (5:Int),wt f a b c (6:Int),wt f a b c (7:Int),wt f a b c (8:Int),wt f a b c (9:Int),wt f a b c (10:Int),wt f a b c (11:Int)] (crn x.fst (1:Nat))),.int .i64 (sel [wt f a b c (0:Int),wt f a b c (1:Int),wt f a b c (2:Int),wt f a b c (3:Int),wt f a b c (4:Int),wt f a b c (5:Int),wt f a b c (6:Int),wt f a b c (7:Int),wt f a b c (8:Int),wt f a b c
 (9:Int),wt f a b c (10:Int),wt f a b c (11:Int)] (crn x.fst (2:Nat)))]].length)*(32:Nat)≤(140737488355328:Nat)) then bif decide (rng .i64 (x.fst+(1:Int))) then ∃ y,AdrP f a b c y∧(adrJ f a b c).m y < (adrJ f a b c).m x∧((0:Nat)=0∧(x.snd++[[AV.int .i64 x.fst,.int .i64 (sel [wt f a b c (0:Int),wt f a b c (1:Int),wt f a b c (2:Int),wt f a b c (3:Int),wt f a b c (4:Int),wt f a b c (5:Int),wt f
 a b c (6:Int),wt f a b c (7:Int),wt f a b c (8:Int),wt f a b c (9:Int),wt f a b c (10:Int),wt f a b c (11:Int)] (crn x.fst (0:Nat))),.int .i64 (sel [wt f a b c (0:Int),wt f a b c (1:Int),wt f a b c (2:Int),wt f a b c (3:Int),wt f a b c (4:Int),wt f a b c (5:Int),wt f a b c (6:Int),wt f a b c (7:Int),wt f a b c (8:Int),wt f a b c (9:Int),wt f a b c (10:Int),wt f a b c (11:Int)] (crn x.fst
 (1:Nat))),.int .i64 (sel [wt f a b c (0:Int),wt f a b c (1:Int),wt f a b c (2:Int),wt f a b c (3:Int),wt f a b c (4:Int),wt f a b c (5:Int),wt f a b c (6:Int),wt f a b c (7:Int),wt f a b c (8:Int),wt f a b c (9:Int),wt f a b c (10:Int),wt f a b c (11:Int)] (crn x.fst (2:Nat)))]]).length=y.snd.length∧x.fst+(1:Int)=y.fst∧True)∧(wt f a b c (0:Int)=wt f a b c (0:Int)∧wt f a b c (1:Int)=wt f a b c
 (1:Int)∧wt f a b c (2:Int)=wt f a b c (2:Int)∧wt f a b c (3:Int)=wt f a b c (3:Int)∧wt f a b c (4:Int)=wt f a b c (4:Int)∧wt f a b c (5:Int)=wt f a b c (5:Int)∧wt f a b c (6:Int)=wt f a b c (6:Int)∧wt f a b c (7:Int)=wt f a b c (7:Int)∧wt f a b c (8:Int)=wt f a b c (8:Int)∧wt f a b c (9:Int)=wt f a b c (9:Int)∧wt f a b c (10:Int)=wt f a b c (10:Int)∧wt f a b c (11:Int)=wt f a b c
 (11:Int)∧True)∧x.snd++[[AV.int .i64 x.fst,.int .i64 (sel [wt f a b c (0:Int),wt f a b c (1:Int),wt f a b c (2:Int),wt f a b c (3:Int),wt f a b c (4:Int),wt f a b c (5:Int),wt f a b c (6:Int),wt f a b c (7:Int),wt f a b c (8:Int),wt f a b c (9:Int),wt f a b c (10:Int),wt f a b c (11:Int)] (crn x.fst (0:Nat))),.int .i64 (sel [wt f a b c (0:Int),wt f a b c (1:Int),wt f a b c (2:Int),wt f a b c
 (3:Int),wt f a b c (4:Int),wt f a b c (5:Int),wt f a b c (6:Int),wt f a b c (7:Int),wt f a b c (8:Int),wt f a b c (9:Int),wt f a b c (10:Int),wt f a b c (11:Int)] (crn x.fst (1:Nat))),.int .i64 (sel [wt f a b c (0:Int),wt f a b c (1:Int),wt f a b c (2:Int),wt f a b c (3:Int),wt f a b c (4:Int),wt f a b c (5:Int),wt f a b c (6:Int),wt f a b c (7:Int),wt f a b c (8:Int),wt f a b c (9:Int),wt f a b c
 (10:Int),wt f a b c (11:Int)] (crn x.fst (2:Nat)))]]=y.snd∧True else False else False else bif decide (rng .i64 (x.fst+(1:Int))) then ∃ y,AdrP f a b c y∧(adrJ f a b c).m y < (adrJ f a b c).m x∧((0:Nat)=0∧x.snd.length=y.snd.length∧x.fst+(1:Int)=y.fst∧True)∧(wt f a b c (0:Int)=wt f a b c (0:Int)∧wt f a b c (1:Int)=wt f a b c (1:Int)∧wt f a b c (2:Int)=wt f a b c (2:Int)∧wt f a b c (3:Int)=wt f a
 b c (3:Int)∧wt f a b c (4:Int)=wt f a b c (4:Int)∧wt f a b c (5:Int)=wt f a b c (5:Int)∧wt f a b c (6:Int)=wt f a b c (6:Int)∧wt f a b c (7:Int)=wt f a b c (7:Int)∧wt f a b c (8:Int)=wt f a b c (8:Int)∧wt f a b c (9:Int)=wt f a b c (9:Int)∧wt f a b c (10:Int)=wt f a b c (10:Int)∧wt f a b c (11:Int)=wt f a b c (11:Int)∧True)∧x.snd=y.snd∧True else False else bif decide (x.snd.length=x.snd.length)
 then (True∧x.snd=adr f a b c)∧(0:Int)=err (vld' f a b c)∧True else False
theorem rAddresses_P:rAddresses_T vld adr:=by
 unfold rAddresses_T
 intro gl f a b c h
 refine ⟨trivial,?_⟩
 unfold adr err
 cases hv:vld f a b c with
 | false=>exact ⟨rfl,rfl,trivial⟩
 | true =>
  have v:Vld f a b c:=of_decide_eq_true hv
  refine ⟨v.face,⟨(0,[]),⟨by decide,by decide,rfl⟩,⟨rfl,rfl,rfl,trivial⟩,⟨rfl,rfl,rfl,rfl,rfl,rfl,rfl,rfl,rfl,rfl,rfl,rfl,trivial⟩,rfl,trivial⟩,?_⟩
  rintro ⟨n,xs⟩ ⟨h0,h1,hx⟩
  simp only at h0 h1 hx
  have hlen:=adr_len f a b c n.toNat
  rw [← hx] at hlen
  refine csplit (fun hn=>?_) (fun hn=>?_)
  ·have hn:n < 20:=of_decide_eq_true hn
   obtain ⟨e0,e1,e2⟩:=sel_wts f a b c ⟨h0,hn⟩
   unfold wts at e0 e1 e2
   simp only [e0,e1,e2]
   refine ⟨⟨h0,hn⟩,?_⟩
   rw [onS_eq v ⟨h0,hn⟩]
   refine csplit (fun hv=>?_) (fun hv=>?_)
   ·have hv:onV f a b c n=true:=hv
    simp only [↓cdecF,rng,List.length_singleton]
    refine ⟨⟨by trivial,by omega,by omega⟩,by omega,(n+1,xs++[onRow f a b c n]),⟨by simp only; omega,by simp only; omega,?_⟩,by simp only [adrJ]; omega,⟨by trivial,rfl,rfl,trivial⟩,?_,rfl,trivial⟩
    ·simp only; rw [adr_step h0,if_pos hv,hx]
    ·repeat' (first | exact trivial | rfl | apply And.intro)
   ·have hv:onV f a b c n=false:=hv
    simp only [↓cdecF,rng]
    refine ⟨by omega,(n+1,xs),⟨by simp only; omega,by simp only; omega,?_⟩,by simp only [adrJ]; omega,⟨by trivial,by trivial,rfl,trivial⟩,?_,rfl,trivial⟩
    ·simp only; rw [adr_step h0,if_neg (by rw [hv]; simp),hx]
    ·repeat' (first | exact trivial | rfl | apply And.intro)
  ·have hn:¬ n < 20:=of_decide_eq_false hn
   have:n=20:=by omega
   subst this
   simp only [↓cdecF]
   exact ⟨by trivial,⟨trivial,by rw [hx]; rfl⟩,rfl,trivial⟩
def rAddresses_S (vld:Int→Int→Int→Int→Bool) (adr:Int→Int→Int→Int→List (List AV)):Prop:=∀ (gl:Glob) (f a b c:Int),fnK Tryz.prog { glob:=gl,spec:=lk [(120,(rValid_s Go.Proofs.YtgbbmadjdaphnaaGreatDoor.vld)),(121,rWeights_s),(122,rOn_s)],specH:=lk [],nowf:=true } { nt:=30,drop:=drp [(1,1536),(3,12288),(6,16384),(7,196608),(8,16515072),(10,503316480),(11,536870912)],emp:=fun id=>cond (Nat.beq id 5) [(5,500,27,4)] [] } (invs [(6,adrJ f a b c)]) 6 Tryz.f73 [.agg [.int .i64 f,.int .i64 a,.int .i64 b,.int .i64 c]] (.tup [.sl 4 false (adr f a b c),.int .i64 (err (vld f a b c))])
theorem rAddresses_e (vld:Int→Int→Int→Int→Bool) (adr:Int→Int→Int→Int→List (List AV)):rAddresses_T vld adr=rAddresses_S vld adr:=by kernel_rfl
theorem rAddresses_v:rAddresses_S vld adr:=Eq.mp (rAddresses_e ..) (rAddresses_P)
theorem rAddresses_ok (gl:Glob):SOK Tryz.prog gl 73 (rAddresses_s vld adr):=by
 refine ⟨fok Tryz.func73 (by kernel_rfl) (by kernel_rfl),?_⟩
 intro xs pre r h hp
 unfold rAddresses_s at h
 split at h
 ·simp only [Option.some.injEq,Prod.mk.injEq] at h
  obtain ⟨h1,h2⟩:=h
  subst h1 h2
  exact fnK_sound tyNil (by exact specOK rfl rfl ⟨(rValid_ok gl),(rWeights_ok gl),(rOn_ok gl),trivial⟩ trivial) (by kernel_rfl) Tryz.func73 rfl (rAddresses_v gl _ _ _ _)
 ·cases h
def rNormal_s (vld:Int→Int→Int→Int→Bool) (adr:Int→Int→Int→Int→List (List AV)) (nrm:Int→Int→Int→Int→Int × Int × Int × Int):Sp
 | [.agg [.int .i64 f,.int .i64 a,.int .i64 b,.int .i64 c]]=>some (True,.tup [.agg [.int .i64 (nrm f a b c).1,.int .i64 (nrm f a b c).2.1,.int .i64 (nrm f a b c).2.2.1,.int .i64 (nrm f a b c).2.2.2],.int .i64 (err (vld f a b c))])
 | _=>none
def rNormal_T (vld:Int→Int→Int→Int→Bool) (adr:Int→Int→Int→Int→List (List AV)) (nrm:Int→Int→Int→Int→Int × Int × Int × Int):Prop :=
  ∀ (gl:Glob) (f a b c:Int),(IR9 f)∧(IR9 a)∧(IR9 b)∧(IR9 c)∧True→True∧bif decide ¬err (vld f a b c)=(0:Int) then ((0:Int)=(nrm f a b c).fst∧(0:Int)=(nrm f a b
 c).snd.fst∧(0:Int)=(nrm f a b c).snd.snd.fst∧(0:Int)=(nrm f a b c).snd.snd.snd∧True)∧err (vld f a b c)=err (vld f a b c)∧True else bif decide ((0:Int)≤(0:Int)∧(0:Int) < (↑(adr f a b c).length:Int)) then ∃ n n_1 n_2 n_3,List.take [AV.int .i64 n,.int .i64 n_1,.int .i64 n_2,.int .i64 n_3].length ((adr f a b c).getD (0:Nat) [])=[AV.int .i64 n,.int .i64 n_1,.int .i64 n_2,.int .i64 n_3]∧(n=(nrm f a b
 c).fst∧n_1=(nrm f a b c).snd.fst∧n_2=(nrm f a b c).snd.snd.fst∧n_3=(nrm f a b c).snd.snd.snd∧True)∧(0:Int)=err (vld f a b c)∧True else False
theorem rNormal_P:rNormal_T vld adr nrm:=by
 unfold rNormal_T
 intro gl f a b c h
 refine ⟨trivial,?_⟩
 cases hv:vld f a b c with
 | false =>
  have e:nrm f a b c=(0,0,0,0):=by unfold nrm; rw [hv]; rfl
  rw [e]
  exact cd1 (by decide) ⟨⟨rfl,rfl,rfl,rfl,trivial⟩,rfl,trivial⟩
 | true =>
  have v:Vld f a b c:=of_decide_eq_true hv
  obtain ⟨l,hl⟩:=adr_rows v
  have hh:=hl.head
  have hp:0 < l.length:=by
   cases l with
   | nil=>cases hh
   | cons x l=>simp
  have e0:(adr f a b c).getD 0 []=encP (nrm f a b c):=by
   rw [hl.adr,List.getD_eq_getElem?_getD,List.getElem?_map,hh]; rfl
  refine cd0 (by decide) (cd1 ⟨by decide,by rw [hl.adr,List.length_map]; omega⟩ ⟨_,_,_,_,by rw [e0]; rfl,⟨rfl,rfl,rfl,rfl,trivial⟩,rfl,trivial⟩)
def rNormal_S (vld:Int→Int→Int→Int→Bool) (adr:Int→Int→Int→Int→List (List AV)) (nrm:Int→Int→Int→Int→Int × Int × Int × Int):Prop:=∀ (gl:Glob) (f a b c:Int),fnK Tryz.prog { glob:=gl,spec:=lk [(73,(rAddresses_s vld adr))],specH:=lk [],shape:=[17],nowf:=true } { nt:=18,drop:=drp [(1,1984),(2,2048),(3,24576),(4,229376)] } (fun _ _=>none) 6 Tryz.f31 [.agg [.int .i64 f,.int .i64 a,.int .i64 b,.int .i64 c]] (.tup [.agg [.int .i64 (nrm f a b c).1,.int .i64 (nrm f a b c).2.1,.int .i64 (nrm f a b c).2.2.1,.int .i64 (nrm f a b c).2.2.2],.int .i64 (err (vld f a b c))])
theorem rNormal_e (vld:Int→Int→Int→Int→Bool) (adr:Int→Int→Int→Int→List (List AV)) (nrm:Int→Int→Int→Int→Int × Int × Int × Int):rNormal_T vld adr nrm=rNormal_S vld adr nrm:=by kernel_rfl
theorem rNormal_v:rNormal_S vld adr nrm:=Eq.mp (rNormal_e ..) (rNormal_P)
theorem rNormal_ok (gl:Glob):SOK Tryz.prog gl 31 (rNormal_s vld adr nrm):=by
 refine ⟨fok Tryz.func31 (by kernel_rfl) (by kernel_rfl),?_⟩
 intro xs pre r h hp
 unfold rNormal_s at h
 split at h
 ·simp only [Option.some.injEq,Prod.mk.injEq] at h
  obtain ⟨h1,h2⟩:=h
  subst h1 h2
  exact fnK_sound tyNil (by exact specOK rfl rfl ⟨(rAddresses_ok gl),trivial⟩ trivial) (by kernel_rfl) Tryz.func31 rfl (rNormal_v gl _ _ _ _)
 ·cases h
def isN (f a b c:Int):Bool:=vld f a b c&&(decide (f=(nrm f a b c).1)&&(decide (a=(nrm f a b c).2.1)&&(decide (b=(nrm f a b c).2.2.1)&&(decide (c=(nrm f a b c).2.2.2)&&true))))
end Go.Proofs.YtgbbmadjdaphnaaGreatDoor
namespace Go.Proofs.YtgbbmadjdaphnaaGreatDoor
open Go
set_option linter.unusedVariables false
set_option linter.unusedSimpArgs false
theorem nrm_ok {f a b c:Int} (hv:Vld f a b c):Vld (nrm f a b c).1 (nrm f a b c).2.1 (nrm f a b c).2.2.1 (nrm f a b c).2.2.2∧isN (nrm f a b c).1 (nrm f a b c).2.1 (nrm f a b c).2.2.1 (nrm f a b c).2.2.2=true:=by
 obtain ⟨n,hn,ho,e⟩:=nrm_row hv
 have r:=row_of hv hn ho
 rw [e]
 refine ⟨r.vld,?_⟩
 unfold isN
 rw [r.nrm,e,vld_t r.vld]
 simp
structure PlaQ (f a b c j:Int):Prop where
 fv:Vld f a b c
 fn:isN f a b c=true
 fj:0≤j
structure PlaC (x:Int × Int × Int):Prop where
 ff:0≤x.1∧x.1 < 20
 fa:0≤x.2.1∧x.2.1≤840
 fj:0≤x.2.2
def plaC (xs:List (List AV)):LInv:=⟨Int × Int × Int,fun x=>⟨[(0,.ptr 0 0),(2,.ptr 1002 0),(3,.ptr 1003 0)],[(0,.cells [.sl 1 false xs,.int .i64 x.2.2]),(1002,.cells [.int .i64 0,.int .i64 0,.int .i64 0,.int .i64 0]),(1003,.cells [.int .i64 x.1,.int .i64 x.2.1,.int .i64 0,.int .i64 0])]⟩,PlaC,fun _=>0,none⟩
def qplace_s:SpQ
 | [.ptr 0 0],[.cells [.sl 1 false xs,.int .i64 i]]=>some (fun K=>(SrcQ xs i)∧(∀ (f a b c j:Int),(PlaQ f a b c j)→K (.agg [.int .i64 f,.int .i64 a,.int .i64 b,.int .i64 c]) [.cells [.sl 1 false xs,.int .i64 j]]))
 | _,_=>none
def qplace_T (vld:Int→Int→Int→Int→Bool) (adr:Int→Int→Int→Int→List (List AV)) (nrm:Int→Int→Int→Int→Int × Int × Int × Int):Prop :=
 ∀ (gl:Glob) (xs:List (List AV)) (i:Int),SrcQ xs i→SrcQ xs i∧∀ (v j:Int),NumQ (20:Int) v j→SrcQ xs j∧∀ (v_1 j:Int),NumQ (841:Int) v_1 j→(SrcQ xs j∧∀
 (v_2 j:Int),NumQ (4:Int) v_2 j→bif decide (v_2=(0:Int)) then SrcQ xs j∧∀ (v_3 j:Int),NumQ (9:Int) v_3 j→bif decide (rng IntKind.i64 ((105:Int)*v_3)) then ∃
 x,PlaC x∧((0:Nat)=(0:Nat)∧(0:Nat)=(0:Nat)∧(0:Nat)=(0:Nat)∧True)∧((True∧xs=xs)∧j=x.snd.snd∧True)∧((0:Int)=(0:Int)∧(0:Int)=(0 :
 Int)∧(0:Int)=(0:Int)∧(0:Int)=(0:Int)∧True)∧(v=x.fst∧(105:Int)*v_3=x.snd.fst∧(0:Int)=(0:Int)∧(0:Int)=(0:Int)∧True)∧True else False
 else bif decide (v_2=(1:Int)) then SrcQ xs j∧∀ (v_3 j:Int),NumQ (5:Int) v_3 j→bif decide (rng IntKind.i64 ((210:Int)*v_3)) then ∃ x,PlaC x∧((0:Nat)=(0 :
 Nat)∧(0:Nat)=(0:Nat)∧(0:Nat)=(0:Nat)∧True)∧((True∧xs=xs)∧j=x.snd.snd∧True)∧((0:Int)=(0:Int)∧(0:Int)=(0:Int)∧(0:Int)=(0:Int) ∧
 (0:Int)=(0:Int)∧True)∧(v=x.fst∧(210:Int)*v_3=x.snd.fst∧(0:Int)=(0:Int)∧(0:Int)=(0:Int)∧True)∧True else False else ∃ x,PlaC x∧((0:Nat) =
 (0:Nat)∧(0:Nat)=(0:Nat)∧(0:Nat)=(0:Nat)∧True)∧((True∧xs=xs)∧j=x.snd.snd∧True)∧((0:Int)=(0:Int)∧(0:Int)=(0:Int)∧(0:Int)=(0 :
 Int)∧(0:Int)=(0:Int)∧True)∧(v=x.fst∧v_1=x.snd.fst∧(0:Int)=(0:Int)∧(0:Int)=(0:Int)∧True)∧True)∧∀ (x:Int × Int × Int),PlaC x→bif decide
 (rng IntKind.i64 ((840:Int) - x.snd.fst)) then bif decide (rng IntKind.i64 ((840:Int) - x.snd.fst+(1:Int))) then SrcQ xs x.snd.snd∧∀ (v j:Int),NumQ ((840:Int) -
 x.snd.fst+(1:Int)) v j→SrcQ xs j∧∀ (v_2 j:Int),NumQ (3:Int) v_2 j→bif decide (v_2=(0:Int)) then bif decide (rng IntKind.i64 (v - v.tmod (105:Int))) then bif
 decide (rng IntKind.i64 ((840:Int) - x.snd.fst)) then bif decide (rng IntKind.i64 ((840:Int) - x.snd.fst - (v - v.tmod (105:Int)))) then True∧∃ f a b c j_1,PlaQ f a b c
 j_1∧((nrm x.fst x.snd.fst (v - v.tmod (105:Int)) ((840:Int) - x.snd.fst - (v - v.tmod (105:Int)))).fst=f∧(nrm x.fst x.snd.fst (v - v.tmod (105:Int)) ((840:Int) -
 x.snd.fst - (v - v.tmod (105:Int)))).snd.fst=a∧(nrm x.fst x.snd.fst (v - v.tmod (105:Int)) ((840:Int) - x.snd.fst - (v - v.tmod (105:Int)))).snd.snd.fst=b∧(nrm
 x.fst x.snd.fst (v - v.tmod (105:Int)) ((840:Int) - x.snd.fst - (v - v.tmod (105:Int)))).snd.snd.snd=c∧True)∧((True∧xs=xs)∧j=j_1∧True)∧True else False else
 False else False else bif decide (rng IntKind.i64 ((840:Int) - x.snd.fst)) then bif decide (rng IntKind.i64 ((840:Int) - x.snd.fst - v)) then True∧∃ f a b c j_1,PlaQ f a b c
 j_1∧((nrm x.fst x.snd.fst v ((840:Int) - x.snd.fst - v)).fst=f∧(nrm x.fst x.snd.fst v ((840:Int) - x.snd.fst - v)).snd.fst=a∧(nrm x.fst x.snd.fst v ((840:Int) -
 x.snd.fst - v)).snd.snd.fst=b∧(nrm x.fst x.snd.fst v ((840:Int) - x.snd.fst - v)).snd.snd.snd=c∧True)∧((True∧xs=xs)∧j=j_1∧True)∧True else False else False
 else False else False
theorem qplace_P:qplace_T vld adr nrm:=by
 unfold qplace_T
 intro gl xs i hs
 have s:=hs.s
 refine ⟨hs,fun v j q1=>⟨⟨s,q1.fj⟩,fun v1 j q2=>⟨⟨⟨s,q2.fj⟩,fun v2 j q3=>?_⟩,?_⟩⟩⟩
 ·have h1:=q1.fv (by decide)
  have h2:=q2.fv (by decide)
  refine cs (fun _=>⟨⟨s,q3.fj⟩,fun v3 j q4=>?_⟩) (fun _=>cs (fun _=>⟨⟨s,q3.fj⟩,fun v3 j q4=>?_⟩) (fun _=>?_))
  ·have h3:=q4.fv (by decide)
   exact cdI (by omega) ⟨(v,105*v3,j),⟨by simp only; omega,by simp only; omega,q4.fj⟩,⟨rfl,rfl,rfl,trivial⟩,⟨⟨trivial,rfl⟩,rfl,trivial⟩,⟨rfl,rfl,rfl,rfl,trivial⟩,⟨rfl,rfl,rfl,rfl,trivial⟩,trivial⟩
  ·have h3:=q4.fv (by decide)
   exact cdI (by omega) ⟨(v,210*v3,j),⟨by simp only; omega,by simp only; omega,q4.fj⟩,⟨rfl,rfl,rfl,trivial⟩,⟨⟨trivial,rfl⟩,rfl,trivial⟩,⟨rfl,rfl,rfl,rfl,trivial⟩,⟨rfl,rfl,rfl,rfl,trivial⟩,trivial⟩
  ·exact ⟨(v,v1,j),⟨by simp only; omega,by simp only; omega,q3.fj⟩,⟨rfl,rfl,rfl,trivial⟩,⟨⟨trivial,rfl⟩,rfl,trivial⟩,⟨rfl,rfl,rfl,rfl,trivial⟩,⟨rfl,rfl,rfl,rfl,trivial⟩,trivial⟩
 ·rintro ⟨f,a,j⟩ ⟨hf,ha,hj⟩
  simp only at hf ha hj
  dsimp only
  refine cdI (by omega) (cdI (by omega) ⟨⟨s,hj⟩,fun b j q1=>⟨⟨s,q1.fj⟩,fun v2 j q2=>?_⟩⟩)
  have hb:=q1.fv (by omega)
  refine cs (fun _=>?_) (fun _=>?_)
  ·have e:b.tmod 105=b % 105:=Int.tmod_eq_emod_of_nonneg hb.1
   rw [e]
   have hn:=nrm_ok (f:=f) (a:=a) (b:=b - b % 105) (c:=840 - a - (b - b % 105)) ⟨hf,by omega,by omega,by omega,by omega⟩
   exact cdI (by omega) (cdI (by omega) (cdI (by omega) ⟨trivial,_,_,_,_,_,⟨hn.1,hn.2,q2.fj⟩,⟨rfl,rfl,rfl,rfl,trivial⟩,⟨⟨trivial,rfl⟩,rfl,trivial⟩,trivial⟩))
  ·have hn:=nrm_ok (f:=f) (a:=a) (b:=b) (c:=840 - a - b) ⟨hf,by omega,by omega,by omega,by omega⟩
   exact cdI (by omega) (cdI (by omega) ⟨trivial,_,_,_,_,_,⟨hn.1,hn.2,q2.fj⟩,⟨rfl,rfl,rfl,rfl,trivial⟩,⟨⟨trivial,rfl⟩,rfl,trivial⟩,trivial⟩)
def qplace_S (vld:Int→Int→Int→Int→Bool) (adr:Int→Int→Int→Int→List (List AV)) (nrm:Int→Int→Int→Int→Int × Int × Int × Int):Prop:=∀ (gl:Glob) (xs:List (List AV)) (i:Int),SrcQ xs i→fnQ Tryz.prog { glob:=gl,spec:=lk [(31,(rNormal_s vld adr nrm))],specH:=lk [],specQ:=lk [(10,qn_s)],nowf:=true } { nt:=55,drop:=drp [(1,1984),(2,2048),(3,16384),(4,491520),(5,1048576),(6,31457280),(7,4261412864),(8,12884901888),(9,4363686772736),(10,558551906910208),(11,17451448556060672),(12,18014398509481984)],fr:=1000,kp:=[0] } (invs [(100007,plaC xs)]) 6 Tryz.f8 [.ptr 0 0] [.cells [.sl 1 false xs,.int .i64 i]] (fun r2 bs2=>∃ (f a b c j:Int),(PlaQ f a b c j)∧le r2 (.agg [.int .i64 f,.int .i64 a,.int .i64 b,.int .i64 c])∧leBs bs2 [.cells [.sl 1 false xs,.int .i64 j]])
theorem qplace_e (vld:Int→Int→Int→Int→Bool) (adr:Int→Int→Int→Int→List (List AV)) (nrm:Int→Int→Int→Int→Int × Int × Int × Int):qplace_T vld adr nrm=qplace_S vld adr nrm:=by kernel_rfl
theorem qplace_v:qplace_S vld adr nrm:=Eq.mp (qplace_e ..) (qplace_P)
theorem qplace_ok (gl:Glob):QOK Tryz.prog gl 8 qplace_s:=by
 refine ⟨fok Tryz.func8 (by kernel_rfl) (by kernel_rfl),?_⟩
 intro xs bs T h K hT
 unfold qplace_s at h
 split at h
 ·simp only [Option.some.injEq] at h
  subst h
  obtain ⟨hp,hK⟩:=hT
  obtain ⟨r,bs2,⟨o0,o1,o2,o3,o4,hq,hl,hb⟩,hC⟩:=fnQ_sound tyNil (by exact specOK rfl rfl ⟨(rNormal_ok gl),trivial⟩ trivial (d:=qsOf rfl ⟨(qn_ok gl),trivial⟩)) (by kernel_rfl) Tryz.func8 (qplace_v gl _ _ hp)
  exact ⟨_,_,hK o0 o1 o2 o3 o4 hq,hC.le hl hb⟩
 ·cases h
end Go.Proofs.YtgbbmadjdaphnaaGreatDoor
namespace Go.Proofs.YtgbbmadjdaphnaaGreatDoor
open Go
set_option linter.unusedVariables false
set_option linter.unusedSimpArgs false
def addresses_s (vld:Int→Int→Int→Int→Bool) (adr:Int→Int→Int→Int→List (List AV)):Sp
 | [.agg [.int .i64 f,.int .i64 a,.int .i64 b,.int .i64 c]]=>some (True,.tup [.sl 4 false (adr f a b c),.int .i64 (err (vld f a b c))])
 | _=>none
def addresses_T (vld:Int→Int→Int→Int→Bool) (adr:Int→Int→Int→Int→List (List AV)):Prop :=
  ∀ (f a b c:Int),((-9223372036854775808:Int)≤f∧f≤(9223372036854775807:Int))∧((-9223372036854775808:Int)≤a∧a≤(9223372036854775807:Int)) ∧
  ((-9223372036854775808:Int)≤b∧b≤(9223372036854775807:Int))∧((-9223372036854775808:Int)≤c∧c≤(9223372036854775807:Int))∧True→True∧bif
  !YtgbbmadjdaphnaaGreatDoor.vld f a b c then adr f a b c=[]∧(1:Int)=err (vld f a b c)∧True else ((0:Int)≤f∧f < (20:Int))∧(∃ x,AdrP f a b c x∧((0:Nat)=(0 :
  Nat)∧(0:Nat)=x.snd.length∧(0:Int)=x.fst∧True)∧(wt f a b c (0:Int)=wt f a b c (0:Int)∧wt f a b c (1:Int)=wt f a b c (1:Int)∧wt f a b c (2:Int)=wt
  f a b c (2:Int)∧wt f a b c (3:Int)=wt f a b c (3:Int)∧wt f a b c (4:Int)=wt f a b c (4:Int)∧wt f a b c (5:Int)=wt f a b c (5:Int)∧wt f a b c (6:Int) =
  wt f a b c (6:Int)∧wt f a b c (7:Int)=wt f a b c (7:Int)∧wt f a b c (8:Int)=wt f a b c (8:Int)∧wt f a b c (9:Int)=wt f a b c (9:Int)∧wt f a b c (10 :
  Int)=wt f a b c (10:Int)∧wt f a b c (11:Int)=wt f a b c (11:Int)∧True)∧[]=x.snd∧True)∧∀ (x:Int × List (List AV)),AdrP f a b c x→bif decide (x.fst < (20 :
  Int)) then ((0:Int)≤x.fst∧x.fst < (20:Int))∧bif YtgbbmadjdaphnaaGreatDoor.vld x.fst (sel [wt f a b c (0:Int),wt f a b c (1:Int),wt f a b c (2:Int),wt f a b c (3
 :Int),wt f a b c (4:Int),wt f a b c (5:Int),wt f a b c (6:Int),wt f a b c (7:Int),wt f a b c (8:Int),wt f a b c (9:Int),wt f a b c (10:Int),wt f a b c (11 :
  Int)] (crn x.fst (0:Nat))) (sel [wt f a b c (0:Int),wt f a b c (1:Int),wt f a b c (2:Int),wt f a b c (3:Int),wt f a b c (4:Int),wt f a b c (5:Int),wt f a b c (6
 :Int),wt f a b c (7:Int),wt f a b c (8:Int),wt f a b c (9:Int),wt f a b c (10:Int),wt f a b c (11:Int)] (crn x.fst (1:Nat))) (sel [wt f a b c (0:Int),wt f a b
  c (1:Int),wt f a b c (2:Int),wt f a b c (3:Int),wt f a b c (4:Int),wt f a b c (5:Int),wt f a b c (6:Int),wt f a b c (7:Int),wt f a b c (8:Int),wt f a b c (9
 :Int),wt f a b c (10:Int),wt f a b c (11:Int)] (crn x.fst (2:Nat))) then bif decide (x.snd.length=x.snd.length∧x.snd.length+[[AV.int IntKind.i64 x.fst,AV.int
  IntKind.i64 (sel [wt f a b c (0:Int),wt f a b c (1:Int),wt f a b c (2:Int),wt f a b c (3:Int),wt f a b c (4:Int),wt f a b c (5:Int),wt f a b c (6:Int),wt f a b
  c (7:Int),wt f a b c (8:Int),wt f a b c (9:Int),wt f a b c (10:Int),wt f a b c (11:Int)] (crn x.fst (0:Nat))),AV.int IntKind.i64 (sel [wt f a b c (0:Int),wt f a
  b c (1:Int),wt f a b c (2:Int),wt f a b c (3:Int),wt f a b c (4:Int),wt f a b c (5:Int),wt f a b c (6:Int),wt f a b c (7:Int),wt f a b c (8:Int),wt f a b c
  (9:Int),wt f a b c (10:Int),wt f a b c (11:Int)] (crn x.fst (1:Nat))),AV.int IntKind.i64 (sel [wt f a b c (0:Int),wt f a b c (1:Int),wt f a b c (2:Int),wt f a b
  c (3:Int),wt f a b c (4:Int),wt f a b c (5:Int),wt f a b c (6:Int),wt f a b c (7:Int),wt f a b c (8:Int),wt f a b c (9:Int),wt f a b c (10:Int),wt f a b c
  (11:Int)] (crn x.fst (2:Nat)))]].length≤(9223372036854775807:Nat)∧(x.snd.length+[[AV.int IntKind.i64 x.fst,AV.int IntKind.i64 (sel [wt f a b c (0:Int),wt f a b c (1
 :Int),wt f a b c (2:Int),wt f a b c (3:Int),wt f a b c (4:Int),wt f a b c (5:Int),wt f a b c (6:Int),wt f a b c (7:Int),wt f a b c (8:Int),wt f a b c (9 :
  Int),wt f a b c (10:Int),wt f a b c (11:Int)] (crn x.fst (0:Nat))),AV.int IntKind.i64 (sel [wt f a b c (0:Int),wt f a b c (1:Int),wt f a b c (2:Int),wt f a b c (3
 :Int),wt f a b c (4:Int),wt f a b c (5:Int),wt f a b c (6:Int),wt f a b c (7:Int),wt f a b c (8:Int),wt f a b c (9:Int),wt f a b c (10:Int),wt f a b c (11 :
  Int)] (crn x.fst (1:Nat))),AV.int IntKind.i64 (sel [wt f a b c (0:Int),wt f a b c (1:Int),wt f a b c (2:Int),wt f a b c (3:Int),wt f a b c (4:Int),wt f a b c (5 :
  Int),wt f a b c (6:Int),wt f a b c (7:Int),wt f a b c (8:Int),wt f a b c (9:Int),wt f a b c (10:Int),wt f a b c (11:Int)] (crn x.fst (2:Nat)))]].length)*(32 :
  Nat)≤(140737488355328:Nat)) then bif decide (rng IntKind.i64 (x.fst+(1:Int))) then ∃ y,AdrP f a b c y∧(adrI f a b c).m y < (adrI f a b c).m x∧((0:Nat)=(0:Nat) ∧
  (x.snd++[[AV.int IntKind.i64 x.fst,AV.int IntKind.i64 (sel [wt f a b c (0:Int),wt f a b c (1:Int),wt f a b c (2:Int),wt f a b c (3:Int),wt f a b c (4:Int),wt f a
  b c (5:Int),wt f a b c (6:Int),wt f a b c (7:Int),wt f a b c (8:Int),wt f a b c (9:Int),wt f a b c (10:Int),wt f a b c (11:Int)] (crn x.fst (0:Nat))),AV.int
  IntKind.i64 (sel [wt f a b c (0:Int),wt f a b c (1:Int),wt f a b c (2:Int),wt f a b c (3:Int),wt f a b c (4:Int),wt f a b c (5:Int),wt f a b c (6:Int),wt f a b
  c (7:Int),wt f a b c (8:Int),wt f a b c (9:Int),wt f a b c (10:Int),wt f a b c (11:Int)] (crn x.fst (1:Nat))),AV.int IntKind.i64 (sel [wt f a b c (0:Int),wt f a
  b c (1:Int),wt f a b c (2:Int),wt f a b c (3:Int),wt f a b c (4:Int),wt f a b c (5:Int),wt f a b c (6:Int),wt f a b c (7:Int),wt f a b c (8:Int),wt f a b c
  (9:Int),wt f a b c (10:Int),wt f a b c (11:Int)] (crn x.fst (2:Nat)))]]).length=y.snd.length∧x.fst+(1:Int)=y.fst∧True)∧(wt f a b c (0:Int)=wt f a b c (0
 :Int)∧wt f a b c (1:Int)=wt f a b c (1:Int)∧wt f a b c (2:Int)=wt f a b c (2:Int)∧wt f a b c (3:Int)=wt f a b c (3:Int)∧wt f a b c (4:Int)=wt f a b c
  (4:Int)∧wt f a b c (5:Int)=wt f a b c (5:Int)∧wt f a b c (6:Int)=wt f a b c (6:Int)∧wt f a b c (7:Int)=wt f a b c (7:Int)∧wt f a b c (8:Int)=wt f a
  b c (8:Int)∧wt f a b c (9:Int)=wt f a b c (9:Int)∧wt f a b c (10:Int)=wt f a b c (10:Int)∧wt f a b c (11:Int)=wt f a b c (11:Int)∧True)∧x.snd ++
  [[AV.int IntKind.i64 x.fst,AV.int IntKind.i64 (sel [wt f a b c (0:Int),wt f a b c (1:Int),wt f a b c (2:Int),wt f a b c (3:Int),wt f a b c (4:Int),wt f a b c (5 :
  Int),wt f a b c (6:Int),wt f a b c (7:Int),wt f a b c (8:Int),wt f a b c (9:Int),wt f a b c (10:Int),wt f a b c (11:Int)] (crn x.fst (0:Nat))),AV.int
  IntKind.i64 (sel [wt f a b c (0:Int),wt f a b c (1:Int),wt f a b c (2:Int),wt f a b c (3:Int),wt f a b c (4:Int),wt f a b c (5:Int),wt f a b c (6:Int),wt f a b
  c (7:Int),wt f a b c (8:Int),wt f a b c (9:Int),wt f a b c (10:Int),wt f a b c (11:Int)] (crn x.fst (1:Nat))),AV.int IntKind.i64 (sel [wt f a b c (0:Int),wt f a
  b c (1:Int),wt f a b c (2:Int),wt f a b c (3:Int),wt f a b c (4:Int),wt f a b c (5:Int),wt f a b c (6:Int),wt f a b c (7:Int),wt f a b c (8:Int),wt f a b c
  (9:Int),wt f a b c (10:Int),wt f a b c (11:Int)] (crn x.fst (2:Nat)))]]=y.snd∧True else False else False else bif decide (rng IntKind.i64 (x.fst+(1:Int))) then ∃
  y,AdrP f a b c y∧(adrI f a b c).m y < (adrI f a b c).m x∧((0:Nat)=(0:Nat)∧x.snd.length=y.snd.length∧x.fst+(1:Int)=y.fst∧True)∧(wt f a b c (0:Int)=wt
  f a b c (0:Int)∧wt f a b c (1:Int)=wt f a b c (1:Int)∧wt f a b c (2:Int)=wt f a b c (2:Int)∧wt f a b c (3:Int)=wt f a b c (3:Int)∧wt f a b c (4:Int) =
  wt f a b c (4:Int)∧wt f a b c (5:Int)=wt f a b c (5:Int)∧wt f a b c (6:Int)=wt f a b c (6:Int)∧wt f a b c (7:Int)=wt f a b c (7:Int)∧wt f a b c (8 :
  Int)=wt f a b c (8:Int)∧wt f a b c (9:Int)=wt f a b c (9:Int)∧wt f a b c (10:Int)=wt f a b c (10:Int)∧wt f a b c (11:Int)=wt f a b c (11:Int)∧True) ∧
  x.snd=y.snd∧True else False else bif decide (x.snd.length=x.snd.length) then (True∧x.snd=adr f a b c)∧(0:Int)=err (vld f a b c)∧True else False
theorem addresses_P:addresses_T vld adr:=by
 unfold addresses_T
 intro f a b c h
 refine ⟨trivial,?_⟩
 unfold adr err
 cases hv:vld f a b c with
 | false=>exact ⟨rfl,rfl,trivial⟩
 | true =>
  have v:Vld f a b c:=of_decide_eq_true hv
  refine ⟨v.face,⟨(0,[]),⟨by decide,by decide,rfl⟩,⟨rfl,rfl,rfl,trivial⟩,⟨rfl,rfl,rfl,rfl,rfl,rfl,rfl,rfl,rfl,rfl,rfl,rfl,trivial⟩,rfl,trivial⟩,?_⟩
  rintro ⟨n,xs⟩ ⟨h0,h1,hx⟩
  simp only at h0 h1 hx
  have hlen:=adr_len f a b c n.toNat
  rw [← hx] at hlen
  refine csplit (fun hn=>?_) (fun hn=>?_)
  ·have hn:n < 20:=of_decide_eq_true hn
   obtain ⟨e0,e1,e2⟩:=sel_wts f a b c ⟨h0,hn⟩
   unfold wts at e0 e1 e2
   simp only [e0,e1,e2]
   refine ⟨⟨h0,hn⟩,csplit (fun hv=>?_) (fun hv=>?_)⟩
   ·have hv:onV f a b c n=true:=hv
    simp only [↓cdecF,rng,List.length_singleton]
    refine ⟨⟨by trivial,by omega,by omega⟩,by omega,(n+1,xs++[onRow f a b c n]),⟨by simp only; omega,by simp only; omega,?_⟩,by simp only [adrI]; omega,⟨by trivial,rfl,rfl,trivial⟩,?_,rfl,trivial⟩
    ·simp only; rw [adr_step h0,if_pos hv,hx]
    ·repeat' (first | exact trivial | rfl | apply And.intro)
   ·have hv:onV f a b c n=false:=hv
    simp only [↓cdecF,rng]
    refine ⟨by omega,(n+1,xs),⟨by simp only; omega,by simp only; omega,?_⟩,by simp only [adrI]; omega,⟨by trivial,by trivial,rfl,trivial⟩,?_,rfl,trivial⟩
    ·simp only; rw [adr_step h0,if_neg (by rw [hv]; simp),hx]
    ·repeat' (first | exact trivial | rfl | apply And.intro)
  ·have hn:¬ n < 20:=of_decide_eq_false hn
   have:n=20:=by omega
   subst this
   simp only [↓cdecF]
   exact ⟨by trivial,⟨trivial,by rw [hx]; rfl⟩,rfl,trivial⟩
def addresses_S (vld:Int→Int→Int→Int→Bool) (adr:Int→Int→Int→Int→List (List AV)):Prop:=∀ (f a b c:Int),fnK Tryz.prog { glob:=glb,spec:=lk [(32,(valid_s Go.Proofs.YtgbbmadjdaphnaaGreatDoor.vld)),(33,of_s),(34,on_s)],specH:=lk [],nowf:=true } { nt:=30,drop:=drp [(1,1536),(3,12288),(7,65536),(8,8257536),(10,251658240),(11,268435456),(12,536870912)],emp:=fun id=>cond (Nat.beq id 5) [(5,500,27,4)] [] } (fun id _=>cond (Nat.beq id 6) (some (adrI f a b c)) none) 6 Tryz.f9 [.agg [.int .i64 f,.int .i64 a,.int .i64 b,.int .i64 c]] (.tup [.sl 4 false (adr f a b c),.int .i64 (err (vld f a b c))])
theorem addresses_e (vld:Int→Int→Int→Int→Bool) (adr:Int→Int→Int→Int→List (List AV)):addresses_T vld adr=addresses_S vld adr:=by kernel_rfl
theorem addresses_v:addresses_S vld adr:=Eq.mp (addresses_e ..) (addresses_P)
theorem addresses_ok:SOK Tryz.prog glb 9 (addresses_s vld adr):=by
 refine ⟨fok Tryz.func9 (by kernel_rfl) (by kernel_rfl),?_⟩
 intro xs pre r h hp
 unfold addresses_s at h
 split at h
 ·simp only [Option.some.injEq,Prod.mk.injEq] at h
  obtain ⟨h1,h2⟩:=h
  subst h1 h2
  exact fnK_sound tyNil (by exact specOK rfl rfl ⟨(valid_ok glb),(of_ok),(on_ok),trivial⟩ trivial) (by kernel_rfl) Tryz.func9 rfl (addresses_v  _ _ _ _)
 ·cases h
end Go.Proofs.YtgbbmadjdaphnaaGreatDoor
namespace Go.Proofs.YtgbbmadjdaphnaaGreatDoor
open Go
set_option linter.unusedVariables false
set_option linter.unusedSimpArgs false
abbrev LL:=List (List AV)
def rpR (nm:ByteArray) (f a b c:Int):List AV:=[.int .i64 2,.str nm,.int .i64 0,.int .i64 f,.int .i64 a,.int .i64 b,.int .i64 c,.sl 2 false airR]
def nmA (k:Int):ByteArray:=⟨#[65,65,65,65]⟩++strOfNums [IntKind.u8.wrap (65+k)]
def nmB (k:Int):ByteArray:=⟨#[66,66,66,66]⟩++strOfNums [IntKind.u8.wrap (65+k)]
theorem nm_all:((List.range 6).all fun i=>(List.range 6).all fun k=>(decide (nmA i=nmA k→i=k)&&decide (nmB i=nmB k→i=k))&&!decide (nmA i=nmB k))=true:=by decide +kernel
theorem nm_ok {i k:Int} (hi:0≤i∧i≤5) (hk:0≤k∧k≤5):(nmA i=nmA k→i=k)∧(nmB i=nmB k→i=k)∧nmA i≠nmB k:=by
 have h:=nm_all
 rw [List.all_eq_true] at h
 have h:=h i.toNat (List.mem_range.2 (by omega))
 rw [List.all_eq_true] at h
 have h:=h k.toNat (List.mem_range.2 (by omega))
 rw [Int.toNat_of_nonneg hi.1,Int.toNat_of_nonneg hk.1] at h
 simp only [Bool.and_eq_true,decide_eq_true_eq,Bool.not_eq_true',decide_eq_false_iff_not] at h
 exact ⟨fun e=>by have:=h.1.1 e; omega,fun e=>by have:=h.1.2 e; omega,h.2⟩
theorem adr_le {f a b c:Int} (hv:Vld f a b c):(adr f a b c).length≤5:=by
 rcases adr_zeros hv with ⟨_,h⟩ | ⟨_,h⟩ | ⟨_,h⟩ <;> omega
theorem adr_at {f a b c:Int} (hv:Vld f a b c) {k:Nat} (hk:k < (adr f a b c).length):∃ n x y z,(adr f a b c).getD k []=rowP n x y z∧RowOf f a b c n x y z:=by
 rw [adr_map hv] at hk ⊢
 rw [List.length_map] at hk
 have hm:=List.getElem_mem hk
 obtain ⟨hn,ho⟩:=fcsOf_mem.1 hm
 refine ⟨_,_,_,_,?_,row_of hv hn ho⟩
 rw [List.getD_eq_getElem?_getD,List.getElem?_map,List.getElem?_eq_getElem hk]; rfl
theorem rowP_inj {f a b c f' a' b' c':Int} (h:rowP f a b c=rowP f' a' b' c'):f=f'∧a=a'∧b=b'∧c=c':=by
 simp only [rowP,List.cons.injEq,AV.int.injEq,true_and,and_true] at h
 exact h
theorem nea_in {n f a b c:Int} (n1:1≤n) (n4:n≤4) (hv:Vld f a b c) {l:List (Int × AV)} {N:Nat} (hl:∀ q,0≤mInt l q∧mInt l q < N) (hN:N≤200):0≤neaV nrm l n f a b c∧neaV nrm l n f a b c < N:=by
 have hl':∀ q,0≤mInt l q∧mInt l q < 1000:=fun q=>⟨(hl q).1,by have:=(hl q).2; omega⟩
 unfold neaV locL
 by_cases h0:sm_ n a b c=0
 ·rw [if_pos h0]
  exact hl _
 ·rw [if_neg h0]
  obtain ⟨o1,o2,_⟩:=shrL_ok (f:=f) (nrm:=nrm) n1 n4 hv.wa.1 hv.wb.1 hv.wc.1 hl' h0
  have hp:(sortR 2 cfS (shrL nrm l n f a b c)).Perm (shrL nrm l n f a b c):=sortR_perm (cf:=cfS) swoS o1
  have hll:1≤(shrL nrm l n f a b c).length:=o2
  obtain ⟨d,e,hd⟩:=sortR_sorted (cf:=cfS) swoS (shrL nrm l n f a b c)
  have hb:IsB (sortR 2 cfS (shrL nrm l n f a b c)) (bst (sortR 2 cfS (shrL nrm l n f a b c))):=bst_isB (by rw [hp.length_eq]; exact hll) (by
   rw [e,List.pairwise_map]
   exact hd.imp fun {x y} hxy=>by
    rw [cfS_iff] at hxy
    have:=of_decide_eq_false hxy
    omega)
  have hm:=hp.mem_iff.1 hb.mem
  revert hm
  generalize bst (sortR 2 cfS (shrL nrm l n f a b c))=r
  intro hm
  have one:∀ p,r ∈ shG l n f a b c p→0≤nI r 0∧nI r 0 < N:=fun p hr=>by
   unfold shG at hr
   split at hr
   ·simp at hr
   ·unfold shr1 at hr
    split at hr
    ·rw [List.mem_singleton] at hr
     subst hr
     exact hl _
    ·simp at hr
  rw [shrL_G] at hm
  rcases List.mem_append.1 hm with hm | hm
  ·rcases List.mem_append.1 hm with hm | hm
   ·exact one _ hm
   ·exact one _ hm
  ·exact one _ hm
theorem grd_rg {n:Int} (h:1≤n∧n≤4):∀ q,0≤mInt (ptG nrm n).2 q∧mInt (ptG nrm n).2 q < 1000:=fun q=>by
 have hb:=(grd h).bq
 have:=hb.rg q
 have:=hb.l2
 omega
theorem atL_at {n:Int} {rs:LL} {k:Nat} (hk:k < rs.length):(atL nrm n rs).getD k 0=rpA nrm n (rs.getD k []):=by
 rw [List.getD_eq_getElem?_getD,atL,List.getElem?_map,List.getElem?_eq_getElem hk,List.getD_eq_getElem?_getD,List.getElem?_eq_getElem hk]; rfl
abbrev X1:=Int × Int × Int × Int × Int × Int × Int × LL
structure L1P (x:X1):Prop where
 n:1≤x.1∧x.1≤4
 v:Vld x.2.1 x.2.2.1 x.2.2.2.1 x.2.2.2.2.1
 j:0≤x.2.2.2.2.2.1
 lo:0≤x.2.2.2.2.2.2.1
 len:(x.2.2.2.2.2.2.2.length:Int)=x.2.2.2.2.2.2.1
 hi:x.2.2.2.2.2.2.1≤(adr x.2.1 x.2.2.1 x.2.2.2.1 x.2.2.2.2.1).length
 row:∀ k,k < x.2.2.2.2.2.2.2.length→∃ f a b c,(adr x.2.1 x.2.2.1 x.2.2.2.1 x.2.2.2.2.1).getD k []=rowP f a b c∧x.2.2.2.2.2.2.2.getD k []=rpR (nmA k) f a b c
abbrev X2:=Int × Int × Int × Int × Int × Int × Int × Int × Int × LL
structure L2P (x:X2):Prop where
 n:1≤x.1∧x.1≤4
 v:Vld x.2.1 x.2.2.1 x.2.2.2.1 x.2.2.2.2.1
 j:0≤x.2.2.2.2.2.1
 sm:x.2.2.2.2.2.2.1=(adr x.2.1 x.2.2.1 x.2.2.2.1 x.2.2.2.2.1).length
 lo:0≤x.2.2.2.2.2.2.2.1
 hi:x.2.2.2.2.2.2.2.1≤x.2.2.2.2.2.2.2.2.1∧x.2.2.2.2.2.2.2.2.1≤5
 len:(x.2.2.2.2.2.2.2.2.2.length:Int)=x.2.2.2.2.2.2.1+(x.2.2.2.2.2.2.2.2.1 - x.2.2.2.2.2.2.2.1)
 ra:∀ k,k < (adr x.2.1 x.2.2.1 x.2.2.2.1 x.2.2.2.2.1).length→∃ f a b c,(adr x.2.1 x.2.2.1 x.2.2.2.1 x.2.2.2.2.1).getD k []=rowP f a b c∧x.2.2.2.2.2.2.2.2.2.getD k []=rpR (nmA k) f a b c
 rb:∀ k,(adr x.2.1 x.2.2.1 x.2.2.2.1 x.2.2.2.2.1).length≤k→k < x.2.2.2.2.2.2.2.2.2.length→∃ f a b c,Vld f a b c∧x.2.2.2.2.2.2.2.2.2.getD k []=rpR (nmB (x.2.2.2.2.2.2.2.2.1 - (k - (adr x.2.1 x.2.2.1 x.2.2.2.1 x.2.2.2.2.1).length:Nat))) f a b c
theorem getD_app {l:LL} {x:List AV} {k:Nat} (h:k < l.length):(l++[x]).getD k []=l.getD k []:=by
 rw [List.getD_eq_getElem?_getD,List.getElem?_append_left h,← List.getD_eq_getElem?_getD]
theorem getD_end {l:LL} {x:List AV}:(l++[x]).getD l.length []=x:=by
 rw [List.getD_eq_getElem?_getD,List.getElem?_append_right (Nat.le_refl _),Nat.sub_self]; rfl
theorem L1P.step {n f a b c j i:Int} {rs:LL} (h:L1P (n,f,a,b,c,j,i,rs)) (hi:i < (adr f a b c).length) {f' a' b' c':Int} (e:(adr f a b c).getD i.toNat []=rowP f' a' b' c'):L1P (n,f,a,b,c,j,i+1,rs++[rpR (nmA i) f' a' b' c']):=by
 obtain ⟨h1,h2,h3,h4,h5,h6,h7⟩:=h
 simp only at h1 h2 h3 h4 h5 h6 h7
 refine ⟨h1,h2,h3,by simp only; omega,by simp only [List.length_append,List.length_singleton]; omega,by simp only; omega,fun k hk=>?_⟩
 simp only [List.length_append,List.length_singleton] at hk ⊢
 by_cases q:k < rs.length
 ·rw [getD_app q]; exact h7 k q
 ·have:k=rs.length:=by omega
  subst this
  rw [getD_end]
  refine ⟨f',a',b',c',?_,?_⟩
  ·rw [show rs.length=i.toNat by omega]; exact e
  ·rw [h5]
theorem L2P.step {n f a b c j s i i0:Int} {rs:LL} (h:L2P (n,f,a,b,c,j,s,i,i0,rs)) (hi:0 < i) {j' f' a' b' c':Int} (hv:Vld f' a' b' c') (hj:0≤j'):L2P (n,f,a,b,c,j',s,i - 1,i0,rs++[rpR (nmB i) f' a' b' c']):=by
 obtain ⟨h1,h2,h3,h4,h5,h6,h7,h8,h9⟩:=h
 simp only at h1 h2 h3 h4 h5 h6 h7 h8 h9
 refine ⟨h1,h2,hj,h4,by simp only; omega,by simp only; omega,by simp only [List.length_append,List.length_singleton]; omega,fun k hk=>?_,fun k h0 hk=>?_⟩
 ·simp only at hk ⊢
  rw [getD_app (by omega)]; exact h8 k hk
 ·simp only [List.length_append,List.length_singleton] at h0 hk ⊢
  by_cases q:k < rs.length
  ·rw [getD_app q]; exact h9 k h0 q
  ·have:k=rs.length:=by omega
   subst this
   rw [getD_end]
   refine ⟨f',a',b',c',hv,?_⟩
   rw [show i0 - ((rs.length - (adr f a b c).length:Nat):Int)=i by omega]
theorem L1P.next {n f a b c j i:Int} {rs:LL} (h:L1P (n,f,a,b,c,j,i,rs)) (hi:¬ i < (adr f a b c).length) {j' k:Int} (hj:0≤j') (hk:0≤k∧k≤5):L2P (n,f,a,b,c,j',rs.length,k,k,rs):=by
 obtain ⟨h1,h2,h3,h4,h5,h6,h7⟩:=h
 simp only at h1 h2 h3 h4 h5 h6 h7
 refine ⟨h1,h2,hj,by simp only; omega,hk.1,by simp only; omega,by simp only; omega,fun q hq=>h7 q (by simp only at hq ⊢; omega),fun q h0 hq=>?_⟩
 simp only at h0 hq; omega
structure LwP (n own same:Int) (rs:LL):Prop where
 nn:1≤n∧n≤4
 rp:RpP rs
 nm:∀ i k,i < rs.length→k < rs.length→rpN (rs.getD i [])=rpN (rs.getD k [])→i=k
 sm:0≤same∧same≤rs.length
 ow:∀ i:Nat,(i:Int) < same→(atL nrm n rs).getD i 0=own
theorem L2P.lw {n f a b c j s i i0:Int} {rs:LL} (h:L2P (n,f,a,b,c,j,s,i,i0,rs)) (hi:¬ 0 < i):LwP n (neaV nrm (ptG nrm n).2 n f a b c) s rs:=by
 obtain ⟨h1,h2,h3,h4,h5,h6,h7,h8,h9⟩:=h
 simp only at h1 h2 h3 h4 h5 h6 h7 h8 h9
 have hl:=adr_le h2
 have both:∀ k,k < rs.length→∃ f' a' b' c',Vld f' a' b' c'∧((k < (adr f a b c).length∧SameP f' a' b' c' f a b c∧rs.getD k []=rpR (nmA k) f' a' b' c')∨((adr f a b c).length≤k∧rs.getD k []=rpR (nmB (i0 - (k - (adr f a b c).length:Nat))) f' a' b' c')):=fun k hk=>by
  by_cases q:k < (adr f a b c).length
  ·obtain ⟨f',a',b',c',e1,e2⟩:=h8 k q
   obtain ⟨x,y,z,w,e3,e4⟩:=adr_at h2 q
   obtain ⟨rfl,rfl,rfl,rfl⟩:=rowP_inj (e1.symm.trans e3)
   exact ⟨_,_,_,_,e4.vld,.inl ⟨q,SameP.row h2 e4,e2⟩⟩
  ·obtain ⟨f',a',b',c',e1,e2⟩:=h9 k (by omega) hk
   exact ⟨_,_,_,_,e1,.inr ⟨by omega,e2⟩⟩
 refine ⟨h1,⟨fun k hk=>?_,by omega⟩,fun p q hp hq e=>?_,by omega,fun k hk=>?_⟩
 ·obtain ⟨f',a',b',c',hv,⟨_,_,e⟩ | ⟨_,e⟩⟩:=both k hk
  ·exact ⟨_,_,_,_,_,_,_,e,hv⟩
  ·exact ⟨_,_,_,_,_,_,_,e,hv⟩
 ·obtain ⟨_,_,_,_,_,⟨p1,_,ep⟩ | ⟨p1,ep⟩⟩:=both p hp <;> obtain ⟨_,_,_,_,_,⟨q1,_,eq⟩ | ⟨q1,eq⟩⟩:=both q hq
  ·rw [ep,eq] at e
   have:=(nm_ok (i:=p) (k:=q) (by omega) (by omega)).1 e
   omega
  ·rw [ep,eq] at e
   exact absurd e (nm_ok (i:=p) (k:=i0 - (q - (adr f a b c).length:Nat)) (by omega) (by omega)).2.2
  ·rw [ep,eq] at e
   exact absurd e.symm (nm_ok (i:=q) (k:=i0 - (p - (adr f a b c).length:Nat)) (by omega) (by omega)).2.2
  ·rw [ep,eq] at e
   have:=(nm_ok (i:=i0 - (p - (adr f a b c).length:Nat)) (k:=i0 - (q - (adr f a b c).length:Nat)) (by omega) (by omega)).2.1 e
   omega
 ·rw [atL_at (by omega)]
  obtain ⟨f',a',b',c',hv,⟨_,hs,e⟩ | ⟨q,_⟩⟩:=both k (by omega)
  ·rw [e]
   exact hs.near h1.1 h1.2 (grd_rg h1)
  ·omega
theorem LwP.at_in {n own same:Int} {rs:LL} (h:LwP n own same rs) {k:Nat} (hk:k < rs.length):∃ nm f a b c q t,rs.getD k []=[.int .i64 q,.str nm,.int .i64 t,.int .i64 f,.int .i64 a,.int .i64 b,.int .i64 c,.sl 2 false airR]∧Vld f a b c∧(atL nrm n rs).getD k 0=neaV nrm (ptG nrm n).2 n f a b c∧(0≤neaV nrm (ptG nrm n).2 n f a b c∧neaV nrm (ptG nrm n).2 n f a b c < (ptG nrm n).1.length):=by
 obtain ⟨q,nm,t,f,a,b,c,e,hv⟩:=h.rp.row k hk
 have hb:=(grd h.nn).bq
 refine ⟨nm,f,a,b,c,q,t,e,hv,?_,nea_in h.nn.1 h.nn.2 hv hb.rg hb.l2⟩
 rw [atL_at hk,e]; rfl
theorem LwP.bne {n own same:Int} {rs:LL} (h:LwP n own same rs) {i:Int} (hi:0≤i∧i < same):BneP nrm n i rs:=by
 have hb:=(grd h.nn).bq
 have hs:=h.sm
 have hn:=nxt_len hb
 refine ⟨hb,h.rp,by omega,fun z hz=>?_,fun k hk=>nb_row hb (by omega)⟩
 obtain ⟨k,hk,e⟩:=List.getElem_of_mem hz
 have hk':k < rs.length:=by simpa [atL] using hk
 obtain ⟨nm,f,a,b,c,q,t,_,_,e2,e3⟩:=h.at_in hk'
 rw [List.getD_eq_getElem?_getD,List.getElem?_eq_getElem hk,Option.getD_some,e] at e2
 rw [e2,hn]; exact e3
theorem LwP.fin {n own same:Int} {rs:LL} (h:LwP n own same rs) {i:Int} (hi:0≤i∧i < same) {k:Int} (hk:0≤k∧k < rs.length) {d:Int} (hd:HopQ nrm n own ((atL nrm n rs).getD k.toNat 0) d) :
  (k ∈ arN (nxtG nrm n) rs (atL nrm n rs) i.toNat rs.length↔k≠i∧d≤1)∧(k < same→d=0):=by
 have hs:=h.sm
 have eo:=h.ow i.toNat (by omega)
 refine ⟨?_,fun q=>hd.own (h.ow k.toNat (by omega))⟩
 rw [arN_mem,hd.iff]
 constructor
 ·rintro ⟨q,hq,rfl,hb⟩
  simp only [arB,nearB,eo,Bool.and_eq_true,Bool.not_eq_true',decide_eq_false_iff_not,Bool.or_eq_true,decide_eq_true_eq] at hb
  refine ⟨fun e=>hb.1 ?_,?_⟩
  ·rw [show i.toNat=q by omega]
  ·rw [Int.toNat_natCast]
   rcases hb.2 with e | e
   ·exact .inl e.symm
   ·exact .inr e
 ·rintro ⟨ne,hb⟩
  refine ⟨k.toNat,by omega,by omega,?_⟩
  simp only [arB,nearB,eo,Bool.and_eq_true,Bool.not_eq_true',decide_eq_false_iff_not,Bool.or_eq_true,decide_eq_true_eq]
  refine ⟨fun e=>ne ?_,?_⟩
  ·have:=h.nm _ _ (by omega) (by omega) e
   omega
  ·rcases hb with e | e
   ·exact .inl e.symm
   ·exact .inr e
end Go.Proofs.YtgbbmadjdaphnaaGreatDoor
namespace Go.Proofs.YtgbbmadjdaphnaaGreatDoor
open Go
set_option linter.unusedVariables false
set_option linter.unusedSimpArgs false
def l1I (xs:LL):LInv:=⟨X1,fun x=>⟨[(3,.ptr 24 0),(4,.int .i64 x.1),(5,.ptr 5 0),(8,.rw 1900 8 x.2.2.2.2.2.2.2.length),(36,.sl 4 false (adr x.2.1 x.2.2.1 x.2.2.2.1 x.2.2.2.2.1)),(37,.int .i64 (adr x.2.1 x.2.2.1 x.2.2.2.1 x.2.2.2.2.1).length),(38,.int .i64 x.2.2.2.2.2.2.1)],
 [(24,.cells [.sl 1 false xs,.int .i64 x.2.2.2.2.2.1]),(5,.cells [.int .i64 x.2.1,.int .i64 x.2.2.1,.int .i64 x.2.2.2.1,.int .i64 x.2.2.2.2.1]),(1900,.row 39 8 x.2.2.2.2.2.2.2)]⟩,L1P,fun x=>((adr x.2.1 x.2.2.1 x.2.2.2.1 x.2.2.2.2.1).length - x.2.2.2.2.2.2.1).toNat,none⟩
def l2I (xs:LL):LInv:=⟨X2,fun x=>⟨[(3,.ptr 24 0),(4,.int .i64 x.1),(5,.ptr 5 0),(8,.rw 1900 8 x.2.2.2.2.2.2.2.2.2.length),(11,.int .i64 x.2.2.2.2.2.2.1),(12,.int .i64 x.2.2.2.2.2.2.2.1)],
 [(24,.cells [.sl 1 false xs,.int .i64 x.2.2.2.2.2.1]),(5,.cells [.int .i64 x.2.1,.int .i64 x.2.2.1,.int .i64 x.2.2.2.1,.int .i64 x.2.2.2.2.1]),(1900,.row 39 8 x.2.2.2.2.2.2.2.2.2)]⟩,L2P,fun x=>x.2.2.2.2.2.2.2.1.toNat,none⟩
structure L3P (x:Int × Int × Int × Int × LL):Prop where
 w:LwP x.1 x.2.1 x.2.2.1 x.2.2.2.2
 lo:0≤x.2.2.2.1
 hi:x.2.2.2.1≤x.2.2.1
def l3I:LInv:=⟨Int × Int × Int × Int × LL,fun x=>⟨[(4,.int .i64 x.1),(8,.sl 8 false x.2.2.2.2),(11,.int .i64 x.2.2.1),(13,.int .i64 x.2.1),(14,.int .i64 0),(15,.int .i64 x.2.2.2.1)],[]⟩,L3P,fun x=>(x.2.2.1 - x.2.2.2.1).toNat,none⟩
structure L4P (i s:Int) (x:Int × Int × Int × LL):Prop where
 w:LwP x.1 x.2.1 s x.2.2.2
 i0:0≤i∧i < s
 lo:0≤x.2.2.1
 hi:x.2.2.1≤x.2.2.2.length
def l4I (i s:Int):LInv:=⟨Int × Int × Int × LL,fun x=>⟨[(4,.int .i64 x.1),(8,.sl 8 false x.2.2.2),(11,.int .i64 s),(13,.int .i64 x.2.1),(14,.int .i64 0),(15,.int .i64 i),(16,.sl 1 false (intsL (arN (nxtG nrm x.1) x.2.2.2 (atL nrm x.1 x.2.2.2) i.toNat x.2.2.2.length))),(104,.int .i64 x.2.2.2.length),(105,.int .i64 x.2.2.1)],[]⟩,L4P i s,fun x=>(x.2.2.2.length - x.2.2.1).toNat,none⟩
theorem nb0 {a b:Bool} (h:a=b):(!decide (a=b))=false:=by rw [h]; simp
def ltnear_s (nrm:Int→Int→Int→Int→Int × Int × Int × Int) (vld:Int→Int→Int→Int→Bool) (adr:Int→Int→Int→Int→List (List AV)):Sp
 | [.sl 1 false xs]=>some (IntsA xs,.bool true)
 | _=>none
def ltnear_T (nrm:Int→Int→Int→Int→Int × Int × Int × Int) (vld:Int→Int→Int→Int→Bool) (adr:Int→Int→Int→Int→List (List AV)):Prop :=
  ∀ (xs:List (List AV)),(∀ (x:List AV),List.Mem x xs→∃ n,x=[AV.int IntKind.i64 n]∧rng IntKind.i64 n)→True→True∧(SrcQ (List.take (2000:Nat) xs) (0:Int)∧(1 :
  Int)≤(4:Int)∧(-1000000000:Int)≤(1:Int)∧(4:Int)≤(1000000000:Int))∧∀ (v j:Int),((1:Int)≤v∧v≤(4:Int))∧(0:Int)≤j→SrcQ (List.take (2000:Nat)
  xs) j∧∀ (f a b c j:Int),PlaQ f a b c j→True∧bif decide ¬err (vld f a b c)=(0:Int) then false=true else (∃ x,L1P x∧((0:Nat)=(0:Nat)∧v=x.fst∧(0:Nat) =
  (0:Nat)∧(0:Nat)=List.length x.snd.snd.snd.snd.snd.snd.snd∧(True∧adr f a b c=YtgbbmadjdaphnaaGreatDoor.adr x.snd.fst x.snd.snd.fst x.snd.snd.snd.fst
  x.snd.snd.snd.snd.fst)∧(↑(adr f a b c).length:Int)=(↑(YtgbbmadjdaphnaaGreatDoor.adr x.snd.fst x.snd.snd.fst x.snd.snd.snd.fst x.snd.snd.snd.snd.fst).length:Int)∧(0:Int)
 =x.snd.snd.snd.snd.snd.snd.fst∧True)∧((True∧List.take (2000:Nat) xs=List.take (2000:Nat) xs)∧j=x.snd.snd.snd.snd.snd.fst∧True)∧(f=x.snd.fst∧a =
  x.snd.snd.fst∧b=x.snd.snd.snd.fst∧c=x.snd.snd.snd.snd.fst∧True)∧[]=x.snd.snd.snd.snd.snd.snd.snd∧True)∧∀ (x:Int × Int × Int × Int × Int × Int × Int × LL),L1P x
 →bif decide (x.snd.snd.snd.snd.snd.snd.fst < (↑(YtgbbmadjdaphnaaGreatDoor.adr x.snd.fst x.snd.snd.fst x.snd.snd.snd.fst x.snd.snd.snd.snd.fst).length:Int)) then bif decide ((0 :
  Int)≤x.snd.snd.snd.snd.snd.snd.fst∧x.snd.snd.snd.snd.snd.snd.fst < (↑(YtgbbmadjdaphnaaGreatDoor.adr x.snd.fst x.snd.snd.fst x.snd.snd.snd.fst x.snd.snd.snd.snd.fst).length :
  Int)) then ∃ n n_1 n_2 n_3,List.take [AV.int IntKind.i64 n,AV.int IntKind.i64 n_1,AV.int IntKind.i64 n_2,AV.int IntKind.i64 n_3].length ((YtgbbmadjdaphnaaGreatDoor.adr
  x.snd.fst x.snd.snd.fst x.snd.snd.snd.fst x.snd.snd.snd.snd.fst).getD x.snd.snd.snd.snd.snd.snd.fst.toNat [])=[AV.int IntKind.i64 n,AV.int IntKind.i64 n_1,AV.int IntKind.i64
  n_2,AV.int IntKind.i64 n_3]∧bif decide (rng IntKind.i64 ((65:Int)+x.snd.snd.snd.snd.snd.snd.fst)) then bif decide (List.length x.snd.snd.snd.snd.snd.snd.snd=List.length
  x.snd.snd.snd.snd.snd.snd.snd∧List.length x.snd.snd.snd.snd.snd.snd.snd+[[AV.int IntKind.i64 (2:Int),AV.str ({ data:=#[(65:UInt8),(65:UInt8),(65:UInt8),(65 :
  UInt8)] }++strOfNums [IntKind.u8.wrap ((65:Int)+x.snd.snd.snd.snd.snd.snd.fst)]),AV.int IntKind.i64 (0:Int),AV.int IntKind.i64 n,AV.int IntKind.i64 n_1,AV.int
  IntKind.i64 n_2,AV.int IntKind.i64 n_3,AV.sl (2:Nat) false [[AV.int IntKind.i64 (2:Int),AV.int IntKind.i64 (2800:Int)]]]].length≤(9223372036854775807:Nat) ∧
  (List.length x.snd.snd.snd.snd.snd.snd.snd+[[AV.int IntKind.i64 (2:Int),AV.str ({ data:=#[(65:UInt8),(65:UInt8),(65:UInt8),(65:UInt8)] }++strOfNums
  [IntKind.u8.wrap ((65:Int)+x.snd.snd.snd.snd.snd.snd.fst)]),AV.int IntKind.i64 (0:Int),AV.int IntKind.i64 n,AV.int IntKind.i64 n_1,AV.int IntKind.i64 n_2,AV.int
  IntKind.i64 n_3,AV.sl (2:Nat) false [[AV.int IntKind.i64 (2:Int),AV.int IntKind.i64 (2800:Int)]]]].length)*(88:Nat)≤(140737488355328:Nat)) then bif decide (rng
  IntKind.i64 (x.snd.snd.snd.snd.snd.snd.fst+(1:Int))) then ∃ y,L1P y∧(l1I (List.take (2000:Nat) xs)).m y < (l1I (List.take (2000:Nat) xs)).m x∧((0:Nat)=(0:Nat) ∧
  x.fst=y.fst∧(0:Nat)=(0:Nat)∧(x.snd.snd.snd.snd.snd.snd.snd++[[AV.int IntKind.i64 (2:Int),AV.str ({ data:=#[(65:UInt8),(65:UInt8),(65:UInt8),(65 :
  UInt8)] }++strOfNums [IntKind.u8.wrap ((65:Int)+x.snd.snd.snd.snd.snd.snd.fst)]),AV.int IntKind.i64 (0:Int),AV.int IntKind.i64 n,AV.int IntKind.i64 n_1,AV.int
  IntKind.i64 n_2,AV.int IntKind.i64 n_3,AV.sl (2:Nat) false [[AV.int IntKind.i64 (2:Int),AV.int IntKind.i64 (2800:Int)]]]]).length=List.length
  y.snd.snd.snd.snd.snd.snd.snd∧(True∧YtgbbmadjdaphnaaGreatDoor.adr x.snd.fst x.snd.snd.fst x.snd.snd.snd.fst x.snd.snd.snd.snd.fst=YtgbbmadjdaphnaaGreatDoor.adr y.snd.fst
  y.snd.snd.fst y.snd.snd.snd.fst y.snd.snd.snd.snd.fst)∧(↑(YtgbbmadjdaphnaaGreatDoor.adr x.snd.fst x.snd.snd.fst x.snd.snd.snd.fst x.snd.snd.snd.snd.fst).length:Int) =
  (↑(YtgbbmadjdaphnaaGreatDoor.adr y.snd.fst y.snd.snd.fst y.snd.snd.snd.fst y.snd.snd.snd.snd.fst).length:Int)∧x.snd.snd.snd.snd.snd.snd.fst+(1:Int) =
  y.snd.snd.snd.snd.snd.snd.fst∧True)∧((True∧List.take (2000:Nat) xs=List.take (2000:Nat) xs)∧x.snd.snd.snd.snd.snd.fst=y.snd.snd.snd.snd.snd.fst∧True)∧(x.snd.fst
 =y.snd.fst∧x.snd.snd.fst=y.snd.snd.fst∧x.snd.snd.snd.fst=y.snd.snd.snd.fst∧x.snd.snd.snd.snd.fst=y.snd.snd.snd.snd.fst∧True)∧x.snd.snd.snd.snd.snd.snd.snd ++
  [[AV.int IntKind.i64 (2:Int),AV.str ({ data:=#[(65:UInt8),(65:UInt8),(65:UInt8),(65:UInt8)] }++strOfNums [IntKind.u8.wrap ((65:Int) +
  x.snd.snd.snd.snd.snd.snd.fst)]),AV.int IntKind.i64 (0:Int),AV.int IntKind.i64 n,AV.int IntKind.i64 n_1,AV.int IntKind.i64 n_2,AV.int IntKind.i64 n_3,AV.sl (2:Nat) false
  [[AV.int IntKind.i64 (2:Int),AV.int IntKind.i64 (2800:Int)]]]]=y.snd.snd.snd.snd.snd.snd.snd∧True else False else False else False else False else SrcQ (List.take (2000 :
  Nat) xs) x.snd.snd.snd.snd.snd.fst∧∀ (v j:Int),NumQ (6:Int) v j→(∃ x_1,L2P x_1∧((0:Nat)=(0:Nat)∧x.fst=x_1.fst∧(0:Nat)=(0:Nat)∧List.length
  x.snd.snd.snd.snd.snd.snd.snd=List.length x_1.snd.snd.snd.snd.snd.snd.snd.snd.snd∧(↑(List.length x.snd.snd.snd.snd.snd.snd.snd):Int)=x_1.snd.snd.snd.snd.snd.snd.fst∧v =
  x_1.snd.snd.snd.snd.snd.snd.snd.fst∧True)∧((True∧List.take (2000:Nat) xs=List.take (2000:Nat) xs)∧j=x_1.snd.snd.snd.snd.snd.fst∧True)∧(x.snd.fst=x_1.snd.fst ∧
  x.snd.snd.fst=x_1.snd.snd.fst∧x.snd.snd.snd.fst=x_1.snd.snd.snd.fst∧x.snd.snd.snd.snd.fst=x_1.snd.snd.snd.snd.fst∧True)∧x.snd.snd.snd.snd.snd.snd.snd =
  x_1.snd.snd.snd.snd.snd.snd.snd.snd.snd∧True)∧∀ (x:Int × Int × Int × Int × Int × Int × Int × Int × Int × LL),L2P x→bif decide ((0:Int) <
  x.snd.snd.snd.snd.snd.snd.snd.fst) then bif decide (rng IntKind.i64 ((65:Int)+x.snd.snd.snd.snd.snd.snd.snd.fst)) then SrcQ (List.take (2000:Nat) xs)
  x.snd.snd.snd.snd.snd.fst∧∀ (f a b c j:Int),PlaQ f a b c j→bif decide (List.length x.snd.snd.snd.snd.snd.snd.snd.snd.snd=List.length x.snd.snd.snd.snd.snd.snd.snd.snd.snd
 ∧List.length x.snd.snd.snd.snd.snd.snd.snd.snd.snd+[[AV.int IntKind.i64 (2:Int),AV.str ({ data:=#[(66:UInt8),(66:UInt8),(66:UInt8),(66:UInt8)] }++strOfNums
  [IntKind.u8.wrap ((65:Int)+x.snd.snd.snd.snd.snd.snd.snd.fst)]),AV.int IntKind.i64 (0:Int),AV.int IntKind.i64 f,AV.int IntKind.i64 a,AV.int IntKind.i64 b,AV.int
  IntKind.i64 c,AV.sl (2:Nat) false [[AV.int IntKind.i64 (2:Int),AV.int IntKind.i64 (2800:Int)]]]].length≤(9223372036854775807:Nat)∧(List.length
  x.snd.snd.snd.snd.snd.snd.snd.snd.snd+[[AV.int IntKind.i64 (2:Int),AV.str ({ data:=#[(66:UInt8),(66:UInt8),(66:UInt8),(66:UInt8)] }++strOfNums [IntKind.u8.wrap
  ((65:Int)+x.snd.snd.snd.snd.snd.snd.snd.fst)]),AV.int IntKind.i64 (0:Int),AV.int IntKind.i64 f,AV.int IntKind.i64 a,AV.int IntKind.i64 b,AV.int IntKind.i64 c,AV.sl (2 :
  Nat) false [[AV.int IntKind.i64 (2:Int),AV.int IntKind.i64 (2800:Int)]]]].length)*(88:Nat)≤(140737488355328:Nat)) then bif decide (rng IntKind.i64
  (x.snd.snd.snd.snd.snd.snd.snd.fst - (1:Int))) then ∃ y,L2P y∧(l2I (List.take (2000:Nat) xs)).m y < (l2I (List.take (2000:Nat) xs)).m x∧((0:Nat)=(0:Nat)∧x.fst =
  y.fst∧(0:Nat)=(0:Nat)∧(x.snd.snd.snd.snd.snd.snd.snd.snd.snd++[[AV.int IntKind.i64 (2:Int),AV.str ({ data:=#[(66:UInt8),(66:UInt8),(66:UInt8),(66 :
  UInt8)] }++strOfNums [IntKind.u8.wrap ((65:Int)+x.snd.snd.snd.snd.snd.snd.snd.fst)]),AV.int IntKind.i64 (0:Int),AV.int IntKind.i64 f,AV.int IntKind.i64 a,AV.int
  IntKind.i64 b,AV.int IntKind.i64 c,AV.sl (2:Nat) false [[AV.int IntKind.i64 (2:Int),AV.int IntKind.i64 (2800:Int)]]]]).length=List.length
  y.snd.snd.snd.snd.snd.snd.snd.snd.snd∧x.snd.snd.snd.snd.snd.snd.fst=y.snd.snd.snd.snd.snd.snd.fst∧x.snd.snd.snd.snd.snd.snd.snd.fst - (1:Int) =
  y.snd.snd.snd.snd.snd.snd.snd.fst∧True)∧((True∧List.take (2000:Nat) xs=List.take (2000:Nat) xs)∧j=y.snd.snd.snd.snd.snd.fst∧True)∧(x.snd.fst=y.snd.fst ∧
  x.snd.snd.fst=y.snd.snd.fst∧x.snd.snd.snd.fst=y.snd.snd.snd.fst∧x.snd.snd.snd.snd.fst=y.snd.snd.snd.snd.fst∧True)∧x.snd.snd.snd.snd.snd.snd.snd.snd.snd++[[AV.int
  IntKind.i64 (2:Int),AV.str ({ data:=#[(66:UInt8),(66:UInt8),(66:UInt8),(66:UInt8)] }++strOfNums [IntKind.u8.wrap ((65:Int) +
  x.snd.snd.snd.snd.snd.snd.snd.fst)]),AV.int IntKind.i64 (0:Int),AV.int IntKind.i64 f,AV.int IntKind.i64 a,AV.int IntKind.i64 b,AV.int IntKind.i64 c,AV.sl (2:Nat) false
  [[AV.int IntKind.i64 (2:Int),AV.int IntKind.i64 (2800:Int)]]]]=y.snd.snd.snd.snd.snd.snd.snd.snd.snd∧True else False else False else False else (GneP nrm x.fst x.snd.fst
  x.snd.snd.fst x.snd.snd.snd.fst x.snd.snd.snd.snd.fst∧vld x.snd.fst x.snd.snd.fst x.snd.snd.snd.fst x.snd.snd.snd.snd.fst=true)∧(∃ x_1,L3P x_1∧(x.fst=x_1.fst ∧
  (List.length x.snd.snd.snd.snd.snd.snd.snd.snd.snd=List.length x.snd.snd.snd.snd.snd.snd.snd.snd.snd∧x.snd.snd.snd.snd.snd.snd.snd.snd.snd=x_1.snd.snd.snd.snd) ∧
  x.snd.snd.snd.snd.snd.snd.fst=x_1.snd.snd.fst∧neaV nrm (ptG nrm x.fst).snd x.fst x.snd.fst x.snd.snd.fst x.snd.snd.snd.fst x.snd.snd.snd.snd.fst=x_1.snd.fst∧(0:Int)=(0
 :Int)∧(0:Int)=x_1.snd.snd.snd.fst∧True)∧True)∧∀ (x:Int × Int × Int × Int × LL),L3P x→bif decide (x.snd.snd.snd.fst < x.snd.snd.fst) then BneP nrm x.fst
  x.snd.snd.snd.fst x.snd.snd.snd.snd∧(∃ x_1,L4P x.snd.snd.snd.fst x.snd.snd.fst x_1∧(x.fst=x_1.fst∧(True∧x.snd.snd.snd.snd=x_1.snd.snd.snd)∧x.snd.snd.fst =
  x.snd.snd.fst∧x.snd.fst=x_1.snd.fst∧(0:Int)=(0:Int)∧x.snd.snd.snd.fst=x.snd.snd.snd.fst∧(True∧intsL (arN (nxtG nrm x.fst) x.snd.snd.snd.snd (atL nrm x.fst
  x.snd.snd.snd.snd) x.snd.snd.snd.fst.toNat (List.length x.snd.snd.snd.snd))=intsL (arN (nxtG YtgbbmadjdaphnaaGreatDoor.nrm x_1.fst) x_1.snd.snd.snd (atL
  YtgbbmadjdaphnaaGreatDoor.nrm x_1.fst x_1.snd.snd.snd) x.snd.snd.snd.fst.toNat (List.length x_1.snd.snd.snd)))∧(↑(List.length x.snd.snd.snd.snd):Int)=(↑(List.length
  x_1.snd.snd.snd):Int)∧(0:Int)=x_1.snd.snd.fst∧True)∧True)∧∀ (x_1:Int × Int × Int × LL),L4P x.snd.snd.snd.fst x.snd.snd.fst x_1→bif decide (x_1.snd.snd.fst <
  (↑(List.length x_1.snd.snd.snd):Int)) then bif decide ((0:Int)≤x_1.snd.snd.fst∧x_1.snd.snd.fst < (↑(List.length x_1.snd.snd.snd):Int)) then ∃ n n_1 n_2 n_3,List.take
  [AV.int IntKind.i64 n,AV.int IntKind.i64 n_1,AV.int IntKind.i64 n_2,AV.int IntKind.i64 n_3].length (List.drop (3:Nat) (List.getD x_1.snd.snd.snd x_1.snd.snd.fst.toNat [])) =
  [AV.int IntKind.i64 n,AV.int IntKind.i64 n_1,AV.int IntKind.i64 n_2,AV.int IntKind.i64 n_3]∧(GneP nrm x_1.fst n n_1 n_2 n_3∧vld n n_1 n_2 n_3=true)∧HopP nrm x_1.fst
  x_1.snd.fst (neaV nrm (ptG nrm x_1.fst).snd x_1.fst n n_1 n_2 n_3)∧∀ (d:Int),HopQ nrm x_1.fst x_1.snd.fst (neaV nrm (ptG nrm x_1.fst).snd x_1.fst n n_1 n_2 n_3) d→(intsL
  (arN (nxtG YtgbbmadjdaphnaaGreatDoor.nrm x_1.fst) x_1.snd.snd.snd (atL YtgbbmadjdaphnaaGreatDoor.nrm x_1.fst x_1.snd.snd.snd) x.snd.snd.snd.fst.toNat (List.length x_1.snd.snd.snd))
 =intsL (ungI (intsL (arN (nxtG YtgbbmadjdaphnaaGreatDoor.nrm x_1.fst) x_1.snd.snd.snd (atL YtgbbmadjdaphnaaGreatDoor.nrm x_1.fst x_1.snd.snd.snd) x.snd.snd.snd.fst.toNat
  (List.length x_1.snd.snd.snd))))∧(intsL (arN (nxtG YtgbbmadjdaphnaaGreatDoor.nrm x_1.fst) x_1.snd.snd.snd (atL YtgbbmadjdaphnaaGreatDoor.nrm x_1.fst x_1.snd.snd.snd)
  x.snd.snd.snd.fst.toNat (List.length x_1.snd.snd.snd))).length≤(1000000:Nat))∧bif decide ¬x_1.snd.snd.fst=x.snd.snd.snd.fst then bif !decide (decide (x_1.snd.snd.fst ∈ ungI
  (intsL (arN (nxtG YtgbbmadjdaphnaaGreatDoor.nrm x_1.fst) x_1.snd.snd.snd (atL YtgbbmadjdaphnaaGreatDoor.nrm x_1.fst x_1.snd.snd.snd) x.snd.snd.snd.fst.toNat (List.length
  x_1.snd.snd.snd))))=decide (d≤(1:Int))) then false=true else bif decide (x_1.snd.snd.fst < x.snd.snd.fst) then bif decide ¬d=(0:Int) then false=true else bif decide
  (rng IntKind.i64 (x_1.snd.snd.fst+(1:Int))) then ∃ y,L4P x.snd.snd.snd.fst x.snd.snd.fst y∧(l4I x.snd.snd.snd.fst x.snd.snd.fst).m y < (l4I x.snd.snd.snd.fst
  x.snd.snd.fst).m x_1∧(x_1.fst=y.fst∧(True∧x_1.snd.snd.snd=y.snd.snd.snd)∧x.snd.snd.fst=x.snd.snd.fst∧x_1.snd.fst=y.snd.fst∧(0:Int)=(0:Int) ∧
  x.snd.snd.snd.fst=x.snd.snd.snd.fst∧(True∧intsL (arN (nxtG YtgbbmadjdaphnaaGreatDoor.nrm x_1.fst) x_1.snd.snd.snd (atL YtgbbmadjdaphnaaGreatDoor.nrm x_1.fst x_1.snd.snd.snd)
  x.snd.snd.snd.fst.toNat (List.length x_1.snd.snd.snd))=intsL (arN (nxtG YtgbbmadjdaphnaaGreatDoor.nrm y.fst) y.snd.snd.snd (atL YtgbbmadjdaphnaaGreatDoor.nrm y.fst y.snd.snd.snd)
  x.snd.snd.snd.fst.toNat (List.length y.snd.snd.snd)))∧(↑(List.length x_1.snd.snd.snd):Int)=(↑(List.length y.snd.snd.snd):Int)∧x_1.snd.snd.fst+(1:Int)=y.snd.snd.fst
 ∧True)∧True else False else bif decide (rng IntKind.i64 (x_1.snd.snd.fst+(1:Int))) then ∃ y,L4P x.snd.snd.snd.fst x.snd.snd.fst y∧(l4I x.snd.snd.snd.fst x.snd.snd.fst).m
  y < (l4I x.snd.snd.snd.fst x.snd.snd.fst).m x_1∧(x_1.fst=y.fst∧(True∧x_1.snd.snd.snd=y.snd.snd.snd)∧x.snd.snd.fst=x.snd.snd.fst∧x_1.snd.fst=y.snd.fst∧(0:Int)
 =(0:Int)∧x.snd.snd.snd.fst=x.snd.snd.snd.fst∧(True∧intsL (arN (nxtG YtgbbmadjdaphnaaGreatDoor.nrm x_1.fst) x_1.snd.snd.snd (atL YtgbbmadjdaphnaaGreatDoor.nrm x_1.fst
  x_1.snd.snd.snd) x.snd.snd.snd.fst.toNat (List.length x_1.snd.snd.snd))=intsL (arN (nxtG YtgbbmadjdaphnaaGreatDoor.nrm y.fst) y.snd.snd.snd (atL YtgbbmadjdaphnaaGreatDoor.nrm
  y.fst y.snd.snd.snd) x.snd.snd.snd.fst.toNat (List.length y.snd.snd.snd)))∧(↑(List.length x_1.snd.snd.snd):Int)=(↑(List.length y.snd.snd.snd):Int)∧x_1.snd.snd.fst+(1 :
  Int)=y.snd.snd.fst∧True)∧True else False else bif !decide (decide (x_1.snd.snd.fst ∈ ungI (intsL (arN (nxtG YtgbbmadjdaphnaaGreatDoor.nrm x_1.fst) x_1.snd.snd.snd (atL
  YtgbbmadjdaphnaaGreatDoor.nrm x_1.fst x_1.snd.snd.snd) x.snd.snd.snd.fst.toNat (List.length x_1.snd.snd.snd))))=false) then false=true else bif decide (x_1.snd.snd.fst <
  x.snd.snd.fst) then bif decide ¬d=(0:Int) then false=true else bif decide (rng IntKind.i64 (x_1.snd.snd.fst+(1:Int))) then ∃ y,L4P x.snd.snd.snd.fst x.snd.snd.fst y ∧
  (l4I x.snd.snd.snd.fst x.snd.snd.fst).m y < (l4I x.snd.snd.snd.fst x.snd.snd.fst).m x_1∧(x_1.fst=y.fst∧(True∧x_1.snd.snd.snd=y.snd.snd.snd)∧x.snd.snd.fst =
  x.snd.snd.fst∧x_1.snd.fst=y.snd.fst∧(0:Int)=(0:Int)∧x.snd.snd.snd.fst=x.snd.snd.snd.fst∧(True∧intsL (arN (nxtG YtgbbmadjdaphnaaGreatDoor.nrm x_1.fst)
  x_1.snd.snd.snd (atL YtgbbmadjdaphnaaGreatDoor.nrm x_1.fst x_1.snd.snd.snd) x.snd.snd.snd.fst.toNat (List.length x_1.snd.snd.snd))=intsL (arN (nxtG YtgbbmadjdaphnaaGreatDoor.nrm
  y.fst) y.snd.snd.snd (atL YtgbbmadjdaphnaaGreatDoor.nrm y.fst y.snd.snd.snd) x.snd.snd.snd.fst.toNat (List.length y.snd.snd.snd)))∧(↑(List.length x_1.snd.snd.snd):Int) =
  (↑(List.length y.snd.snd.snd):Int)∧x_1.snd.snd.fst+(1:Int)=y.snd.snd.fst∧True)∧True else False else bif decide (rng IntKind.i64 (x_1.snd.snd.fst+(1:Int))) then ∃
  y,L4P x.snd.snd.snd.fst x.snd.snd.fst y∧(l4I x.snd.snd.snd.fst x.snd.snd.fst).m y < (l4I x.snd.snd.snd.fst x.snd.snd.fst).m x_1∧(x_1.fst=y.fst∧(True∧x_1.snd.snd.snd =
  y.snd.snd.snd)∧x.snd.snd.fst=x.snd.snd.fst∧x_1.snd.fst=y.snd.fst∧(0:Int)=(0:Int)∧x.snd.snd.snd.fst=x.snd.snd.snd.fst∧(True∧intsL (arN (nxtG
  YtgbbmadjdaphnaaGreatDoor.nrm x_1.fst) x_1.snd.snd.snd (atL YtgbbmadjdaphnaaGreatDoor.nrm x_1.fst x_1.snd.snd.snd) x.snd.snd.snd.fst.toNat (List.length x_1.snd.snd.snd))=intsL
  (arN (nxtG YtgbbmadjdaphnaaGreatDoor.nrm y.fst) y.snd.snd.snd (atL YtgbbmadjdaphnaaGreatDoor.nrm y.fst y.snd.snd.snd) x.snd.snd.snd.fst.toNat (List.length y.snd.snd.snd))) ∧
  (↑(List.length x_1.snd.snd.snd):Int)=(↑(List.length y.snd.snd.snd):Int)∧x_1.snd.snd.fst+(1:Int)=y.snd.snd.fst∧True)∧True else False else False else bif decide
  (rng IntKind.i64 (x.snd.snd.snd.fst+(1:Int))) then ∃ y,L3P y∧l3I.m y < l3I.m x∧(x_1.fst=y.fst∧(True∧x_1.snd.snd.snd=y.snd.snd.snd.snd)∧x.snd.snd.fst =
  y.snd.snd.fst∧x_1.snd.fst=y.snd.fst∧(0:Int)=(0:Int)∧x.snd.snd.snd.fst+(1:Int)=y.snd.snd.snd.fst∧True)∧True else False else True∧true=true
theorem ltnear_P:ltnear_T nrm vld adr:=by
 unfold ltnear_T
 intro xs hz _
 have hs:SrcI (List.take 2000 xs):=SrcI.take hz
 refine ⟨trivial,⟨⟨hs,by decide⟩,by decide,by decide,by decide⟩,fun n j q1=>⟨⟨hs,q1.2⟩,fun f a b c j q2=>⟨trivial,?_⟩⟩⟩
 have hv:=q2.fv
 have hn:=q1.1
 have hj:=q2.fj
 rw [show err (vld f a b c)=0 by unfold err; rw [vld_t hv]; rfl]
 refine cd0 (by decide) ⟨⟨(n,f,a,b,c,j,0,[]),⟨hn,hv,hj,Int.le_refl 0,rfl,by simp only; omega,fun k hk=>by simp at hk⟩,by (repeat' (first | exact trivial | exact rfl | assumption | apply And.intro))⟩,?_⟩
 clear q1 q2 hv hn hj n f a b c j
 rintro ⟨n,f,a,b,c,j,i,rs⟩ h1
 have hn:=h1.n
 have hv:=h1.v
 have hj:=h1.j
 have h0:=h1.lo
 have hl:=h1.len
 have hh:=h1.hi
 simp only at hn hv hj h0 hl hh
 have l5:=adr_le hv
 refine csp (fun hi=>?_) (fun hi=>?_)
 ·simp only at hi
  obtain ⟨x,y,z,w,e,_⟩:=adr_at hv (k:=i.toNat) (by omega)
  exact cd1 ⟨h0,hi⟩ ⟨x,y,z,w,by rw [e]; rfl,cdI (by simp only; omega) (cd1 ⟨rfl,by simp only [List.length_singleton]; omega,by simp only [List.length_singleton]; omega⟩ (cdI (by simp only; omega) ⟨(n,f,a,b,c,j,i+1,rs++[rpR (nmA i) x y z w]),h1.step hi e,by simp only [l1I]; omega,by (repeat' (first | exact trivial | exact rfl | assumption | apply And.intro))⟩))⟩
 ·simp only at hi
  refine ⟨⟨hs,hj⟩,fun k j' q3=>?_⟩
  have hk:=q3.fv (by decide)
  have hj':=q3.fj
  refine ⟨⟨(n,f,a,b,c,j',rs.length,k,k,rs),h1.next hi hj' (by omega),by (repeat' (first | exact trivial | exact rfl | assumption | apply And.intro))⟩,?_⟩
  clear q3 hk hj' k j' hn hv hj h0 hl hh hi l5 h1 n f a b c j i rs
  rintro ⟨n,f,a,b,c,j,s,i,i0,rs⟩ h2
  have hn:=h2.n
  have hv:=h2.v
  have hj:=h2.j
  have hl:=h2.len
  have hh:=h2.hi
  have h0:=h2.lo
  have hsm:=h2.sm
  simp only at hn hv hj hl hh h0 hsm
  have l5:=adr_le hv
  refine csp (fun hi=>?_) (fun hi=>?_)
  ·simp only at hi
   exact cdI (by simp only; omega) ⟨⟨hs,hj⟩,fun f' a' b' c' j' q4=>cd1 ⟨rfl,by simp only [List.length_singleton]; omega,by simp only [List.length_singleton]; omega⟩ (cdI (by simp only; omega) ⟨(n,f,a,b,c,j',s,i - 1,i0,rs++[rpR (nmB i) f' a' b' c']),h2.step hi q4.fv q4.fj,by simp only [l2I]; omega,by (repeat' (first | exact trivial | exact rfl | assumption | apply And.intro))⟩)⟩
  ·simp only at hi
   have hw:=h2.lw hi
   refine ⟨⟨⟨hn.1,hn.2,hv,grd_rg hn⟩,vld_t hv⟩,⟨(n,neaV nrm (ptG nrm n).2 n f a b c,s,0,rs),⟨hw,Int.le_refl 0,hw.sm.1⟩,by (repeat' (first | exact trivial | exact rfl | assumption | apply And.intro))⟩,?_⟩
   clear hw hi hn hv hj hl hh h0 hsm l5 h2 n f a b c j s i i0 rs
   rintro ⟨n,own,s,i,rs⟩ h3
   have hw:=h3.w
   have h0:=h3.lo
   have h1:=h3.hi
   simp only at hw h0 h1
   have hsm:=hw.sm
   refine csp (fun hi=>?_) (fun hi=>⟨trivial,rfl⟩)
   simp only at hi
   have hle:=hw.rp.le
   refine ⟨hw.bne ⟨h0,hi⟩,⟨(n,own,0,rs),⟨hw,⟨h0,hi⟩,Int.le_refl 0,by simp only; omega⟩,by (repeat' (first | exact trivial | exact rfl | assumption | apply And.intro))⟩,?_⟩
   clear hle hsm hw h1 h3
   rintro ⟨n,own,k,rs⟩ h4
   have hw:=h4.w
   have k0:=h4.lo
   have k1:=h4.hi
   simp only at hw k0 k1
   have hle:=hw.rp.le
   have hsm:=hw.sm
   have hn:=hw.nn
   refine csp (fun hk=>?_) (fun hk=>?_)
   ·simp only at hk
    obtain ⟨nm,x,y,z,w,q,t,e,hv,ea,en⟩:=hw.at_in (k:=k.toNat) (by omega)
    have hg:=grd hn
    have ho:0≤own∧own < (ptG nrm n).1.length:=by
     obtain ⟨_,_,_,_,_,_,_,_,_,eo,en⟩:=hw.at_in (k:=i.toNat) (by omega)
     rw [← eo,hw.ow i.toNat (by omega)] at en
     exact en
    refine cd1 ⟨k0,hk⟩ ⟨x,y,z,w,by rw [e]; rfl,⟨⟨hn.1,hn.2,hv,grd_rg hn⟩,vld_t hv⟩,hg.hop ho en,fun d hd=>?_⟩
    rw [← ea] at hd
    obtain ⟨f1,f2⟩:=hw.fin ⟨h0,hi⟩ ⟨k0,hk⟩ hd
    have hlen:(arN (nxtG nrm n) rs (atL nrm n rs) i.toNat rs.length).length≤rs.length:=arN_len
    rw [ungI_ints]
    refine ⟨⟨rfl,by rw [intsL_len]; exact Nat.le_trans hlen (by omega)⟩,?_⟩
    have en:∀ {E:Prop},E→cond (decide (k < s)) (cond (decide (¬ d=0)) (false=true) E) E:=fun e=>csp (fun q=>cd0 (fun h=>h (f2 q)) e) (fun _=>e)
    by_cases hki:k=i
    ·have m:decide (k ∈ arN (nxtG nrm n) rs (atL nrm n rs) i.toNat rs.length)=false:=decide_eq_false (fun m=>(f1.1 m).1 hki)
     exact cd0 (fun h=>h hki) (c0 (nb0 m) (en (cdI (by simp only; omega) ⟨(n,own,k+1,rs),⟨hw,⟨h0,hi⟩,by simp only; omega,by simp only; omega⟩,by simp only [l4I]; omega,by (repeat' (first | exact trivial | exact rfl | assumption | apply And.intro))⟩)))
    ·have m:decide (k ∈ arN (nxtG nrm n) rs (atL nrm n rs) i.toNat rs.length)=decide (d≤1):=decide_eq_decide.2 ⟨fun m=>(f1.1 m).2,fun q=>f1.2 ⟨hki,q⟩⟩
     exact cd1 hki (c0 (nb0 m) (en (cdI (by simp only; omega) ⟨(n,own,k+1,rs),⟨hw,⟨h0,hi⟩,by simp only; omega,by simp only; omega⟩,by simp only [l4I]; omega,by (repeat' (first | exact trivial | exact rfl | assumption | apply And.intro))⟩)))
   ·simp only at hk
    exact cdI (by simp only; omega) ⟨(n,own,s,i+1,rs),⟨hw,by simp only; omega,by simp only; omega⟩,by simp only [l3I]; omega,by (repeat' (first | exact trivial | exact rfl | assumption | apply And.intro))⟩
def ltnear_S (nrm:Int→Int→Int→Int→Int × Int × Int × Int) (vld:Int→Int→Int→Int→Bool) (adr:Int→Int→Int→Int→List (List AV)):Prop:=∀ (xs:List (List AV)),IntsA xs→fnK Tryz.prog { glob:=glb,spec:=lk [(9,(addresses_s vld adr)),(11,(gnear_s nrm vld)),(14,kin_s),(15,(aw21_s nrm vld))],specH:=lk [(6,newsrc_s),(12,(bnei_s nrm))],specQ:=lk [(7,qrange_s),(10,qn_s),(8,qplace_s),(13,(ghops_s nrm))],shape:=[42,114],slz:=[(114,[2])],nowf:=true,bst:=[39] } { nt:=155,drop:=drp [(1,25165824),(2,100663296),(3,402653184),(4,16642998272),(5,17179869184),(10,7696581394432),(11,72048797944905728),(12,72057594037927936),(13,432345564227567616),(14,1729382256910270464),(15,2305843009213693952),(16,27670116110564327424),(17,604426016319167168249856),(18,38081163317860819003244544),(20,116056878683004400771792896),(21,928455029464035206174343168),(22,157218384989243294912188776448),(23,4912146075884388930799724920832),(25,10141204801825835211973625643008),(27,162259276829213363391578010288128),(28,331982480392570541499168609049509888),(29,42202988866171078964695874163900940288),(30,5708990728288543659115835944876154616559960064),(32,11417981541647679048466287755595961091061972992),(33,22835963083295358096932575511191922182123945984)],frz:=fun id=>cond (Nat.beq id 18) [1001900] [],emp:=fun id=>cond (Nat.beq id 8) [(8,1900,39,8)] [] } (fun id st=>inv2 26 15 11 l4I id st (invs [(9,l1I (List.take 2000 xs)),(15,l2I (List.take 2000 xs)),(20,l3I)] id st)) 6 Tryz.f3 [.sl 1 false xs] (.bool true)
theorem ltnear_e (nrm:Int→Int→Int→Int→Int × Int × Int × Int) (vld:Int→Int→Int→Int→Bool) (adr:Int→Int→Int→Int→List (List AV)):ltnear_T nrm vld adr=ltnear_S nrm vld adr:=by kernel_rfl
theorem ltnear_v:ltnear_S nrm vld adr:=Eq.mp (ltnear_e ..) (ltnear_P)
theorem ltnear_ok:SOK Tryz.prog glb 3 (ltnear_s nrm vld adr):=by
 refine ⟨fok Tryz.func3 (by kernel_rfl) (by kernel_rfl),?_⟩
 intro xs pre r h hp
 unfold ltnear_s at h
 split at h
 ·simp only [Option.some.injEq,Prod.mk.injEq] at h
  obtain ⟨h1,h2⟩:=h
  subst h1 h2
  exact fnK_sound tyNil (by exact specOK rfl rfl ⟨(addresses_ok),(gnear_ok),(kin_ok glb),(aw21_ok),trivial⟩ ⟨(newsrc_ok glb),(bnei_ok),trivial⟩ (d:=qsOf rfl ⟨(qrange_ok glb),(qn_ok glb),(qplace_ok glb),(ghops_ok),trivial⟩)) (by kernel_rfl) Tryz.func3 rfl (ltnear_v  _ hp)
 ·cases h
end Go.Proofs.YtgbbmadjdaphnaaGreatDoor
namespace Go.Proofs.YtgbbmadjdaphnaaGreatDoor
open Go
open Go.ChangeShapes Go.WideShapes
open Go.RowKit (Below)
set_option linter.unusedVariables false
set_option linter.unusedSimpArgs false
def pinAll (w:World):Pin:=fun b o=>match w.cell? ⟨b,o,none⟩ with | some v=>cond v.oneCell' (some v) none | none=>none
theorem pinAll_some {w:World} {b o:Nat} {v:Value} (h:w.cell? ⟨b,o,none⟩=some v) (k:v.oneCell'=true):pinAll w b o=some v:=by simp [pinAll,h,k]
theorem agree_all (w:World):Agree (pinAll w) w:=by
 intro b o v h
 unfold pinAll at h
 split at h
 ·next u e =>
  cases hk:u.oneCell' with
  | true=>rw [hk] at h; simp only [cond_true,Option.some.injEq] at h; subst h; exact ⟨e,hk⟩
  | false=>rw [hk] at h; cases h
 ·cases h
def tiles (P:Program):List Field→Nat→Nat→Bool
 | [],o,n=>Nat.beq o n
 | f::fs,o,n=>Nat.beq f.offset o&&tiles P fs (o+P.cellsOf f.type) n
def supp (P:Program):Nat→TypeId→Bool
 | 0,_=>false
 | n+1,t=>match P.underlying t with
  | some .bool=>true
  | some (.int _)=>true
  | some .string=>true
  | some (.slice e)=>Nat.blt 0 (P.cellsOf e)&&supp P n e
  | some (.struct fs)=>tiles P fs.toList 0 (P.cellsOf t)&&fs.toList.all fun f=>supp P n f.type
  | some (.array m e)=>Nat.beq (m*P.cellsOf e) (P.cellsOf t)&&supp P n e
  | _=>false
def ShF (P:Program) (sh:TypeId→List AV→Prop):List Field→List AV→Prop
 | [],cs=>cs=[]
 | f::fs,cs=>∃ ys zs,sh f.type ys∧ShF P sh fs zs∧cs=ys++zs
def ShE (sh:List AV→Prop):Nat→List AV→Prop
 | 0,cs=>cs=[]
 | n+1,cs=>∃ ys zs,sh ys∧ShE sh n zs∧cs=ys++zs
def Sh (P:Program):Nat→TypeId→List AV→Prop
 | 0,_,_=>False
 | n+1,t,cs=>match P.underlying t with
  | some .bool=>∃ b,cs=[.bool b]
  | some (.int k)=>∃ z,rng k z∧cs=[.int k z]
  | some .string=>∃ s:ByteArray,s.size≤9223372036854775807∧cs=[.str s]
  | some (.slice e)=>∃ xs:List (List AV),xs.length≤9223372036854775807∧(∀ x ∈ xs,Sh P n e x)∧cs=[.sl (P.cellsOf e) false xs]
  | some (.struct fs)=>ShF P (Sh P n) fs.toList cs
  | some (.array m e)=>ShE (Sh P n e) m cs
  | _=>False
theorem shF_of {P:Program} {S:Pin} {sh:TypeId→List AV→Prop} {vs:List Value}:∀ (fs:List Field) (o tot:Nat),tiles P fs o tot=true→vs.length=tot →
  (∀ f ∈ fs,∃ ys,sh f.type ys∧allOne ys=true∧CVl S ys noNm ((vs.drop f.offset).take (P.cellsOf f.type)))→∃ cs,ShF P sh fs cs∧allOne cs=true∧CVl S cs noNm (vs.drop o)
 | [],o,tot,ht,hl,_=>by
  simp only [tiles] at ht
  have:=Nat.eq_of_beq_eq_true ht
  exact ⟨[],rfl,rfl,by simp only [CVl]; exact List.drop_eq_nil_of_le (by omega)⟩
 | f::fs,o,tot,ht,hl,h=>by
  simp only [tiles,Bool.and_eq_true] at ht
  obtain ⟨ho,ht⟩:=ht
  have ho:=Nat.eq_of_beq_eq_true ho
  obtain ⟨ys,h1,h2,h3⟩:=h f (List.mem_cons_self ..)
  obtain ⟨zs,k1,k2,k3⟩:=shF_of fs _ tot ht hl (fun g hg=>h g (List.mem_cons_of_mem _ hg))
  refine ⟨ys++zs,⟨ys,zs,h1,k1,rfl⟩,allOne_append h2 k2,?_⟩
  rw [ho] at h3
  have e:vs.drop o=(vs.drop o).take (P.cellsOf f.type)++vs.drop (o+P.cellsOf f.type):=by
   rw [← List.drop_drop]; exact (List.take_append_drop _ _).symm
  rw [e]
  exact CVl.append h3 k3
where allOne_append:∀ {xs ys:List AV},allOne xs=true→allOne ys=true→allOne (xs++ys)=true
 | [],ys,_,h=>h
 | x::xs,ys,h,k=>by
  simp only [allOne,Bool.and_eq_true,List.cons_append] at h ⊢
  exact ⟨h.1,allOne_append h.2 k⟩
theorem shE_of {S:Pin} {sh:List AV→Prop} {s:Nat}:∀ (n:Nat) (vs:List Value),vs.length=n*s→(∀ i,i < n→∃ ys,sh ys∧allOne ys=true∧CVl S ys noNm ((vs.drop (i*s)).take s)) →
  ∃ cs,ShE sh n cs∧allOne cs=true∧CVl S cs noNm vs
 | 0,vs,hl,_=>⟨[],rfl,rfl,by simp only [CVl]; exact List.eq_nil_of_length_eq_zero (by omega)⟩
 | n+1,vs,hl,h=>by
  obtain ⟨ys,h1,h2,h3⟩:=h 0 (by omega)
  have hl':vs.length=n*s+s:=by rw [hl,Nat.succ_mul]
  obtain ⟨zs,k1,k2,k3⟩:=shE_of n (vs.drop s) (by rw [List.length_drop,hl',Nat.add_sub_cancel]) (fun i hi=>by
   obtain ⟨q,q1,q2,q3⟩:=h (i+1) (by omega)
   refine ⟨q,q1,q2,?_⟩
   rw [List.drop_drop,show s+i*s=(i+1)*s by rw [Nat.succ_mul]; omega]
   exact q3)
  refine ⟨ys++zs,⟨ys,zs,h1,k1,rfl⟩,shF_of.allOne_append h2 k2,?_⟩
  rw [Nat.zero_mul,List.drop_zero] at h3
  have e:vs=vs.take s++vs.drop s:=(List.take_append_drop _ _).symm
  rw [e]
  exact CVl.append h3 k3
theorem list_of {α:Type} {p:Nat→α→Prop}:∀ (n:Nat),(∀ i,i < n→∃ x,p i x)→∃ xs:List α,xs.length=n∧∀ i x,xs[i]?=some x→p i x
 | 0,_=>⟨[],rfl,by simp⟩
 | n+1,h=>by
  obtain ⟨xs,h1,h2⟩:=list_of n (fun i hi=>h i (by omega))
  obtain ⟨x,hx⟩:=h n (by omega)
  refine ⟨xs++[x],by simp [h1],fun i y hy=>?_⟩
  rcases Nat.lt_or_ge i xs.length with hi | hi
  ·rw [List.getElem?_append_left hi] at hy; exact h2 i y hy
  ·rw [List.getElem?_append_right hi] at hy
   rcases Nat.eq_zero_or_pos (i - xs.length) with h0 | h0
   ·rw [h0] at hy
    simp only [List.getElem?_cons_zero,Option.some.injEq] at hy
    rw [← hy,show i=n by omega]; exact hx
   ·rw [List.getElem?_eq_none (by simp; omega)] at hy; cases hy
section
variable {H:Type} {enc:TypeId × Value→H} {P:Program} {w:World} {base:Nat} {held:Bool}
theorem rng_wf {k:IntKind} {z:Int} (h:(Lit.int k z).wf=true):rng k z:=by
 rw [rng_iff]
 simp only [Lit.wf,Bool.and_eq_true,decide_eq_true_eq] at h
 exact h
theorem in_of_trod:∀ (n:Nat) (t:TypeId) (fuel:Nat) (vs:List Value) (x:DataW H × List MemPlace),supp P n t=true→DataW.trod enc P w base (fun _=>true) held fuel t vs=some x →
  ∃ cs,Sh P n t cs∧allOne cs=true∧CVl (pinAll w) cs noNm vs
 | 0,t,_,_,_,hs,_=>by simp [supp] at hs
 | n+1,t,fuel,vs,x,hs,h=>by
  unfold supp at hs
  unfold Sh
  split at hs
  ·next ht =>
   obtain ⟨b,rfl,_⟩:=DataW.trod_bool ht h
   exact ⟨[.bool b],⟨b,rfl⟩,rfl,_,_,rfl,rfl,rfl⟩
  ·next k ht =>
   obtain ⟨z,rfl,_,hw⟩:=DataW.trod_int ht h
   exact ⟨[.int k z],⟨z,rng_wf hw,rfl⟩,rfl,_,_,rfl,⟨rfl,rng_wf hw⟩,rfl⟩
  ·next ht =>
   obtain ⟨s,rfl,_,hw⟩:=DataW.trod_string ht h
   exact ⟨[.str s],⟨s,hw,rfl⟩,rfl,_,_,rfl,⟨rfl,hw⟩,rfl⟩
  ·next e ht =>
   simp only [Bool.and_eq_true] at hs
   have hs0:0 < P.cellsOf e:=by have:=hs.1; simp [Nat.blt] at this; omega
   rcases DataW.trod_slice ht h with ⟨rfl,_⟩ | ⟨a,len,cap,elems,rest,m,_,rfl,_,hb,hl,hc,hlen,hel,hsp,hns⟩
   ·refine ⟨[.sl (P.cellsOf e) false []],⟨[],by simp,by simp,rfl⟩,rfl,_,_,rfl,⟨none,0,rfl,by simp,by simp,(fun h=>by cases h),(fun _=>rfl),(fun a ha=>by cases ha)⟩,rfl⟩
   ·have each:∀ i,i < len→∃ x,(Sh P n e x)∧∃ cs',w.cells? base (a.add (i*P.cellsOf e)) (P.cellsOf e)=some cs'∧allOne x=true∧CVl (pinAll w) x noNm cs':=by
     intro i hi
     have h1:=hel i hi
     have hx:elems[i]?=some (elems[i]'(by omega)):=List.getElem?_eq_getElem (by omega)
     rw [hx,Option.bind_eq_some_iff] at h1
     obtain ⟨cs',h2,h3⟩:=h1
     obtain ⟨y,k1,k2,k3⟩:=in_of_trod n e m cs' _ hs.2 h3
     exact ⟨y,k1,cs',h2,k2,k3⟩
    obtain ⟨xs,hx1,hx2⟩:=list_of len each
    have hmem:∀ x ∈ xs,Sh P n e x:=by
     intro x hx
     obtain ⟨i,hi⟩:=List.getElem?_of_mem hx
     exact (hx2 i x hi).1
    refine ⟨[.sl (P.cellsOf e) false xs],⟨xs,by unfold maxLen at hc; omega,hmem,rfl⟩,rfl,_,_,rfl,⟨some a,cap,by rw [hx1],by omega,hc,(fun h=>by cases h),(fun h=>by cases h),fun a' ha=>?_⟩,rfl⟩
    cases ha
    have key:∀ (j:Nat) (x:List AV),xs[j]?=some x→∃ cs':List Value,cs'.length=P.cellsOf e∧CVl (pinAll w) x noNm cs'∧allOne x=true∧∀ i,i < P.cellsOf e→w.cell? ((a.add (j*P.cellsOf e)).add i)=cs'[i]?:=by
     intro j x hj
     obtain ⟨_,cs',h2,h3,h4⟩:=hx2 j x hj
     obtain ⟨_,q1,q2⟩:=World.cells?_some h2
     exact ⟨cs',q1,h4,h3,q2⟩
    have spot:cap≠0→a.spot=none:=by
     intro h0
     have h1:∃ cs',w.cells? base (a.add (0*P.cellsOf e)) (P.cellsOf e)=some cs':=by
      rcases Nat.eq_zero_or_pos len with hl0 | hl0
      ·obtain ⟨hr,hr2⟩:=hsp rfl
       have h1:=hr2 0 (by omega)
       have hx:rest[0]?=some (rest[0]'(by omega)):=List.getElem?_eq_getElem (by omega)
       rw [hx,Option.bind_eq_some_iff] at h1
       obtain ⟨cs',h2,_⟩:=h1
       exact ⟨cs',by rw [← h2,hl0]⟩
      ·have h1:=hel 0 hl0
       have hx:elems[0]?=some (elems[0]'(by omega)):=List.getElem?_eq_getElem (by omega)
       rw [hx,Option.bind_eq_some_iff] at h1
       obtain ⟨cs',h2,_⟩:=h1
       exact ⟨cs',h2⟩
     obtain ⟨cs',h2⟩:=h1
     obtain ⟨_,q1,q2⟩:=World.cells?_some h2
     have h3:=q2 0 hs0
     rw [List.getElem?_eq_getElem (by omega)] at h3
     have h4:=World.cell?_spot h3
     simpa [Addr.add] using h4
    refine ⟨spot,CE.mk fun j x hj=>?_⟩
    obtain ⟨cs',k1,k2,k3,k4⟩:=key j x hj
    have hxl:x.length=P.cellsOf e:=by rw [← k1]; exact (CVl.len k2).symm
    refine ⟨hxl,CC.mk fun i y hy=>?_⟩
    obtain ⟨u,hu,hcv⟩:=CVl.get k2 hy
    have hi:i < P.cellsOf e:=by have:=(List.getElem?_eq_some_iff.1 hy).1; omega
    have hj':j < len:=by have:=(List.getElem?_eq_some_iff.1 hj).1; omega
    have hsp:=spot (by omega)
    obtain ⟨b,o,sp⟩:=a
    simp only at hsp
    subst hsp
    have h5:=k4 i hi
    rw [add_none,add_none,hu] at h5
    exact ⟨u,pinAll_some h5 (allOne_cv k2 k3 u (List.mem_of_getElem? hu)),hcv⟩
  ·next fs ht =>
   simp only [Bool.and_eq_true,List.all_eq_true] at hs
   obtain ⟨xs,m,_,_,hl,hxl,hf⟩:=DataW.trod_struct ht h
   obtain ⟨cs,k1,k2,k3⟩:=shF_of (S:=pinAll w) (sh:=Sh P n) (vs:=vs) fs.toList 0 _ hs.1 hl (fun f hfm=>by
    obtain ⟨i,hi⟩:=List.getElem?_of_mem hfm
    have h1:=hf i f (by simpa using hi)
    have hi':i < fs.size:=by have:=(List.getElem?_eq_some_iff.1 hi).1; simpa using this
    rw [List.getElem?_eq_getElem (by omega:i < xs.length)] at h1
    exact in_of_trod n f.type m _ _ (hs.2 f hfm) h1)
   exact ⟨cs,k1,k2,by simpa using k3⟩
  ·next m e ht =>
   simp only [Bool.and_eq_true] at hs
   obtain ⟨xs,q,_,_,hl,hxl,hf⟩:=DataW.trod_array ht h
   have hsz:=Nat.eq_of_beq_eq_true hs.1
   exact shE_of (S:=pinAll w) (sh:=Sh P n e) (s:=P.cellsOf e) m vs (by omega) (fun i hi=>by
    have h1:=hf i hi
    rw [List.getElem?_eq_getElem (by omega:i < xs.length)] at h1
    exact in_of_trod n e q _ _ hs.2 h1)
  ·cases hs
def mkA (P:Program) (t:TypeId) (cs:List AV):AV:=cond (isAg P t) (.agg cs) (match cs with | [x]=>x | _=>.dead)
def ShAll (P:Program):List TypeId→(List AV→Prop)→Prop
 | [],K=>K []
 | t::ts,K=>∀ cs,Sh P 50 t cs→ShAll P ts fun xs=>K (mkA P t cs::xs)
theorem in_one {r:Reach} {b0 n:Nat} {t:TypeId} {v:Value} {fuel:Nat} {x:DataW H × List MemPlace} (hs:supp P n t=true) (hv:Value.okWide P w r b0 t v) (h:DataW.trod enc P w base (fun _=>true) held fuel t v.cells.toList=some x) :
  ∃ cs,Sh P n t cs∧CV (pinAll w) (mkA P t cs) noNm v:=by
 obtain ⟨cs,h1,h2,h3⟩:=in_of_trod n t fuel _ x hs h
 refine ⟨cs,h1,?_⟩
 have one:isAg P t=false→v.cells=#[v]→CV (pinAll w) (mkA P t cs) noNm v:=by
  intro ha hc
  rw [hc] at h3
  unfold mkA
  rw [ha]
  match cs,h3 with
  | [y],h3 =>
   simp only [CVl] at h3
   obtain ⟨u,us,e,hy,hn⟩:=h3
   simp at e
   rw [e.1]; exact hy
  | [],h3=>simp [CVl] at h3
  | _::_::_,h3 =>
   simp [CVl] at h3
   obtain ⟨u,us,⟨_,e⟩,_,u',us',e',_⟩:=h3
   rw [e] at e'; cases e'
 have agg:isAg P t=true→∀ us,v=.agg us→CV (pinAll w) (mkA P t cs) noNm v:=by
  intro ha us e
  subst e
  unfold mkA
  rw [ha]
  exact ⟨us,rfl,h3⟩
 unfold Value.okWide at hv
 cases n with
 | zero=>simp [supp] at hs
 | succ n =>
  unfold supp at hs
  split at hs
  ·next ht =>
   rw [ht] at hv
   simp only [Cell.okWide,Cell.ok,ht] at hv
   refine one (by unfold isAg; rw [ht]) ?_
   split at hv <;> first | rfl | (split at hv <;> first | rfl | cases hv) | cases hv
  ·next k ht =>
   rw [ht] at hv
   simp only [Cell.okWide,Cell.ok,ht] at hv
   refine one (by unfold isAg; rw [ht]) ?_
   split at hv <;> first | rfl | (split at hv <;> first | rfl | cases hv) | cases hv
  ·next ht =>
   rw [ht] at hv
   simp only [Cell.okWide,Cell.ok,ht] at hv
   refine one (by unfold isAg; rw [ht]) ?_
   split at hv <;> first | rfl | (split at hv <;> first | rfl | cases hv) | cases hv
  ·next e ht =>
   rw [ht] at hv
   simp only [Cell.okWide,Cell.ok,ht] at hv
   refine one (by unfold isAg; rw [ht]) ?_
   split at hv <;> first | rfl | (split at hv <;> first | rfl | cases hv) | cases hv
  ·next fs ht =>
   rw [ht] at hv
   obtain ⟨us,e,_⟩:=hv
   exact agg (by unfold isAg; rw [ht]) us e
  ·next m e ht =>
   rw [ht] at hv
   obtain ⟨us,e,_⟩:=hv
   exact agg (by unfold isAg; rw [ht]) us e
  ·cases hs
theorem in_all {r:Reach} {b0:Nat}:∀ (ts:List TypeId) (vs:List Value) (ds:List (DataW H)) (ps:List MemPlace) (K:List AV→Prop),(ts.all fun t=>supp P 50 t)=true→DataW.TrodAll enc P w base (fun _=>true) held ts vs ds ps →
  (∀ (j:Nat) t v,ts[j]?=some t→vs[j]?=some v→Value.okWide P w r b0 t v)→ShAll P ts K→∃ xs,K xs∧CVl (pinAll w) xs noNm vs
 | [],[],[],ps,K,_,h,_,hK=>⟨[],hK,by simp only [CVl]⟩
 | t::ts,v::vs,d::ds,ps,K,hs,h,hv,hK=>by
  simp only [List.all_cons,Bool.and_eq_true] at hs
  obtain ⟨p,q,⟨fuel,h1⟩,h2,_⟩:=h
  obtain ⟨cs,k1,k2⟩:=in_one hs.1 (hv 0 t v rfl rfl) h1
  obtain ⟨xs,q1,q2⟩:=in_all ts vs ds q (fun xs=>K (mkA P t cs::xs)) hs.2 h2 (fun j t v ht hv'=>hv (j+1) t v (by simpa using ht) (by simpa using hv')) (hK cs k1)
  exact ⟨_,q1,by simp only [CVl]; exact ⟨v,vs,rfl,k2,q2⟩⟩
 | [],v::vs,ds,ps,K,_,h,_,_=>by cases ds <;> simp [DataW.TrodAll] at h
 | [],[],d::ds,ps,K,_,h,_,_=>by simp [DataW.TrodAll] at h
 | t::ts,[],ds,ps,K,_,h,_,_=>by cases ds <;> simp [DataW.TrodAll] at h
 | t::ts,v::vs,[],ps,K,_,h,_,_=>by simp [DataW.TrodAll] at h
theorem law_calls {gl:Glob} {f:FuncId} {r:Reach} {b0:Nat} {ts:List TypeId} {args:Array Value} {ds:List (DataW H)} {ps:List MemPlace} (hs:(ts.all fun t=>supp P 50 t)=true) (hg:GOKg gl (pinAll w))
  (h:ShAll P ts fun xs=>PureC P gl f xs (.bool true)) (hA:DataW.TrodAll enc P w base (fun _=>true) held ts args.toList ds ps)
  (hv:∀ (j:Nat) t v,ts[j]?=some t→args.toList[j]?=some v→Value.okWide P w r b0 t v) :
  Calls P f args w fun e w'=>e=.returned (.bool true)∧Below w.heap.size w w':=by
 obtain ⟨xs,h1,h2⟩:=in_all ts _ ds ps _ hs hA hv h
 refine (h1 w (pinAll w) args hg (agree_all w) h2).mono fun e w' h=>?_
 obtain ⟨u,S',h3,h4,_,_,_,h5⟩:=h
 simp only [CV] at h5
 exact ⟨by rw [h3,h5],h4⟩
theorem trodAll_stay (hl:laidOutB P=true) {w':World} (hb:Below w.heap.size w w'):∀ (ts:List TypeId) (vs:List Value) (ds:List (DataW H)) (ps:List MemPlace),(ts.all fun t=>P.readableRec t&&decide (t < P.types.size))=true →
  DataW.TrodAll enc P w 0 (fun _=>true) true ts vs ds ps→DataW.TrodAll enc P w' 0 (fun b=>decide (b < w.heap.size)) true ts vs ds ps
 | [],[],[],ps,_,h=>h
 | t::ts,v::vs,d::ds,ps,hs,h=>by
  simp only [List.all_cons,Bool.and_eq_true,decide_eq_true_eq] at hs
  obtain ⟨p,q,h1,h2,h3⟩:=h
  have hlt:∀ x ∈ p,x.block < w.heap.size:=by obtain ⟨m,hm⟩:=h1; exact DataW.trod_lt m _ _ _ hm
  exact ⟨p,q,Below.trod hl hs.1.1 hs.1.2 h1 hb hlt,trodAll_stay hl hb ts vs ds q hs.2 h2,h3⟩
 | [],v::vs,ds,ps,_,h=>by cases ds <;> simp [DataW.TrodAll] at h
 | [],[],d::ds,ps,_,h=>by simp [DataW.TrodAll] at h
 | t::ts,[],ds,ps,_,h=>by cases ds <;> simp [DataW.TrodAll] at h
 | t::ts,v::vs,[],ps,_,h=>by simp [DataW.TrodAll] at h
def suppG (P:Program):Nat→TypeId→Bool
 | 0,_=>false
 | n+1,t=>match P.underlying t with
  | some .bool=>true
  | some (.int _)=>true
  | some .string=>true
  | some (.struct fs)=>tiles P fs.toList 0 (P.cellsOf t)&&fs.toList.all fun f=>suppG P n f.type
  | some (.array m e)=>Nat.beq (m*P.cellsOf e) (P.cellsOf t)&&suppG P n e
  | _=>false
mutual
def flatD:DataW H→List AV
 | .lit (.bool b)=>[.bool b]
 | .lit (.int k z)=>[.int k z]
 | .lit (.string l)=>[.str ⟨l.toArray⟩]
 | .agg ds=>flatDs ds
 | _=>[.dead]
def flatDs:List (DataW H)→List AV
 | []=>[]
 | d::ds=>flatD d++flatDs ds
end
theorem flatF {S:Pin} {vs:List Value}:∀ (fs:List Field) (ds:List (DataW H)) (o tot:Nat),tiles P fs o tot=true→vs.length=tot→ds.length=fs.length →
  (∀ (i:Nat) (f:Field) (d:DataW H),fs[i]?=some f→ds[i]?=some d→CVl S (flatD d) noNm ((vs.drop f.offset).take (P.cellsOf f.type)))→CVl S (flatDs ds) noNm (vs.drop o)
 | [],[],o,tot,ht,hl,_,_=>by
  simp only [tiles] at ht
  have:=Nat.eq_of_beq_eq_true ht
  simp only [flatDs,CVl]; exact List.drop_eq_nil_of_le (by omega)
 | f::fs,d::ds,o,tot,ht,hl,hd,h=>by
  simp only [tiles,Bool.and_eq_true] at ht
  obtain ⟨ho,ht⟩:=ht
  have ho:=Nat.eq_of_beq_eq_true ho
  have h1:=h 0 f d rfl rfl
  have h2:=flatF fs ds _ tot ht hl (by simpa using hd) (fun i g d' hg hd'=>h (i+1) g d' (by simpa using hg) (by simpa using hd'))
  rw [ho] at h1
  have e:vs.drop o=(vs.drop o).take (P.cellsOf f.type)++vs.drop (o+P.cellsOf f.type):=by
   rw [← List.drop_drop]; exact (List.take_append_drop _ _).symm
  rw [e]
  simp only [flatDs]
  exact CVl.append h1 h2
 | [],_::_,_,_,_,_,hd,_=>by simp at hd
 | _::_,[],_,_,_,_,hd,_=>by simp at hd
theorem flatE {S:Pin} {s:Nat}:∀ (ds:List (DataW H)) (vs:List Value),vs.length=ds.length*s→(∀ (i:Nat) (d:DataW H),ds[i]?=some d→CVl S (flatD d) noNm ((vs.drop (i*s)).take s))→CVl S (flatDs ds) noNm vs
 | [],vs,hl,_=>by simp only [flatDs,CVl]; exact List.eq_nil_of_length_eq_zero (by simpa using hl)
 | d::ds,vs,hl,h=>by
  have h1:=h 0 d rfl
  have hl':vs.length=ds.length*s+s:=by rw [hl,List.length_cons,Nat.succ_mul]
  have h2:=flatE (S:=S) (s:=s) ds (vs.drop s) (by rw [List.length_drop]; omega) (fun i d' hd=>by
   have:=h (i+1) d' (by simpa using hd)
   rw [List.drop_drop,show s+i*s=(i+1)*s by rw [Nat.succ_mul]; omega]
   exact this)
  rw [Nat.zero_mul,List.drop_zero] at h1
  have e:vs=vs.take s++vs.drop s:=(List.take_append_drop _ _).symm
  rw [e]
  simp only [flatDs]
  exact CVl.append h1 h2
theorem flat_of_trod {S:Pin} {spare:Nat→Bool}:∀ (n:Nat) (t:TypeId) (fuel:Nat) (vs:List Value) (x:DataW H × List MemPlace),suppG P n t=true→DataW.trod enc P w base spare held fuel t vs=some x→CVl S (flatD x.1) noNm vs
 | 0,t,_,_,_,hs,_=>by simp [suppG] at hs
 | n+1,t,fuel,vs,x,hs,h=>by
  unfold suppG at hs
  split at hs
  ·next ht =>
   obtain ⟨b,rfl,rfl⟩:=DataW.trod_bool ht h
   exact ⟨_,_,rfl,rfl,rfl⟩
  ·next k ht =>
   obtain ⟨z,rfl,rfl,hw⟩:=DataW.trod_int ht h
   exact ⟨_,_,rfl,⟨rfl,rng_wf hw⟩,rfl⟩
  ·next ht =>
   obtain ⟨s,rfl,rfl,hw⟩:=DataW.trod_string ht h
   exact ⟨_,_,rfl,⟨by simp,by simpa using hw⟩,rfl⟩
  ·next fs ht =>
   simp only [Bool.and_eq_true,List.all_eq_true] at hs
   obtain ⟨xs,m,_,rfl,hl,hxl,hf⟩:=DataW.trod_struct ht h
   have:=flatF (S:=S) (vs:=vs) fs.toList (xs.map (·.1)) 0 _ hs.1 hl (by simpa using hxl) (fun i f d hi hd=>by
    have h1:=hf i f (by simpa using hi)
    rw [List.getElem?_map] at hd
    cases hx:xs[i]? with
    | none=>rw [hx] at hd; cases hd
    | some y =>
     rw [hx] at hd h1
     simp only [Option.map_some,Option.some.injEq] at hd
     subst hd
     exact flat_of_trod n f.type m _ _ (hs.2 f (List.mem_of_getElem? hi)) h1)
   simpa [flatD] using this
  ·next m e ht =>
   simp only [Bool.and_eq_true] at hs
   obtain ⟨xs,q,_,rfl,hl,hxl,hf⟩:=DataW.trod_array ht h
   have hsz:=Nat.eq_of_beq_eq_true hs.1
   have:=flatE (S:=S) (s:=P.cellsOf e) (xs.map (·.1)) vs (by simp only [List.length_map]; rw [hxl]; omega) (fun i d hd=>by
    rw [List.getElem?_map] at hd
    cases hx:xs[i]? with
    | none=>rw [hx] at hd; cases hd
    | some y =>
     have hi:i < m:=by have:=(List.getElem?_eq_some_iff.1 hx).1; omega
     have h1:=hf i hi
     rw [hx] at hd h1
     simp only [Option.map_some,Option.some.injEq] at hd
     subst hd
     exact flat_of_trod n e q _ _ hs.2 h1)
   simpa [flatD] using this
  ·cases hs
end
theorem intsA_of {xs:List (List AV)} (h:∀ x ∈ xs,∃ z,rng .i64 z∧x=[.int .i64 z]):IntsA xs:=fun x hx=>by
 obtain ⟨z,h1,h2⟩:=h x hx
 exact ⟨z,h2,h1⟩
theorem glob_cells {W:World} {g:Nat} {cs:Array Value} {az:List AV} (hc:∀ i,W.cell? ⟨g,i,none⟩=cs[i]?) (h:CVl (pinAll W) az noNm cs.toList) (h1:allOne az=true):CC (pinAll W) az g 0:=by
 refine CC.mk fun j x hx=>?_
 obtain ⟨u,hu,hcv⟩:=CVl.get h hx
 have h2:=hc j
 rw [show cs[j]?=some u by simpa using hu] at h2
 rw [Nat.zero_add]
 exact ⟨u,pinAll_some h2 (allOne_cv h h1 u (List.mem_of_getElem? hu)),hcv⟩
end Go.Proofs.YtgbbmadjdaphnaaGreatDoor
