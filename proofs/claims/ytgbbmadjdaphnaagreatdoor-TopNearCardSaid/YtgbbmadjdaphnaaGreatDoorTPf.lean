import Derived.Test.YtgbbmadjdaphnaaGreatDoorTPe
import Derived.Test.YtgbbmadjdaphnaaGreatDoorTPd
set_option maxRecDepth 100000
namespace Go.Proofs.YtgbbmadjdaphnaaGreatDoor
open Go
set_option linter.unusedVariables false
set_option linter.unusedSimpArgs false
def nb (nx:List (List AV)) (k:Nat):List Int:=match nx.getD k [] with
 | [.sl _ _ ys]=>ungI ys
 | _=>[]
structure DisP (N:Nat) (nd nx:List (List AV)) (a:Int):Prop where
 eN:nd.length=N
 nN:FnN N
 eX:nx.length=N
 row:∀ k,k < N→nx.getD k []=[.sl 1 false (intsL (nb nx k))]∧(∀ z ∈ nb nx k,0≤z∧z < N)∧(nb nx k).length≤10000
 fr:0≤a∧a < N
 conn:∀ V:Nat→Prop,V a.toNat→(∀ k,k < N→V k→∀ z ∈ nb nx k,V z.toNat)→∀ k,k < N→V k
structure DisQ (N:Nat) (nx:List (List AV)) (a:Int) (ds:List Int):Prop where
 len:ds.length=N
 rg:∀ z ∈ ds,-1≤z∧z≤1000
 own:ds.getD a.toNat 0=0
 iff:∀ k,k < N→(ds.getD k 0≤1↔k=a.toNat∨(k:Int) ∈ nb nx a.toNat)
structure BfP (N:Nat) (nx:List (List AV)) (a i:Int) (ds q:List Int):Prop where
 i0:0≤i
 il:i≤q.length
 dl:ds.length=N
 qn:q.Nodup
 qr:∀ z ∈ q,0≤z∧z < N
 q0:q[0]?=some a
 vis:∀ k,k < N→(0≤ds.getD k 0↔(k:Int) ∈ q)
 lo:∀ k,k < N→-1≤ds.getD k 0
 up:∀ (j:Nat) (z:Int),q[j]?=some z→ds.getD z.toNat 0≤j
 d0:ds.getD a.toNat 0=0
 d1:∀ k,k < N→(k:Int) ∈ q→(k:Int)≠a→1≤ds.getD k 0∧(ds.getD k 0=1→(k:Int) ∈ nb nx a.toNat)
 cl:∀ (j:Nat) (z:Int),(j:Int) < i→q[j]?=some z→∀ y ∈ nb nx z.toNat,y ∈ q
 f0:i=0→∀ y ∈ q,ds.getD y.toNat 0≤1
 f1:1≤i→∀ y ∈ nb nx a.toNat,ds.getD y.toNat 0≤1
theorem nd_inj {q:List Int} (h:q.Nodup) {i j:Nat} {z:Int} (hi:q[i]?=some z) (hj:q[j]?=some z):i=j:=by
 obtain ⟨li,ei⟩:=List.getElem?_eq_some_iff.1 hi
 obtain ⟨lj,ej⟩:=List.getElem?_eq_some_iff.1 hj
 have hp:=List.pairwise_iff_getElem.1 h
 rcases Nat.lt_trichotomy i j with q | q | q
 ·exact absurd (ei.trans ej.symm) (hp i j li lj q)
 ·exact q
 ·exact absurd (ej.trans ei.symm) (hp j i lj li q)
theorem nodup_le:∀ (N:Nat) (q:List Int),q.Nodup→(∀ z ∈ q,0≤z∧z < N)→q.length≤N
 | 0,q,_,h=>by
  cases q with
  | nil=>simp
  | cons z l=>have:=h z List.mem_cons_self; omega
 | N+1,q,hn,h=>by
  have h1:=nodup_le N (q.erase N) (hn.erase _) (fun z hz=>by
   rw [hn.mem_erase_iff] at hz
   have:=h z hz.2
   have:=hz.1
   omega)
  by_cases hm:(N:Int) ∈ q
  ·rw [List.length_erase_of_mem hm] at h1; omega
  ·rw [List.erase_of_not_mem hm] at h1; omega
theorem getD_set {l:List Int} {i j:Nat} {x d:Int} (hi:i < l.length):(l.set i x).getD j d=if j=i then x else l.getD j d:=by
 rw [List.getD_eq_getElem?_getD,List.getElem?_set]
 by_cases h:i=j
 ·subst h; rw [if_pos rfl,if_pos hi,if_pos rfl]; rfl
 ·rw [if_neg h,if_neg (fun e=>h e.symm),List.getD_eq_getElem?_getD]
theorem BfP.put {N:Nat} {nx:List (List AV)} {a i:Int} {ds q:List Int} (h:BfP N nx a i ds q) {z k:Int} (hi:i < q.length) (hz:q[i.toNat]?=some z) (hk:0≤k∧k < N) (hkn:k ∈ nb nx z.toNat) (hd:ds.getD k.toNat 0 < 0):BfP N nx a i (ds.set k.toNat (ds.getD z.toNat 0+1)) (q++[k]):=by
 have hkd:k.toNat < ds.length:=by rw [h.dl]; omega
 have g:∀ j,(ds.set k.toNat (ds.getD z.toNat 0+1)).getD j 0=if j=k.toNat then ds.getD z.toNat 0+1 else ds.getD j 0:=fun j=>getD_set hkd
 have hkc:((k.toNat:Nat):Int)=k:=Int.toNat_of_nonneg hk.1
 have hkq:k ∉ q:=fun m=>by have:=(h.vis k.toNat (by omega)).2 (by rw [hkc]; exact m); omega
 have hzq:z ∈ q:=List.mem_of_getElem? hz
 have hzr:=h.qr z hzq
 have hzc:((z.toNat:Nat):Int)=z:=Int.toNat_of_nonneg hzr.1
 have hzd:0≤ds.getD z.toNat 0:=(h.vis z.toNat (by omega)).2 (by rw [hzc]; exact hzq)
 have hzu:=h.up i.toNat z hz
 have haq:a ∈ q:=List.mem_of_getElem? h.q0
 have har:=h.qr a haq
 have hak:a≠k:=fun e=>hkq (e ▸ haq)
 have hne:∀ y ∈ q,y.toNat≠k.toNat:=fun y hy e=>hkq (by have:=h.qr y hy; rw [show k=y by omega]; exact hy)
 have hi0:=h.i0
 have hz1:1≤i→1≤ds.getD z.toNat 0:=fun h1=>by
  have hza:z≠a:=fun e=>by
   subst e
   have h2:=h.q0
   have e2:i.toNat=0:=nd_inj h.qn hz h2
   omega
  have:=(h.d1 z.toNat (by omega) (by rw [hzc]; exact hzq) (by rw [hzc]; exact hza)).1
  exact this
 refine ⟨h.i0,by rw [List.length_append]; have:=h.il; omega,by rw [List.length_set]; exact h.dl,?_,?_,?_,?_,?_,?_,?_,?_,?_,?_,?_⟩
 ·rw [List.nodup_append]
  exact ⟨h.qn,by simp,fun x hx y hy e=>by rw [List.mem_singleton] at hy; subst hy; subst e; exact hkq hx⟩
 ·intro y hy
  rcases List.mem_append.1 hy with hy | hy
  ·exact h.qr y hy
  ·rw [List.mem_singleton] at hy; subst hy; exact hk
 ·rw [List.getElem?_append_left (by omega)]; exact h.q0
 ·intro j hj
  rw [g,List.mem_append,List.mem_singleton]
  split
  ·rename_i e; subst e
   exact ⟨fun _=>.inr hkc,fun _=>by omega⟩
  ·rename_i e
   rw [h.vis j hj]
   exact ⟨.inl,fun x=>x.resolve_right (fun e2=>e (by omega))⟩
 ·intro j hj
  rw [g]
  split
  ·omega
  ·exact h.lo j hj
 ·intro j y hy
  rw [g]
  by_cases hjl:j < q.length
  ·rw [List.getElem?_append_left hjl] at hy
   rw [if_neg (hne y (List.mem_of_getElem? hy))]
   exact h.up j y hy
  ·rw [List.getElem?_append_right (by omega)] at hy
   have hj0:j - q.length=0:=by
    have:=(List.getElem?_eq_some_iff.1 hy).1
    simp only [List.length_singleton] at this; omega
   rw [hj0] at hy
   simp only [List.getElem?_cons_zero,Option.some.injEq] at hy
   subst hy
   rw [if_pos rfl]
   omega
 ·rw [g,if_neg (hne a haq)]; exact h.d0
 ·intro j hj hm hja
  rw [g]
  rcases List.mem_append.1 hm with hm | hm
  ·have:=hne j hm
   rw [if_neg (by omega)]
   exact h.d1 j hj hm hja
  ·rw [List.mem_singleton] at hm
   rw [if_pos (by omega)]
   refine ⟨by omega,fun e=>?_⟩
   have hi1:¬ 1≤i:=fun q=>by have:=hz1 q; omega
   have:i.toNat=0:=by omega
   rw [this,h.q0] at hz
   injection hz with hz
   subst hz
   rw [hm]; exact hkn
 ·intro j y hj hy w hw
  rw [List.getElem?_append_left (by omega)] at hy
  exact List.mem_append_left _ (h.cl j y hj hy w hw)
 ·intro e y hy
  rw [g]
  rcases List.mem_append.1 hy with hy | hy
  ·rw [if_neg (hne y hy)]; exact h.f0 e y hy
  ·rw [List.mem_singleton] at hy
   subst hy
   rw [if_pos rfl]
   have:i.toNat=0:=by omega
   rw [this,h.q0] at hz
   injection hz with hz
   subst hz
   rw [h.d0]; decide
 ·intro h1 y hy
  have hyq:=h.cl 0 a (by omega) h.q0 y hy
  rw [g,if_neg (hne y hyq)]
  exact h.f1 h1 y hy
theorem BfP.next {N:Nat} {nx:List (List AV)} {a i:Int} {ds q:List Int} (h:BfP N nx a i ds q) {z:Int} (hi:i < q.length) (hz:q[i.toNat]?=some z) (hall:∀ y ∈ nb nx z.toNat,y ∈ q):BfP N nx a (i+1) ds q:=by
 have hi0:=h.i0
 refine { h with i0:=by omega,il:=by omega,cl:=?_,f0:=fun e=>by omega,f1:=?_ }
 ·intro j y hj hy w hw
  by_cases e:(j:Int) < i
  ·exact h.cl j y e hy w hw
  ·have:j=i.toNat:=by omega
   subst this
   rw [hz] at hy
   injection hy with hy
   subst hy
   exact hall w hw
 ·intro _ y hy
  by_cases e:i=0
  ·have:i.toNat=0:=by omega
   rw [this,h.q0] at hz
   injection hz with hz
   subst hz
   exact h.f0 e y (hall y hy)
  ·exact h.f1 (by omega) y hy
theorem BfP.first {N:Nat} {nx:List (List AV)} {a:Int} (ha:0≤a∧a < N):BfP N nx a 0 ((List.replicate N (-1:Int)).set a.toNat 0) [a]:=by
 have hl:a.toNat < (List.replicate N (-1:Int)).length:=by rw [List.length_replicate]; omega
 have g:∀ j,((List.replicate N (-1:Int)).set a.toNat 0).getD j 0=if j=a.toNat then 0 else (List.replicate N (-1:Int)).getD j 0:=fun j=>getD_set hl
 have r:∀ j,j < N→(List.replicate N (-1:Int)).getD j 0=-1:=fun j hj=>by rw [List.getD_eq_getElem?_getD,List.getElem?_replicate,if_pos hj]; rfl
 refine ⟨by omega,by simp,by simp,by simp,fun z hz=>by rw [List.mem_singleton] at hz; subst hz; exact ha,rfl,?_,?_,?_,by rw [g,if_pos rfl],?_,fun j z hj _=>by omega,?_,fun h=>by omega⟩
 ·intro k hk
  rw [g,List.mem_singleton]
  split
  ·rename_i e; exact ⟨fun _=>by omega,fun _=>Int.le_refl 0⟩
  ·rename_i e; rw [r k hk]; exact ⟨fun h=>by omega,fun h=>by omega⟩
 ·intro k hk
  rw [g]
  split
  ·omega
  ·rw [r k hk]; omega
 ·intro j z hz
  cases j with
  | zero=>simp at hz; subst hz; rw [g,if_pos rfl]; exact Int.le_refl 0
  | succ j=>simp at hz
 ·intro k hk hm hka
  rw [List.mem_singleton] at hm
  exact absurd hm hka
 ·intro _ y hy
  rw [List.mem_singleton] at hy
  subst hy
  rw [g,if_pos rfl]; decide
theorem BfP.done {N:Nat} {nd nx:List (List AV)} {a i:Int} {ds q:List Int} (hp:DisP N nd nx a) (h:BfP N nx a i ds q) (hi:i=q.length):DisQ N nx a ds:=by
 have haq:a ∈ q:=List.mem_of_getElem? h.q0
 have hq1:1≤q.length:=by cases q with | nil=>cases haq | cons _ _=>simp
 have hall:∀ k,k < N→(k:Int) ∈ q:=fun k hk=>hp.conn (fun k=>(k:Int) ∈ q) (by rw [Int.toNat_of_nonneg hp.fr.1]; exact haq) (fun k hk hm z hz=>by
  obtain ⟨j,hj⟩:=List.getElem?_of_mem hm
  have hjl:=(List.getElem?_eq_some_iff.1 hj).1
  have:=h.cl j k (by omega) hj z (by simpa using hz)
  have hzr:=h.qr z this
  rw [Int.toNat_of_nonneg hzr.1]; exact this) k hk
 have hql:=nodup_le N q h.qn h.qr
 have hN:(N:Int)≤162:=by rcases mem_fnN hp.nN with e | e | e | e <;> omega
 refine ⟨h.dl,fun z hz=>?_,h.d0,fun k hk=>⟨fun hle=>?_,fun hor=>?_⟩⟩
 ·obtain ⟨j,hj⟩:=List.getElem?_of_mem hz
  have hjl:=(List.getElem?_eq_some_iff.1 hj).1
  rw [h.dl] at hjl
  have e:ds.getD j 0=z:=by rw [List.getD_eq_getElem?_getD,hj]; rfl
  obtain ⟨t,ht⟩:=List.getElem?_of_mem (hall j hjl)
  have htl:=(List.getElem?_eq_some_iff.1 ht).1
  have:=h.up t j ht
  rw [Int.toNat_natCast,e] at this
  have l2:=h.lo j hjl
  rw [e] at l2
  omega
 ·by_cases e:k=a.toNat
  ·exact .inl e
  ·right
   have:=h.d1 k hk (hall k hk) (fun q=>e (by omega))
   exact this.2 (by omega)
 ·rcases hor with e | hm
  ·rw [e,h.d0]; decide
  ·have:=h.f1 (by omega) k hm
   rwa [Int.toNat_natCast] at this
theorem intsL_len (zs:List Int):(intsL zs).length=zs.length:=by simp [intsL]
theorem intsL_at {zs:List Int} {i:Nat} {z:Int} (h:zs[i]?=some z):(intsL zs).getD i []=[.int .i64 z]:=by
 rw [List.getD_eq_getElem?_getD,intsL,List.getElem?_map,h]; rfl
theorem intsL_set {ds:List Int} {k:Nat} {x:Int} (h:k < ds.length):setEl (intsL ds) k 0 [.int .i64 x]=intsL (ds.set k x):=by
 have e:(intsL ds)[k]?=some [.int .i64 ds[k]]:=by rw [intsL,List.getElem?_map,List.getElem?_eq_getElem h]; rfl
 show (intsL ds).set k (spl ((intsL ds).getD k []) 0 [.int .i64 x])=_
 rw [List.getD_eq_getElem?_getD,e,intsL,intsL,List.map_set]; rfl
theorem intsL_app (q:List Int) (k:Int):intsL q++[[.int .i64 k]]=intsL (q++[k]):=by simp [intsL]
theorem ungI_ints (zs:List Int):ungI (intsL zs)=zs:=by
 simp only [ungI,intsL,List.map_map]
 exact (List.map_congr_left fun z _=>rfl).trans (List.map_id zs)
theorem neg1_ints (n:Nat):neg1 n=intsL (List.replicate n (-1)):=by simp [neg1,intsL]
theorem at_getD {l:List Int} {i:Nat} (h:i < l.length):l[i]?=some (l.getD i 0):=by rw [List.getD_eq_getElem?_getD,List.getElem?_eq_getElem h]; rfl
structure DisR (N:Nat) (nx:List (List AV)) (a:Int) (os:List (List AV)):Prop where
 ex:∃ ds,os=intsL ds∧DisQ N nx a ds
structure DiO (N:Nat) (nx:List (List AV)) (a:Int) (x:Int × List Int × List Int):Prop where
 b:BfP N nx a x.1 x.2.1 x.2.2
structure DiI (N:Nat) (nx:List (List AV)) (a i:Int) (L:List (List AV)) (x:Int × List Int × List Int):Prop where
 t0:0≤x.1
 tl:x.1≤L.length
 b:BfP N nx a i x.2.1 x.2.2
 hi:i < x.2.2.length
 hz:∃ z,x.2.2[i.toNat]?=some z∧nx.getD z.toNat []=[.sl 1 false L]
 sn:∀ y ∈ (ungI L).take x.1.toNat,y ∈ x.2.2
def an8 (k:Int→List (List AV)→LInv) (st:St):Option LInv:=match lk st.tmps 37,lk st.tmps 7 with
 | some (.sl _ _ xs),some (.int _ i)=>some (k i xs)
 | _,_=>none
def diH (n h:Int) (g4 g5 g6:Bool) (nd cl ed nx:List (List AV)) (l:List (Int × AV)) (ds q:List Int):List (Nat × Blk):=[(0,.cells [.int .i64 n,.int .i64 h,.sl 4 g4 nd,.mpv 1,.sl 3 g5 cl,.sl 2 g6 ed,.sl 1 false nx]),(1,.mp 27 3 l),(1016,.row 3 1 (intsL ds)),(1021,.row 3 1 (intsL q))]
def di5 (N:Nat) (a n h:Int) (g4 g5 g6:Bool) (nd cl ed nx:List (List AV)) (l:List (Int × AV)):LInv:=⟨Int × List Int × List Int,fun x=>⟨[(0,.ptr 0 0),(5,.rw 1016 1 N),(6,.rw 1021 1 x.2.2.length),(7,.int .i64 x.1)],diH n h g4 g5 g6 nd cl ed nx l x.2.1 x.2.2⟩,DiO N nx a,fun x=>(N - x.1).toNat,none⟩
def di8 (N:Nat) (a n h:Int) (g4 g5 g6:Bool) (nd cl ed nx:List (List AV)) (l:List (Int × AV)) (i:Int) (L:List (List AV)):LInv:=⟨Int × List Int × List Int,fun x=>⟨[(0,.ptr 0 0),(5,.rw 1016 1 N),(6,.rw 1021 1 x.2.2.length),(7,.int .i64 i),(37,.sl 1 false L),(38,.int .i64 L.length),(39,.int .i64 x.1)],diH n h g4 g5 g6 nd cl ed nx l x.2.1 x.2.2⟩,DiI N nx a i L,fun x=>(L.length - x.1).toNat,none⟩
def mdist_s:SpQ
 | [.ptr 0 0,.int .i64 a],[.cells [.int .i64 n,.int .i64 h,.sl 4 g4 nd,.mpv 1,.sl 3 g5 cl,.sl 2 g6 ed,.sl 1 false nx],.mp 27 3 l]=>some (fun K=>(DisP nd.length nd nx a)∧(∀ (ds:List (List AV)),(DisR nd.length nx a ds)→K (.sl 1 false ds) [.cells [.int .i64 n,.int .i64 h,.sl 4 g4 nd,.mpv 1,.sl 3 g5 cl,.sl 2 g6 ed,.sl 1 false nx],.mp 27 3 l]))
 | _,_=>none
def mdist_T:Prop :=
  ∀ (gl:Glob) (a n h:Int) (g4 g5 g6:Bool) (nd cl ed nx:List (List AV)) (l:List (Int × AV)),DisP nd.length nd nx a→([[AV.int IntKind.i64 (-1:Int)]]=neg1 (1:Nat) ∧
  FnN (↑nd.length:Int))∧bif decide ((0:Int)≤a∧a < (↑(↑nd.length:Int).toNat:Int)) then bif decide ((↑nd.length:Int).toNat=(neg1 (↑nd.length:Int).toNat).length ∧
  a.toNat < (neg1 (↑nd.length:Int).toNat).length) then (∃ x,DiO nd.length nx a x∧((0:Nat)=(0:Nat)∧(↑nd.length:Int).toNat=nd.length∧(1:Nat)=x.snd.snd.length ∧
  (0:Int)=x.fst∧True)∧(n=n∧h=h∧((bif g4 then g4=true else True)∧nd=nd)∧True∧((bif g5 then g5=true else True)∧cl=cl)∧((bif g6 then g6=true else
  True)∧ed=ed)∧(True∧nx=nx)∧True)∧l=l∧setEl (neg1 (↑nd.length:Int).toNat) a.toNat (0:Nat) [AV.int IntKind.i64 (0:Int)]=intsL x.snd.fst∧[[AV.int
  IntKind.i64 a]]=intsL x.snd.snd∧True)∧∀ (x:Int × List Int × List Int),DiO nd.length nx a x→bif decide (x.fst < (↑x.snd.snd.length:Int)) then bif decide ((0:Int) ≤
  x.fst∧x.fst < (↑x.snd.snd.length:Int)) then bif decide (x.snd.snd.length=(intsL x.snd.snd).length∧x.fst.toNat < (intsL x.snd.snd).length) then ∃ n_1,List.take [AV.int
  IntKind.i64 n_1].length (List.drop (0:Nat) ((intsL x.snd.snd).getD x.fst.toNat []))=[AV.int IntKind.i64 n_1]∧bif decide ((0:Int)≤n_1∧n_1 < (↑nx.length:Int)) then ∃
  xs,List.take [AV.sl (1:Nat) false xs].length (nx.getD n_1.toNat [])=[AV.sl (1:Nat) false xs]∧(∃ x_1,DiI nd.length nx a x.fst xs x_1∧((0:Nat)=(0:Nat)∧nd.length =
  nd.length∧x.snd.snd.length=x_1.snd.snd.length∧x.fst=x.fst∧(True∧xs=xs)∧(↑xs.length:Int)=(↑xs.length:Int)∧(0:Int)=x_1.fst∧True)∧(n=n∧h=h ∧
  ((bif g4 then g4=true else True)∧nd=nd)∧True∧((bif g5 then g5=true else True)∧cl=cl)∧((bif g6 then g6=true else True)∧ed=ed)∧(True∧nx=nx)∧True)∧l
 =l∧intsL x.snd.fst=intsL x_1.snd.fst∧intsL x.snd.snd=intsL x_1.snd.snd∧True)∧∀ (x_1:Int × List Int × List Int),DiI nd.length nx a x.fst xs x_1→bif decide (x_1.fst
  < (↑xs.length:Int)) then bif decide ((0:Int)≤x_1.fst∧x_1.fst < (↑xs.length:Int)) then ∃ n_2,List.take [AV.int IntKind.i64 n_2].length (xs.getD x_1.fst.toNat []) =
  [AV.int IntKind.i64 n_2]∧bif decide ((0:Int)≤n_2∧n_2 < (↑nd.length:Int)) then bif decide (nd.length=(intsL x_1.snd.fst).length∧n_2.toNat < (intsL x_1.snd.fst).length)
  then ∃ n_3,List.take [AV.int IntKind.i64 n_3].length (List.drop (0:Nat) ((intsL x_1.snd.fst).getD n_2.toNat []))=[AV.int IntKind.i64 n_3]∧bif decide (n_3 < (0:Int)) then
  bif decide ((0:Int)≤x.fst∧x.fst < (↑x_1.snd.snd.length:Int)) then bif decide (x_1.snd.snd.length=(intsL x_1.snd.snd).length∧x.fst.toNat < (intsL x_1.snd.snd).length)
  then ∃ n_4,List.take [AV.int IntKind.i64 n_4].length (List.drop (0:Nat) ((intsL x_1.snd.snd).getD x.fst.toNat []))=[AV.int IntKind.i64 n_4]∧bif decide ((0:Int)≤n_4∧n_4
  < (↑nd.length:Int)) then bif decide (nd.length=(intsL x_1.snd.fst).length∧n_4.toNat < (intsL x_1.snd.fst).length) then ∃ n_5,List.take [AV.int IntKind.i64 n_5].length
  (List.drop (0:Nat) ((intsL x_1.snd.fst).getD n_4.toNat []))=[AV.int IntKind.i64 n_5]∧bif decide (rng IntKind.i64 (n_5+(1:Int))) then bif decide ((0:Int)≤n_2∧n_2 <
  (↑nd.length:Int)) then bif decide (nd.length=(intsL x_1.snd.fst).length∧n_2.toNat < (intsL x_1.snd.fst).length) then bif decide (x_1.snd.snd.length=(intsL
  x_1.snd.snd).length∧(intsL x_1.snd.snd).length+[[AV.int IntKind.i64 n_2]].length≤(9223372036854775807:Nat)∧((intsL x_1.snd.snd).length+[[AV.int IntKind.i64
  n_2]].length)*(8:Nat)≤(140737488355328:Nat)) then bif decide (rng IntKind.i64 (x_1.fst+(1:Int))) then ∃ y,DiI nd.length nx a x.fst xs y∧(di8 nd.length a n h g4 g5 g6
  nd cl ed nx l x.fst xs).m y < (di8 nd.length a n h g4 g5 g6 nd cl ed nx l x.fst xs).m x_1∧((0:Nat)=(0:Nat)∧nd.length=nd.length∧(intsL x_1.snd.snd++[[AV.int
  IntKind.i64 n_2]]).length=y.snd.snd.length∧x.fst=x.fst∧(True∧xs=xs)∧(↑xs.length:Int)=(↑xs.length:Int)∧x_1.fst+(1:Int)=y.fst∧True)∧(n=n∧h=h ∧
  ((bif g4 then g4=true else True)∧nd=nd)∧True∧((bif g5 then g5=true else True)∧cl=cl)∧((bif g6 then g6=true else True)∧ed=ed)∧(True∧nx=nx)∧True)∧l
 =l∧setEl (intsL x_1.snd.fst) n_2.toNat (0:Nat) [AV.int IntKind.i64 (n_5+(1:Int))]=intsL y.snd.fst∧intsL x_1.snd.snd++[[AV.int IntKind.i64 n_2]]=intsL y.snd.snd ∧
  True else False else False else False else False else False else False else False else False else False else bif decide (rng IntKind.i64 (x_1.fst+(1:Int))) then ∃ y,DiI
  nd.length nx a x.fst xs y∧(di8 nd.length a n h g4 g5 g6 nd cl ed nx l x.fst xs).m y < (di8 nd.length a n h g4 g5 g6 nd cl ed nx l x.fst xs).m x_1∧((0:Nat)=(0:Nat) ∧
  nd.length=nd.length∧x_1.snd.snd.length=y.snd.snd.length∧x.fst=x.fst∧(True∧xs=xs)∧(↑xs.length:Int)=(↑xs.length:Int)∧x_1.fst+(1:Int)=y.fst∧True) ∧
  (n=n∧h=h∧((bif g4 then g4=true else True)∧nd=nd)∧True∧((bif g5 then g5=true else True)∧cl=cl)∧((bif g6 then g6=true else True)∧ed=ed)∧(True∧nx =
  nx)∧True)∧l=l∧intsL x_1.snd.fst=intsL y.snd.fst∧intsL x_1.snd.snd=intsL y.snd.snd∧True else False else False else False else False else bif decide (rng IntKind.i64
  (x.fst+(1:Int))) then ∃ y,DiO nd.length nx a y∧(di5 nd.length a n h g4 g5 g6 nd cl ed nx l).m y < (di5 nd.length a n h g4 g5 g6 nd cl ed nx l).m x∧((0:Nat)=(0:Nat) ∧
  nd.length=nd.length∧x_1.snd.snd.length=y.snd.snd.length∧x.fst+(1:Int)=y.fst∧True)∧(n=n∧h=h∧((bif g4 then g4=true else True)∧nd=nd)∧True∧((bif g5
  then g5=true else True)∧cl=cl)∧((bif g6 then g6=true else True)∧ed=ed)∧(True∧nx=nx)∧True)∧l=l∧intsL x_1.snd.fst=intsL y.snd.fst∧intsL x_1.snd.snd =
  intsL y.snd.snd∧True else False else False else False else False else bif decide (nd.length=(intsL x.snd.fst).length) then ∃ ds,DisR nd.length nx a ds∧(True∧intsL
  x.snd.fst=ds)∧(n=n∧h=h∧((bif g4 then g4=true else True)∧nd=nd)∧True∧((bif g5 then g5=true else True)∧cl=cl)∧((bif g6 then g6=true else True)∧ed =
  ed)∧(True∧nx=nx)∧True)∧l=l∧True else False else False else False
theorem mdist_P:mdist_T:=by
 unfold mdist_T
 intro gl a n h g4 g5 g6 nd cl ed nx l hp
 obtain ⟨N,hN⟩:∃ N,N=nd.length:=⟨_,rfl⟩
 rw [← hN] at hp
 have hN':FnN N:=hp.nN
 have hNb:(N:Int)≤162:=by rcases mem_fnN hN' with e | e | e | e <;> omega
 have hfr:=hp.fr
 simp only [Int.toNat_natCast,← hN]
 have c4:cond g4 (g4=true) True:=gg g4
 have c5:cond g5 (g5=true) True:=gg g5
 have c6:cond g6 (g6=true) True:=gg g6
 have es:setEl (neg1 N) a.toNat 0 [.int .i64 0]=intsL ((List.replicate N (-1)).set a.toNat 0):=by rw [neg1_ints]; exact intsL_set (by rw [List.length_replicate]; omega)
 refine ⟨⟨rfl,hN'⟩,cd1 ⟨by omega,by omega⟩ (cd1 ⟨by simp [neg1],by simp only [neg1,List.length_replicate]; omega⟩ ⟨⟨(0,(List.replicate N (-1)).set a.toNat 0,[a]),⟨BfP.first hfr⟩,by (repeat' (first | exact trivial | exact rfl | assumption | apply And.intro))⟩,?_⟩)⟩
 clear es
 rintro ⟨i,ds,q⟩ ⟨hb⟩
 simp only at hb
 have i0:=hb.i0
 have hql:=nodup_le N q hb.qn hb.qr
 refine csp (fun hi=>?_) (fun hi=>?_)
 ·simp only at hi
  obtain ⟨z,hz⟩:∃ z,q[i.toNat]?=some z:=⟨_,at_getD (by omega)⟩
  have hzr:=hb.qr z (List.mem_of_getElem? hz)
  obtain ⟨r1,r2,r3⟩:=hp.row z.toNat (by omega)
  refine cd1 ⟨i0,hi⟩ (cd1 ⟨by rw [intsL_len],by simp only [intsL_len]; omega⟩ ⟨z,by rw [intsL_at hz]; rfl,cd1 ⟨hzr.1,by rw [hp.eX]; exact hzr.2⟩ ⟨intsL (nb nx z.toNat),by rw [r1]; rfl,⟨(0,ds,q),⟨Int.le_refl 0,by simp only; omega,hb,hi,⟨z,hz,r1⟩,fun y hy=>by simp at hy⟩,by (repeat' (first | exact trivial | exact rfl | assumption | apply And.intro))⟩,?_⟩⟩)
  clear r1 r2 r3 hz hzr hb hql hi
  rintro ⟨t,ds',q'⟩ ⟨t0,tl,hb,hi,⟨z',hz,hrow⟩,sn⟩
  simp only at t0 tl hb hi hz hrow sn
  have hql:=nodup_le N q' hb.qn hb.qr
  have hzq:=List.mem_of_getElem? hz
  have hzr:=hb.qr z' hzq
  obtain ⟨r1,r2,r3⟩:=hp.row z'.toNat (by omega)
  have eL:intsL (nb nx z.toNat)=intsL (nb nx z'.toNat):=by
   rw [r1] at hrow
   injection hrow with e
   injection e with _ _ e
   exact e.symm
  rw [eL] at hrow tl sn ⊢
  rw [ungI_ints] at sn
  rw [intsL_len] at tl ⊢
  have hdl:=hb.dl
  refine csp (fun ht=>?_) (fun ht=>?_)
  ·simp only at ht
   obtain ⟨k,hk⟩:∃ k,(nb nx z'.toNat)[t.toNat]?=some k:=⟨_,at_getD (by omega)⟩
   have hkm:=List.mem_of_getElem? hk
   have hkr:=r2 k hkm
   have hdk:=at_getD (l:=ds') (i:=k.toNat) (by omega)
   have htk:(nb nx z'.toNat).take (t+1).toNat=(nb nx z'.toNat).take t.toNat++[k]:=by
    rw [show (t+1).toNat=t.toNat+1 by omega,List.take_add_one,hk]; rfl
   have ce:cond false (false=true) True:=trivial
   refine cd1 ⟨t0,ht⟩ ⟨k,by rw [intsL_at hk]; rfl,cd1 ⟨hkr.1,hkr.2⟩ (cd1 ⟨by rw [intsL_len,hdl],by simp only [intsL_len]; omega⟩ ⟨ds'.getD k.toNat 0,by rw [intsL_at hdk]; rfl,csp (fun hd=>?_) (fun hd=>?_)⟩)⟩
   ·have hdz:=at_getD (l:=ds') (i:=z'.toNat) (by omega)
    have hup:=hb.up i.toNat z' hz
    have hvz:=(hb.vis z'.toNat (by omega)).2 (by rw [Int.toNat_of_nonneg hzr.1]; exact hzq)
    have hput:=hb.put hi hz hkr hkm hd
    have e1:=intsL_set (ds:=ds') (k:=k.toNat) (x:=ds'.getD z'.toNat 0+1) (by omega)
    have e2:=intsL_app q' k
    have e3:(intsL q'++[[AV.int .i64 k]]).length=(q'++[k]).length:=by rw [e2,intsL_len]
    refine cd1 ⟨i0,hi⟩ (cd1 ⟨by rw [intsL_len],by simp only [intsL_len]; omega⟩ ⟨z',by rw [intsL_at hz]; rfl,cd1 ⟨hzr.1,hzr.2⟩ (cd1 ⟨by rw [intsL_len,hdl],by simp only [intsL_len]; omega⟩ ⟨ds'.getD z'.toNat 0,by rw [intsL_at hdz]; rfl,cdI (by omega) (cd1 ⟨hkr.1,hkr.2⟩ (cd1 ⟨by rw [intsL_len,hdl],by simp only [intsL_len]; omega⟩ (cd1 ⟨by rw [intsL_len],by simp only [intsL_len,List.length_singleton]; omega,by simp only [intsL_len,List.length_singleton]; omega⟩ (cdI (by simp only; omega) ⟨(t+1,ds'.set k.toNat (ds'.getD z'.toNat 0+1),q'++[k]),⟨by simp only; omega,by simp only [intsL_len]; omega,hput,by simp only [List.length_append,List.length_singleton]; omega,⟨z',by rw [List.getElem?_append_left (by omega)]; exact hz,hrow⟩,?_⟩,by simp only [di8,intsL_len]; omega,by (repeat' (first | exact trivial | exact rfl | assumption | apply And.intro))⟩))))⟩)⟩)
    simp only
    rw [ungI_ints,htk]
    intro y hy
    rcases List.mem_append.1 hy with hy | hy
    ·exact List.mem_append_left _ (sn y hy)
    ·exact List.mem_append_right _ hy
   ·refine cdI (by simp only; omega) ⟨(t+1,ds',q'),⟨by simp only; omega,by simp only [intsL_len]; omega,hb,hi,⟨z',hz,hrow⟩,?_⟩,by simp only [di8,intsL_len]; omega,by (repeat' (first | exact trivial | exact rfl | assumption | apply And.intro))⟩
    simp only
    rw [ungI_ints,htk]
    intro y hy
    rcases List.mem_append.1 hy with hy | hy
    ·exact sn y hy
    ·rw [List.mem_singleton] at hy
     subst hy
     have:=(hb.vis y.toNat (by omega)).1 (by omega)
     rwa [Int.toNat_of_nonneg hkr.1] at this
  ·simp only at ht
   have hall:∀ y ∈ nb nx z'.toNat,y ∈ q':=fun y hy=>sn y (by rw [List.take_of_length_le (by omega)]; exact hy)
   exact cdI (by simp only; omega) ⟨(i+1,ds',q'),⟨hb.next hi hz hall⟩,by simp only [di5]; omega,by (repeat' (first | exact trivial | exact rfl | assumption | apply And.intro))⟩
 ·simp only at hi
  have hil:=hb.il
  exact cd1 (by rw [intsL_len,hb.dl]) ⟨intsL ds,⟨ds,rfl,BfP.done hp hb (by omega)⟩,by (repeat' (first | exact trivial | exact rfl | assumption | apply And.intro))⟩
def mdist_S:Prop:=∀ (gl:Glob) (a n h:Int) (g4 g5 g6:Bool) (nd cl ed nx:List (List AV)) (l:List (Int × AV)),DisP nd.length nd nx a→fnQ Tryz.prog { glob:=gl,spec:=lk [],specH:=lk [(94,rep_s)],shape:=[35,37,42,46,54,56],slz:=[(37,[1])],nowf:=true } { nt:=65,drop:=drp [(1,130048),(2,917504),(3,3145728),(5,29360128),(6,201326592),(7,137170518016),(9,6597069766656),(10,131941395333120),(11,576179277326712832),(12,8646911284551352320),(13,9223372036854775808),(14,18446744073709551616)],fr:=1000,kp:=[0,1] } (fun id st=>cond (Nat.beq id 5) (some (di5 nd.length a n h g4 g5 g6 nd cl ed nx l)) (cond (Nat.beq id 8) (an8 (di8 nd.length a n h g4 g5 g6 nd cl ed nx l) st) none)) 6 Tryz.f44 [.ptr 0 0,.int .i64 a] [.cells [.int .i64 n,.int .i64 h,.sl 4 g4 nd,.mpv 1,.sl 3 g5 cl,.sl 2 g6 ed,.sl 1 false nx],.mp 27 3 l] (fun r2 bs2=>∃ (ds:List (List AV)),(DisR nd.length nx a ds)∧le r2 (.sl 1 false ds)∧leBs bs2 [.cells [.int .i64 n,.int .i64 h,.sl 4 g4 nd,.mpv 1,.sl 3 g5 cl,.sl 2 g6 ed,.sl 1 false nx],.mp 27 3 l])
theorem mdist_e:mdist_T=mdist_S:=by kernel_rfl
theorem mdist_v:mdist_S:=Eq.mp (mdist_e ..) (mdist_P)
theorem mdist_ok (gl:Glob):QOK Tryz.prog gl 44 mdist_s:=by
 refine ⟨fok Tryz.func44 (by kernel_rfl) (by kernel_rfl),?_⟩
 intro xs bs T h K hT
 unfold mdist_s at h
 split at h
 ·simp only [Option.some.injEq] at h
  subst h
  obtain ⟨hp,hK⟩:=hT
  obtain ⟨r,bs2,⟨o0,hq,hl,hb⟩,hC⟩:=fnQ_sound tyNil (by exact specOK rfl rfl trivial ⟨(rep_ok gl),trivial⟩) (by kernel_rfl) Tryz.func44 (mdist_v gl _ _ _ _ _ _ _ _ _ _ _ hp)
  exact ⟨_,_,hK o0 hq,hC.le hl hb⟩
 ·cases h
end Go.Proofs.YtgbbmadjdaphnaaGreatDoor
namespace Go.Proofs.YtgbbmadjdaphnaaGreatDoor
open Go
set_option linter.unusedVariables false
set_option linter.unusedSimpArgs false
structure DBG (st:St):Prop where
 fx:True
def bstF:List AV→List (List AV)→List AV
 | m,[]=>m
 | m,x::l=>if nI m 1 - nI x 1 < 0 then bstF x l else bstF m l
def bst:List (List AV)→List AV
 | []=>[]
 | x::l=>bstF x l
structure ShR (xs:List (List AV)):Prop where
 ok:∀ r ∈ xs,okR 2 r=true
 ne:1≤xs.length
 le:xs.length≤1000
def mnc_s:Sp
 | [.agg [.int .i64 a,.int .i64 b],.agg [.int .i64 c,.int .i64 d]]=>some ((-1000000≤b∧b≤1000000)∧-1000000≤d∧d≤1000000,.int .i64 (d - b))
 | _=>none
def mnc_T:Prop :=
 ∀ (gl:Glob) (a b c d:Int),((-1000000:Int)≤b∧b≤(1000000:Int))∧(-1000000:Int)≤d∧d≤(1000000:Int)→((-9223372036854775808:Int)≤a∧a ≤
 (9223372036854775807:Int))∧((-9223372036854775808:Int)≤b∧b≤(9223372036854775807:Int))∧True→((-9223372036854775808:Int)≤c∧c≤(9223372036854775807:Int)) ∧
 ((-9223372036854775808:Int)≤d∧d≤(9223372036854775807:Int))∧True→bif decide (rng IntKind.i64 (d - b)) then d - b=d - b else False
theorem mnc_P:mnc_T:=by
 unfold mnc_T
 intro gl a b c d ⟨h1,h2⟩
 intros
 exact cdI (by omega) rfl
def mnc_S:Prop:=∀ (gl:Glob) (a b c d:Int),(-1000000≤b∧b≤1000000)∧-1000000≤d∧d≤1000000→fnK Tryz.prog { glob:=gl,spec:=lk [],specH:=lk [],nowf:=true } { nt:=10,drop:=drp [(1,992)] } (fun _ _=>none) 6 Tryz.f78 [.agg [.int .i64 a,.int .i64 b],.agg [.int .i64 c,.int .i64 d]] (.int .i64 (d - b))
theorem mnc_e:mnc_T=mnc_S:=by kernel_rfl
theorem mnc_v:mnc_S:=Eq.mp (mnc_e ..) (mnc_P)
theorem mnc_ok (gl:Glob):SOK Tryz.prog gl 78 mnc_s:=by
 refine ⟨fok Tryz.func78 (by kernel_rfl) (by kernel_rfl),?_⟩
 intro xs pre r h hp
 unfold mnc_s at h
 split at h
 ·simp only [Option.some.injEq,Prod.mk.injEq] at h
  obtain ⟨h1,h2⟩:=h
  subst h1 h2
  exact fnK_sound tyNil (by exact specOK rfl rfl trivial trivial) (by kernel_rfl) Tryz.func78 rfl (mnc_v gl _ _ _ _ hp)
 ·cases h
structure MiP (xs:List (List AV)) (x:Int × List AV):Prop where
 lo:1≤x.1
 hi:x.1≤xs.length
 eq:bst xs=bstF x.2 (xs.drop x.1.toNat)
 ok:okR 2 x.2=true
def mi5 (xs:List (List AV)) (f:Bool):LInv:=⟨Int × List AV,fun x=>⟨[(0,.sl 2 f xs),(1,.fn 78 []),(4,.ptr 4 0),(5,.ptr 5 0),(6,.int .i64 x.1)],[(4,.cells [.int .i64 0,.int .i64 0]),(5,.cells [.int .i64 (nI x.2 0),.int .i64 (nI x.2 1)])]⟩,MiP xs,fun x=>(xs.length - x.1).toNat,none⟩
def mmin_s:Sp
 | [.sl 2 f xs,.fn 78 []]=>some (ShR xs,.agg [.int .i64 (nI (bst xs) 0),.int .i64 (nI (bst xs) 1)])
 | _=>none
def mmin_T:Prop :=
  ∀ (gl:Glob) (f:Bool) (xs:List (List AV)),ShR xs→True→True→bif decide ((↑xs.length:Int) < (1:Int)) then False else bif decide ((0:Int)≤(0:Int)∧(0:Int) <
  (↑xs.length:Int)) then ∃ n n_1,List.take [AV.int IntKind.i64 n,AV.int IntKind.i64 n_1].length (xs.getD (0:Nat) [])=[AV.int IntKind.i64 n,AV.int IntKind.i64 n_1]∧(∃ x,
  MiP xs x∧(((bif f then f=true else True)∧xs=xs)∧True∧(0:Nat)=(0:Nat)∧(0:Nat)=(0:Nat)∧(1:Int)=x.fst∧True)∧((0:Int)=(0:Int)∧(0:Int)=(0
 :Int)∧True)∧(n=nI x.snd (0:Nat)∧n_1=nI x.snd (1:Nat)∧True)∧True)∧∀ (x:Int × List AV),MiP xs x→bif decide (x.fst < (↑xs.length:Int)) then bif decide ((0
 :Int)≤x.fst∧x.fst < (↑xs.length:Int)) then ∃ n n_2,List.take [AV.int IntKind.i64 n,AV.int IntKind.i64 n_2].length (xs.getD x.fst.toNat [])=[AV.int IntKind.i64 n,AV.int
  IntKind.i64 n_2]∧(((-1000000:Int)≤n_2∧n_2≤(1000000:Int))∧(-1000000:Int)≤nI x.snd (1:Nat)∧nI x.snd (1:Nat)≤(1000000:Int))∧bif decide (nI x.snd (1 :
  Nat) - n_2 < (0:Int)) then bif decide ((0:Int)≤x.fst∧x.fst < (↑xs.length:Int)) then ∃ n n_3,List.take [AV.int IntKind.i64 n,AV.int IntKind.i64 n_3].length (xs.getD
  x.fst.toNat [])=[AV.int IntKind.i64 n,AV.int IntKind.i64 n_3]∧bif decide (rng IntKind.i64 (x.fst+(1:Int))) then ∃ y,MiP xs y∧(mi5 xs f).m y < (mi5 xs f).m x∧(((bif f
  then f=true else True)∧xs=xs)∧True∧(0:Nat)=(0:Nat)∧(0:Nat)=(0:Nat)∧x.fst+(1:Int)=y.fst∧True)∧((0:Int)=(0:Int)∧(0:Int)=(0:Int) ∧
  True)∧(n=nI y.snd (0:Nat)∧n_3=nI y.snd (1:Nat)∧True)∧True else False else False else bif decide (rng IntKind.i64 (x.fst+(1:Int))) then ∃ y,MiP xs y∧(mi5 xs
  f).m y < (mi5 xs f).m x∧(((bif f then f=true else True)∧xs=xs)∧True∧(0:Nat)=(0:Nat)∧(0:Nat)=(0:Nat)∧x.fst+(1:Int)=y.fst∧True)∧((0:Int)=(0
 :Int)∧(0:Int)=(0:Int)∧True)∧(nI x.snd (0:Nat)=nI y.snd (0:Nat)∧nI x.snd (1:Nat)=nI y.snd (1:Nat)∧True)∧True else False else False else nI x.snd (0 :
  Nat)=nI (bst xs) (0:Nat)∧nI x.snd (1:Nat)=nI (bst xs) (1:Nat)∧True else False
theorem mmin_P:mmin_T:=by
 unfold mmin_T
 intro gl f xs h _ _
 have h1:=h.ne
 have h2:=h.le
 have gf:cond f (f=true) True:=gg f
 have rd:∀ i,i < xs.length→∃ a b,xs.getD i []=[.int .i64 a,.int .i64 b]∧(nI (xs.getD i []) 0=a∧nI (xs.getD i []) 1=b)∧(-1000000≤b∧b≤1000000)∧okR 2 (xs.getD i [])=true:=fun i hi=>by
  have hk:okR 2 (xs.getD i [])=true:=h.ok _ (by rw [gD hi]; exact List.getElem_mem hi)
  obtain ⟨e,hb⟩:=ok2 hk
  exact ⟨_,_,e,⟨rfl,rfl⟩,hb 1 (by decide),hk⟩
 refine csp (fun q=>by omega) (fun _=>cd1 (by omega) ?_)
 obtain ⟨a,b,e,⟨ea,eb⟩,hb,hk⟩:=rd 0 (by omega)
 refine ⟨a,b,by rw [e]; rfl,⟨(1,xs.getD 0 []),⟨Int.le_refl 1,by simp only; omega,?_,hk⟩,by subst ea; subst eb; (repeat' (first | exact trivial | exact rfl | assumption | apply And.intro))⟩,?_⟩
 ·match xs,h1 with
  | x::l,_=>rfl
 clear e ea eb hb hk a b
 rintro ⟨i,m⟩ ⟨il,ih,ie,ik⟩
 simp only at il ih ie ik
 have hm:=(ok2 ik).2 1 (by decide)
 refine csp (fun q=>?_) (fun q=>?_)
 ·simp only at q
  have hi:i.toNat < xs.length:=by omega
  obtain ⟨a,b,e,⟨ea,eb⟩,hb,hk⟩:=rd i.toNat hi
  rw [dropC hi] at ie
  refine cd1 (by simp only; omega) ⟨a,b,by rw [e]; rfl,⟨hb,hm⟩,csp (fun w=>?_) (fun w=>?_)⟩
  ·simp only at w
   have ie:bst xs=bstF (xs.getD i.toNat []) (xs.drop (i.toNat+1)):=ie.trans (if_pos (by rw [eb]; exact w))
   refine cd1 (by simp only; omega) ⟨a,b,by rw [e]; rfl,cdI (by simp only; omega) ⟨(i+1,xs.getD i.toNat []),⟨by simp only; omega,by simp only; omega,by rw [show (i+1).toNat=i.toNat+1 by omega]; exact ie,hk⟩,by simp only [mi5]; omega,by subst ea; subst eb; (repeat' (first | exact trivial | exact rfl | assumption | apply And.intro))⟩⟩
  ·simp only at w
   have ie:bst xs=bstF m (xs.drop (i.toNat+1)):=ie.trans (if_neg (by rw [eb]; exact w))
   exact cdI (by simp only; omega) ⟨(i+1,m),⟨by simp only; omega,by simp only; omega,by rw [show (i+1).toNat=i.toNat+1 by omega]; exact ie,ik⟩,by simp only [mi5]; omega,by (repeat' (first | exact trivial | exact rfl | assumption | apply And.intro))⟩
 ·simp only at q
  rw [List.drop_of_length_le (by omega)] at ie
  have ie:bst xs=m:=ie
  rw [ie]
  (repeat' (first | exact trivial | exact rfl | assumption | apply And.intro))
def mmin_S:Prop:=∀ (gl:Glob) (f:Bool) (xs:List (List AV)),ShR xs→fnK Tryz.prog { glob:=gl,spec:=lk [(78,mnc_s)],specH:=lk [],shape:=[13,24,31],nowf:=true } { nt:=33,drop:=drp [(1,384),(2,1024),(3,14336),(5,114688),(6,786432),(7,133169152),(8,4026531840),(9,4294967296)] } (invs [(5,mi5 xs f)]) 6 Tryz.f76 [.sl 2 f xs,.fn 78 []] (.agg [.int .i64 (nI (bst xs) 0),.int .i64 (nI (bst xs) 1)])
theorem mmin_e:mmin_T=mmin_S:=by kernel_rfl
theorem mmin_v:mmin_S:=Eq.mp (mmin_e ..) (mmin_P)
theorem mmin_ok (gl:Glob):SOK Tryz.prog gl 76 mmin_s:=by
 refine ⟨fok Tryz.func76 (by kernel_rfl) (by kernel_rfl),?_⟩
 intro xs pre r h hp
 unfold mmin_s at h
 split at h
 ·simp only [Option.some.injEq,Prod.mk.injEq] at h
  obtain ⟨h1,h2⟩:=h
  subst h1 h2
  exact fnK_sound tyNil (by exact specOK rfl rfl ⟨(mnc_ok gl),trivial⟩ trivial) (by kernel_rfl) Tryz.func76 rfl (mmin_v gl _ _ hp)
 ·cases h
def fr_ (n x:Int):Int:=x.tmod (hN n)*n
def bs_ (n x:Int):Int:=x+(0 - x.tmod (hN n))
def sm_ (n a b c:Int):Int:=fr_ n a+fr_ n b+fr_ n c
def wtL (n a b c x:Int):Int:=if sm_ n a b c=840 then fr_ n x else 840 - fr_ n x
def cr_ (n s:Int) (i j:Nat) (x:Int):Int:=if s=840 then (if i=j then bs_ n x+hN n else bs_ n x) else (if i=j then bs_ n x else bs_ n x+hN n)
def ndL (nrm:NrT) (l:List (Int × AV)) (n f a b c:Int) (i:Nat):Int:=atV nrm l f (cr_ n (sm_ n a b c) i 0 a) (cr_ n (sm_ n a b c) i 1 b) (cr_ n (sm_ n a b c) i 2 c)
def shr1 (w nd:Int):List (List AV):=if 0 < w then [[.int .i64 nd,.int .i64 w]] else []
def shrJ (nrm:NrT) (l:List (Int × AV)) (n f a b c j:Int):List (List AV) :=
 if j=0 then [] else if j=1 then shr1 (wtL n a b c a) (ndL nrm l n f a b c 0) else if j=2 then shr1 (wtL n a b c a) (ndL nrm l n f a b c 0)++shr1 (wtL n a b c b) (ndL nrm l n f a b c 1) else shr1 (wtL n a b c a) (ndL nrm l n f a b c 0)++shr1 (wtL n a b c b) (ndL nrm l n f a b c 1)++shr1 (wtL n a b c c) (ndL nrm l n f a b c 2)
def shrL (nrm:NrT) (l:List (Int × AV)) (n f a b c:Int):List (List AV):=shrJ nrm l n f a b c 3
structure SmN (n a b c:Int) (u:Unit):Prop where
 ne:¬ sm_ n a b c=0
def crA (n f a b c s:Int):List AV:=[.int .i64 f,.int .i64 (cr_ n s 0 0 a),.int .i64 (cr_ n s 0 1 b),.int .i64 (cr_ n s 0 2 c),.int .i64 f,.int .i64 (cr_ n s 1 0 a),.int .i64 (cr_ n s 1 1 b),.int .i64 (cr_ n s 1 2 c),.int .i64 f,.int .i64 (cr_ n s 2 0 a),.int .i64 (cr_ n s 2 1 b),.int .i64 (cr_ n s 2 2 c)]
def netC (n h:Int) (g g4 g5 g6:Bool) (nd cl ed nx:List (List AV)) (l:List (Int × AV)):List (Nat × Blk):=[(0,.cells [.int .i64 n,.int .i64 h,.sl 4 g nd,.mpv 1,.sl 3 g4 cl,.sl 2 g5 ed,.sl 1 g6 nx]),(1,.mp 27 3 l)]
def loB (n f a b c:Int) (H:List (Nat × Blk)):LInv:=⟨Unit,fun _=>⟨[(0,.ptr 0 0),(9,.ptr 1009 0),(10,.ptr 1010 0)],(1009,.cells (crA n f a b c (sm_ n a b c)))::(1010,.cells [.int .i64 (wtL n a b c a),.int .i64 (wtL n a b c b),.int .i64 (wtL n a b c c)])::H⟩,SmN n a b c,fun _=>0,none⟩
def loE (nrm:NrT) (l:List (Int × AV)) (n f a b c:Int) (H:List (Nat × Blk)):LInv:=⟨Unit,fun _=>⟨[(0,.ptr 0 0),(11,.rw 1800 2 (shrL nrm l n f a b c).length)],(1800,.row 106 2 (shrL nrm l n f a b c))::H⟩,SmN n a b c,fun _=>0,none⟩
def locL (nrm:NrT) (l:List (Int × AV)) (n f a b c:Int):List (List AV):=if sm_ n a b c=0 then [[.int .i64 (atV nrm l f a b c),.int .i64 840]] else sortR 2 cfS (shrL nrm l n f a b c)
structure LocP (nrm:NrT) (l:List (Int × AV)) (n h f a b c:Int):Prop where
 lo:1≤n
 hi:n≤4
 hh:h=hN n
 v:Vld f a b c
 rg:∀ q,0≤mInt l q∧mInt l q < 1000
theorem tm_b {n x:Int} (n1:1≤n) (n4:n≤4) (x0:0≤x):0≤x.tmod (hN n)∧x.tmod (hN n) < hN n∧x.tmod (hN n)≤x∧0≤fr_ n x∧fr_ n x+n≤840:=by
 obtain ⟨h2,h8,hh⟩:=hN_b n1 n4
 have e:x.tmod (hN n)=x % hN n:=Int.tmod_eq_emod_of_nonneg x0
 have l0:=Int.emod_nonneg x (b:=hN n) (by omega)
 have l1:=Int.emod_lt_of_pos x (b:=hN n) (by omega)
 have l2:x % hN n≤x:=by rw [← Int.natAbs_of_nonneg x0,← Int.natAbs_of_nonneg (a:=hN n) (by omega)]; exact_mod_cast Nat.mod_le _ _
 unfold fr_
 rw [e]
 refine ⟨l0,l1,l2,Int.mul_nonneg l0 (by omega),?_⟩
 have:(x % hN n+1)*n≤hN n*n:=Int.mul_le_mul_of_nonneg_right (by omega) (by omega)
 rw [Int.add_mul,Int.one_mul,Int.mul_comm (hN n) n,hh] at this
 exact this
theorem shrJ_1 (nrm:NrT) (l:List (Int × AV)) (n f a b c:Int):shrJ nrm l n f a b c 1=shr1 (wtL n a b c a) (ndL nrm l n f a b c 0):=rfl
theorem shrJ_2 (nrm:NrT) (l:List (Int × AV)) (n f a b c:Int):shrJ nrm l n f a b c 2=shrJ nrm l n f a b c 1++shr1 (wtL n a b c b) (ndL nrm l n f a b c 1):=rfl
theorem shrJ_3 (nrm:NrT) (l:List (Int × AV)) (n f a b c:Int):shrJ nrm l n f a b c 3=shrJ nrm l n f a b c 2++shr1 (wtL n a b c c) (ndL nrm l n f a b c 2):=rfl
theorem shr1_t {w nd:Int} (h:0 < w):shr1 w nd=[[.int .i64 nd,.int .i64 w]]:=if_pos h
theorem shr1_f {w nd:Int} (h:¬ 0 < w):shr1 w nd=[]:=if_neg h
theorem shr1_ok {w nd:Int} (hw:w≤840) (hn:0≤nd∧nd < 1000):(∀ r ∈ shr1 w nd,okR 2 r=true)∧(shr1 w nd).length≤1:=by
 unfold shr1
 split
 ·refine ⟨fun r hr=>?_,by simp⟩
  rw [List.mem_singleton] at hr
  subst hr
  exact mk2 (by omega) (by omega)
 ·exact ⟨fun r hr=>by simp at hr,by simp⟩
theorem wt_b {n a b c x:Int} (n1:1≤n) (n4:n≤4) (x0:0≤x):0≤wtL n a b c x∧wtL n a b c x≤840:=by
 have:=tm_b n1 n4 x0
 unfold wtL
 split <;> omega
theorem shrL_ok {nrm:NrT} {l:List (Int × AV)} {n f a b c:Int} (n1:1≤n) (n4:n≤4) (a0:0≤a) (b0:0≤b) (c0:0≤c) (hl:∀ q,0≤mInt l q∧mInt l q < 1000) (h0:¬ sm_ n a b c=0) :
  (∀ r ∈ shrJ nrm l n f a b c 3,okR 2 r=true)∧1≤(shrJ nrm l n f a b c 3).length∧(shrJ nrm l n f a b c 3).length≤3:=by
 have ta:=tm_b n1 n4 a0
 have tb:=tm_b n1 n4 b0
 have tc:=tm_b n1 n4 c0
 have na:=fun i=>at_b (nrm:=nrm) hl f (cr_ n (sm_ n a b c) i 0 a) (cr_ n (sm_ n a b c) i 1 b) (cr_ n (sm_ n a b c) i 2 c)
 obtain ⟨o1,l1⟩:=shr1_ok (nd:=ndL nrm l n f a b c 0) (wt_b (n:=n) (a:=a) (b:=b) (c:=c) n1 n4 a0).2 (na 0)
 obtain ⟨o2,l2⟩:=shr1_ok (nd:=ndL nrm l n f a b c 1) (wt_b (n:=n) (a:=a) (b:=b) (c:=c) n1 n4 b0).2 (na 1)
 obtain ⟨o3,l3⟩:=shr1_ok (nd:=ndL nrm l n f a b c 2) (wt_b (n:=n) (a:=a) (b:=b) (c:=c) n1 n4 c0).2 (na 2)
 rw [shrJ_3,shrJ_2,shrJ_1]
 refine ⟨fun r hr=>?_,?_,?_⟩
 ·rcases List.mem_append.1 hr with hr | hr
  ·rcases List.mem_append.1 hr with hr | hr
   ·exact o1 r hr
   ·exact o2 r hr
  ·exact o3 r hr
 ·have hw:0 < wtL n a b c a∨0 < wtL n a b c b∨0 < wtL n a b c c:=by
   unfold sm_ at h0
   unfold wtL
   split
   ·omega
   ·left; omega
  simp only [List.length_append]
  rcases hw with h | h | h <;> rw [shr1_t h] <;> simp only [List.length_singleton] <;> omega
 ·simp only [List.length_append]; omega
def mloc_s (nrm:Int→Int→Int→Int→Int × Int × Int × Int) (vld:Int→Int→Int→Int→Bool):SpH
 | [.ptr 0 0,.agg [.int .i64 f,.int .i64 a,.int .i64 b,.int .i64 c]],[.cells [.int .i64 n,.int .i64 h,.sl 4 g nd,.mpv 1,.sl 3 g4 cl,.sl 2 g5 ed,.sl 1 g6 nx],.mp 27 3 l]=>some (LocP nrm l n h f a b c,.sl 2 false (locL nrm l n f a b c),[.cells [.int .i64 n,.int .i64 h,.sl 4 g nd,.mpv 1,.sl 3 g4 cl,.sl 2 g5 ed,.sl 1 g6 nx],.mp 27 3 l])
 | _,_=>none
def mloc_T (nrm:Int→Int→Int→Int→Int × Int × Int × Int) (vld:Int→Int→Int→Int→Bool):Prop :=
  ∀ (n h f a b c:Int) (g g4 g5 g6:Bool) (nd cl ed nx:List (List AV)) (l:List (Int × AV)),LocP nrm l n h f a b c→True→((-9223372036854775808:Int)≤f∧f ≤
  (9223372036854775807:Int))∧((-9223372036854775808:Int)≤a∧a≤(9223372036854775807:Int))∧((-9223372036854775808:Int)≤b∧b≤(9223372036854775807:Int)) ∧
  ((-9223372036854775808:Int)≤c∧c≤(9223372036854775807:Int))∧True→(-9223372036854775808:Int)≤n∧n≤(9223372036854775807:Int)→(-9223372036854775808:Int)≤h
 ∧h≤(9223372036854775807:Int)→True→True→True→True→True→bif decide ¬h=(0:Int) then bif decide (rng IntKind.i64 (a.tmod h*n)) then bif decide ¬h=(0:Int)
  then bif decide (rng IntKind.i64 (b.tmod h*n)) then bif decide ¬h=(0:Int) then bif decide (rng IntKind.i64 (c.tmod h*n)) then bif decide ¬h=(0:Int) then bif decide (rng
  IntKind.i64 ((0:Int) - a.tmod h)) then bif decide ¬h=(0:Int) then bif decide (rng IntKind.i64 ((0:Int) - b.tmod h)) then bif decide ¬h=(0:Int) then bif decide (rng
  IntKind.i64 ((0:Int) - c.tmod h)) then (PlS f a b c∧PlS f ((0:Int) - a.tmod h) ((0:Int) - b.tmod h) ((0:Int) - c.tmod h))∧bif decide (rng IntKind.i64 (a.tmod h*n +
  b.tmod h*n)) then bif decide (rng IntKind.i64 (a.tmod h*n+b.tmod h*n+c.tmod h*n)) then (bif decide (a.tmod h*n+b.tmod h*n+c.tmod h*n=(0:Int)) then True ∧
  (True∧[[AV.int IntKind.i64 (atV nrm l f a b c),AV.int IntKind.i64 (840:Int)]]=locL nrm l n f a b c)∧(n=n∧h=h∧((bif g then g=true else True)∧nd=nd)∧True ∧
  ((bif g4 then g4=true else True)∧cl=cl)∧((bif g5 then g5=true else True)∧ed=ed)∧((bif g6 then g6=true else True)∧nx=nx)∧True)∧l=l∧True else bif decide
  (a.tmod h*n+b.tmod h*n+c.tmod h*n=(840:Int)) then (PlS f (a+((0:Int) - a.tmod h)) (b+((0:Int) - b.tmod h)) (c+((0:Int) - c.tmod h))∧(0:Int)≤h∧h ≤
  (840:Int))∧∃ x,SmN n a b c x∧((0:Nat)=(0:Nat)∧(0:Nat)=(0:Nat)∧(0:Nat)=(0:Nat)∧True)∧(f=f∧a+((0:Int) - a.tmod h)+h=cr_ n (sm_ n a b c)
  (0:Nat) (0:Nat) a∧b+((0:Int) - b.tmod h)=cr_ n (sm_ n a b c) (0:Nat) (1:Nat) b∧c+((0:Int) - c.tmod h)=cr_ n (sm_ n a b c) (0:Nat) (2:Nat) c∧f=f∧a
 +((0:Int) - a.tmod h)=cr_ n (sm_ n a b c) (1:Nat) (0:Nat) a∧b+((0:Int) - b.tmod h)+h=cr_ n (sm_ n a b c) (1:Nat) (1:Nat) b∧c+((0:Int) - c.tmod h)=cr_
  n (sm_ n a b c) (1:Nat) (2:Nat) c∧f=f∧a+((0:Int) - a.tmod h)=cr_ n (sm_ n a b c) (2:Nat) (0:Nat) a∧b+((0:Int) - b.tmod h)=cr_ n (sm_ n a b c) (2:Nat)
  (1:Nat) b∧c+((0:Int) - c.tmod h)+h=cr_ n (sm_ n a b c) (2:Nat) (2:Nat) c∧True)∧(a.tmod h*n=wtL n a b c a∧b.tmod h*n=wtL n a b c b∧c.tmod h*n=wtL
  n a b c c∧True)∧(n=n∧h=h∧((bif g then g=true else True)∧nd=nd)∧True∧((bif g4 then g4=true else True)∧cl=cl)∧((bif g5 then g5=true else True)∧ed =
  ed)∧((bif g6 then g6=true else True)∧nx=nx)∧True)∧l=l∧True else (PlS f (a+((0:Int) - a.tmod h)) (b+((0:Int) - b.tmod h)) (c+((0:Int) - c.tmod h))∧(0 :
  Int)≤h∧h≤(840:Int))∧bif decide (rng IntKind.i64 ((840:Int) - a.tmod h*n)) then bif decide (rng IntKind.i64 ((840:Int) - b.tmod h*n)) then bif decide (rng
  IntKind.i64 ((840:Int) - c.tmod h*n)) then ∃ x,SmN n a b c x∧((0:Nat)=(0:Nat)∧(0:Nat)=(0:Nat)∧(0:Nat)=(0:Nat)∧True)∧(f=f∧a+((0:Int) -
  a.tmod h)=cr_ n (sm_ n a b c) (0:Nat) (0:Nat) a∧b+((0:Int) - b.tmod h)+h=cr_ n (sm_ n a b c) (0:Nat) (1:Nat) b∧c+((0:Int) - c.tmod h)+h=cr_ n (sm_ n a
  b c) (0:Nat) (2:Nat) c∧f=f∧a+((0:Int) - a.tmod h)+h=cr_ n (sm_ n a b c) (1:Nat) (0:Nat) a∧b+((0:Int) - b.tmod h)=cr_ n (sm_ n a b c) (1:Nat) (1 :
  Nat) b∧c+((0:Int) - c.tmod h)+h=cr_ n (sm_ n a b c) (1:Nat) (2:Nat) c∧f=f∧a+((0:Int) - a.tmod h)+h=cr_ n (sm_ n a b c) (2:Nat) (0:Nat) a∧b+((0 :
  Int) - b.tmod h)+h=cr_ n (sm_ n a b c) (2:Nat) (1:Nat) b∧c+((0:Int) - c.tmod h)=cr_ n (sm_ n a b c) (2:Nat) (2:Nat) c∧True)∧((840:Int) - a.tmod h*n =
  wtL n a b c a∧(840:Int) - b.tmod h*n=wtL n a b c b∧(840:Int) - c.tmod h*n=wtL n a b c c∧True)∧(n=n∧h=h∧((bif g then g=true else True)∧nd=nd) ∧
  True∧((bif g4 then g4=true else True)∧cl=cl)∧((bif g5 then g5=true else True)∧ed=ed)∧((bif g6 then g6=true else True)∧nx=nx)∧True)∧l=l∧True else
  False else False else False)∧∀ (x:PUnit),SmN n a b c x→(bif decide ((0:Int) < wtL n a b c a) then True∧bif decide ((0:Int) < wtL n a b c b) then True∧bif decide ((0
 :Int) < wtL n a b c c) then True∧∃ x,SmN n a b c x∧((0:Nat)=(0:Nat)∧([]++[[AV.int IntKind.i64 (atV nrm l f (cr_ n (sm_ n a b c) (0:Nat) (0:Nat) a) (cr_ n (sm_ n
  a b c) (0:Nat) (1:Nat) b) (cr_ n (sm_ n a b c) (0:Nat) (2:Nat) c)),AV.int IntKind.i64 (wtL n a b c a)]]++[[AV.int IntKind.i64 (atV nrm l f (cr_ n (sm_ n a b c) (1:Nat)
  (0:Nat) a) (cr_ n (sm_ n a b c) (1:Nat) (1:Nat) b) (cr_ n (sm_ n a b c) (1:Nat) (2:Nat) c)),AV.int IntKind.i64 (wtL n a b c b)]]++[[AV.int IntKind.i64 (atV nrm l f
  (cr_ n (sm_ n a b c) (2:Nat) (0:Nat) a) (cr_ n (sm_ n a b c) (2:Nat) (1:Nat) b) (cr_ n (sm_ n a b c) (2:Nat) (2:Nat) c)),AV.int IntKind.i64 (wtL n a b c c)]]).length =
  (shrL nrm l n f a b c).length∧True)∧[]++[[AV.int IntKind.i64 (atV nrm l f (cr_ n (sm_ n a b c) (0:Nat) (0:Nat) a) (cr_ n (sm_ n a b c) (0:Nat) (1:Nat) b) (cr_ n (sm_
  n a b c) (0:Nat) (2:Nat) c)),AV.int IntKind.i64 (wtL n a b c a)]]++[[AV.int IntKind.i64 (atV nrm l f (cr_ n (sm_ n a b c) (1:Nat) (0:Nat) a) (cr_ n (sm_ n a b c) (1 :
  Nat) (1:Nat) b) (cr_ n (sm_ n a b c) (1:Nat) (2:Nat) c)),AV.int IntKind.i64 (wtL n a b c b)]]++[[AV.int IntKind.i64 (atV nrm l f (cr_ n (sm_ n a b c) (2:Nat) (0:Nat)
  a) (cr_ n (sm_ n a b c) (2:Nat) (1:Nat) b) (cr_ n (sm_ n a b c) (2:Nat) (2:Nat) c)),AV.int IntKind.i64 (wtL n a b c c)]]=shrL nrm l n f a b c∧(n=n∧h=h∧((bif g
  then g=true else True)∧nd=nd)∧True∧((bif g4 then g4=true else True)∧cl=cl)∧((bif g5 then g5=true else True)∧ed=ed)∧((bif g6 then g6=true else True)∧nx
 =nx)∧True)∧l=l∧True else ∃ x,SmN n a b c x∧((0:Nat)=(0:Nat)∧([]++[[AV.int IntKind.i64 (atV nrm l f (cr_ n (sm_ n a b c) (0:Nat) (0:Nat) a) (cr_ n (sm_ n a
  b c) (0:Nat) (1:Nat) b) (cr_ n (sm_ n a b c) (0:Nat) (2:Nat) c)),AV.int IntKind.i64 (wtL n a b c a)]]++[[AV.int IntKind.i64 (atV nrm l f (cr_ n (sm_ n a b c) (1:Nat)
  (0:Nat) a) (cr_ n (sm_ n a b c) (1:Nat) (1:Nat) b) (cr_ n (sm_ n a b c) (1:Nat) (2:Nat) c)),AV.int IntKind.i64 (wtL n a b c b)]]).length=(shrL nrm l n f a b c).length
 ∧True)∧[]++[[AV.int IntKind.i64 (atV nrm l f (cr_ n (sm_ n a b c) (0:Nat) (0:Nat) a) (cr_ n (sm_ n a b c) (0:Nat) (1:Nat) b) (cr_ n (sm_ n a b c) (0:Nat) (2:Nat)
  c)),AV.int IntKind.i64 (wtL n a b c a)]]++[[AV.int IntKind.i64 (atV nrm l f (cr_ n (sm_ n a b c) (1:Nat) (0:Nat) a) (cr_ n (sm_ n a b c) (1:Nat) (1:Nat) b) (cr_ n (sm_ n
  a b c) (1:Nat) (2:Nat) c)),AV.int IntKind.i64 (wtL n a b c b)]]=shrL nrm l n f a b c∧(n=n∧h=h∧((bif g then g=true else True)∧nd=nd)∧True∧((bif g4 then g4
 =true else True)∧cl=cl)∧((bif g5 then g5=true else True)∧ed=ed)∧((bif g6 then g6=true else True)∧nx=nx)∧True)∧l=l∧True else bif decide ((0:Int) < wtL
  n a b c c) then True∧∃ x,SmN n a b c x∧((0:Nat)=(0:Nat)∧([]++[[AV.int IntKind.i64 (atV nrm l f (cr_ n (sm_ n a b c) (0:Nat) (0:Nat) a) (cr_ n (sm_ n a b c) (0 :
  Nat) (1:Nat) b) (cr_ n (sm_ n a b c) (0:Nat) (2:Nat) c)),AV.int IntKind.i64 (wtL n a b c a)]]++[[AV.int IntKind.i64 (atV nrm l f (cr_ n (sm_ n a b c) (2:Nat) (0:Nat)
  a) (cr_ n (sm_ n a b c) (2:Nat) (1:Nat) b) (cr_ n (sm_ n a b c) (2:Nat) (2:Nat) c)),AV.int IntKind.i64 (wtL n a b c c)]]).length=(shrL nrm l n f a b c).length∧True) ∧
  []++[[AV.int IntKind.i64 (atV nrm l f (cr_ n (sm_ n a b c) (0:Nat) (0:Nat) a) (cr_ n (sm_ n a b c) (0:Nat) (1:Nat) b) (cr_ n (sm_ n a b c) (0:Nat) (2:Nat) c)),AV.int
  IntKind.i64 (wtL n a b c a)]]++[[AV.int IntKind.i64 (atV nrm l f (cr_ n (sm_ n a b c) (2:Nat) (0:Nat) a) (cr_ n (sm_ n a b c) (2:Nat) (1:Nat) b) (cr_ n (sm_ n a b c) (2 :
  Nat) (2:Nat) c)),AV.int IntKind.i64 (wtL n a b c c)]]=shrL nrm l n f a b c∧(n=n∧h=h∧((bif g then g=true else True)∧nd=nd)∧True∧((bif g4 then g4=true else
  True)∧cl=cl)∧((bif g5 then g5=true else True)∧ed=ed)∧((bif g6 then g6=true else True)∧nx=nx)∧True)∧l=l∧True else ∃ x,SmN n a b c x∧((0:Nat)=(0 :
  Nat)∧([]++[[AV.int IntKind.i64 (atV nrm l f (cr_ n (sm_ n a b c) (0:Nat) (0:Nat) a) (cr_ n (sm_ n a b c) (0:Nat) (1:Nat) b) (cr_ n (sm_ n a b c) (0:Nat) (2:Nat)
  c)),AV.int IntKind.i64 (wtL n a b c a)]]).length=(shrL nrm l n f a b c).length∧True)∧[]++[[AV.int IntKind.i64 (atV nrm l f (cr_ n (sm_ n a b c) (0:Nat) (0:Nat) a) (cr_
  n (sm_ n a b c) (0:Nat) (1:Nat) b) (cr_ n (sm_ n a b c) (0:Nat) (2:Nat) c)),AV.int IntKind.i64 (wtL n a b c a)]]=shrL nrm l n f a b c∧(n=n∧h=h∧((bif g then g =
  true else True)∧nd=nd)∧True∧((bif g4 then g4=true else True)∧cl=cl)∧((bif g5 then g5=true else True)∧ed=ed)∧((bif g6 then g6=true else True)∧nx=nx) ∧
  True)∧l=l∧True else bif decide ((0:Int) < wtL n a b c b) then True∧bif decide ((0:Int) < wtL n a b c c) then True∧∃ x,SmN n a b c x∧((0:Nat)=(0:Nat)∧([] ++
  [[AV.int IntKind.i64 (atV nrm l f (cr_ n (sm_ n a b c) (1:Nat) (0:Nat) a) (cr_ n (sm_ n a b c) (1:Nat) (1:Nat) b) (cr_ n (sm_ n a b c) (1:Nat) (2:Nat) c)),AV.int
  IntKind.i64 (wtL n a b c b)]]++[[AV.int IntKind.i64 (atV nrm l f (cr_ n (sm_ n a b c) (2:Nat) (0:Nat) a) (cr_ n (sm_ n a b c) (2:Nat) (1:Nat) b) (cr_ n (sm_ n a b c) (2 :
  Nat) (2:Nat) c)),AV.int IntKind.i64 (wtL n a b c c)]]).length=(shrL nrm l n f a b c).length∧True)∧[]++[[AV.int IntKind.i64 (atV nrm l f (cr_ n (sm_ n a b c) (1:Nat) (0
 :Nat) a) (cr_ n (sm_ n a b c) (1:Nat) (1:Nat) b) (cr_ n (sm_ n a b c) (1:Nat) (2:Nat) c)),AV.int IntKind.i64 (wtL n a b c b)]]++[[AV.int IntKind.i64 (atV nrm l f (cr_ n
  (sm_ n a b c) (2:Nat) (0:Nat) a) (cr_ n (sm_ n a b c) (2:Nat) (1:Nat) b) (cr_ n (sm_ n a b c) (2:Nat) (2:Nat) c)),AV.int IntKind.i64 (wtL n a b c c)]]=shrL nrm l n f
  a b c∧(n=n∧h=h∧((bif g then g=true else True)∧nd=nd)∧True∧((bif g4 then g4=true else True)∧cl=cl)∧((bif g5 then g5=true else True)∧ed=ed)∧((bif
  g6 then g6=true else True)∧nx=nx)∧True)∧l=l∧True else ∃ x,SmN n a b c x∧((0:Nat)=(0:Nat)∧([]++[[AV.int IntKind.i64 (atV nrm l f (cr_ n (sm_ n a b c) (1 :
  Nat) (0:Nat) a) (cr_ n (sm_ n a b c) (1:Nat) (1:Nat) b) (cr_ n (sm_ n a b c) (1:Nat) (2:Nat) c)),AV.int IntKind.i64 (wtL n a b c b)]]).length=(shrL nrm l n f a b
  c).length∧True)∧[]++[[AV.int IntKind.i64 (atV nrm l f (cr_ n (sm_ n a b c) (1:Nat) (0:Nat) a) (cr_ n (sm_ n a b c) (1:Nat) (1:Nat) b) (cr_ n (sm_ n a b c) (1:Nat)
  (2:Nat) c)),AV.int IntKind.i64 (wtL n a b c b)]]=shrL nrm l n f a b c∧(n=n∧h=h∧((bif g then g=true else True)∧nd=nd)∧True∧((bif g4 then g4=true else
  True)∧cl=cl)∧((bif g5 then g5=true else True)∧ed=ed)∧((bif g6 then g6=true else True)∧nx=nx)∧True)∧l=l∧True else bif decide ((0:Int) < wtL n a b c c)
  then True∧∃ x,SmN n a b c x∧((0:Nat)=(0:Nat)∧([]++[[AV.int IntKind.i64 (atV nrm l f (cr_ n (sm_ n a b c) (2:Nat) (0:Nat) a) (cr_ n (sm_ n a b c) (2:Nat) (1 :
  Nat) b) (cr_ n (sm_ n a b c) (2:Nat) (2:Nat) c)),AV.int IntKind.i64 (wtL n a b c c)]]).length=(shrL nrm l n f a b c).length∧True)∧[]++[[AV.int IntKind.i64 (atV nrm l f
  (cr_ n (sm_ n a b c) (2:Nat) (0:Nat) a) (cr_ n (sm_ n a b c) (2:Nat) (1:Nat) b) (cr_ n (sm_ n a b c) (2:Nat) (2:Nat) c)),AV.int IntKind.i64 (wtL n a b c c)]]=shrL
  nrm l n f a b c∧(n=n∧h=h∧((bif g then g=true else True)∧nd=nd)∧True∧((bif g4 then g4=true else True)∧cl=cl)∧((bif g5 then g5=true else True)∧ed =
  ed)∧((bif g6 then g6=true else True)∧nx=nx)∧True)∧l=l∧True else ∃ x,SmN n a b c x∧((0:Nat)=(0:Nat)∧(0:Nat)=(shrL nrm l n f a b c).length∧True)∧[]
 =shrL nrm l n f a b c∧(n=n∧h=h∧((bif g then g=true else True)∧nd=nd)∧True∧((bif g4 then g4=true else True)∧cl=cl)∧((bif g5 then g5=true else True) ∧
  ed=ed)∧((bif g6 then g6=true else True)∧nx=nx)∧True)∧l=l∧True)∧∀ (x:PUnit),SmN n a b c x→AllR (2:Nat) (shrL nrm l n f a b c) (shrL nrm l n f a b
  c).length∧bif decide ((shrL nrm l n f a b c).length=(sortR (2:Nat) cfS (shrL nrm l n f a b c)).length) then (True∧sortR (2:Nat) cfS (shrL nrm l n f a b c)=locL nrm l n
  f a b c)∧(n=n∧h=h∧((bif g then g=true else True)∧nd=nd)∧True∧((bif g4 then g4=true else True)∧cl=cl)∧((bif g5 then g5=true else True)∧ed=ed) ∧
  ((bif g6 then g6=true else True)∧nx=nx)∧True)∧l=l∧True else False else False else False else False else False else False else False else False else False else False
  else False else False else False else False else False
theorem mloc_P:mloc_T nrm vld:=by
 unfold mloc_T
 intro n h f a b c g g4 g5 g6 nd cl ed nx l hP
 intros
 have n1:=hP.lo
 have n4:=hP.hi
 have hl:=hP.rg
 have hv:=hP.v
 have hfa:=hv.face
 have hwa:=hv.wa
 have hwb:=hv.wb
 have hwc:=hv.wc
 obtain rfl:=hP.hh
 obtain ⟨h2,h8,hh⟩:=hN_b n1 n4
 have ta:=tm_b n1 n4 hwa.1
 have tb:=tm_b n1 n4 hwb.1
 have tc:=tm_b n1 n4 hwc.1
 have fa:a.tmod (hN n)*n=fr_ n a:=rfl
 have fb:b.tmod (hN n)*n=fr_ n b:=rfl
 have fc:c.tmod (hN n)*n=fr_ n c:=rfl
 have fs:fr_ n a+fr_ n b+fr_ n c=sm_ n a b c:=rfl
 rw [fa,fb,fc,fs]
 have p0:PlS f a b c:=⟨hfa,by omega,by omega,by omega⟩
 have p1:PlS f (0 - a.tmod (hN n)) (0 - b.tmod (hN n)) (0 - c.tmod (hN n)):=⟨hfa,by omega,by omega,by omega⟩
 have p2:PlS f (a+(0 - a.tmod (hN n))) (b+(0 - b.tmod (hN n))) (c+(0 - c.tmod (hN n))):=⟨hfa,by omega,by omega,by omega⟩
 have hz:¬ hN n=0:=by omega
 refine cd1 hz (cdI (by omega) (cd1 hz (cdI (by omega) (cd1 hz (cdI (by omega) (cd1 hz (cdI (by omega) (cd1 hz (cdI (by omega) (cd1 hz (cdI (by omega) ⟨⟨p0,p1⟩,cdI (by omega) (cdI (by rw [← fs]; omega) ⟨csp (fun q=>?_) (fun q=>csp (fun q2=>?_) (fun q2=>?_)),?_⟩)⟩)))))))))))
 ·have e:[[AV.int .i64 (atV nrm l f a b c),.int .i64 840]]=locL nrm l n f a b c:=(if_pos q).symm
  (repeat' (first | exact trivial | exact rfl | exact gg _ | assumption | apply And.intro))
 ·have w:∀ x,fr_ n x=wtL n a b c x:=fun x=>(if_pos q2).symm
  have k:∀ i j x,(if i=j then bs_ n x+hN n else bs_ n x)=cr_ n (sm_ n a b c) i j x:=fun i j x=>(if_pos q2).symm
  refine ⟨⟨p2,by omega,h8⟩,(),⟨q⟩,⟨rfl,rfl,rfl,trivial⟩,⟨rfl,k 0 0 a,k 0 1 b,k 0 2 c,rfl,k 1 0 a,k 1 1 b,k 1 2 c,rfl,k 2 0 a,k 2 1 b,k 2 2 c,trivial⟩,⟨w a,w b,w c,trivial⟩,?_⟩
  (repeat' (first | exact trivial | exact rfl | exact gg _ | assumption | apply And.intro))
 ·have w:∀ x,840 - fr_ n x=wtL n a b c x:=fun x=>(if_neg q2).symm
  have k:∀ i j x,(if i=j then bs_ n x else bs_ n x+hN n)=cr_ n (sm_ n a b c) i j x:=fun i j x=>(if_neg q2).symm
  refine ⟨⟨p2,by omega,h8⟩,cdI (by omega) (cdI (by omega) (cdI (by omega) ⟨(),⟨q⟩,⟨rfl,rfl,rfl,trivial⟩,⟨rfl,k 0 0 a,k 0 1 b,k 0 2 c,rfl,k 1 0 a,k 1 1 b,k 1 2 c,rfl,k 2 0 a,k 2 1 b,k 2 2 c,trivial⟩,⟨w a,w b,w c,trivial⟩,?_⟩))⟩
  (repeat' (first | exact trivial | exact rfl | exact gg _ | assumption | apply And.intro))
 ·intro _ hs
  have h0:=hs.ne
  refine ⟨csp (fun wa=>⟨trivial,csp (fun wb=>⟨trivial,csp (fun wc=>⟨trivial,?_⟩) (fun wc=>?_)⟩) (fun wb=>csp (fun wc=>⟨trivial,?_⟩) (fun wc=>?_))⟩) (fun wa=>csp (fun wb=>⟨trivial,csp (fun wc=>⟨trivial,?_⟩) (fun wc=>?_)⟩) (fun wb=>csp (fun wc=>⟨trivial,?_⟩) (fun wc=>?_))),fun _ _=>?_⟩
  ·have e:[]++[[AV.int .i64 (ndL nrm l n f a b c 0),.int .i64 (wtL n a b c a)]]++[[AV.int .i64 (ndL nrm l n f a b c 1),.int .i64 (wtL n a b c b)]]++[[AV.int .i64 (ndL nrm l n f a b c 2),.int .i64 (wtL n a b c c)]]=shrL nrm l n f a b c:=by
    show _=shr1 _ _++shr1 _ _++shr1 _ _
    (rw [shr1_t wa,shr1_t wb,shr1_t wc]) <;> rfl
   refine ⟨(),hs,⟨rfl,congrArg List.length e,trivial⟩,e,?_⟩
   (repeat' (first | exact trivial | exact rfl | exact gg _ | assumption | apply And.intro))
  ·have e:[]++[[AV.int .i64 (ndL nrm l n f a b c 0),.int .i64 (wtL n a b c a)]]++[[AV.int .i64 (ndL nrm l n f a b c 1),.int .i64 (wtL n a b c b)]]=shrL nrm l n f a b c:=by
    show _=shr1 _ _++shr1 _ _++shr1 _ _
    (rw [shr1_t wa,shr1_t wb,shr1_f wc]) <;> rfl
   refine ⟨(),hs,⟨rfl,congrArg List.length e,trivial⟩,e,?_⟩
   (repeat' (first | exact trivial | exact rfl | exact gg _ | assumption | apply And.intro))
  ·have e:[]++[[AV.int .i64 (ndL nrm l n f a b c 0),.int .i64 (wtL n a b c a)]]++[[AV.int .i64 (ndL nrm l n f a b c 2),.int .i64 (wtL n a b c c)]]=shrL nrm l n f a b c:=by
    show _=shr1 _ _++shr1 _ _++shr1 _ _
    (rw [shr1_t wa,shr1_f wb,shr1_t wc]) <;> rfl
   refine ⟨(),hs,⟨rfl,congrArg List.length e,trivial⟩,e,?_⟩
   (repeat' (first | exact trivial | exact rfl | exact gg _ | assumption | apply And.intro))
  ·have e:[]++[[AV.int .i64 (ndL nrm l n f a b c 0),.int .i64 (wtL n a b c a)]]=shrL nrm l n f a b c:=by
    show _=shr1 _ _++shr1 _ _++shr1 _ _
    (rw [shr1_t wa,shr1_f wb,shr1_f wc]) <;> rfl
   refine ⟨(),hs,⟨rfl,congrArg List.length e,trivial⟩,e,?_⟩
   (repeat' (first | exact trivial | exact rfl | exact gg _ | assumption | apply And.intro))
  ·have e:[]++[[AV.int .i64 (ndL nrm l n f a b c 1),.int .i64 (wtL n a b c b)]]++[[AV.int .i64 (ndL nrm l n f a b c 2),.int .i64 (wtL n a b c c)]]=shrL nrm l n f a b c:=by
    show _=shr1 _ _++shr1 _ _++shr1 _ _
    (rw [shr1_f wa,shr1_t wb,shr1_t wc]) <;> rfl
   refine ⟨(),hs,⟨rfl,congrArg List.length e,trivial⟩,e,?_⟩
   (repeat' (first | exact trivial | exact rfl | exact gg _ | assumption | apply And.intro))
  ·have e:[]++[[AV.int .i64 (ndL nrm l n f a b c 1),.int .i64 (wtL n a b c b)]]=shrL nrm l n f a b c:=by
    show _=shr1 _ _++shr1 _ _++shr1 _ _
    (rw [shr1_f wa,shr1_t wb,shr1_f wc]) <;> rfl
   refine ⟨(),hs,⟨rfl,congrArg List.length e,trivial⟩,e,?_⟩
   (repeat' (first | exact trivial | exact rfl | exact gg _ | assumption | apply And.intro))
  ·have e:[]++[[AV.int .i64 (ndL nrm l n f a b c 2),.int .i64 (wtL n a b c c)]]=shrL nrm l n f a b c:=by
    show _=shr1 _ _++shr1 _ _++shr1 _ _
    (rw [shr1_f wa,shr1_f wb,shr1_t wc]) <;> rfl
   refine ⟨(),hs,⟨rfl,congrArg List.length e,trivial⟩,e,?_⟩
   (repeat' (first | exact trivial | exact rfl | exact gg _ | assumption | apply And.intro))
  ·have e:([]:List (List AV))=shrL nrm l n f a b c:=by
    show _=shr1 _ _++shr1 _ _++shr1 _ _
    (rw [shr1_f wa,shr1_f wb,shr1_f wc]) <;> rfl
   refine ⟨(),hs,⟨rfl,congrArg List.length e,trivial⟩,e,?_⟩
   (repeat' (first | exact trivial | exact rfl | exact gg _ | assumption | apply And.intro))
  ·obtain ⟨o1,o2,o3⟩:=shrL_ok (f:=f) (nrm:=nrm) n1 n4 hwa.1 hwb.1 hwc.1 hl h0
   have hp:(sortR 2 cfS (shrL nrm l n f a b c)).length=(shrL nrm l n f a b c).length:=(sortR_perm (cf:=cfS) swoS o1).length_eq
   have e:sortR 2 cfS (shrL nrm l n f a b c)=locL nrm l n f a b c:=(if_neg h0).symm
   have hl3:1≤(shrL nrm l n f a b c).length∧(shrL nrm l n f a b c).length≤3:=⟨o2,o3⟩
   refine ⟨⟨o1,fun e=>by rw [e] at hl3; simp at hl3,by omega,rfl⟩,cd1 hp.symm ⟨⟨trivial,e⟩,?_⟩⟩
   (repeat' (first | exact trivial | exact rfl | exact gg _ | assumption | apply And.intro))
def mloc_S (nrm:Int→Int→Int→Int→Int × Int × Int × Int) (vld:Int→Int→Int→Int→Bool):Prop:=∀ (n h f a b c:Int) (g g4 g5 g6:Bool) (nd cl ed nx:List (List AV)) (l:List (Int × AV)),LocP nrm l n h f a b c→fnH Tryz.prog { glob:=glb,spec:=lk [(123,mmoved_s)],specH:=lk [(124,(matC_s nrm vld)),(125,mupC_s),(126,mdnC_s),(127,srtS_s)],nowf:=true } { nt:=130,drop:=drp [(1,1125899906826240),(2,75557862600014416576512),(5,1133367955888714851287040),(6,2473462226931531291448836096),(7,4951760157141521099596496896),(8,307009129742774308174982807552),(9,633825300114114700748351602688),(10,160991626228985133990081307082752),(14,3894222643901120721397872246915072),(15,36346078009743793399713474304540672),(16,84987514980498058623787163916674531328),(17,85070591730234615865843651857942052864),(18,170141183460469231731687303715884105728),(19,680564733841876926926749214863536422912)],fr:=1000,kp:=[0,1],emp:=fun id=>cond (Nat.beq id 12) [(11,1800,106,2)] [] } (invs [(200000,loB n f a b c (netC n h g g4 g5 g6 nd cl ed nx l)),(100018,loE nrm l n f a b c (netC n h g g4 g5 g6 nd cl ed nx l))]) 6 Tryz.f77 [.ptr 0 0,.agg [.int .i64 f,.int .i64 a,.int .i64 b,.int .i64 c]] [.cells [.int .i64 n,.int .i64 h,.sl 4 g nd,.mpv 1,.sl 3 g4 cl,.sl 2 g5 ed,.sl 1 g6 nx],.mp 27 3 l] (.sl 2 false (locL nrm l n f a b c)) [.cells [.int .i64 n,.int .i64 h,.sl 4 g nd,.mpv 1,.sl 3 g4 cl,.sl 2 g5 ed,.sl 1 g6 nx],.mp 27 3 l]
theorem mloc_e (nrm:Int→Int→Int→Int→Int × Int × Int × Int) (vld:Int→Int→Int→Int→Bool):mloc_T nrm vld=mloc_S nrm vld:=by kernel_rfl
theorem mloc_v:mloc_S nrm vld:=Eq.mp (mloc_e ..) (mloc_P)
theorem mloc_ok:HOK Tryz.prog glb 77 (mloc_s nrm vld):=by
 refine ⟨fok Tryz.func77 (by kernel_rfl) (by kernel_rfl),?_⟩
 intro xs bs pre r bs2 h hp
 unfold mloc_s at h
 split at h
 ·simp only [Option.some.injEq,Prod.mk.injEq] at h
  obtain ⟨h1,h2,h3⟩:=h
  subst h1 h2 h3
  exact fnH_sound tyNil (by exact specOK rfl rfl ⟨(mmoved_ok glb),trivial⟩ ⟨(matC_ok),(mupC_ok glb),(mdnC_ok glb),(srtS_ok glb),trivial⟩) (by kernel_rfl) Tryz.func77 (mloc_v  _ _ _ _ _ _ _ _ _ _ _ _ _ _ _ hp)
 ·cases h
def neaV (nrm:NrT) (l:List (Int × AV)) (n f a b c:Int):Int:=nI (bst (locL nrm l n f a b c)) 0
theorem locL_ok {nrm:NrT} {l:List (Int × AV)} {n h f a b c:Int} (hP:LocP nrm l n h f a b c):ShR (locL nrm l n f a b c):=by
 unfold locL
 split
 ·refine ⟨fun r hr=>?_,by simp,by simp⟩
  rw [List.mem_singleton] at hr
  subst hr
  have:=at_b (nrm:=nrm) hP.rg f a b c
  exact mk2 (by omega) (by decide)
 ·rename_i h0
  obtain ⟨o1,o2,o3⟩:=shrL_ok (f:=f) (nrm:=nrm) hP.lo hP.hi hP.v.wa.1 hP.v.wb.1 hP.v.wc.1 hP.rg h0
  have hp:=sortR_perm (cf:=cfS) swoS o1
  have hl:=hp.length_eq
  exact ⟨fun r hr=>o1 r (hp.mem_iff.1 hr),by rw [show (sortR 2 cfS (shrL nrm l n f a b c)).length=_ from hl]; exact o2,by rw [show (sortR 2 cfS (shrL nrm l n f a b c)).length=_ from hl]; exact Nat.le_trans o3 (by decide)⟩
def mnear_s (nrm:Int→Int→Int→Int→Int × Int × Int × Int) (vld:Int→Int→Int→Int→Bool):SpH
 | [.ptr 0 0,.agg [.int .i64 f,.int .i64 a,.int .i64 b,.int .i64 c]],[.cells [.int .i64 n,.int .i64 h,.sl 4 g nd,.mpv 1,.sl 3 g4 cl,.sl 2 g5 ed,.sl 1 g6 nx],.mp 27 3 l]=>some (LocP nrm l n h f a b c,.int .i64 (neaV nrm l n f a b c),[.cells [.int .i64 n,.int .i64 h,.sl 4 g nd,.mpv 1,.sl 3 g4 cl,.sl 2 g5 ed,.sl 1 g6 nx],.mp 27 3 l])
 | _,_=>none
def mnear_T (nrm:Int→Int→Int→Int→Int × Int × Int × Int) (vld:Int→Int→Int→Int→Bool):Prop :=
  ∀ (n h f a b c:Int) (g g4 g5 g6:Bool) (nd cl ed nx:List (List AV)) (l:List (Int × AV)),LocP nrm l n h f a b c→True→((-9223372036854775808:Int)≤f∧f ≤
  (9223372036854775807:Int))∧((-9223372036854775808:Int)≤a∧a≤(9223372036854775807:Int))∧((-9223372036854775808:Int)≤b∧b≤(9223372036854775807:Int)) ∧
  ((-9223372036854775808:Int)≤c∧c≤(9223372036854775807:Int))∧True→(-9223372036854775808:Int)≤n∧n≤(9223372036854775807:Int)→(-9223372036854775808:Int)≤h
 ∧h≤(9223372036854775807:Int)→True→True→True→True→True→LocP nrm l n h f a b c∧ShR (locL nrm l n f a b c)∧nI (bst (locL nrm l n f a b c)) (0:Nat)=neaV nrm l
  n f a b c∧(n=n∧h=h∧((bif g then g=true else True)∧nd=nd)∧True∧((bif g4 then g4=true else True)∧cl=cl)∧((bif g5 then g5=true else True)∧ed=ed) ∧
  ((bif g6 then g6=true else True)∧nx=nx)∧True)∧l=l∧True
theorem mnear_P:mnear_T nrm vld:=by
 unfold mnear_T
 intro n h f a b c g g4 g5 g6 nd cl ed nx l hP
 intros
 have hs:=locL_ok hP
 (repeat' (first | exact trivial | exact rfl | exact gg _ | assumption | apply And.intro))
def mnear_S (nrm:Int→Int→Int→Int→Int × Int × Int × Int) (vld:Int→Int→Int→Int→Bool):Prop:=∀ (n h f a b c:Int) (g g4 g5 g6:Bool) (nd cl ed nx:List (List AV)) (l:List (Int × AV)),LocP nrm l n h f a b c→fnH Tryz.prog { glob:=glb,spec:=lk [(76,mmin_s)],specH:=lk [(77,(mloc_s nrm vld))],nowf:=true } { nt:=10,drop:=drp [(1,992)],fr:=1000,kp:=[0,1] } (fun _ _=>none) 6 Tryz.f38 [.ptr 0 0,.agg [.int .i64 f,.int .i64 a,.int .i64 b,.int .i64 c]] [.cells [.int .i64 n,.int .i64 h,.sl 4 g nd,.mpv 1,.sl 3 g4 cl,.sl 2 g5 ed,.sl 1 g6 nx],.mp 27 3 l] (.int .i64 (neaV nrm l n f a b c)) [.cells [.int .i64 n,.int .i64 h,.sl 4 g nd,.mpv 1,.sl 3 g4 cl,.sl 2 g5 ed,.sl 1 g6 nx],.mp 27 3 l]
theorem mnear_e (nrm:Int→Int→Int→Int→Int × Int × Int × Int) (vld:Int→Int→Int→Int→Bool):mnear_T nrm vld=mnear_S nrm vld:=by kernel_rfl
theorem mnear_v:mnear_S nrm vld:=Eq.mp (mnear_e ..) (mnear_P)
theorem mnear_ok:HOK Tryz.prog glb 38 (mnear_s nrm vld):=by
 refine ⟨fok Tryz.func38 (by kernel_rfl) (by kernel_rfl),?_⟩
 intro xs bs pre r bs2 h hp
 unfold mnear_s at h
 split at h
 ·simp only [Option.some.injEq,Prod.mk.injEq] at h
  obtain ⟨h1,h2,h3⟩:=h
  subst h1 h2 h3
  exact fnH_sound tyNil (by exact specOK rfl rfl ⟨(mmin_ok glb),trivial⟩ ⟨(mloc_ok),trivial⟩) (by kernel_rfl) Tryz.func38 (mnear_v  _ _ _ _ _ _ _ _ _ _ _ _ _ _ _ hp)
 ·cases h
end Go.Proofs.YtgbbmadjdaphnaaGreatDoor
namespace Go.Proofs.YtgbbmadjdaphnaaGreatDoor
open Go
set_option linter.unusedVariables false
set_option linter.unusedSimpArgs false
theorem nil_sl {S:Pin} {m:Nm} {v:Value} (s:Nat) (h:CV S .nils m v):CV S (.sl s false []) m v:=by
 simp only [CV] at h ⊢
 subst h
 exact ⟨none,0,rfl,Nat.le_refl _,Nat.zero_le _,(fun e=>by cases e),fun _=>rfl,fun a e=>by cases e⟩
theorem CVl.imp2 {S:Pin} {m:Nm}:∀ {xs ys:List AV} {vs:List Value},CVl S xs m vs→xs.length=ys.length→(∀ (i:Nat) (x y:AV) (v:Value),xs[i]?=some x→ys[i]?=some y→CV S x m v→CV S y m v)→CVl S ys m vs
 | [],[],vs,h,_,_=>h
 | x::xs,y::ys,vs,h,hl,hi=>by
  simp only [CVl] at h ⊢
  obtain ⟨u,us,e,h1,h2⟩:=h
  exact ⟨u,us,e,hi 0 x y u rfl rfl h1,h2.imp2 (by simpa using hl) (fun i x y v e1 e2=>hi (i+1) x y v (by simpa using e1) (by simpa using e2))⟩
 | [],_::_,_,_,hl,_=>by simp at hl
 | _::_,[],_,_,hl,_=>by simp at hl
def mptsC_s (vld:Int→Int→Int→Int→Bool) (nrm:Int→Int→Int→Int→Int × Int × Int × Int):SpH
 | [.int .i64 n],[]=>some (1≤n∧n≤4,.ptr 0 0,[.cells [.int .i64 n,.int .i64 (hN n),.sl 4 false (ptG nrm n).1,.mpv 1,.sl 3 false [],.sl 2 false [],.sl 1 false []],.mp 27 3 (ptG nrm n).2])
 | _,_=>none
theorem mptsC_ok:HOK Tryz.prog glb 37 (mptsC_s vld nrm):=by
 refine ⟨mpts_ok.1,?_⟩
 intro xs bs pre r bs2 h hp
 unfold mptsC_s at h
 split at h
 ·rename_i n
  simp only [Option.some.injEq,Prod.mk.injEq] at h
  obtain ⟨h1,h2,h3⟩:=h
  subst h1 h2 h3
  have hc:=mpts_ok.2 [.int .i64 n] [] _ _ _ rfl hp
  intro w S m vs hG hA hnm hheld hinj hv
  refine (hc w S m vs hG hA hnm hheld hinj hv).mono ?_
  rintro e w' ⟨u,S1,m1,e1,a1,a2,a3,a4,hE,hF,hAg,hH,hI,hO,hM,hcv⟩
  refine ⟨u,S1,m1,e1,a1,a2,a3,a4,hE,hF,hAg,?_,hI,hO,hM,hcv⟩
  intro q b hq
  match q with
  | 0 =>
   simp only [List.getElem?_cons_zero,Option.some.injEq] at hq
   subst hq
   obtain ⟨g,arr,t,b1,b2,b3,b4⟩:=hH 0 _ rfl
   refine ⟨g,arr,t,b1,b2,b3.imp2 rfl fun i x y v e1 e2 hx=>?_,b4⟩
   match i with
   | 0 | 1 | 2 | 3=>simp only [List.getElem?_cons_zero,List.getElem?_cons_succ,Option.some.injEq] at e1 e2; subst e1; subst e2; exact hx
   | 4=>simp only [List.getElem?_cons_zero,List.getElem?_cons_succ,Option.some.injEq] at e1 e2; subst e1; subst e2; exact nil_sl 3 hx
   | 5=>simp only [List.getElem?_cons_zero,List.getElem?_cons_succ,Option.some.injEq] at e1 e2; subst e1; subst e2; exact nil_sl 2 hx
   | 6=>simp only [List.getElem?_cons_zero,List.getElem?_cons_succ,Option.some.injEq] at e1 e2; subst e1; subst e2; exact nil_sl 1 hx
   | j+7=>simp at e1
  | 1=>exact hH 1 _ (by simpa using hq)
  | j+2=>simp at hq
 ·cases h
def gcount_s:Sp
 | [.int .i64 n]=>some (1≤n∧n≤4,.int .i64 (10*n*n+2))
 | _=>none
def gcount_T:Prop :=
 ∀ (gl:Glob) (n:Int),(1:Int)≤n∧n≤(4:Int)→(-9223372036854775808:Int)≤n∧n≤(9223372036854775807:Int)→True∧bif !decide ((1:Int)≤n∧n≤(8:Int))
 then (0:Int)=(10:Int)*n*n+(2:Int) else bif decide (rng IntKind.i64 ((10:Int)*n)) then bif decide (rng IntKind.i64 ((10:Int)*n*n)) then bif decide (rng
 IntKind.i64 ((10:Int)*n*n+(2:Int))) then (10:Int)*n*n+(2:Int)=(10:Int)*n*n+(2:Int) else False else False else False
theorem gcount_P:gcount_T:=by
 unfold gcount_T
 intro gl n ⟨h1,h4⟩ _
 have hb:0≤10*n*n∧10*n*n≤160:=by rcases n14 h1 h4 with rfl | rfl | rfl | rfl <;> decide
 refine ⟨trivial,csplit (fun h=>?_) (fun _=>cdI (by omega) (cdI (by omega) (cdI (by omega) rfl)))⟩
 rw [decide_eq_true (show 1≤n∧n≤8 by omega)] at h
 cases h
def gcount_S:Prop:=∀ (gl:Glob) (n:Int),1≤n∧n≤4→fnK Tryz.prog { glob:=gl,spec:=lk [(36,mfreq_s)],specH:=lk [],nowf:=true } { nt:=11,drop:=drp [(1,24),(3,1984)] } (fun _ _=>none) 6 Tryz.f59 [.int .i64 n] (.int .i64 (10*n*n+2))
theorem gcount_e:gcount_T=gcount_S:=by kernel_rfl
theorem gcount_v:gcount_S:=Eq.mp (gcount_e ..) (gcount_P)
theorem gcount_ok (gl:Glob):SOK Tryz.prog gl 59 gcount_s:=by
 refine ⟨fok Tryz.func59 (by kernel_rfl) (by kernel_rfl),?_⟩
 intro xs pre r h hp
 unfold gcount_s at h
 split at h
 ·simp only [Option.some.injEq,Prod.mk.injEq] at h
  obtain ⟨h1,h2⟩:=h
  subst h1 h2
  exact fnK_sound tyNil (by exact specOK rfl rfl ⟨(mfreq_ok gl),trivial⟩ trivial) (by kernel_rfl) Tryz.func59 rfl (gcount_v gl _ hp)
 ·cases h
def gnode_s:Sp
 | [.int .i64 n,.int .i64 i]=>some (1≤n∧n≤4,.bool (decide (0≤i∧i < 10*n*n+2)))
 | _=>none
def gnode_T:Prop :=
  ∀ (gl:Glob) (n i:Int),(1:Int)≤n∧n≤(4:Int)→(-9223372036854775808:Int)≤n∧n≤(9223372036854775807:Int)→(-9223372036854775808:Int)≤i∧i ≤
  (9223372036854775807:Int)→True∧bif decide ((1:Int)≤n∧n≤(8:Int)) then bif decide ((0:Int)≤i) then ((1:Int)≤n∧n≤(4:Int))∧decide (i < (10:Int)*n *
  n+(2:Int))=decide ((0:Int)≤i∧i < (10:Int)*n*n+(2:Int)) else false=decide ((0:Int)≤i∧i < (10:Int)*n*n+(2:Int)) else false=decide ((0:Int)
 ≤i∧i < (10:Int)*n*n+(2:Int))
theorem gnode_P:gnode_T:=by
 unfold gnode_T
 intro gl n i ⟨h1,h4⟩ _ _
 refine ⟨trivial,csp (fun _=>csp (fun h=>⟨⟨h1,h4⟩,decide_eq_decide.2 ⟨fun q=>⟨h,q⟩,fun q=>q.2⟩⟩) (fun h=>(decide_eq_false (fun q=>h q.1)).symm)) (fun h=>absurd (show 1≤n∧n≤8 by omega) h)⟩
def gnode_S:Prop:=∀ (gl:Glob) (n i:Int),1≤n∧n≤4→fnK Tryz.prog { glob:=gl,spec:=lk [(36,mfreq_s),(59,gcount_s)],specH:=lk [],nowf:=true } { nt:=17,drop:=drp [(1,131040)] } (fun _ _=>none) 6 Tryz.f42 [.int .i64 n,.int .i64 i] (.bool (decide (0≤i∧i < 10*n*n+2)))
theorem gnode_e:gnode_T=gnode_S:=by kernel_rfl
theorem gnode_v:gnode_S:=Eq.mp (gnode_e ..) (gnode_P)
theorem gnode_ok (gl:Glob):SOK Tryz.prog gl 42 gnode_s:=by
 refine ⟨fok Tryz.func42 (by kernel_rfl) (by kernel_rfl),?_⟩
 intro xs pre r h hp
 unfold gnode_s at h
 split at h
 ·simp only [Option.some.injEq,Prod.mk.injEq] at h
  obtain ⟨h1,h2⟩:=h
  subst h1 h2
  exact fnK_sound tyNil (by exact specOK rfl rfl ⟨(mfreq_ok gl),(gcount_ok gl),trivial⟩ trivial) (by kernel_rfl) Tryz.func42 rfl (gnode_v gl _ _ hp)
 ·cases h
structure GneP (nrm:NrT) (n f a b c:Int):Prop where
 lo:1≤n
 hi:n≤4
 v:Vld f a b c
 rg:∀ q,0≤mInt (ptG nrm n).2 q∧mInt (ptG nrm n).2 q < 1000
def gnear_s (nrm:Int→Int→Int→Int→Int × Int × Int × Int) (vld:Int→Int→Int→Int→Bool):Sp
 | [.int .i64 n,.agg [.int .i64 f,.int .i64 a,.int .i64 b,.int .i64 c]]=>some (GneP nrm n f a b c∧vld f a b c=true,.tup [.int .i64 (neaV nrm (ptG nrm n).2 n f a b c),.int .i64 0])
 | _=>none
def gnear_T (nrm:Int→Int→Int→Int→Int × Int × Int × Int) (vld:Int→Int→Int→Int→Bool):Prop :=
  ∀ (n f a b c:Int),GneP nrm n f a b c∧vld f a b c=true→(-9223372036854775808:Int)≤n∧n≤(9223372036854775807:Int)→((-9223372036854775808:Int)≤f∧f ≤
  (9223372036854775807:Int))∧((-9223372036854775808:Int)≤a∧a≤(9223372036854775807:Int))∧((-9223372036854775808:Int)≤b∧b≤(9223372036854775807:Int)) ∧
  ((-9223372036854775808:Int)≤c∧c≤(9223372036854775807:Int))∧True→True∧bif !decide ((1:Int)≤n∧n≤(8:Int)) then (0:Int)=neaV nrm (ptG nrm n).snd n f a b c
 ∧(1:Int)=(0:Int)∧True else True∧bif !vld f a b c then (0:Int)=neaV nrm (ptG nrm n).snd n f a b c∧(1:Int)=(0:Int)∧True else ((1:Int)≤n∧n≤(4:Int))
 ∧LocP nrm (ptG nrm n).snd n (hN n) f a b c∧neaV nrm (ptG nrm n).snd n f a b c=neaV nrm (ptG nrm n).snd n f a b c∧(0:Int)=(0:Int)∧True
theorem gnear_P:gnear_T nrm vld:=by
 unfold gnear_T
 intro n f a b c ⟨hP,hv⟩ _ _
 have h1:=hP.lo
 have h4:=hP.hi
 refine ⟨trivial,?_⟩
 rw [decide_eq_true (show 1≤n∧n≤8 by omega),hv]
 exact ⟨trivial,⟨h1,h4⟩,⟨h1,h4,rfl,hP.v,hP.rg⟩,rfl,rfl,trivial⟩
def gnear_S (nrm:Int→Int→Int→Int→Int × Int × Int × Int) (vld:Int→Int→Int→Int→Bool):Prop:=∀ (n f a b c:Int),GneP nrm n f a b c∧vld f a b c=true→fnK Tryz.prog { glob:=glb,spec:=lk [(36,mfreq_s),(32,(valid_s vld))],specH:=lk [(37,(mptsC_s vld nrm)),(38,(mnear_s nrm vld))],nowf:=true } { nt:=18,drop:=drp [(1,8128),(3,245760)] } (fun _ _=>none) 6 Tryz.f11 [.int .i64 n,.agg [.int .i64 f,.int .i64 a,.int .i64 b,.int .i64 c]] (.tup [.int .i64 (neaV nrm (ptG nrm n).2 n f a b c),.int .i64 0])
theorem gnear_e (nrm:Int→Int→Int→Int→Int × Int × Int × Int) (vld:Int→Int→Int→Int→Bool):gnear_T nrm vld=gnear_S nrm vld:=by kernel_rfl
theorem gnear_v:gnear_S nrm vld:=Eq.mp (gnear_e ..) (gnear_P)
theorem gnear_ok:SOK Tryz.prog glb 11 (gnear_s nrm vld):=by
 refine ⟨fok Tryz.func11 (by kernel_rfl) (by kernel_rfl),?_⟩
 intro xs pre r h hp
 unfold gnear_s at h
 split at h
 ·simp only [Option.some.injEq,Prod.mk.injEq] at h
  obtain ⟨h1,h2⟩:=h
  subst h1 h2
  exact fnK_sound tyNil (by exact specOK rfl rfl ⟨(mfreq_ok glb),(valid_ok glb),trivial⟩ ⟨(mptsC_ok),(mnear_ok),trivial⟩) (by kernel_rfl) Tryz.func11 rfl (gnear_v  _ _ _ _ _ hp)
 ·cases h
end Go.Proofs.YtgbbmadjdaphnaaGreatDoor
namespace Go.Proofs.YtgbbmadjdaphnaaGreatDoor
open Go
set_option linter.unusedVariables false
set_option linter.unusedSimpArgs false
theorem vld_t {f a b c:Int} (h:Vld f a b c):vld f a b c=true:=decide_eq_true h
def pos (f v:Int):Nat:=if crn f 2=v then 2 else if crn f 1=v then 1 else if crn f 0=v then 0 else 3
def sel3 (a b c:Int) (k:Nat):Int:=match k with | 0=>a | 1=>b | 2=>c | _=>0
theorem wt_pos (f a b c v:Int):wt f a b c v=sel3 a b c (pos f v):=by
 unfold wt pos
 split
 ·rfl
 ·split
  ·rfl
  ·split <;> rfl
def allF (p:Int→Int→Bool):Bool:=fcs.all fun f=>fcs.all fun n=>p f n
theorem allF_get {p:Int→Int→Bool} (h:allF p=true) {f n:Int} (hf:0≤f∧f < 20) (hn:0≤n∧n < 20):p f n=true:=by
 unfold allF at h
 rw [List.all_eq_true] at h
 have h1:=h f (mem_fcs hf)
 rw [List.all_eq_true] at h1
 exact h1 n (mem_fcs hn)
def vts:List Int:=[0,1,2,3,4,5,6,7,8,9,10,11]
def okF (f n:Int):Bool:=decide (pos n (crn n 0)=0)&&decide (pos n (crn n 1)=1)&&decide (pos n (crn n 2)=2) &&
 (vts.all fun v=>decide (pos f v≤3)&&(decide (pos n v=3)||decide (v=crn n (pos n v))) &&
  (decide (pos n v≠3)||decide (pos f v=3)||(decide (pos f (crn n 0)≠pos f v)&&decide (pos f (crn n 1)≠pos f v)&&decide (pos f (crn n 2)≠pos f v)))) &&
 (decide (pos f (crn n 0)=3)||(decide (pos f (crn n 0)≠pos f (crn n 1))&&decide (pos f (crn n 0)≠pos f (crn n 2))))&&(decide (pos f (crn n 1)=3)||decide (pos f (crn n 1)≠pos f (crn n 2))) &&
 decide (pos f (crn n 0)≤3)&&decide (pos f (crn n 1)≤3)&&decide (pos f (crn n 2)≤3)
theorem okF_all:allF okF=true:=by decide +kernel
theorem miss {a b c:Int} (ha:0≤a) (hb:0≤b) (hc:0≤c) (hs:a+b+c=840) {p q r j:Nat} (hp:p≤3) (hq:q≤3) (hr:r≤3) (hj:j≤3)
  (h1:p=3∨(p≠q∧p≠r)) (h2:q=3∨q≠r) (hsum:sel3 a b c p+sel3 a b c q+sel3 a b c r=840) (j3:j=3∨(p≠j∧q≠j∧r≠j)):sel3 a b c j=0:=by
 have e:∀ {k:Nat},k≤3→k=0∨k=1∨k=2∨k=3:=by intro k hk; omega
 rcases e hp with rfl | rfl | rfl | rfl <;> rcases e hq with rfl | rfl | rfl | rfl <;> rcases e hr with rfl | rfl | rfl | rfl <;> rcases e hj with rfl | rfl | rfl | rfl <;> simp only [sel3] at hsum ⊢ <;> omega
theorem row_wt {f a b c n:Int} (hv:Vld f a b c) (hn:0≤n∧n < 20) (ho:onV f a b c n=true) {v:Int} (hvv:v ∈ vts) :
  wt n (onW f a b c n 0) (onW f a b c n 1) (onW f a b c n 2) v=wt f a b c v:=by
 have hV:Vld n (onW f a b c n 0) (onW f a b c n 1) (onW f a b c n 2):=of_decide_eq_true ho
 have ok:=allF_get okF_all hv.face hn
 simp only [okF,Bool.and_eq_true,Bool.or_eq_true,decide_eq_true_eq,List.all_eq_true] at ok
 obtain ⟨⟨⟨⟨⟨⟨⟨⟨o0,o1⟩,o2⟩,oa⟩,ob⟩,oc⟩,l0⟩,l1⟩,l2⟩:=ok
 obtain ⟨⟨m1,m2⟩,m3⟩:=oa v hvv
 have hs:=hV.sum
 simp only [onW,wt_pos] at hs
 rw [wt_pos,wt_pos]
 have pk:pos n v=0∨pos n v=1∨pos n v=2∨pos n v=3:=by unfold pos; (repeat' split) <;> simp
 rcases pk with e | e | e | e
 ·rw [e] at m2 ⊢; simp only [sel3,onW]; rw [wt_pos]; rw [← (m2.resolve_left (by decide))]; rfl
 ·rw [e] at m2 ⊢; simp only [sel3,onW]; rw [wt_pos]; rw [← (m2.resolve_left (by decide))]; rfl
 ·rw [e] at m2 ⊢; simp only [sel3,onW]; rw [wt_pos]; rw [← (m2.resolve_left (by decide))]; rfl
 ·rw [e]
  show (0:Int)=_
  refine (miss hv.wa.1 hv.wb.1 hv.wc.1 hv.sum l0 l1 l2 m1 ?_ ?_ hs ?_).symm
  ·exact ob
  ·exact oc
  ·rcases m3 with (h | h) | h
   ·exact absurd e h
   ·exact .inl h
   ·exact .inr ⟨h.1.1,h.1.2,h.2⟩
theorem crn_vts {n:Int} (hn:0≤n∧n < 20):crn n 0 ∈ vts∧crn n 1 ∈ vts∧crn n 2 ∈ vts:=by
 have:(fcs.all fun n=>decide (crn n 0 ∈ vts)&&decide (crn n 1 ∈ vts)&&decide (crn n 2 ∈ vts))=true:=by decide +kernel
 rw [List.all_eq_true] at this
 have:=this n (mem_fcs hn)
 simpa [and_assoc] using this
theorem onW_congr {f a b c f' a' b' c' n:Int} (hn:0≤n∧n < 20) (h:∀ v ∈ vts,wt f a b c v=wt f' a' b' c' v):onW f a b c n 0=onW f' a' b' c' n 0∧onW f a b c n 1=onW f' a' b' c' n 1∧onW f a b c n 2=onW f' a' b' c' n 2:=by
 obtain ⟨h0,h1,h2⟩:=crn_vts hn
 exact ⟨h _ h0,h _ h1,h _ h2⟩
theorem onV_congr {f a b c f' a' b' c' n:Int} (hn:0≤n∧n < 20) (h:∀ v ∈ vts,wt f a b c v=wt f' a' b' c' v):onV f a b c n=onV f' a' b' c' n:=by
 obtain ⟨h0,h1,h2⟩:=onW_congr hn h
 unfold onV; rw [h0,h1,h2]
theorem own_row {f a b c:Int} (hv:Vld f a b c):onW f a b c f 0=a∧onW f a b c f 1=b∧onW f a b c f 2=c∧onV f a b c f=true:=by
 have ok:=allF_get okF_all hv.face hv.face
 simp only [okF,Bool.and_eq_true,Bool.or_eq_true,decide_eq_true_eq,List.all_eq_true] at ok
 obtain ⟨⟨⟨⟨⟨⟨⟨⟨o0,o1⟩,o2⟩,_⟩,_⟩,_⟩,_⟩,_⟩,_⟩:=ok
 have e0:onW f a b c f 0=a:=by simp only [onW,wt_pos,o0,sel3]
 have e1:onW f a b c f 1=b:=by simp only [onW,wt_pos,o1,sel3]
 have e2:onW f a b c f 2=c:=by simp only [onW,wt_pos,o2,sel3]
 refine ⟨e0,e1,e2,?_⟩
 unfold onV; rw [e0,e1,e2]; exact decide_eq_true hv
theorem nrmL_congr {f a b c f' a' b' c':Int} (h:∀ v ∈ vts,wt f a b c v=wt f' a' b' c' v):∀ (l:List Int),(∀ n ∈ l,0≤n∧n < 20)→(∃ n ∈ l,onV f a b c n=true)→nrmL f a b c l=nrmL f' a' b' c' l
 | [],_,he=>by obtain ⟨n,hn,_⟩:=he; cases hn
 | n::l,hl,he=>by
  have hn:=hl n (List.mem_cons_self ..)
  obtain ⟨h0,h1,h2⟩:=onW_congr hn h
  have hv:=onV_congr hn h
  simp only [nrmL]
  rw [← hv,← h0,← h1,← h2]
  by_cases ho:onV f a b c n=true
  ·rw [if_pos ho,if_pos ho]
  ·rw [if_neg ho,if_neg ho]
   refine nrmL_congr h l (fun m hm=>hl m (List.mem_cons_of_mem _ hm)) ?_
   obtain ⟨m,hm,hmo⟩:=he
   rcases List.mem_cons.1 hm with rfl | hm
   ·exact absurd hmo ho
   ·exact ⟨m,hm,hmo⟩
theorem fcs_rng {n:Int} (h:n ∈ fcs):0≤n∧n < 20:=by simp only [fcs,List.mem_cons,List.not_mem_nil,or_false] at h; omega
theorem nrm_congr {f a b c f' a' b' c':Int} (hv:Vld f a b c) (hv':Vld f' a' b' c') (h:∀ v ∈ vts,wt f a b c v=wt f' a' b' c' v):nrm f a b c=nrm f' a' b' c':=by
 unfold nrm
 rw [if_pos (vld_t hv),if_pos (vld_t hv')]
 exact nrmL_congr h fcs (fun n hn=>fcs_rng hn) ⟨f,mem_fcs hv.face,(own_row hv).2.2.2⟩
theorem nrmL_row {f a b c:Int}:∀ (l:List Int),(∃ n ∈ l,onV f a b c n=true)→∃ n ∈ l,onV f a b c n=true∧nrmL f a b c l=(n,onW f a b c n 0,onW f a b c n 1,onW f a b c n 2)
 | [],he=>by obtain ⟨n,hn,_⟩:=he; cases hn
 | n::l,he=>by
  simp only [nrmL]
  by_cases ho:onV f a b c n=true
  ·exact ⟨n,List.mem_cons_self ..,ho,by rw [if_pos ho]⟩
  ·rw [if_neg ho]
   obtain ⟨m,hm,hmo⟩:=he
   rcases List.mem_cons.1 hm with rfl | hm
   ·exact absurd hmo ho
   ·obtain ⟨k,hk,h1,h2⟩:=nrmL_row l ⟨m,hm,hmo⟩
    exact ⟨k,List.mem_cons_of_mem _ hk,h1,h2⟩
theorem nrm_row {f a b c:Int} (hv:Vld f a b c):∃ n,(0≤n∧n < 20)∧onV f a b c n=true∧nrm f a b c=(n,onW f a b c n 0,onW f a b c n 1,onW f a b c n 2):=by
 unfold nrm
 rw [if_pos (vld_t hv)]
 obtain ⟨n,hn,h1,h2⟩:=nrmL_row (f:=f) (a:=a) (b:=b) (c:=c) fcs ⟨f,mem_fcs hv.face,(own_row hv).2.2.2⟩
 exact ⟨n,fcs_rng hn,h1,h2⟩
theorem sameW_iff (f a b c f' a' b' c':Int):sameW f a b c f' a' b' c'=true↔∀ v ∈ vts,wt f a b c v=wt f' a' b' c' v:=by
 unfold sameW wts vts
 rw [decide_eq_true_eq]
 simp only [List.cons.injEq,and_true,List.mem_cons,List.not_mem_nil,or_false,forall_eq_or_imp,forall_eq]
structure RowOf (f a b c n x y z:Int):Prop where
 vld:Vld n x y z
 nrm:nrm n x y z=nrm f a b c
 same:sameW n x y z f a b c=true
theorem row_of {f a b c n:Int} (hv:Vld f a b c) (hn:0≤n∧n < 20) (ho:onV f a b c n=true):RowOf f a b c n (onW f a b c n 0) (onW f a b c n 1) (onW f a b c n 2) :=
 have hV:Vld n (onW f a b c n 0) (onW f a b c n 1) (onW f a b c n 2):=of_decide_eq_true ho
 ⟨hV,nrm_congr hV hv fun v h=>row_wt hv hn ho h,(sameW_iff ..).2 fun v h=>row_wt hv hn ho h⟩
theorem adrR_eq (f a b c:Int):∀ k:Nat,k≤20→adrR f a b c k=((fcs.take k).filter (onV f a b c)).map (onRow f a b c)
 | 0,_=>rfl
 | k+1,h=>by
  have hk:k < 20:=by omega
  have e:fcs.take (k+1)=fcs.take k++[(k:Int)]:=by
   have:(List.range 20).all (fun k=>decide (fcs.take (k+1)=fcs.take k++[(k:Int)]))=true:=by decide +kernel
   rw [List.all_eq_true] at this
   simpa using this k (List.mem_range.2 hk)
  simp only [adrR]
  rw [adrR_eq f a b c k (by omega),e,List.filter_append]
  split
  ·next ho=>simp [ho]
  ·next ho=>simp [ho]
def fcsOf (f a b c:Int):List Int:=fcs.filter (onV f a b c)
theorem adr_map {f a b c:Int} (hv:Vld f a b c):adr f a b c=(fcsOf f a b c).map (onRow f a b c):=by
 unfold adr
 rw [if_pos (vld_t hv),adrR_eq f a b c 20 (by decide)]
 rfl
theorem fcs_sorted:fcs.Pairwise (· < ·):=by decide
theorem fcsOf_sorted (f a b c:Int):(fcsOf f a b c).Pairwise (· < ·):=fcs_sorted.filter _
theorem fcsOf_mem {f a b c n:Int}:n ∈ fcsOf f a b c↔(0≤n∧n < 20)∧onV f a b c n=true:=by
 unfold fcsOf
 rw [List.mem_filter]
 exact ⟨fun h=>⟨fcs_rng h.1,h.2⟩,fun h=>⟨mem_fcs h.1,h.2⟩⟩
def covB (f n:Int) (x y z:Bool):Bool:=(!x||decide (pos n (crn f 0)≠3))&&(!y||decide (pos n (crn f 1)≠3))&&(!z||decide (pos n (crn f 2)≠3))
theorem cov_cases:(fcs.all fun f=>fcs.all fun n=>decide (pos f (crn n 0)≤3)&&decide (pos f (crn n 1)≤3)&&decide (pos f (crn n 2)≤3) &&
  decide ((pos n (crn f 0)=3)=¬ (pos f (crn n 0)=0∨pos f (crn n 1)=0∨pos f (crn n 2)=0))&&decide ((pos n (crn f 1)=3)=¬ (pos f (crn n 0)=1∨pos f (crn n 1)=1∨pos f (crn n 2)=1)) &&
  decide ((pos n (crn f 2)=3)=¬ (pos f (crn n 0)=2∨pos f (crn n 1)=2∨pos f (crn n 2)=2))&&(decide (pos f (crn n 0)=3)||(decide (pos f (crn n 0)≠pos f (crn n 1))&&decide (pos f (crn n 0)≠pos f (crn n 2))))&&(decide (pos f (crn n 1)=3)||decide (pos f (crn n 1)≠pos f (crn n 2))))=true:=by
 decide +kernel
theorem sum_cov {a b c:Int} (ha:0≤a) (hb:0≤b) (hc:0≤c) (hs:a+b+c=840) {p q r:Nat} (hp:p≤3) (hq:q≤3) (hr:r≤3) (h1:p=3∨(p≠q∧p≠r)) (h2:q=3∨q≠r) :
  ((0≤sel3 a b c p∧sel3 a b c p≤840)∧(0≤sel3 a b c q∧sel3 a b c q≤840)∧(0≤sel3 a b c r∧sel3 a b c r≤840)) ∧
  (sel3 a b c p+sel3 a b c q+sel3 a b c r=840↔(a≠0→p=0∨q=0∨r=0)∧(b≠0→p=1∨q=1∨r=1)∧(c≠0→p=2∨q=2∨r=2)):=by
 have e:∀ {k:Nat},k≤3→k=0∨k=1∨k=2∨k=3:=by intro k hk; omega
 rcases e hp with rfl | rfl | rfl | rfl <;> rcases e hq with rfl | rfl | rfl | rfl <;> rcases e hr with rfl | rfl | rfl | rfl <;> simp [sel3] at h1 h2 ⊢ <;> omega
theorem onV_cov {f a b c n:Int} (hv:Vld f a b c) (hn:0≤n∧n < 20):onV f a b c n=covB f n (decide (a≠0)) (decide (b≠0)) (decide (c≠0)):=by
 have h:=cov_cases
 rw [List.all_eq_true] at h
 have h:=h f (mem_fcs hv.face)
 rw [List.all_eq_true] at h
 have h:=h n (mem_fcs hn)
 simp only [Bool.and_eq_true,Bool.or_eq_true,decide_eq_true_eq] at h
 obtain ⟨⟨⟨⟨⟨⟨⟨l0,l1⟩,l2⟩,e0⟩,e1⟩,e2⟩,d1⟩,d2⟩:=h
 obtain ⟨hb,hi⟩:=sum_cov hv.wa.1 hv.wb.1 hv.wc.1 hv.sum l0 l1 l2 d1 d2
 rw [Bool.eq_iff_iff]
 unfold onV vld
 rw [decide_eq_true_eq,vld_iff]
 simp only [onW,wt_pos,covB,Bool.and_eq_true,Bool.or_eq_true,Bool.not_eq_true',decide_eq_true_eq,decide_eq_false_iff_not,ne_eq,Decidable.not_not,e0,e1,e2]
 constructor
 ·rintro ⟨_,_,_,_,hs⟩
  obtain ⟨k0,k1,k2⟩:=hi.1 hs
  exact ⟨⟨by by_cases h:a=0; exact .inl h; exact .inr (k0 h),by by_cases h:b=0; exact .inl h; exact .inr (k1 h)⟩,by by_cases h:c=0; exact .inl h; exact .inr (k2 h)⟩
 ·rintro ⟨⟨k0,k1⟩,k2⟩
  exact ⟨hn,hb.1,hb.2.1,hb.2.2,hi.2 ⟨fun h=>k0.resolve_left h,fun h=>k1.resolve_left h,fun h=>k2.resolve_left h⟩⟩
theorem cnt_all:(fcs.all fun f=>[true,false].all fun x=>[true,false].all fun y=>[true,false].all fun z=>(!x&&!y&&!z) ||
  decide ((fcs.filter fun n=>covB f n x y z).length=if (if x then 0 else 1)+(if y then 0 else 1)+(if z then 0 else 1)=0 then 1 else if (if x then 0 else 1)+(if y then 0 else 1)+(if z then 0 else 1)=1 then 2 else 5))=true:=by
 decide +kernel
theorem mem_tf (x:Bool):x ∈ [true,false]:=by cases x <;> simp
theorem adr_cnt {f a b c:Int} (hv:Vld f a b c):((adr f a b c).length:Int)=([1,2,5]:List Int).getD ((if a=0 then 1 else 0)+(if b=0 then 1 else 0)+(if c=0 then 1 else 0)) 0∧¬ (a=0∧b=0∧c=0):=by
 have hz:¬ (a=0∧b=0∧c=0):=by rintro ⟨rfl,rfl,rfl⟩; have:=hv.sum; omega
 refine ⟨?_,hz⟩
 have h:=cnt_all
 rw [List.all_eq_true] at h
 have h:=h f (mem_fcs hv.face)
 rw [List.all_eq_true] at h
 have h:=h (decide (a≠0)) (mem_tf _)
 rw [List.all_eq_true] at h
 have h:=h (decide (b≠0)) (mem_tf _)
 rw [List.all_eq_true] at h
 have h:=h (decide (c≠0)) (mem_tf _)
 have e:fcsOf f a b c=fcs.filter fun n=>covB f n (decide (a≠0)) (decide (b≠0)) (decide (c≠0)):=by
  unfold fcsOf
  refine List.filter_congr fun n hn=>onV_cov hv (fcs_rng hn)
 rw [adr_map hv,List.length_map,e]
 by_cases h0:a=0 <;> by_cases h1:b=0 <;> by_cases h2:c=0 <;> simp [h0,h1,h2] at h hz ⊢ <;> first | omega | (rw [h]; rfl)
def zc (a:Int):Int:=if a=0 then 1 else 0
theorem adr_zeros {f a b c:Int} (hv:Vld f a b c):(zc a+zc b+zc c=0∧(adr f a b c).length=1)∨(zc a+zc b+zc c=1∧(adr f a b c).length=2)∨(zc a+zc b+zc c=2∧(adr f a b c).length=5):=by
 obtain ⟨h,hz⟩:=adr_cnt hv
 unfold zc
 by_cases h0:a=0 <;> by_cases h1:b=0 <;> by_cases h2:c=0 <;> simp [h0,h1,h2] at h hz ⊢ <;> omega
def encP (r:Int × Int × Int × Int):List AV:=[.int .i64 r.1,.int .i64 r.2.1,.int .i64 r.2.2.1,.int .i64 r.2.2.2]
theorem nrmL_head {f a b c:Int}:∀ (l:List Int),nrmL f a b c l=((l.filter (onV f a b c)).map fun n=>(n,onW f a b c n 0,onW f a b c n 1,onW f a b c n 2)).headD (f,a,b,c)
 | []=>rfl
 | n::l=>by
  simp only [nrmL]
  by_cases h:onV f a b c n=true
  ·rw [if_pos h,List.filter_cons_of_pos h]; rfl
  ·rw [if_neg h,List.filter_cons_of_neg h]; exact nrmL_head l
structure Rows (f a b c:Int) (l:List (Int × Int × Int × Int)):Prop where
 adr:adr f a b c=l.map encP
 row:∀ r ∈ l,RowOf f a b c r.1 r.2.1 r.2.2.1 r.2.2.2
 asc:l.Pairwise fun r s=>r.1 < s.1
 own:(f,a,b,c) ∈ l
 head:l[0]?=some (nrm f a b c)
theorem adr_rows {f a b c:Int} (hv:Vld f a b c):∃ l,Rows f a b c l:=by
 refine ⟨(fcsOf f a b c).map fun n=>(n,onW f a b c n 0,onW f a b c n 1,onW f a b c n 2),?_,?_,?_,?_,?_⟩
 ·rw [adr_map hv,List.map_map]; rfl
 ·intro r hr
  obtain ⟨n,hn,rfl⟩:=List.mem_map.1 hr
  obtain ⟨h1,h2⟩:=fcsOf_mem.1 hn
  exact row_of hv h1 h2
 ·exact List.pairwise_map.2 (fcsOf_sorted f a b c)
 ·obtain ⟨e0,e1,e2,e3⟩:=own_row hv
  exact List.mem_map.2 ⟨f,fcsOf_mem.2 ⟨hv.face,e3⟩,by rw [e0,e1,e2]⟩
 ·have h1:nrm f a b c=nrmL f a b c fcs:=by unfold nrm; rw [if_pos (vld_t hv)]
  rw [h1,nrmL_head]
  have h2:f ∈ fcsOf f a b c:=fcsOf_mem.2 ⟨hv.face,(own_row hv).2.2.2⟩
  unfold fcsOf at h2 ⊢
  cases hf:fcs.filter (onV f a b c) with
  | nil=>rw [hf] at h2; cases h2
  | cons n l=>rfl
end Go.Proofs.YtgbbmadjdaphnaaGreatDoor
namespace Go.Proofs.YtgbbmadjdaphnaaGreatDoor
open Go
set_option linter.unusedVariables false
set_option linter.unusedSimpArgs false
structure IsB (L:List (List AV)) (r:List AV):Prop where
 mem:r ∈ L
 mx:∀ x ∈ L,nI x 1≤nI r 1
 mn:∀ x ∈ L,nI x 1=nI r 1→nI r 0≤nI x 0
theorem bstF_isB:∀ (l:List (List AV)) (m:List AV) (P:List (List AV)),IsB P m→(∀ x ∈ P,∀ y ∈ l,nI x 0≤nI y 0)→l.Pairwise (fun x y=>nI x 0≤nI y 0)→IsB (P++l) (bstF m l)
 | [],m,P,h,_,_=>by rw [List.append_nil]; exact h
 | x::l,m,P,h,hp,hl=>by
  rw [List.pairwise_cons] at hl
  have step:IsB (P++[x]) (if nI m 1 - nI x 1 < 0 then x else m):=by
   split
   ·rename_i hlt
    refine ⟨by simp,fun y hy=>?_,fun y hy e=>?_⟩
    ·rcases List.mem_append.1 hy with hy | hy
     ·have:=h.mx y hy; omega
     ·rw [List.mem_singleton] at hy; subst hy; omega
    ·rcases List.mem_append.1 hy with hy | hy
     ·have:=h.mx y hy; omega
     ·rw [List.mem_singleton] at hy; subst hy; omega
   ·rename_i hge
    refine ⟨by simp [h.mem],fun y hy=>?_,fun y hy e=>?_⟩
    ·rcases List.mem_append.1 hy with hy | hy
     ·exact h.mx y hy
     ·rw [List.mem_singleton] at hy; subst hy; omega
    ·rcases List.mem_append.1 hy with hy | hy
     ·exact h.mn y hy e
     ·rw [List.mem_singleton] at hy; subst hy; exact hp m h.mem y List.mem_cons_self
  have:=bstF_isB l _ (P++[x]) step (fun y hy z hz=>by
   rcases List.mem_append.1 hy with hy | hy
   ·exact hp y hy z (List.mem_cons_of_mem _ hz)
   ·rw [List.mem_singleton] at hy; subst hy; exact hl.1 z hz) hl.2
  rw [List.append_assoc] at this
  have e:bstF m (x::l)=bstF (if nI m 1 - nI x 1 < 0 then x else m) l:=by
   show (if _ then _ else _)=_
   split <;> rfl
  rw [e]; exact this
theorem bst_isB {L:List (List AV)} (h:1≤L.length) (hs:L.Pairwise (fun x y=>nI x 0≤nI y 0)):IsB L (bst L):=by
 match L,h,hs with
 | x::l,_,hs =>
  rw [List.pairwise_cons] at hs
  exact bstF_isB l x [x] ⟨by simp,fun y hy=>by rw [List.mem_singleton] at hy; subst hy; omega,fun y hy _=>by rw [List.mem_singleton] at hy; subst hy; omega⟩ (fun y hy z hz=>by rw [List.mem_singleton] at hy; subst hy; exact hs.1 z hz) hs.2
theorem isB_eq {L L':List (List AV)} {r r':List AV} (h:IsB L r) (h':IsB L' r') (hp:∀ x,x ∈ L↔x ∈ L'):nI r 0=nI r' 0:=by
 have a:=h'.mx r ((hp r).1 h.mem)
 have b:=h.mx r' ((hp r').2 h'.mem)
 have e:nI r 1=nI r' 1:=by omega
 have c:=h'.mn r ((hp r).1 h.mem) e
 have d:=h.mn r' ((hp r').2 h'.mem) e.symm
 omega
theorem nea_perm {X X':List (List AV)} (hp:X.Perm X') (ho:∀ r ∈ X,okR 2 r=true) (hn:1≤X.length):nI (bst (sortR 2 cfS X)) 0=nI (bst (sortR 2 cfS X')) 0:=by
 have key:∀ Y:List (List AV),(∀ r ∈ Y,okR 2 r=true)→1≤Y.length→IsB (sortR 2 cfS Y) (bst (sortR 2 cfS Y)):=fun Y hy hl=>by
  have hq:=(sortR_perm (cf:=cfS) swoS hy).length_eq
  obtain ⟨d,e,hd⟩:=sortR_sorted (cf:=cfS) swoS Y
  refine bst_isB (by omega) ?_
  rw [e,List.pairwise_map]
  exact hd.imp fun {x y} hxy=>by
   rw [cfS_iff] at hxy
   have:=of_decide_eq_false hxy
   omega
 have ho':∀ r ∈ X',okR 2 r=true:=fun r hr=>ho r (hp.mem_iff.2 hr)
 refine isB_eq (key X ho hn) (key X' ho' (by rw [← hp.length_eq]; exact hn)) fun x=>?_
 rw [(sortR_perm (cf:=cfS) swoS ho).mem_iff,(sortR_perm (cf:=cfS) swoS ho').mem_iff]
 exact hp.mem_iff
def p0:List Nat:=[0,1,2,3,3,3,3,3,3,3,3,3]
theorem pos_all:(fcs.all fun f=>(vts.map (pos f)).isPerm p0)=true:=by decide +kernel
theorem pos_perm {f:Int} (hf:0≤f∧f < 20):(vts.map (pos f)).Perm p0:=by
 have:=pos_all
 rw [List.all_eq_true] at this
 exact List.isPerm_iff.1 (this f (mem_fcs hf))
theorem pos_le (f v:Int):pos f v≤3:=by unfold pos; (repeat' split) <;> omega
theorem pos_crn {f v:Int} (h:pos f v≠3):crn f (pos f v)=v:=by
 unfold pos at h ⊢
 split
 ·assumption
 ·split
  ·assumption
  ·split
   ·assumption
   ·rename_i h1 h2 h3; rw [if_neg h1,if_neg h2,if_neg h3] at h; exact absurd rfl h
theorem flat_perm {β:Type} {f:Int} (hf:0≤f∧f < 20) (F:Nat→List β) (h3:F 3=[]):(vts.flatMap fun v=>F (pos f v)).Perm (F 0++F 1++F 2):=by
 have e:(vts.flatMap fun v=>F (pos f v))=(vts.map (pos f)).flatMap F:=by rw [List.flatMap_map]
 rw [e]
 refine ((pos_perm hf).flatMap_right F).trans ?_
 simp only [p0,List.flatMap_cons,List.flatMap_nil,h3,List.append_nil,List.append_assoc]
 exact List.Perm.refl _
theorem fr_0 (n:Int):fr_ n 0=0:=by unfold fr_; rw [Int.zero_tmod,Int.zero_mul]
theorem sum_wt {f:Int} (hf:0≤f∧f < 20) (n a b c:Int):(vts.map fun v=>fr_ n (wt f a b c v)).foldr (·+·) 0=sm_ n a b c:=by
 have e:(vts.map fun v=>fr_ n (wt f a b c v))=(vts.map (pos f)).map fun p=>fr_ n (sel3 a b c p):=by
  rw [List.map_map]
  refine List.map_congr_left fun v _=>?_
  show _=fr_ n (sel3 a b c (pos f v))
  rw [wt_pos]
 rw [e,List.Perm.foldr_eq' ((pos_perm hf).map _) (fun x _ y _ z=>by omega)]
 simp only [p0,List.map_cons,List.map_nil,List.foldr_cons,List.foldr_nil,sel3,fr_0]
 unfold sm_; omega
structure SameP (f a b c f' a' b' c':Int):Prop where
 v:Vld f a b c
 v':Vld f' a' b' c'
 w:∀ v ∈ vts,wt f a b c v=wt f' a' b' c' v
theorem SameP.sm {f a b c f' a' b' c':Int} (h:SameP f a b c f' a' b' c') (n:Int):sm_ n a b c=sm_ n a' b' c':=by
 rw [← sum_wt h.v.face,← sum_wt h.v'.face]
 congr 1
 exact List.map_congr_left fun v hv=>by rw [h.w v hv]
theorem SameP.at_ {f a b c f' a' b' c':Int} (h:SameP f a b c f' a' b' c') (l:List (Int × AV)):atV nrm l f a b c=atV nrm l f' a' b' c':=by
 unfold atV
 rw [nrm_congr h.v h.v' h.w]
theorem sm_cases {n a b c:Int} (n1:1≤n) (n4:n≤4) (a0:0≤a) (b0:0≤b) (c0:0≤c) (hs:a+b+c=840) :
  (sm_ n a b c=0∨sm_ n a b c=840∨sm_ n a b c=1680)∧(sm_ n a b c=840→bs_ n a+bs_ n b+bs_ n c+hN n=840)∧(sm_ n a b c=1680→bs_ n a+bs_ n b+bs_ n c+2*hN n=840∧0 < fr_ n a∧0 < fr_ n b∧0 < fr_ n c)∧0≤bs_ n a∧0≤bs_ n b∧0≤bs_ n c∧0 < hN n:=by
 have ea:a.tmod (hN n)=a % hN n:=Int.tmod_eq_emod_of_nonneg a0
 have eb:b.tmod (hN n)=b % hN n:=Int.tmod_eq_emod_of_nonneg b0
 have ec:c.tmod (hN n)=c % hN n:=Int.tmod_eq_emod_of_nonneg c0
 unfold sm_ fr_ bs_
 rw [ea,eb,ec]
 rcases n14 n1 n4 with rfl | rfl | rfl | rfl
 ·rw [show hN 1=840 from rfl]; omega
 ·rw [show hN 2=420 from rfl]; omega
 ·rw [show hN 3=280 from rfl]; omega
 ·rw [show hN 4=210 from rfl]; omega
theorem bs_0 (n:Int):bs_ n 0=0:=by unfold bs_; rw [Int.zero_tmod]; rfl
def shG (l:List (Int × AV)) (n f a b c:Int) (p:Nat):List (List AV):=if p=3 then [] else shr1 (wtL n a b c (sel3 a b c p)) (ndL nrm l n f a b c p)
theorem shrL_G (l:List (Int × AV)) (n f a b c:Int):shrL nrm l n f a b c=shG l n f a b c 0++shG l n f a b c 1++shG l n f a b c 2:=rfl
theorem p_eq {f u v:Int} (hp:pos f v≠3):pos f v=pos f u↔u=v:=by
 constructor
 ·intro e
  rw [← pos_crn hp,← pos_crn (show pos f u≠3 by rw [← e]; exact hp),e]
 ·rintro rfl; rfl
theorem cr_vld {n f a b c:Int} (n1:1≤n) (n4:n≤4) (hv:Vld f a b c) (h0:¬ sm_ n a b c=0) {p:Nat} (hp:p≤2):Vld f (cr_ n (sm_ n a b c) p 0 a) (cr_ n (sm_ n a b c) p 1 b) (cr_ n (sm_ n a b c) p 2 c):=by
 obtain ⟨h1,h2,h3,h4,h5,h6,h7⟩:=sm_cases n1 n4 hv.wa.1 hv.wb.1 hv.wc.1 hv.sum
 have hf:=hv.face
 unfold cr_
 rcases h1 with h | h | h
 ·exact absurd h h0
 ·have:=h2 h
  rcases (by omega:p=0∨p=1∨p=2) with rfl | rfl | rfl <;> simp only [h,if_true,Nat.reduceEqDiff,if_false] <;> exact ⟨hf,by omega,by omega,by omega,by omega⟩
 ·have:=h3 h
  rcases (by omega:p=0∨p=1∨p=2) with rfl | rfl | rfl <;> rw [h] <;> simp only [show ¬ (1680:Int)=840 by decide,if_true,Nat.reduceEqDiff,if_false] <;> exact ⟨hf,by omega,by omega,by omega,by omega⟩
def crW (n s:Int) (same:Bool) (out:Bool) (x:Int):Int:=if out=true then 0 else if s=840 then (if same=true then bs_ n x+hN n else bs_ n x) else (if same=true then bs_ n x else bs_ n x+hN n)
theorem cr_wt {n f a b c s:Int} {p:Nat} (u:Int):wt f (cr_ n s p 0 a) (cr_ n s p 1 b) (cr_ n s p 2 c) u=crW n s (decide (p=pos f u)) (decide (pos f u=3)) (sel3 a b c (pos f u)):=by
 rw [wt_pos]
 have:=pos_le f u
 unfold crW cr_
 rcases (by omega:pos f u=0∨pos f u=1∨pos f u=2∨pos f u=3) with e | e | e | e <;> rw [e] <;> simp only [sel3,decide_eq_true_eq,Nat.reduceEqDiff,decide_false,decide_true,if_false,if_true,Bool.false_eq_true]
theorem SameP.nd {n f a b c f' a' b' c':Int} (n1:1≤n) (n4:n≤4) (h:SameP f a b c f' a' b' c') (l:List (Int × AV)) (h0:¬ sm_ n a b c=0) {v:Int} (hv:v ∈ vts) (hp:pos f v≠3) (hp':pos f' v≠3) (hz:sm_ n a b c=840∨∀ u ∈ vts,pos f u=3↔pos f' u=3) :
  ndL nrm l n f a b c (pos f v)=ndL nrm l n f' a' b' c' (pos f' v):=by
 have es:=h.sm n
 have l1:=pos_le f v
 have l2:=pos_le f' v
 unfold ndL
 refine SameP.at_ ⟨cr_vld n1 n4 h.v h0 (by omega),cr_vld n1 n4 h.v' (by rw [← es]; exact h0) (by omega),fun u hu=>?_⟩ l
 rw [cr_wt,cr_wt,← es]
 have hw:=h.w u hu
 rw [wt_pos,wt_pos] at hw
 rw [← hw]
 have e1:decide (pos f v=pos f u)=decide (pos f' v=pos f' u):=decide_eq_decide.2 ((p_eq hp).trans (p_eq hp').symm)
 rw [e1]
 rcases hz with hz | hz
 ·rw [hz]
  unfold crW
  have key:∀ (g:Int) (x:Int),pos g u=3→x=0→pos g v≠3→(if (true:Bool)=true then (0:Int) else 0)=(if decide (pos g v=pos g u)=true then bs_ n x+hN n else bs_ n x):=fun g x e ex hg=>by
   subst ex
   rw [e,decide_eq_false hg,bs_0]; rfl
  by_cases q:pos f u=3
  ·have z:sel3 a b c (pos f u)=0:=by rw [q]; rfl
   by_cases q':pos f' u=3
   ·rw [decide_eq_true q,decide_eq_true q']
   ·have k:=key f _ q z hp
    rw [e1] at k
    rw [decide_eq_true q,decide_eq_false q']
    simpa using k
  ·by_cases q':pos f' u=3
   ·have z:sel3 a b c (pos f u)=0:=by rw [hw,q']; rfl
    have k:=key f' _ q' z hp'
    rw [decide_eq_false q,decide_eq_true q']
    simpa using k.symm
   ·rw [decide_eq_false q,decide_eq_false q']
 ·rw [decide_eq_decide.2 (hz u hu)]
theorem SameP.perm {n f a b c f' a' b' c':Int} (n1:1≤n) (n4:n≤4) (h:SameP f a b c f' a' b' c') (l:List (Int × AV)) (h0:¬ sm_ n a b c=0):(shrL nrm l n f a b c).Perm (shrL nrm l n f' a' b' c'):=by
 have es:=h.sm n
 rw [shrL_G,shrL_G]
 refine ((flat_perm h.v.face (shG l n f a b c) rfl).symm.trans ?_).trans (flat_perm h.v'.face (shG l n f' a' b' c') rfl)
 have e:(vts.flatMap fun v=>shG l n f a b c (pos f v))=vts.flatMap fun v=>shG l n f' a' b' c' (pos f' v):=by
  unfold List.flatMap
  congr 1
  refine List.map_congr_left fun v hv=>?_
  have hw:=h.w v hv
  rw [wt_pos,wt_pos] at hw
  have hwt:wtL n a b c (sel3 a b c (pos f v))=wtL n a' b' c' (sel3 a' b' c' (pos f' v)):=by unfold wtL; rw [← es,hw]
  unfold shG
  obtain ⟨c1,_,c3,_⟩:=sm_cases n1 n4 h.v.wa.1 h.v.wb.1 h.v.wc.1 h.v.sum
  obtain ⟨_,_,d3,_⟩:=sm_cases n1 n4 h.v'.wa.1 h.v'.wb.1 h.v'.wc.1 h.v'.sum
  rcases c1 with q | q | q
  ·exact absurd q h0
  ·have w0:∀ x,x=0→wtL n a b c x=0:=fun x e=>by unfold wtL; rw [if_pos q,e,fr_0]
   by_cases p:pos f v=3
   ·have z:wtL n a' b' c' (sel3 a' b' c' (pos f' v))=0:=by rw [← hwt]; exact w0 _ (by rw [p]; rfl)
    rw [if_pos p]
    split
    ·rfl
    ·rw [z]; rfl
   ·by_cases p':pos f' v=3
    ·have z:wtL n a b c (sel3 a b c (pos f v))=0:=w0 _ (by rw [hw,p']; rfl)
     rw [if_neg p,if_pos p',z]; rfl
    ·rw [if_neg p,if_neg p',hwt,h.nd n1 n4 l h0 hv p p' (.inl q)]
  ·obtain ⟨_,a1,a2,a3⟩:=c3 q
   obtain ⟨_,b1,b2,b3⟩:=d3 (by rw [← es]; exact q)
   have nz:∀ {x:Int},0 < fr_ n x→x≠0:=fun hx e=>by rw [e,fr_0] at hx; omega
   have iff3:∀ (g x y z u:Int),0 < fr_ n x→0 < fr_ n y→0 < fr_ n z→(pos g u=3↔sel3 x y z (pos g u)=0):=fun g x y z u hx hy hz=>by
    have:=pos_le g u
    rcases (by omega:pos g u=0∨pos g u=1∨pos g u=2∨pos g u=3) with e | e | e | e <;> rw [e] <;> simp only [sel3,Nat.reduceEqDiff,false_iff,iff_true]
    ·exact nz hx
    ·exact nz hy
    ·exact nz hz
   have hz:∀ u ∈ vts,pos f u=3↔pos f' u=3:=fun u hu=>by
    have hw:=h.w u hu
    rw [wt_pos,wt_pos] at hw
    rw [iff3 f a b c u a1 a2 a3,iff3 f' a' b' c' u b1 b2 b3,hw]
   by_cases p:pos f v=3
   ·rw [if_pos p,if_pos ((hz v hv).1 p)]
   ·have p':=fun e=>p ((hz v hv).2 e)
    rw [if_neg p,if_neg p',hwt,h.nd n1 n4 l h0 hv p p' (.inr hz)]
 rw [e]
theorem SameP.near {n f a b c f' a' b' c':Int} (n1:1≤n) (n4:n≤4) (h:SameP f a b c f' a' b' c') {l:List (Int × AV)} (hl:∀ q,0≤mInt l q∧mInt l q < 1000):neaV nrm l n f a b c=neaV nrm l n f' a' b' c':=by
 have es:=h.sm n
 unfold neaV locL
 by_cases h0:sm_ n a b c=0
 ·rw [if_pos h0,if_pos (by rw [← es]; exact h0),h.at_ l]
 ·rw [if_neg h0,if_neg (by rw [← es]; exact h0)]
  obtain ⟨o1,o2,_⟩:=shrL_ok (f:=f) (nrm:=nrm) n1 n4 h.v.wa.1 h.v.wb.1 h.v.wc.1 hl h0
  exact nea_perm (h.perm n1 n4 l h0) o1 o2
theorem SameP.row {f a b c n x y z:Int} (hv:Vld f a b c) (h:RowOf f a b c n x y z):SameP n x y z f a b c:=⟨h.vld,hv,(sameW_iff ..).1 h.same⟩
end Go.Proofs.YtgbbmadjdaphnaaGreatDoor
namespace Go.Proofs.YtgbbmadjdaphnaaGreatDoor
open Go
set_option linter.unusedVariables false
set_option linter.unusedSimpArgs false
structure HopP (nrm:NrT) (n a b:Int):Prop where
 bq:BldQ nrm n
 ln:((ptG nrm n).1.length:Int)=10*n*n+2
 dp:DisP (ptG nrm n).1.length (ptG nrm n).1 (nxtG nrm n) a
 b0:0≤b∧b < (ptG nrm n).1.length
structure HopQ (nrm:NrT) (n a b d:Int):Prop where
 iff:d≤1↔b=a∨b ∈ nb (nxtG nrm n) a.toNat
 own:b=a→d=0
def ghops_s (nrm:Int→Int→Int→Int→Int × Int × Int × Int):SpQ
 | [.int .i64 n,.int .i64 a,.int .i64 b],[]=>some (fun K=>(HopP nrm n a b)∧(∀ (d:Int),(HopQ nrm n a b d)→K (.tup [.int .i64 d,.int .i64 0]) []))
 | _,_=>none
def ghops_T (nrm:Int→Int→Int→Int→Int × Int × Int × Int):Prop :=
  ∀ (n a b:Int),HopP nrm n a b→((1:Int)≤n∧n≤(4:Int))∧bif !decide ((0:Int)≤a∧a < (10:Int)*n*n+(2:Int)) then ∃ d,HopQ nrm n a b d∧((0:Int)=d ∧
  (1:Int)=(0:Int)∧True)∧True else ((1:Int)≤n∧n≤(4:Int))∧bif !decide ((0:Int)≤b∧b < (10:Int)*n*n+(2:Int)) then ∃ d,HopQ nrm n a b d∧((0:Int)
 =d∧(1:Int)=(0:Int)∧True)∧True else BldQ nrm n∧DisP (ptG nrm n).fst.length (ptG nrm n).fst (nxtG nrm n) a∧∀ (ds:List (List AV)),DisR (ptG nrm n).fst.length (nxtG
  nrm n) a ds→bif decide ((0:Int)≤b∧b < (↑ds.length:Int)) then ∃ n_1,List.take [AV.int IntKind.i64 n_1].length (ds.getD b.toNat [])=[AV.int IntKind.i64 n_1]∧∃ d,HopQ
  nrm n a b d∧(n_1=d∧(0:Int)=(0:Int)∧True)∧True else False
theorem ghops_P:ghops_T nrm:=by
 unfold ghops_T
 intro n a b hP
 have n1:=hP.bq.lo
 have n4:=hP.bq.hi
 have hl:=hP.ln
 have ha:=hP.dp.fr
 have hb:=hP.b0
 refine ⟨⟨n1,n4⟩,?_⟩
 rw [decide_eq_true (show 0≤a∧a < 10*n*n+2 by omega)]
 refine ⟨⟨n1,n4⟩,?_⟩
 rw [decide_eq_true (show 0≤b∧b < 10*n*n+2 by omega)]
 refine ⟨hP.bq,hP.dp,fun ds hds=>?_⟩
 obtain ⟨zs,rfl,hq⟩:=hds.ex
 have hz:=hq.len
 have hbc:((b.toNat:Nat):Int)=b:=Int.toNat_of_nonneg hb.1
 refine cd1 ⟨hb.1,by rw [intsL_len,hz]; exact hb.2⟩ ⟨zs.getD b.toNat 0,by rw [intsL_at (at_getD (by omega))]; rfl,_,⟨?_,fun e=>by rw [e]; exact hq.own⟩,⟨rfl,rfl,trivial⟩,trivial⟩
 have:=hq.iff b.toNat (by omega)
 rw [this,hbc]
 constructor
 ·rintro (e | e)
  ·exact .inl (by omega)
  ·exact .inr e
 ·rintro (e | e)
  ·exact .inl (by omega)
  ·exact .inr e
def ghops_S (nrm:Int→Int→Int→Int→Int × Int × Int × Int):Prop:=∀ (n a b:Int),HopP nrm n a b→fnQ Tryz.prog { glob:=glb,spec:=lk [(42,gnode_s)],specH:=lk [(43,(mbld_s nrm))],specQ:=lk [(44,mdist_s)],shape:=[24],nowf:=true } { nt:=25,drop:=drp [(1,130816),(3,33292288)],fr:=1000,kp:=[] } (fun _ _=>none) 6 Tryz.f13 [.int .i64 n,.int .i64 a,.int .i64 b] [] (fun r2 bs2=>∃ (d:Int),(HopQ nrm n a b d)∧le r2 (.tup [.int .i64 d,.int .i64 0])∧leBs bs2 [])
theorem ghops_e (nrm:Int→Int→Int→Int→Int × Int × Int × Int):ghops_T nrm=ghops_S nrm:=by kernel_rfl
theorem ghops_v:ghops_S nrm:=Eq.mp (ghops_e ..) (ghops_P)
theorem ghops_ok:QOK Tryz.prog glb 13 (ghops_s nrm):=by
 refine ⟨fok Tryz.func13 (by kernel_rfl) (by kernel_rfl),?_⟩
 intro xs bs T h K hT
 unfold ghops_s at h
 split at h
 ·simp only [Option.some.injEq] at h
  subst h
  obtain ⟨hp,hK⟩:=hT
  obtain ⟨r,bs2,⟨o0,hq,hl,hb⟩,hC⟩:=fnQ_sound tyNil (by exact specOK rfl rfl ⟨(gnode_ok glb),trivial⟩ ⟨(mbld_ok),trivial⟩ (d:=qsOf rfl ⟨(mdist_ok glb),trivial⟩)) (by kernel_rfl) Tryz.func13 (ghops_v  _ _ _ hp)
  exact ⟨_,_,hK o0 hq,hC.le hl hb⟩
 ·cases h
end Go.Proofs.YtgbbmadjdaphnaaGreatDoor
namespace Go.Proofs.YtgbbmadjdaphnaaGreatDoor
open Go
set_option linter.unusedVariables false
set_option linter.unusedSimpArgs false
theorem cs {p:Prop} [Decidable p] {A B:Prop} (h:p→A) (k:¬ p→B):cond (decide p) A B:=csplit (fun q=>h (of_decide_eq_true q)) (fun q=>k (of_decide_eq_false q))
def dgL:Nat→Int→List Int
 | 0,_=>[]
 | n+1,x=>dgL n (x / 10)++[48+x % 10]
def numR (s:ByteArray):Nat→Int
 | 0=>0
 | k+1=>10*numR s k+IntKind.u8.wrap (byteI s k - 48)
structure NumP (s:ByteArray) (x:Int × Int):Prop where
 lo:0≤x.1
 hi:x.1≤s.size
 v:x.2=numR s x.1.toNat
structure NumS (s:ByteArray):Prop where
 small:s.size≤8
def dgS (n:Int) (w:Nat):ByteArray:=strOfNums (dgL w n)
structure RdgP (n:Int) (w:Nat) (x:Int × Int × ByteArray):Prop where
 lo:0≤x.1
 hi:x.1≤w
 pos:0≤x.2.1
 big:x.2.1≤9999
 eq:dgS n w=strOfNums (dgL (w - x.1.toNat) x.2.1)++x.2.2
 sz:x.2.2.size=x.1.toNat
end Go.Proofs.YtgbbmadjdaphnaaGreatDoor
namespace Go.Proofs.YtgbbmadjdaphnaaGreatDoor
open Go
set_option linter.unusedVariables false
set_option linter.unusedSimpArgs false
def letC:ByteArray:=⟨#[80,84,68,69,78,65,66,70,71,74,75]⟩
def okC (c:Int):Bool:=decide (1≤c∧c≤11)
def inLo (c:Int):Int:=if okC c then bndT.getD (2*(c - 1).toNat) 0 else 0
def inHi (c:Int):Int:=if okC c then bndT.getD (2*(c - 1).toNat+1) 0 else 0
def iL (c:Int):ByteArray:=if okC c then Utf8.encode (byteI letC (c - 1).toNat) else ⟨#[]⟩
def inD (c:Int):Int:=if okC c then (if c=1 then 5 else 4) else 0
def inE (c:Int):Int:=if okC c then 0 else 4
theorem okC_cases {c:Int} (h:okC c=true):c=1∨c=2∨c=3∨c=4∨c=5∨c=6∨c=7∨c=8∨c=9∨c=10∨c=11:=by
 have:1≤c∧c≤11:=of_decide_eq_true h
 omega
def edesc_s (iL:Int→ByteArray) (inLo:Int→Int) (inHi:Int→Int) (inD:Int→Int) (inE:Int→Int):Sp
 | [.int .i64 c]=>some (True,.tup [.agg [.str (iL c),.int .i64 (inLo c),.int .i64 (inHi c),.int .i64 (inD c)],.int .i64 (inE c)])
 | _=>none
def edesc_T (iL:Int→ByteArray) (inLo:Int→Int) (inHi:Int→Int) (inD:Int→Int) (inE:Int→Int):Prop :=
  ∀ (c:Int),IR9 c→bif decide (c < (1:Int)) then ((⟨#[]⟩:ByteArray)=iL c∧(0:Int)=inLo c∧(0:Int)=inHi c∧(0:Int)=inD c∧True)∧(4:Int)=inE c∧True else bif decide (11 < c) then ((⟨#[]⟩:ByteArray)=iL c∧(0:Int)=inLo c∧(0:Int)=inHi c∧(0:Int)=inD c∧True)∧(4:Int)=inE c∧True else bif decide (rng .i64 (c - (1:Int))) then bif decide (0≤c -
 (1:Int)∧c - (1:Int) < (11:Int)) then ∃ n n_1,List.take [AV.int .i64 n,.int .i64 n_1].length (List.drop ((c - (1:Int)).toNat*(2:Nat)) (List.map (AV.int .i64) bndT))=[AV.int .i64 n,.int .i64 n_1]∧bif decide (rng .i64 (c - (1:Int))) then bif decide (0≤c - (1:Int)∧c - (1:Int) < (11:Int)) then bif decide (c=(1:Int)) then (Utf8.encode (byteI { data:=#[(80:UInt8),(84:UInt8),(68 :
 UInt8),(69:UInt8),(78:UInt8),(65:UInt8),(66:UInt8),(70:UInt8),(71:UInt8),(74:UInt8),(75:UInt8)] } (c - (1:Int)).toNat)=iL c∧n=inLo c∧n_1=inHi c∧(5:Int)=inD c∧True)∧(0:Int)=inE c∧True else (Utf8.encode (byteI { data:=#[(80:UInt8),(84:UInt8),(68:UInt8),(69:UInt8),(78:UInt8),(65:UInt8),(66:UInt8),(70:UInt8),(71:UInt8),(74:UInt8),(75:UInt8)] } (c -
 (1:Int)).toNat)=iL c∧n=inLo c∧n_1=inHi c∧(4:Int)=inD c∧True)∧(0:Int)=inE c∧True else False else False else False else False
theorem edesc_P:edesc_T iL inLo inHi inD inE:=by
 unfold edesc_T
 intro c hc
 have hn:okC c=false→((⟨#[]⟩:ByteArray)=iL c∧0=inLo c∧0=inHi c∧0=inD c∧True)∧4=inE c∧True:=by
  intro h; unfold iL inLo inHi inD inE; rw [h]; exact ⟨⟨rfl,rfl,rfl,rfl,trivial⟩,rfl,trivial⟩
 refine cs (fun h=>hn (decide_eq_false (by omega))) (fun h1=>cs (fun h=>hn (decide_eq_false (by omega))) (fun h2=>?_))
 have hk:okC c=true:=decide_eq_true (by omega)
 refine cdI (by omega) (cd1 (by omega) ⟨inLo c,inHi c,?_,cdI (by omega) (cd1 (by omega) ?_)⟩)
 ·rcases okC_cases hk with rfl | rfl | rfl | rfl | rfl | rfl | rfl | rfl | rfl | rfl | rfl <;> rfl
 ·unfold iL inD inE
  rw [hk]
  simp only [if_true]
  refine cs (fun h=>?_) (fun h=>?_)
  ·rw [if_pos h]; exact (by repeat' (first | apply And.intro | exact trivial | exact rfl))
  ·rw [if_neg h]; exact (by repeat' (first | apply And.intro | exact trivial | exact rfl))
def edesc_S (iL:Int→ByteArray) (inLo:Int→Int) (inHi:Int→Int) (inD:Int→Int) (inE:Int→Int):Prop:=∀ (c:Int),fnK Tryz.prog { glob:=glb,spec:=lk [],specH:=lk [],shape:=[16],nowf:=true } { nt:=30,drop:=drp [(1,1984),(2,4096),(3,122880),(4,66977792),(5,67108864),(6,268435456),(7,536870912)] } (fun _ _=>none) 6 Tryz.f95 [.int .i64 c] (.tup [.agg [.str (iL c),.int .i64 (inLo c),.int .i64 (inHi c),.int .i64 (inD c)],.int .i64 (inE c)])
theorem edesc_e (iL:Int→ByteArray) (inLo:Int→Int) (inHi:Int→Int) (inD:Int→Int) (inE:Int→Int):edesc_T iL inLo inHi inD inE=edesc_S iL inLo inHi inD inE:=by kernel_rfl
theorem edesc_v:edesc_S iL inLo inHi inD inE:=Eq.mp (edesc_e ..) (edesc_P)
theorem edesc_ok:SOK Tryz.prog glb 95 (edesc_s iL inLo inHi inD inE):=by
 refine ⟨fok Tryz.func95 (by kernel_rfl) (by kernel_rfl),?_⟩
 intro xs pre r h hp
 unfold edesc_s at h
 split at h
 ·simp only [Option.some.injEq,Prod.mk.injEq] at h
  obtain ⟨h1,h2⟩:=h
  subst h1 h2
  exact fnK_sound tyNil (by exact specOK rfl rfl trivial trivial) (by kernel_rfl) Tryz.func95 rfl (edesc_v  _)
 ·cases h
def ck (e v:Int):Int:=if okC e then (if v < inLo e∨inHi e < v then 1 else 0) else 4
def echeck_s (ck:Int→Int→Int):Sp
 | [.agg [.int .i64 e,.int .i64 v]]=>some (True,.int .i64 (ck e v))
 | _=>none
def echeck_T (ck:Int→Int→Int) (iL:Int→ByteArray) (inLo:Int→Int) (inHi:Int→Int) (inD:Int→Int) (inE:Int→Int):Prop :=
 ∀ (e v:Int),(IR9 e)∧(IR9 v)∧True→True∧bif decide (inE e=(0:Int)) then bif decide (v < inLo e) then (1:Int)=ck e v else bif decide (inHi e < v) then (1:Int)=ck e v else inE e=ck e v else inE e=ck e v
theorem echeck_P:echeck_T ck iL inLo inHi inD inE:=by
 unfold echeck_T
 intro e v h
 refine ⟨trivial,?_⟩
 unfold ck inE
 cases hk:okC e with
 | false=>exact cd0 (by decide) rfl
 | true =>
  simp only [if_true]
  refine cd1 (by trivial) (cs (fun q=>?_) (fun q=>cs (fun r=>?_) (fun r=>?_)))
  ·rw [if_pos (.inl q)]
  ·rw [if_pos (.inr r)]
  ·rw [if_neg (by omega)]
def echeck_S (ck:Int→Int→Int) (iL:Int→ByteArray) (inLo:Int→Int) (inHi:Int→Int) (inD:Int→Int) (inE:Int→Int):Prop:=∀ (e v:Int),fnK Tryz.prog { glob:=glb,spec:=lk [(95,(edesc_s iL inLo inHi inD inE))],specH:=lk [],nowf:=true } { nt:=28,drop:=drp [(1,2016),(2,67106816),(4,134217728)] } (fun _ _=>none) 6 Tryz.f132 [.agg [.int .i64 e,.int .i64 v]] (.int .i64 (ck e v))
theorem echeck_e (ck:Int→Int→Int) (iL:Int→ByteArray) (inLo:Int→Int) (inHi:Int→Int) (inD:Int→Int) (inE:Int→Int):echeck_T ck iL inLo inHi inD inE=echeck_S ck iL inLo inHi inD inE:=by kernel_rfl
theorem echeck_v:echeck_S ck iL inLo inHi inD inE:=Eq.mp (echeck_e ..) (echeck_P)
theorem echeck_ok:SOK Tryz.prog glb 132 (echeck_s ck):=by
 refine ⟨fok Tryz.func132 (by kernel_rfl) (by kernel_rfl),?_⟩
 intro xs pre r h hp
 unfold echeck_s at h
 split at h
 ·simp only [Option.some.injEq,Prod.mk.injEq] at h
  obtain ⟨h1,h2⟩:=h
  subst h1 h2
  exact fnK_sound tyNil (by exact specOK rfl rfl ⟨(edesc_ok),trivial⟩ trivial) (by kernel_rfl) Tryz.func132 rfl (echeck_v  _ _)
 ·cases h
def idxP (p:List AV→Bool) (xs:List (List AV)):Int:=if xs.any p then (xs.findIdx p:Int) else -1
theorem idx_some {p:List AV→Bool} {xs:List (List AV)} {i:Nat} (hi:i < xs.length) (h:p (xs.getD i [])=true) (hn:∀ j,j < i→p (xs.getD j [])=false):(i:Int)=idxP p xs:=by
 have e:∀ j (hj:j < xs.length),xs.getD j []=xs[j]:=fun j hj=>by rw [List.getD_eq_getElem?_getD,List.getElem?_eq_getElem hj]; rfl
 unfold idxP
 rw [if_pos (List.any_eq_true.2 ⟨xs[i],List.getElem_mem hi,by rw [← e i hi]; exact h⟩)]
 rw [(List.findIdx_eq hi).2 ⟨by rw [← e i hi]; exact h,fun j hj=>by rw [← e j (by omega)]; exact hn j hj⟩]
theorem idx_none {p:List AV→Bool} {xs:List (List AV)} (hn:∀ j,j < xs.length→p (xs.getD j [])=false):-1=idxP p xs:=by
 unfold idxP
 rw [if_neg]
 intro h
 obtain ⟨x,hx,hp⟩:=List.any_eq_true.1 h
 obtain ⟨j,hj,rfl⟩:=List.mem_iff_getElem.1 hx
 have:=hn j hj
 rw [List.getD_eq_getElem?_getD,List.getElem?_eq_getElem hj] at this
 rw [show (some xs[j]).getD []=xs[j] from rfl,hp] at this
 cases this
theorem idx_ge {p:List AV→Bool} {xs:List (List AV)}:decide (0≤idxP p xs)=xs.any p:=by
 unfold idxP
 cases h:xs.any p with
 | true=>rw [if_pos rfl]; exact decide_eq_true (by omega)
 | false=>rw [if_neg (by simp)]; rfl
structure RdsP (xs:List (List AV)):Prop where
 row:∀ i,i < xs.length→∃ e v:Int,xs.getD i []=[.int .i64 e,.int .i64 v]∧rng .i64 e∧rng .i64 v
 sm:xs.length≤9223372036854775807
def rE (r:List AV):Int:=cellI (r.take 1)
def rV (r:List AV):Int:=cellI (r.drop 1)
def ckP (bad:Int) (r:List AV):Bool:=decide (ck (rE r) (rV r)=bad)
def cdP (code:Int) (r:List AV):Bool:=decide (rE r=code)
def ckI (bad:Int) (xs:List (List AV)):Int:=idxP (ckP bad) xs
def ckA (bad:Int) (xs:List (List AV)):Bool:=xs.any (ckP bad)
def cdI' (code:Int) (xs:List (List AV)):Int:=idxP (cdP code) xs
def evc29_s (ck:Int→Int→Int):SpH
 | [.agg [.int .i64 e,.int .i64 v],.ptr 0 0],[.cells [.int .i64 bad]]=>some (True,.bool (decide (ck e v=bad)),[.cells [.int .i64 bad]])
 | _,_=>none
def evc29_T (ck:Int→Int→Int):Prop :=
 ∀ (e v bad:Int),(IR9 e)∧(IR9 v)∧True→True→IR9 bad→True∧decide (ck e v=bad)=decide (ck e v=bad)∧(bad=bad∧True)∧True
theorem evc29_P:evc29_T ck:=by
 unfold evc29_T
 intro e v bad h _ hb
 exact ⟨trivial,rfl,⟨rfl,trivial⟩,trivial⟩
def evc29_S (ck:Int→Int→Int):Prop:=∀ (e v bad:Int),fnH Tryz.prog { glob:=glb,spec:=lk [(132,(echeck_s ck))],specH:=lk [],nowf:=true } { nt:=8,drop:=drp [(1,240)],fr:=1000,kp:=[0] } (fun _ _=>none) 6 Tryz.f131 [.agg [.int .i64 e,.int .i64 v],.ptr 0 0] [.cells [.int .i64 bad]] (.bool (decide (ck e v=bad))) [.cells [.int .i64 bad]]
theorem evc29_e (ck:Int→Int→Int):evc29_T ck=evc29_S ck:=by kernel_rfl
theorem evc29_v:evc29_S ck:=Eq.mp (evc29_e ..) (evc29_P)
theorem evc29_ok:HOK Tryz.prog glb 131 (evc29_s ck):=by
 refine ⟨fok Tryz.func131 (by kernel_rfl) (by kernel_rfl),?_⟩
 intro xs bs pre r bs2 h hp
 unfold evc29_s at h
 split at h
 ·simp only [Option.some.injEq,Prod.mk.injEq] at h
  obtain ⟨h1,h2,h3⟩:=h
  subst h1 h2 h3
  exact fnH_sound tyNil (by exact specOK rfl rfl ⟨(echeck_ok),trivial⟩ trivial) (by kernel_rfl) Tryz.func131 (evc29_v  _ _ _)
 ·cases h
structure IdxI (p:List AV→Bool) (xs:List (List AV)) (i:Int):Prop where
 lo:0≤i
 hi:i≤xs.length
 no:∀ j:Nat,(j:Int) < i→p (xs.getD j [])=false
def ixI (k:Nat) (p:List AV→Bool) (f:Bool) (bad:Int) (xs:List (List AV)):LInv:=⟨Int,fun i=>⟨[(0,.sl 2 f xs),(1,.fn k [.ptr 0 0]),(7,.int .i64 xs.length),(8,.int .i64 i)],[(0,.cells [.int .i64 bad])]⟩,IdxI p xs,fun i=>(xs.length - i).toNat,none⟩
def eix_s (ck:Int→Int→Int) (ckI:Int→List (List AV)→Int):SpH
 | [.sl 2 f xs,.fn 131 [.ptr 0 0]],[.cells [.int .i64 bad]]=>some (RdsP xs,.int .i64 (ckI bad xs),[.cells [.int .i64 bad]])
 | _,_=>none
def eix_T (ck:Int→Int→Int) (ckI:Int→List (List AV)→Int):Prop :=
  ∀ (f:Bool) (xs:List (List AV)) (bad:Int),RdsP xs→True→True→IR9 bad→(∃ x,IdxI (ckP bad) xs x∧(((bif f then f=true else True)∧xs=xs)∧((0:Nat)=0∧True)∧(↑xs.length:Int)=(↑xs.length:Int)∧(0:Int)=x∧True)∧(bad=bad∧True)∧True)∧∀ (x:Int),IdxI (ckP bad) xs x→bif decide (x < (↑xs.length:Int)) then bif decide (0≤x∧x < (↑xs.length:Int)) then
 ∃ n n_1,List.take [AV.int .i64 n,.int .i64 n_1].length (xs.getD x.toNat [])=[AV.int .i64 n,.int .i64 n_1]∧True∧bif decide (ck n n_1=bad) then x=ckI bad xs∧(bad=bad∧True)∧True else bif decide (rng .i64 (x+(1:Int))) then ∃ y,IdxI (ckP bad) xs y∧(ixI (71:Nat) (ckP bad) f bad xs).m y < (ixI (71:Nat) (ckP bad) f bad xs).m x∧(((bif f then f=true else
 True)∧xs=xs)∧((0:Nat)=0∧True)∧(↑xs.length:Int)=(↑xs.length:Int)∧x+(1:Int)=y∧True)∧(bad=bad∧True)∧True else False else False else (-1:Int)=ckI bad xs∧(bad=bad∧True)∧True
theorem eix_P:eix_T ck ckI:=by
 unfold eix_T
 intro f xs bad ⟨hr,hs⟩ _ _ hb
 have bf:cond f (f=true) True:=by cases f <;> trivial
 refine ⟨⟨0,⟨by decide,by omega,fun j h=>by omega⟩,⟨⟨bf,rfl⟩,⟨rfl,trivial⟩,rfl,rfl,trivial⟩,⟨rfl,trivial⟩,trivial⟩,?_⟩
 rintro i ⟨h0,h1,hn⟩
 have ei:((i.toNat:Nat):Int)=i:=by omega
 refine cs (fun hl=>?_) (fun hl=>?_)
 ·obtain ⟨e,v,he,_,_⟩:=hr i.toNat (by omega)
  refine cd1 ⟨h0,hl⟩ ⟨e,v,by rw [he]; rfl,trivial,cs (fun q=>?_) (fun q=>?_)⟩
  ·have:=idx_some (p:=ckP bad) (xs:=xs) (i:=i.toNat) (by omega) (by rw [he]; exact decide_eq_true q) (fun j hj=>hn j (by omega))
   exact ⟨ei.symm.trans this,⟨rfl,trivial⟩,trivial⟩
  ·refine cdI (by omega) ⟨i+1,⟨by omega,by omega,fun j hj=>?_⟩,by simp only [ixI]; omega,⟨⟨bf,rfl⟩,⟨rfl,trivial⟩,rfl,rfl,trivial⟩,⟨rfl,trivial⟩,trivial⟩
   rcases Nat.lt_or_ge j i.toNat with k | k
   ·exact hn j (by omega)
   ·rw [show j=i.toNat by omega,he]; exact decide_eq_false q
 ·exact ⟨idx_none fun j hj=>hn j (by omega),⟨rfl,trivial⟩,trivial⟩
def eix_S (ck:Int→Int→Int) (ckI:Int→List (List AV)→Int):Prop:=∀ (f:Bool) (xs:List (List AV)) (bad:Int),RdsP xs→fnH Tryz.prog { glob:=glb,spec:=lk [],specH:=lk [(131,(evc29_s ck))],shape:=[15],nowf:=true } { nt:=19,drop:=drp [(1,64),(3,1024),(4,63488),(5,131072),(6,262144)],fr:=1000,kp:=[0] } (invs [(2,ixI 131 (ckP bad) f bad xs)]) 6 Tryz.f134 [.sl 2 f xs,.fn 131 [.ptr 0 0]] [.cells [.int .i64 bad]] (.int .i64 (ckI bad xs)) [.cells [.int .i64 bad]]
theorem eix_e (ck:Int→Int→Int) (ckI:Int→List (List AV)→Int):eix_T ck ckI=eix_S ck ckI:=by kernel_rfl
theorem eix_v:eix_S ck ckI:=Eq.mp (eix_e ..) (eix_P)
theorem eix_ok:HOK Tryz.prog glb 134 (eix_s ck ckI):=by
 refine ⟨fok Tryz.func134 (by kernel_rfl) (by kernel_rfl),?_⟩
 intro xs bs pre r bs2 h hp
 unfold eix_s at h
 split at h
 ·simp only [Option.some.injEq,Prod.mk.injEq] at h
  obtain ⟨h1,h2,h3⟩:=h
  subst h1 h2 h3
  exact fnH_sound tyNil (by exact specOK rfl rfl trivial ⟨(evc29_ok),trivial⟩) (by kernel_rfl) Tryz.func134 (eix_v  _ _ _ hp)
 ·cases h
def ecf_s (ckA:Int→List (List AV)→Bool):SpH
 | [.sl 2 f xs,.fn 131 [.ptr 0 0]],[.cells [.int .i64 bad]]=>some (RdsP xs,.bool (ckA bad xs),[.cells [.int .i64 bad]])
 | _,_=>none
def ecf_T (ckA:Int→List (List AV)→Bool) (ck:Int→Int→Int) (ckI:Int→List (List AV)→Int):Prop :=
 ∀ (f:Bool) (xs:List (List AV)) (bad:Int),RdsP xs→True→True→IR9 bad→RdsP xs∧decide (0≤ckI bad xs)=ckA bad xs∧(bad=bad∧True)∧True
theorem ecf_P:ecf_T ckA ck ckI:=by
 unfold ecf_T
 intro f xs bad h _ _ hb
 exact ⟨h,idx_ge,⟨rfl,trivial⟩,trivial⟩
def ecf_S (ckA:Int→List (List AV)→Bool) (ck:Int→Int→Int) (ckI:Int→List (List AV)→Int):Prop:=∀ (f:Bool) (xs:List (List AV)) (bad:Int),RdsP xs→fnH Tryz.prog { glob:=glb,spec:=lk [],specH:=lk [(134,(eix_s ck ckI))],nowf:=true } { nt:=9,drop:=drp [(1,480)],fr:=1000,kp:=[0] } (fun _ _=>none) 6 Tryz.f130 [.sl 2 f xs,.fn 131 [.ptr 0 0]] [.cells [.int .i64 bad]] (.bool (ckA bad xs)) [.cells [.int .i64 bad]]
theorem ecf_e (ckA:Int→List (List AV)→Bool) (ck:Int→Int→Int) (ckI:Int→List (List AV)→Int):ecf_T ckA ck ckI=ecf_S ckA ck ckI:=by kernel_rfl
theorem ecf_v:ecf_S ckA ck ckI:=Eq.mp (ecf_e ..) (ecf_P)
theorem ecf_ok:HOK Tryz.prog glb 130 (ecf_s ckA):=by
 refine ⟨fok Tryz.func130 (by kernel_rfl) (by kernel_rfl),?_⟩
 intro xs bs pre r bs2 h hp
 unfold ecf_s at h
 split at h
 ·simp only [Option.some.injEq,Prod.mk.injEq] at h
  obtain ⟨h1,h2,h3⟩:=h
  subst h1 h2 h3
  exact fnH_sound tyNil (by exact specOK rfl rfl trivial ⟨(eix_ok),trivial⟩) (by kernel_rfl) Tryz.func130 (ecf_v  _ _ _ hp)
 ·cases h
def evc27_s:SpH
 | [.int .i64 bad,.ptr 0 0],[.cells [.sl 2 f xs]]=>some (RdsP xs,.bool (ckA bad xs),[.cells [.sl 2 f xs]])
 | _,_=>none
def evc27_T (ckA:Int→List (List AV)→Bool):Prop :=
 ∀ (f:Bool) (xs:List (List AV)) (bad:Int),RdsP xs→IR9 bad→True→True→RdsP xs∧ckA bad xs=ckA bad xs∧(((bif f then f=true else True)∧xs=xs)∧True)∧True
theorem evc27_P:evc27_T ckA:=by
 unfold evc27_T
 intro f xs bad h _ _ _
 have bf:cond f (f=true) True:=by cases f <;> trivial
 exact ⟨h,rfl,⟨⟨bf,rfl⟩,trivial⟩,trivial⟩
def evc27_S (ckA:Int→List (List AV)→Bool):Prop:=∀ (f:Bool) (xs:List (List AV)) (bad:Int),RdsP xs→fnH Tryz.prog { glob:=glb,spec:=lk [],specH:=lk [(130,(ecf_s ckA))],nowf:=true } { nt:=7,drop:=drp [(1,112)],fr:=1000,kp:=[0] } (fun _ _=>none) 6 Tryz.f129 [.int .i64 bad,.ptr 0 0] [.cells [.sl 2 f xs]] (.bool (ckA bad xs)) [.cells [.sl 2 f xs]]
theorem evc27_e (ckA:Int→List (List AV)→Bool):evc27_T ckA=evc27_S ckA:=by kernel_rfl
theorem evc27_v:evc27_S ckA:=Eq.mp (evc27_e ..) (evc27_P)
theorem evc27_ok:HOK Tryz.prog glb 129 evc27_s:=by
 refine ⟨fok Tryz.func129 (by kernel_rfl) (by kernel_rfl),?_⟩
 intro xs bs pre r bs2 h hp
 unfold evc27_s at h
 split at h
 ·simp only [Option.some.injEq,Prod.mk.injEq] at h
  obtain ⟨h1,h2,h3⟩:=h
  subst h1 h2 h3
  exact fnH_sound tyNil (by exact specOK rfl rfl trivial ⟨(ecf_ok),trivial⟩) (by kernel_rfl) Tryz.func129 (evc27_v  _ _ _ hp)
 ·cases h
def ascB (xs:List (List AV)):Bool:=decide (∀ j,j < xs.length→j=0∨rE (xs.getD (j - 1) []) < rE (xs.getD j []))
def vdE (xs:List (List AV)):Int:=if ckA 4 xs then 4 else if ckA 1 xs then 1 else if ascB xs then 0 else 8
structure AscI (xs:List (List AV)) (i:Int):Prop where
 lo:1≤i
 hi:i≤xs.length∨i=1
 asc:∀ j:Nat,(j:Int) < i→j < xs.length→j=0∨rE (xs.getD (j - 1) []) < rE (xs.getD j [])
def ascL (f:Bool) (xs:List (List AV)):LInv:=⟨Int,fun i=>⟨[(1,.ptr 1 0),(4,.int .i64 i)],[(1,.cells [.sl 2 f xs])]⟩,AscI xs,fun i=>(xs.length+1 - i).toNat,none⟩
def evalid_s (vdE:List (List AV)→Int):Sp
 | [.sl 2 f xs]=>some (RdsP xs,.int .i64 (vdE xs))
 | _=>none
def evalid_T (vdE:List (List AV)→Int):Prop :=
  ∀ (f:Bool) (xs:List (List AV)),RdsP xs→True→RdsP xs∧bif ckA (4:Int) xs then (4:Int)=vdE xs else RdsP xs∧bif ckA (1:Int) xs then (1:Int)=vdE xs else (∃ x,AscI xs x∧((0:Nat)=0∧(1:Int)=x∧True)∧(((bif f then f=true else True)∧xs=xs)∧True)∧True)∧∀ (x:Int),AscI xs x→bif decide (x < (↑xs.length:Int)) then bif decide (rng .i64 (x - (1:Int))) then bif decide (0≤x - (1:Int)∧x - (1:Int) <
 (↑xs.length:Int)) then ∃ n,List.take [AV.int .i64 n].length (List.drop (0:Nat) (xs.getD (x - (1:Int)).toNat []))=[AV.int .i64 n]∧bif decide (0≤x∧x < (↑xs.length:Int)) then ∃ n_1,List.take [AV.int .i64 n_1].length (List.drop (0:Nat) (xs.getD x.toNat []))=[AV.int .i64 n_1]∧bif decide (n_1≤n) then (8:Int)=vdE xs else bif decide (rng .i64 (x+(1:Int))) then ∃ y,AscI xs y∧(ascL f xs).m y <
 (ascL f xs).m x∧((0:Nat)=0∧x+(1:Int)=y∧True)∧(((bif f then f=true else True)∧xs=xs)∧True)∧True else False else False else False else False else (0:Int)=vdE xs
theorem evalid_P:evalid_T vdE:=by
 unfold evalid_T
 intro f xs ⟨hr,hs⟩ _
 have bf:cond f (f=true) True:=by cases f <;> trivial
 refine ⟨⟨hr,hs⟩,csplit (fun h4=>?_) (fun h4=>⟨⟨hr,hs⟩,csplit (fun h1=>?_) (fun h1=>?_)⟩)⟩
 ·unfold vdE; rw [h4]; rfl
 ·unfold vdE; rw [h4,h1]; rfl
 have hv:vdE xs=if ascB xs then 0 else 8:=by unfold vdE; rw [h4,h1]; rfl
 rw [hv]
 refine ⟨⟨1,⟨by decide,.inr rfl,fun j hj _=>.inl (by omega)⟩,⟨rfl,rfl,trivial⟩,⟨⟨bf,rfl⟩,trivial⟩,trivial⟩,?_⟩
 rintro i ⟨h0,h2,hn⟩
 refine cs (fun hl=>?_) (fun hl=>?_)
 ·obtain ⟨e,v,he,_,_⟩:=hr (i - 1).toNat (by omega)
  obtain ⟨e',v',he',_,_⟩:=hr i.toNat (by omega)
  have hi:i.toNat - 1=(i - 1).toNat:=by omega
  have q1:rE (xs.getD (i.toNat - 1) [])=e:=by rw [hi,he]; rfl
  have q2:rE (xs.getD i.toNat [])=e':=by rw [he']; rfl
  refine cdI (by omega) (cd1 (by omega) ⟨e,by rw [he]; rfl,cd1 (by omega) ⟨e',by rw [he']; rfl,cs (fun q=>?_) (fun q=>?_)⟩⟩)
  ·have:ascB xs=false:=by
    refine decide_eq_false fun h=>?_
    rcases h i.toNat (by omega) with k | k
    ·omega
    ·rw [q1,q2] at k; omega
   rw [this]; rfl
  ·refine cdI (by omega) ⟨i+1,⟨by omega,.inl (by omega),fun j hj hlj=>?_⟩,by simp only [ascL]; omega,⟨rfl,rfl,trivial⟩,⟨⟨bf,rfl⟩,trivial⟩,trivial⟩
   rcases Nat.lt_or_ge j i.toNat with k | k
   ·exact hn j (by omega) hlj
   ·rw [show j=i.toNat by omega,q1,q2]; exact .inr (by omega)
 ·have:ascB xs=true:=decide_eq_true fun j hj=>hn j (by omega) hj
  rw [this]; rfl
def evalid_S (vdE:List (List AV)→Int):Prop:=∀ (f:Bool) (xs:List (List AV)),RdsP xs→fnK Tryz.prog { glob:=glb,spec:=lk [],specH:=lk [(129,evc27_s)],shape:=[23,28],nowf:=true } { nt:=30,drop:=drp [(1,32),(2,384),(4,3072),(7,28672),(8,196608),(9,536608768)] } (invs [(7,ascL f xs)]) 6 Tryz.f79 [.sl 2 f xs] (.int .i64 (vdE xs))
theorem evalid_e (vdE:List (List AV)→Int):evalid_T vdE=evalid_S vdE:=by kernel_rfl
theorem evalid_v:evalid_S vdE:=Eq.mp (evalid_e ..) (evalid_P)
theorem evalid_ok:SOK Tryz.prog glb 79 (evalid_s vdE):=by
 refine ⟨fok Tryz.func79 (by kernel_rfl) (by kernel_rfl),?_⟩
 intro xs pre r h hp
 unfold evalid_s at h
 split at h
 ·simp only [Option.some.injEq,Prod.mk.injEq] at h
  obtain ⟨h1,h2⟩:=h
  subst h1 h2
  exact fnK_sound tyNil (by exact specOK rfl rfl trivial ⟨(evc27_ok),trivial⟩) (by kernel_rfl) Tryz.func79 rfl (evalid_v  _ _ hp)
 ·cases h
def efc_s:SpH
 | [.agg [.int .i64 e,.int .i64 v],.ptr 0 0],[.cells [.int .i64 code]]=>some (True,.bool (decide (e=code)),[.cells [.int .i64 code]])
 | _,_=>none
def efc_T:Prop :=
 ∀ (gl:Glob) (e v code:Int),(IR9 e)∧(IR9 v)∧True→True→IR9 code→decide (e=code)=decide (e=code)∧(code=code∧True)∧True
theorem efc_P:efc_T:=by
 unfold efc_T
 intro gl e v code h _ hb
 exact ⟨rfl,⟨rfl,trivial⟩,trivial⟩
def efc_S:Prop:=∀ (gl:Glob) (e v code:Int),fnH Tryz.prog { glob:=gl,spec:=lk [],specH:=lk [],nowf:=true } { nt:=8,drop:=drp [(1,240)],fr:=1000,kp:=[0] } (fun _ _=>none) 6 Tryz.f135 [.agg [.int .i64 e,.int .i64 v],.ptr 0 0] [.cells [.int .i64 code]] (.bool (decide (e=code))) [.cells [.int .i64 code]]
theorem efc_e:efc_T=efc_S:=by kernel_rfl
theorem efc_v:efc_S:=Eq.mp (efc_e ..) (efc_P)
theorem efc_ok (gl:Glob):HOK Tryz.prog gl 135 efc_s:=by
 refine ⟨fok Tryz.func135 (by kernel_rfl) (by kernel_rfl),?_⟩
 intro xs bs pre r bs2 h hp
 unfold efc_s at h
 split at h
 ·simp only [Option.some.injEq,Prod.mk.injEq] at h
  obtain ⟨h1,h2,h3⟩:=h
  subst h1 h2 h3
  exact fnH_sound tyNil (by exact specOK rfl rfl trivial trivial) (by kernel_rfl) Tryz.func135 (efc_v gl _ _ _)
 ·cases h
def eixF_s (cdI':Int→List (List AV)→Int):SpH
 | [.sl 2 f xs,.fn 135 [.ptr 0 0]],[.cells [.int .i64 code]]=>some (RdsP xs,.int .i64 (cdI' code xs),[.cells [.int .i64 code]])
 | _,_=>none
def eixF_T (cdI':Int→List (List AV)→Int):Prop :=
  ∀ (gl:Glob) (f:Bool) (xs:List (List AV)) (code:Int),RdsP xs→True→True→IR9 code→(∃ x,IdxI (cdP code) xs x∧(((bif f then f=true else True)∧xs=xs)∧((0:Nat)=0∧True)∧(↑xs.length:Int)=(↑xs.length:Int)∧(0:Int)=x∧True)∧(code=code∧True)∧True)∧∀ (x:Int),IdxI (cdP code) xs x→bif decide (x < (↑xs.length:Int)) then bif decide (0≤x∧x <
 (↑xs.length:Int)) then ∃ n n_1,List.take [AV.int .i64 n,.int .i64 n_1].length (xs.getD x.toNat [])=[AV.int .i64 n,.int .i64 n_1]∧True∧bif decide (n=code) then x=cdI' code xs∧(code=code∧True)∧True else bif decide (rng .i64 (x+(1:Int))) then ∃ y,IdxI (cdP code) xs y∧(ixI (92:Nat) (cdP code) f code xs).m y < (ixI (92:Nat) (cdP code) f code xs).m x∧(((bif f then f=true else
 True)∧xs=xs)∧((0:Nat)=0∧True)∧(↑xs.length:Int)=(↑xs.length:Int)∧x+(1:Int)=y∧True)∧(code=code∧True)∧True else False else False else (-1:Int)=cdI' code xs∧(code=code∧True)∧True
theorem eixF_P:eixF_T cdI':=by
 unfold eixF_T
 intro gl f xs bad ⟨hr,hs⟩ _ _ hb
 have bf:cond f (f=true) True:=by cases f <;> trivial
 refine ⟨⟨0,⟨by decide,by omega,fun j h=>by omega⟩,⟨⟨bf,rfl⟩,⟨rfl,trivial⟩,rfl,rfl,trivial⟩,⟨rfl,trivial⟩,trivial⟩,?_⟩
 rintro i ⟨h0,h1,hn⟩
 have ei:((i.toNat:Nat):Int)=i:=by omega
 refine cs (fun hl=>?_) (fun hl=>?_)
 ·obtain ⟨e,v,he,_,_⟩:=hr i.toNat (by omega)
  refine cd1 ⟨h0,hl⟩ ⟨e,v,by rw [he]; rfl,trivial,cs (fun q=>?_) (fun q=>?_)⟩
  ·have:=idx_some (p:=cdP bad) (xs:=xs) (i:=i.toNat) (by omega) (by rw [he]; exact decide_eq_true q) (fun j hj=>hn j (by omega))
   exact ⟨ei.symm.trans this,⟨rfl,trivial⟩,trivial⟩
  ·refine cdI (by omega) ⟨i+1,⟨by omega,by omega,fun j hj=>?_⟩,by simp only [ixI]; omega,⟨⟨bf,rfl⟩,⟨rfl,trivial⟩,rfl,rfl,trivial⟩,⟨rfl,trivial⟩,trivial⟩
   rcases Nat.lt_or_ge j i.toNat with k | k
   ·exact hn j (by omega)
   ·rw [show j=i.toNat by omega,he]; exact decide_eq_false q
 ·exact ⟨idx_none fun j hj=>hn j (by omega),⟨rfl,trivial⟩,trivial⟩
def eixF_S (cdI':Int→List (List AV)→Int):Prop:=∀ (gl:Glob) (f:Bool) (xs:List (List AV)) (code:Int),RdsP xs→fnH Tryz.prog { glob:=gl,spec:=lk [],specH:=lk [(135,efc_s)],shape:=[15],nowf:=true } { nt:=19,drop:=drp [(1,64),(3,1024),(4,63488),(5,131072),(6,262144)],fr:=1000,kp:=[0] } (invs [(2,ixI 135 (cdP code) f code xs)]) 6 Tryz.f134 [.sl 2 f xs,.fn 135 [.ptr 0 0]] [.cells [.int .i64 code]] (.int .i64 (cdI' code xs)) [.cells [.int .i64 code]]
theorem eixF_e (cdI':Int→List (List AV)→Int):eixF_T cdI'=eixF_S cdI':=by kernel_rfl
theorem eixF_v:eixF_S cdI':=Eq.mp (eixF_e ..) (eixF_P)
theorem eixF_ok (gl:Glob):HOK Tryz.prog gl 134 (eixF_s cdI'):=by
 refine ⟨fok Tryz.func134 (by kernel_rfl) (by kernel_rfl),?_⟩
 intro xs bs pre r bs2 h hp
 unfold eixF_s at h
 split at h
 ·simp only [Option.some.injEq,Prod.mk.injEq] at h
  obtain ⟨h1,h2,h3⟩:=h
  subst h1 h2 h3
  exact fnH_sound tyNil (by exact specOK rfl rfl trivial ⟨(efc_ok gl),trivial⟩) (by kernel_rfl) Tryz.func134 (eixF_v gl _ _ _ hp)
 ·cases h
def fdB (xs:List (List AV)) (code:Int):Bool:=decide (0≤cdI' code xs)
def fdV (xs:List (List AV)) (code:Int):Int:=if fdB xs code then rV (xs.getD (cdI' code xs).toNat []) else 0
def efind_s (fdV:List (List AV)→Int→Int) (fdB:List (List AV)→Int→Bool):Sp
 | [.sl 2 f xs,.int .i64 code]=>some (RdsP xs,.tup [.int .i64 (fdV xs code),.bool (fdB xs code)])
 | _=>none
def efind_T (fdV:List (List AV)→Int→Int) (fdB:List (List AV)→Int→Bool) (cdI':Int→List (List AV)→Int):Prop :=
  ∀ (gl:Glob) (f:Bool) (xs:List (List AV)) (code:Int),RdsP xs→True→IR9 code→RdsP xs∧bif decide (cdI' code xs < (0:Int)) then (0:Int)=fdV xs code∧false=fdB xs code∧True else bif decide (0≤cdI' code xs∧cdI' code xs < (↑xs.length:Int)) then ∃ n,List.take [AV.int .i64 n].length (List.drop (1:Nat) (xs.getD (cdI' code xs).toNat
 []))=[AV.int .i64 n]∧n=fdV xs code∧true=fdB xs code∧True else False
theorem efind_P:efind_T fdV fdB cdI':=by
 unfold efind_T
 intro gl f xs code ⟨hr,hs⟩ _ _
 refine ⟨⟨hr,hs⟩,cs (fun q=>?_) (fun q=>?_)⟩
 ·have:fdB xs code=false:=decide_eq_false (by omega)
  unfold fdV; rw [this]; exact ⟨rfl,rfl,trivial⟩
 ·have hb:fdB xs code=true:=decide_eq_true (by omega)
  have hl:cdI' code xs < (xs.length:Int):=by
   unfold cdI' idxP
   split
   ·next h=>have:=List.findIdx_lt_length_of_exists (p:=cdP code) (xs:=xs) (by simpa [List.any_eq_true] using h); omega
   ·omega
  obtain ⟨e,v,he,_,_⟩:=hr (cdI' code xs).toNat (by omega)
  refine cd1 ⟨by omega,hl⟩ ⟨v,by rw [he]; rfl,?_,hb.symm,trivial⟩
  unfold fdV; rw [if_pos hb,he]; rfl
def efind_S (fdV:List (List AV)→Int→Int) (fdB:List (List AV)→Int→Bool) (cdI':Int→List (List AV)→Int):Prop:=∀ (gl:Glob) (f:Bool) (xs:List (List AV)) (code:Int),RdsP xs→fnK Tryz.prog { glob:=gl,spec:=lk [],specH:=lk [(134,(eixF_s cdI'))],shape:=[16],nowf:=true } { nt:=17,drop:=drp [(1,896),(2,1024),(4,126976)] } (fun _ _=>none) 6 Tryz.f82 [.sl 2 f xs,.int .i64 code] (.tup [.int .i64 (fdV xs code),.bool (fdB xs code)])
theorem efind_e (fdV:List (List AV)→Int→Int) (fdB:List (List AV)→Int→Bool) (cdI':Int→List (List AV)→Int):efind_T fdV fdB cdI'=efind_S fdV fdB cdI':=by kernel_rfl
theorem efind_v:efind_S fdV fdB cdI':=Eq.mp (efind_e ..) (efind_P)
theorem efind_ok (gl:Glob):SOK Tryz.prog gl 82 (efind_s fdV fdB):=by
 refine ⟨fok Tryz.func82 (by kernel_rfl) (by kernel_rfl),?_⟩
 intro xs pre r h hp
 unfold efind_s at h
 split at h
 ·simp only [Option.some.injEq,Prod.mk.injEq] at h
  obtain ⟨h1,h2⟩:=h
  subst h1 h2
  exact fnK_sound tyNil (by exact specOK rfl rfl trivial ⟨(eixF_ok gl),trivial⟩) (by kernel_rfl) Tryz.func82 rfl (efind_v gl _ _ _ hp)
 ·cases h
end Go.Proofs.YtgbbmadjdaphnaaGreatDoor
namespace Go.Proofs.YtgbbmadjdaphnaaGreatDoor
open Go
set_option linter.unusedVariables false
set_option linter.unusedSimpArgs false
def idxI (v:Int):List Int→Nat→Int
 | [],_=>-1
 | z::l,j=>if v=z then (j:Int) else idxI v l (j+1)
theorem idxI_iff (v:Int):∀ (l:List Int) (j:Nat),0≤idxI v l j↔v ∈ l
 | [],j=>by simp [idxI]
 | z::l,j=>by
  unfold idxI
  by_cases h:v=z
  ·rw [if_pos h]; subst h; simp
  ·rw [if_neg h,idxI_iff v l (j+1),List.mem_cons]
   exact ⟨.inr,fun q=>q.resolve_left h⟩
structure IxP (v:Int) (zs:List Int) (i:Int):Prop where
 lo:0≤i
 hi:i≤zs.length
 eq:idxI v zs 0=idxI v (zs.drop i.toNat) i.toNat
def ix2 (f:Bool) (zs:List Int) (v:Int):LInv:=⟨Int,fun i=>⟨[(0,.sl 1 f (intsL zs)),(1,.int .i64 v),(7,.int .i64 zs.length),(8,.int .i64 i)],[]⟩,IxP v zs,fun i=>(zs.length - i).toNat,none⟩
theorem dropI {l:List Int} {i:Nat} {z:Int} (h:l[i]?=some z):l.drop i=z::l.drop (i+1):=by
 obtain ⟨hl,e⟩:=List.getElem?_eq_some_iff.1 h
 rw [List.drop_eq_getElem_cons hl,e]
def sidx_s:Sp
 | [.sl 1 f ys,.int .i64 v]=>some (ys=intsL (ungI ys)∧ys.length≤1000000,.int .i64 (idxI v (ungI ys) 0))
 | _=>none
def sidx_T:Prop :=
  ∀ (gl:Glob) (f:Bool) (ys:List (List AV)) (v:Int),ys=intsL (ungI ys)∧ys.length≤(1000000:Nat)→True→(-9223372036854775808:Int)≤v∧v≤(9223372036854775807 :
  Int)→(∃ x,IxP v (ungI ys) x∧(((bif f then f=true else True)∧ys=intsL (ungI ys))∧v=v∧(↑ys.length:Int)=(↑(ungI ys).length:Int)∧(0:Int)=x∧True)∧True)
 ∧∀ (x:Int),IxP v (ungI ys) x→bif decide (x < (↑(ungI ys).length:Int)) then bif decide ((0:Int)≤x∧x < (↑(intsL (ungI ys)).length:Int)) then ∃ n,List.take [AV.int
  IntKind.i64 n].length ((intsL (ungI ys)).getD x.toNat [])=[AV.int IntKind.i64 n]∧bif decide (v=n) then x=idxI v (ungI ys) (0:Nat) else bif decide (rng IntKind.i64 (x+(1
 :Int))) then ∃ y,IxP v (ungI ys) y∧(ix2 f (ungI ys) v).m y < (ix2 f (ungI ys) v).m x∧(((bif f then f=true else True)∧intsL (ungI ys)=intsL (ungI ys))∧v=v∧(↑(ungI
  ys).length:Int)=(↑(ungI ys).length:Int)∧x+(1:Int)=y∧True)∧True else False else False else (-1:Int)=idxI v (ungI ys) (0:Nat)
theorem sidx_P:sidx_T:=by
 unfold sidx_T
 intro gl f ys v ⟨he,hl⟩ _ _
 obtain ⟨zs,hzs⟩:∃ zs,zs=ungI ys:=⟨_,rfl⟩
 rw [← hzs] at he ⊢
 subst he
 rw [intsL_len] at hl ⊢
 have gf:cond f (f=true) True:=gg f
 refine ⟨⟨0,⟨Int.le_refl 0,by omega,rfl⟩,by (repeat' (first | exact trivial | exact rfl | assumption | apply And.intro))⟩,?_⟩
 intro i ⟨i0,il,ie⟩
 refine csp (fun h=>?_) (fun h=>?_)
 ·obtain ⟨z,hz⟩:∃ z,zs[i.toNat]?=some z:=⟨_,at_getD (by omega)⟩
  rw [dropI hz] at ie
  refine cd1 ⟨i0,h⟩ ⟨z,by rw [intsL_at hz]; rfl,csp (fun q=>?_) (fun q=>?_)⟩
  ·have e:idxI v zs 0=i:=by rw [ie,idxI,if_pos q]; omega
   exact e.symm
  ·have e:idxI v zs 0=idxI v (zs.drop (i+1).toNat) (i+1).toNat:=by rw [ie,idxI,if_neg q,show (i+1).toNat=i.toNat+1 by omega]
   exact cdI (by omega) ⟨i+1,⟨by omega,by omega,e⟩,by simp only [ix2]; omega,by (repeat' (first | exact trivial | exact rfl | assumption | apply And.intro))⟩
 ·rw [List.drop_of_length_le (by omega)] at ie
  exact ie.symm
def sidx_S:Prop:=∀ (gl:Glob) (f:Bool) (ys:List (List AV)) (v:Int),ys=intsL (ungI ys)∧ys.length≤1000000→fnK Tryz.prog { glob:=gl,spec:=lk [],specH:=lk [],shape:=[15],nowf:=true } { nt:=19,drop:=drp [(1,64),(3,1024),(4,63488),(5,131072),(6,262144)] } (invs [(2,ix2 f (ungI ys) v)]) 6 Tryz.f136 [.sl 1 f ys,.int .i64 v] (.int .i64 (idxI v (ungI ys) 0))
theorem sidx_e:sidx_T=sidx_S:=by kernel_rfl
theorem sidx_v:sidx_S:=Eq.mp (sidx_e ..) (sidx_P)
theorem sidx_ok (gl:Glob):SOK Tryz.prog gl 136 sidx_s:=by
 refine ⟨fok Tryz.func136 (by kernel_rfl) (by kernel_rfl),?_⟩
 intro xs pre r h hp
 unfold sidx_s at h
 split at h
 ·simp only [Option.some.injEq,Prod.mk.injEq] at h
  obtain ⟨h1,h2⟩:=h
  subst h1 h2
  exact fnK_sound tyNil (by exact specOK rfl rfl trivial trivial) (by kernel_rfl) Tryz.func136 rfl (sidx_v gl _ _ _ hp)
 ·cases h
def scon_s:Sp
 | [.sl 1 f ys,.int .i64 v]=>some (ys=intsL (ungI ys)∧ys.length≤1000000,.bool (decide (v ∈ ungI ys)))
 | _=>none
def scon_T:Prop :=
 ∀ (gl:Glob) (f:Bool) (ys:List (List AV)) (v:Int),ys=intsL (ungI ys)∧ys.length≤(1000000:Nat)→True→(-9223372036854775808:Int)≤v∧v≤(9223372036854775807 :
 Int)→(ys=intsL (ungI ys)∧ys.length≤(1000000:Nat))∧decide ((0:Int)≤idxI v (ungI ys) (0:Nat))=decide (v ∈ ungI ys)
theorem scon_P:scon_T:=by
 unfold scon_T
 intro gl f ys v hp _ _
 exact ⟨hp,decide_eq_decide.2 (idxI_iff v (ungI ys) 0)⟩
def scon_S:Prop:=∀ (gl:Glob) (f:Bool) (ys:List (List AV)) (v:Int),ys=intsL (ungI ys)∧ys.length≤1000000→fnK Tryz.prog { glob:=gl,spec:=lk [(136,sidx_s)],specH:=lk [],nowf:=true } { nt:=9,drop:=drp [(1,480)] } (fun _ _=>none) 6 Tryz.f84 [.sl 1 f ys,.int .i64 v] (.bool (decide (v ∈ ungI ys)))
theorem scon_e:scon_T=scon_S:=by kernel_rfl
theorem scon_v:scon_S:=Eq.mp (scon_e ..) (scon_P)
theorem scon_ok (gl:Glob):SOK Tryz.prog gl 84 scon_s:=by
 refine ⟨fok Tryz.func84 (by kernel_rfl) (by kernel_rfl),?_⟩
 intro xs pre r h hp
 unfold scon_s at h
 split at h
 ·simp only [Option.some.injEq,Prod.mk.injEq] at h
  obtain ⟨h1,h2⟩:=h
  subst h1 h2
  exact fnK_sound tyNil (by exact specOK rfl rfl ⟨(sidx_ok gl),trivial⟩ trivial) (by kernel_rfl) Tryz.func84 rfl (scon_v gl _ _ _ hp)
 ·cases h
structure KinP (v:Int) (zs:List Int) (i:Int):Prop where
 lo:0≤i
 hi:i≤zs.length
 no:v ∉ zs.take i.toNat
def ki2 (f:Bool) (zs:List Int) (v:Int):LInv:=⟨Int,fun i=>⟨[(0,.sl 1 f (intsL zs)),(1,.int .i64 v),(5,.int .i64 i)],[]⟩,KinP v zs,fun i=>(zs.length - i).toNat,none⟩
def kin_s:Sp
 | [.sl 1 f ys,.int .i64 v]=>some (ys=intsL (ungI ys)∧ys.length≤1000000,.bool (decide (v ∈ ungI ys)))
 | _=>none
def kin_T:Prop :=
  ∀ (gl:Glob) (f:Bool) (ys:List (List AV)) (v:Int),ys=intsL (ungI ys)∧ys.length≤(1000000:Nat)→True→(-9223372036854775808:Int)≤v∧v≤(9223372036854775807 :
  Int)→(∃ x,KinP v (ungI ys) x∧(((bif f then f=true else True)∧ys=intsL (ungI ys))∧v=v∧(0:Int)=x∧True)∧True)∧∀ (x:Int),KinP v (ungI ys) x→bif decide
  (x < (↑(intsL (ungI ys)).length:Int)) then bif decide ((0:Int)≤x∧x < (↑(intsL (ungI ys)).length:Int)) then ∃ n,List.take [AV.int IntKind.i64 n].length ((intsL (ungI
  ys)).getD x.toNat [])=[AV.int IntKind.i64 n]∧bif decide (n=v) then true=decide (v ∈ ungI ys) else bif decide (rng IntKind.i64 (x+(1:Int))) then ∃ y,KinP v (ungI ys) y
 ∧(ki2 f (ungI ys) v).m y < (ki2 f (ungI ys) v).m x∧(((bif f then f=true else True)∧intsL (ungI ys)=intsL (ungI ys))∧v=v∧x+(1:Int)=y∧True)∧True else False
  else False else false=decide (v ∈ ungI ys)
theorem kin_P:kin_T:=by
 unfold kin_T
 intro gl f ys v ⟨he,hl⟩ _ _
 obtain ⟨zs,hzs⟩:∃ zs,zs=ungI ys:=⟨_,rfl⟩
 rw [← hzs] at he ⊢
 subst he
 rw [intsL_len] at hl
 have gf:cond f (f=true) True:=gg f
 refine ⟨⟨0,⟨Int.le_refl 0,by omega,by simp⟩,by (repeat' (first | exact trivial | exact rfl | assumption | apply And.intro))⟩,?_⟩
 intro i ⟨i0,il,ie⟩
 rw [intsL_len]
 refine csp (fun h=>?_) (fun h=>?_)
 ·obtain ⟨z,hz⟩:∃ z,zs[i.toNat]?=some z:=⟨_,at_getD (by omega)⟩
  refine cd1 ⟨i0,h⟩ ⟨z,by rw [intsL_at hz]; rfl,csp (fun q=>?_) (fun q=>?_)⟩
  ·have q:z=v:=q
   subst q
   exact (decide_eq_true (List.mem_of_getElem? hz)).symm
  ·refine cdI (by omega) ⟨i+1,⟨by omega,by omega,?_⟩,by simp only [ki2]; omega,by (repeat' (first | exact trivial | exact rfl | assumption | apply And.intro))⟩
   rw [show (i+1).toNat=i.toNat+1 by omega,List.take_add_one,hz]
   intro hm
   rcases List.mem_append.1 hm with hm | hm
   ·exact ie hm
   ·have hm:v ∈ [z]:=hm
    exact q (List.mem_singleton.1 hm).symm
 ·rw [List.take_of_length_le (by omega)] at ie
  exact (decide_eq_false ie).symm
def kin_S:Prop:=∀ (gl:Glob) (f:Bool) (ys:List (List AV)) (v:Int),ys=intsL (ungI ys)∧ys.length≤1000000→fnK Tryz.prog { glob:=gl,spec:=lk [],specH:=lk [],shape:=[15],nowf:=true } { nt:=18,drop:=drp [(2,448),(3,3072),(4,126976)] } (invs [(2,ki2 f (ungI ys) v)]) 6 Tryz.f14 [.sl 1 f ys,.int .i64 v] (.bool (decide (v ∈ ungI ys)))
theorem kin_e:kin_T=kin_S:=by kernel_rfl
theorem kin_v:kin_S:=Eq.mp (kin_e ..) (kin_P)
theorem kin_ok (gl:Glob):SOK Tryz.prog gl 14 kin_s:=by
 refine ⟨fok Tryz.func14 (by kernel_rfl) (by kernel_rfl),?_⟩
 intro xs pre r h hp
 unfold kin_s at h
 split at h
 ·simp only [Option.some.injEq,Prod.mk.injEq] at h
  obtain ⟨h1,h2⟩:=h
  subst h1 h2
  exact fnK_sound tyNil (by exact specOK rfl rfl trivial trivial) (by kernel_rfl) Tryz.func14 rfl (kin_v gl _ _ _ hp)
 ·cases h
def airR:List (List AV):=[[.int .i64 2,.int .i64 2800]]
def rpN (r:List AV):ByteArray:=match r with
 | _::.str s::_=>s
 | _=>⟨#[]⟩
structure RpP (rs:List (List AV)):Prop where
 row:∀ i,i < rs.length→∃ k nm t f a b c,rs.getD i []=[.int .i64 k,.str nm,.int .i64 t,.int .i64 f,.int .i64 a,.int .i64 b,.int .i64 c,.sl 2 false airR]∧Vld f a b c
 le:rs.length≤1000
def exa1_s (vld:Int→Int→Int→Int→Bool):Sp
 | [.agg [.int .i64 k,.str nm,.int .i64 t,.int .i64 f,.int .i64 a,.int .i64 b,.int .i64 c,.sl 2 g rd]]=>some (True,.bool (!vld f a b c))
 | _=>none
def exa1_T (vld:Int→Int→Int→Int→Bool):Prop :=
  ∀ (gl:Glob) (k t f a b c:Int) (nm:ByteArray) (g:Bool) (rd:List (List AV)),((-9223372036854775808:Int)≤k∧k≤(9223372036854775807:Int))∧nm.size.le
  (9223372036854775807:Nat)∧((-9223372036854775808:Int)≤t∧t≤(9223372036854775807:Int))∧((-9223372036854775808:Int)≤f∧f≤(9223372036854775807:Int)) ∧
  ((-9223372036854775808:Int)≤a∧a≤(9223372036854775807:Int))∧((-9223372036854775808:Int)≤b∧b≤(9223372036854775807:Int))∧((-9223372036854775808:Int)≤c∧c
 ≤(9223372036854775807:Int))∧True∧True→True∧(!vld f a b c)=!vld f a b c
theorem exa1_P:exa1_T vld:=by
 unfold exa1_T
 intro gl k t f a b c nm g rd
 intros
 (repeat' (first | exact trivial | exact rfl | assumption | apply And.intro))
def exa1_S (vld:Int→Int→Int→Int→Bool):Prop:=∀ (gl:Glob) (k t f a b c:Int) (nm:ByteArray) (g:Bool) (rd:List (List AV)),fnK Tryz.prog { glob:=gl,spec:=lk [(32,(valid_s vld))],specH:=lk [],nowf:=true } { nt:=7,drop:=drp [(1,120)] } (fun _ _=>none) 6 Tryz.f81 [.agg [.int .i64 k,.str nm,.int .i64 t,.int .i64 f,.int .i64 a,.int .i64 b,.int .i64 c,.sl 2 g rd]] (.bool (!vld f a b c))
theorem exa1_e (vld:Int→Int→Int→Int→Bool):exa1_T vld=exa1_S vld:=by kernel_rfl
theorem exa1_v:exa1_S vld:=Eq.mp (exa1_e ..) (exa1_P)
theorem exa1_ok (gl:Glob):SOK Tryz.prog gl 81 (exa1_s vld):=by
 refine ⟨fok Tryz.func81 (by kernel_rfl) (by kernel_rfl),?_⟩
 intro xs pre r h hp
 unfold exa1_s at h
 split at h
 ·simp only [Option.some.injEq,Prod.mk.injEq] at h
  obtain ⟨h1,h2⟩:=h
  subst h1 h2
  exact fnK_sound tyNil (by exact specOK rfl rfl ⟨(valid_ok gl),trivial⟩ trivial) (by kernel_rfl) Tryz.func81 rfl (exa1_v gl _ _ _ _ _ _ _ _ _)
 ·cases h
structure RixP (rs:List (List AV)) (i:Int):Prop where
 lo:0≤i
 hi:i≤rs.length
def rx2 (f:Bool) (rs:List (List AV)):LInv:=⟨Int,fun i=>⟨[(0,.sl 8 f rs),(1,.fn 81 []),(7,.int .i64 rs.length),(8,.int .i64 i)],[]⟩,RixP rs,fun i=>(rs.length - i).toNat,none⟩
def rix_s (vld:Int→Int→Int→Int→Bool):Sp
 | [.sl 8 f rs,.fn 81 []]=>some (RpP rs,.int .i64 (-1))
 | _=>none
def rix_T (vld:Int→Int→Int→Int→Bool):Prop :=
 ∀ (gl:Glob) (f:Bool) (rs:List (List AV)),RpP rs→True→True→(∃ x,RixP rs x∧(((bif f then f=true else True)∧rs=rs)∧True∧(↑rs.length:Int)=(↑rs.length :
 Int)∧(0:Int)=x∧True)∧True)∧∀ (x:Int),RixP rs x→bif decide (x < (↑rs.length:Int)) then bif decide ((0:Int)≤x∧x < (↑rs.length:Int)) then ∃ n s n_1 n_2 n_3
 n_4 n_5 xs,List.take [AV.int IntKind.i64 n,AV.str s,AV.int IntKind.i64 n_1,AV.int IntKind.i64 n_2,AV.int IntKind.i64 n_3,AV.int IntKind.i64 n_4,AV.int IntKind.i64 n_5,AV.sl
 (2:Nat) false xs].length (rs.getD x.toNat [])=[AV.int IntKind.i64 n,AV.str s,AV.int IntKind.i64 n_1,AV.int IntKind.i64 n_2,AV.int IntKind.i64 n_3,AV.int IntKind.i64 n_4,
 AV.int IntKind.i64 n_5,AV.sl (2:Nat) false xs]∧True∧bif !YtgbbmadjdaphnaaGreatDoor.vld n_2 n_3 n_4 n_5 then x=(-1:Int) else bif decide (rng IntKind.i64 (x+(1:Int)))
 then ∃ y,RixP rs y∧(rx2 f rs).m y < (rx2 f rs).m x∧(((bif f then f=true else True)∧rs=rs)∧True∧(↑rs.length:Int)=(↑rs.length:Int)∧x+(1:Int)=y∧True) ∧
 True else False else False else (-1:Int)=(-1:Int)
theorem rix_P:rix_T vld:=by
 unfold rix_T
 intro gl f rs hp _ _
 have hl:=hp.le
 have gf:cond f (f=true) True:=gg f
 refine ⟨⟨0,⟨Int.le_refl 0,by omega⟩,by (repeat' (first | exact trivial | exact rfl | assumption | apply And.intro))⟩,?_⟩
 intro i ⟨i0,il⟩
 refine csp (fun h=>?_) (fun h=>rfl)
 obtain ⟨k,nm,t,f',a,b,c,e,hv⟩:=hp.row i.toNat (by omega)
 refine cd1 ⟨i0,h⟩ ⟨k,nm,t,f',a,b,c,airR,by rw [e]; rfl,trivial,?_⟩
 rw [vld_t hv]
 exact cdI (by omega) ⟨i+1,⟨by omega,by omega⟩,by simp only [rx2]; omega,by (repeat' (first | exact trivial | exact rfl | assumption | apply And.intro))⟩
def rix_S (vld:Int→Int→Int→Int→Bool):Prop:=∀ (gl:Glob) (f:Bool) (rs:List (List AV)),RpP rs→fnK Tryz.prog { glob:=gl,spec:=lk [(81,(exa1_s Go.Proofs.YtgbbmadjdaphnaaGreatDoor.vld))],specH:=lk [],shape:=[15],slz:=[(15,[2])],nowf:=true } { nt:=19,drop:=drp [(1,64),(3,1024),(4,63488),(5,131072),(6,262144)] } (invs [(2,rx2 f rs)]) 6 Tryz.f133 [.sl 8 f rs,.fn 81 []] (.int .i64 (-1))
theorem rix_e (vld:Int→Int→Int→Int→Bool):rix_T vld=rix_S vld:=by kernel_rfl
theorem rix_v:rix_S vld:=Eq.mp (rix_e ..) (rix_P)
theorem rix_ok (gl:Glob):SOK Tryz.prog gl 133 (rix_s vld):=by
 refine ⟨fok Tryz.func133 (by kernel_rfl) (by kernel_rfl),?_⟩
 intro xs pre r h hp
 unfold rix_s at h
 split at h
 ·simp only [Option.some.injEq,Prod.mk.injEq] at h
  obtain ⟨h1,h2⟩:=h
  subst h1 h2
  exact fnK_sound tyNil (by exact specOK rfl rfl ⟨(exa1_ok gl),trivial⟩ trivial) (by kernel_rfl) Tryz.func133 rfl (rix_v gl _ _ hp)
 ·cases h
def rcf_s:Sp
 | [.sl 8 f rs,.fn 81 []]=>some (RpP rs,.bool false)
 | _=>none
def rcf_T (vld:Int→Int→Int→Int→Bool):Prop :=
 ∀ (gl:Glob) (f:Bool) (rs:List (List AV)),RpP rs→True→True→RpP rs∧decide ((0:Int)≤(-1:Int))=false
theorem rcf_P:rcf_T vld:=by
 unfold rcf_T
 intro gl f rs hp
 intros
 (repeat' (first | exact trivial | exact rfl | assumption | apply And.intro))
def rcf_S (vld:Int→Int→Int→Int→Bool):Prop:=∀ (gl:Glob) (f:Bool) (rs:List (List AV)),RpP rs→fnK Tryz.prog { glob:=gl,spec:=lk [(133,(rix_s vld))],specH:=lk [],nowf:=true } { nt:=9,drop:=drp [(1,480)] } (fun _ _=>none) 6 Tryz.f80 [.sl 8 f rs,.fn 81 []] (.bool false)
theorem rcf_e (vld:Int→Int→Int→Int→Bool):rcf_T vld=rcf_S vld:=by kernel_rfl
theorem rcf_v:rcf_S vld:=Eq.mp (rcf_e ..) (rcf_P)
theorem rcf_ok (gl:Glob):SOK Tryz.prog gl 80 rcf_s:=by
 refine ⟨fok Tryz.func80 (by kernel_rfl) (by kernel_rfl),?_⟩
 intro xs pre r h hp
 unfold rcf_s at h
 split at h
 ·simp only [Option.some.injEq,Prod.mk.injEq] at h
  obtain ⟨h1,h2⟩:=h
  subst h1 h2
  exact fnK_sound tyNil (by exact specOK rfl rfl ⟨(rix_ok gl),trivial⟩ trivial) (by kernel_rfl) Tryz.func80 rfl (rcf_v gl _ _ hp)
 ·cases h
theorem air_ok:RdsP airR:=⟨fun i hi=>by
 have h0:i=0:=by simp [airR] at hi; omega
 subst h0
 exact ⟨2,2800,rfl,by decide,by decide⟩,by decide⟩
theorem air_v:vdE airR=0:=by decide +kernel
def ex2 (f:Bool) (rs:List (List AV)):LInv:=⟨Int,fun i=>⟨[(0,.sl 8 f rs),(6,.sl 8 f rs),(7,.int .i64 rs.length),(8,.int .i64 i)],[]⟩,RixP rs,fun i=>(rs.length - i).toNat,none⟩
def exam_s:Sp
 | [.sl 8 f rs]=>some (RpP rs,.int .i64 0)
 | _=>none
def exam_T (vdE:List (List AV)→Int):Prop :=
  ∀ (f:Bool) (rs:List (List AV)),RpP rs→True→(∃ x,RixP rs x∧(((bif f then f=true else True)∧rs=rs)∧((bif f then f=true else True)∧rs=rs)∧(↑rs.length :
  Int)=(↑rs.length:Int)∧(0:Int)=x∧True)∧True)∧∀ (x:Int),RixP rs x→bif decide (x < (↑rs.length:Int)) then bif decide ((0:Int)≤x∧x < (↑rs.length:Int))
  then ∃ n s n_1 n_2 n_3 n_4 n_5 xs,List.take [AV.int IntKind.i64 n,AV.str s,AV.int IntKind.i64 n_1,AV.int IntKind.i64 n_2,AV.int IntKind.i64 n_3,AV.int IntKind.i64 n_4,AV.int
  IntKind.i64 n_5,AV.sl (2:Nat) false xs].length (rs.getD x.toNat [])=[AV.int IntKind.i64 n,AV.str s,AV.int IntKind.i64 n_1,AV.int IntKind.i64 n_2,AV.int IntKind.i64 n_3,
  AV.int IntKind.i64 n_4,AV.int IntKind.i64 n_5,AV.sl (2:Nat) false xs]∧RdsP xs∧bif decide ¬vdE xs=(0:Int) then vdE xs=(0:Int) else bif decide (rng IntKind.i64 (x +
  (1:Int))) then ∃ y,RixP rs y∧(ex2 f rs).m y < (ex2 f rs).m x∧(((bif f then f=true else True)∧rs=rs)∧((bif f then f=true else True)∧rs=rs)∧(↑rs.length:Int)
 =(↑rs.length:Int)∧x+(1:Int)=y∧True)∧True else False else False else RpP rs∧(0:Int)=(0:Int)
theorem exam_P:exam_T vdE:=by
 unfold exam_T
 intro f rs hp _
 have hl:=hp.le
 have gf:cond f (f=true) True:=gg f
 refine ⟨⟨0,⟨Int.le_refl 0,by omega⟩,by (repeat' (first | exact trivial | exact rfl | assumption | apply And.intro))⟩,?_⟩
 intro i ⟨i0,il⟩
 refine csp (fun h=>?_) (fun h=>⟨hp,rfl⟩)
 obtain ⟨k,nm,t,f',a,b,c,e,hv⟩:=hp.row i.toNat (by omega)
 refine cd1 ⟨i0,h⟩ ⟨k,nm,t,f',a,b,c,airR,by rw [e]; rfl,air_ok,?_⟩
 rw [air_v]
 exact cdI (by omega) ⟨i+1,⟨by omega,by omega⟩,by simp only [ex2]; omega,by (repeat' (first | exact trivial | exact rfl | assumption | apply And.intro))⟩
def exam_S (vdE:List (List AV)→Int):Prop:=∀ (f:Bool) (rs:List (List AV)),RpP rs→fnK Tryz.prog { glob:=glb,spec:=lk [(79,(evalid_s vdE)),(80,rcf_s)],specH:=lk [],shape:=[11],slz:=[(11,[2])],nowf:=true } { nt:=21,drop:=drp [(3,3072),(4,28672),(5,32768),(6,131072),(7,262144),(8,524288)] } (invs [(2,ex2 f rs)]) 6 Tryz.f39 [.sl 8 f rs] (.int .i64 0)
theorem exam_e (vdE:List (List AV)→Int):exam_T vdE=exam_S vdE:=by kernel_rfl
theorem exam_v:exam_S vdE:=Eq.mp (exam_e ..) (exam_P)
theorem exam_ok:SOK Tryz.prog glb 39 exam_s:=by
 refine ⟨fok Tryz.func39 (by kernel_rfl) (by kernel_rfl),?_⟩
 intro xs pre r h hp
 unfold exam_s at h
 split at h
 ·simp only [Option.some.injEq,Prod.mk.injEq] at h
  obtain ⟨h1,h2⟩:=h
  subst h1 h2
  exact fnK_sound tyNil (by exact specOK rfl rfl ⟨(evalid_ok),(rcf_ok glb),trivial⟩ trivial) (by kernel_rfl) Tryz.func39 rfl (exam_v  _ _ hp)
 ·cases h
end Go.Proofs.YtgbbmadjdaphnaaGreatDoor
namespace Go.Proofs.YtgbbmadjdaphnaaGreatDoor
open Go
set_option linter.unusedVariables false
set_option linter.unusedSimpArgs false
def rpA (nrm:NrT) (n:Int) (r:List AV):Int:=neaV nrm (ptG nrm n).2 n (nI r 3) (nI r 4) (nI r 5) (nI r 6)
def atL (nrm:NrT) (n:Int) (rs:List (List AV)):List Int:=rs.map (rpA nrm n)
structure NdsP (nrm:NrT) (n:Int) (rs:List (List AV)):Prop where
 bq:BldQ nrm n
 rp:RpP rs
structure NdX (nrm:NrT) (n:Int) (rs:List (List AV)) (x:Int × List Int):Prop where
 lo:0≤x.1
 hi:x.1≤rs.length
 eq:x.2=(atL nrm n rs).take x.1.toNat
def ndH (nrm:NrT) (n:Int) (ks:List Int):List (Nat × Blk):=[(1005,.cells [.ptr 1010 0]),(1006,.cells [.rw 1600 1 ks.length]),(1600,.row 3 1 (intsL ks)),(1010,.cells [.int .i64 n,.int .i64 (hN n),.sl 4 false (ptG nrm n).1,.mpv 2010,.sl 3 false (celG nrm n),.sl 2 false (edgG nrm n),.sl 1 false (nxtG nrm n)]),(2010,.mp 27 3 (ptG nrm n).2)]
def nd4 (nrm:NrT) (f:Bool) (n:Int) (rs:List (List AV)):LInv:=⟨Int × List Int,fun x=>⟨[(5,.ptr 1005 0),(6,.ptr 1006 0),(11,.sl 8 f rs),(12,.int .i64 rs.length),(13,.int .i64 x.1)],ndH nrm n x.2⟩,NdX nrm n rs,fun x=>(rs.length - x.1).toNat,none⟩
def bnod_s (nrm:Int→Int→Int→Int→Int × Int × Int × Int):SpH
 | [.sl 8 f rs,.int .i64 n],[]=>some (NdsP nrm n rs,.fn 83 [.ptr 0 0,.ptr 1 0],[.cells [.sl 1 false (intsL (atL nrm n rs))],.cells [.ptr 2 0],.cells [.int .i64 n,.int .i64 (hN n),.sl 4 false (ptG nrm n).1,.mpv 3,.sl 3 false (celG nrm n),.sl 2 false (edgG nrm n),.sl 1 false (nxtG nrm n)],.mp 27 3 (ptG nrm n).2])
 | _,_=>none
def bnod_T (nrm:Int→Int→Int→Int→Int × Int × Int × Int) (vld:Int→Int→Int→Int→Bool):Prop :=
  ∀ (f:Bool) (rs:List (List AV)) (n:Int),NdsP nrm n rs→True→(-9223372036854775808:Int)≤n∧n≤(9223372036854775807:Int)→BldQ nrm n∧(∃ x,NdX nrm n rs x∧((0 :
  Nat)=(0:Nat)∧(0:Nat)=(0:Nat)∧((bif f then f=true else True)∧rs=rs)∧(↑rs.length:Int)=(↑rs.length:Int)∧(0:Int)=x.fst∧True)∧((0:Nat)=(0 :
  Nat)∧True)∧((0:Nat)=x.snd.length∧True)∧[]=intsL x.snd∧(n=n∧hN n=hN n∧(True∧(ptG nrm n).fst=(ptG nrm n).fst)∧True∧(True∧celG nrm n=celG nrm n) ∧
  (True∧edgG nrm n=edgG nrm n)∧(True∧nxtG nrm n=nxtG nrm n)∧True)∧(ptG nrm n).snd=(ptG nrm n).snd∧True)∧∀ (x:Int × List Int),NdX nrm n rs x→bif decide (x.fst
  < (↑rs.length:Int)) then bif decide ((0:Int)≤x.fst∧x.fst < (↑rs.length:Int)) then ∃ n_1 s n_2 n_3 n_4 n_5 n_6 xs,List.take [AV.int IntKind.i64 n_1,AV.str s,AV.int
  IntKind.i64 n_2,AV.int IntKind.i64 n_3,AV.int IntKind.i64 n_4,AV.int IntKind.i64 n_5,AV.int IntKind.i64 n_6,AV.sl (2:Nat) false xs].length (rs.getD x.fst.toNat [])=[AV.int
  IntKind.i64 n_1,AV.str s,AV.int IntKind.i64 n_2,AV.int IntKind.i64 n_3,AV.int IntKind.i64 n_4,AV.int IntKind.i64 n_5,AV.int IntKind.i64 n_6,AV.sl (2:Nat) false xs]∧LocP
  nrm (ptG nrm n).snd n (hN n) n_3 n_4 n_5 n_6∧bif decide (x.snd.length=(intsL x.snd).length∧(intsL x.snd).length+[[AV.int IntKind.i64 (neaV nrm (ptG nrm n).snd n n_3 n_4 n_5
  n_6)]].length≤(9223372036854775807:Nat)∧((intsL x.snd).length+[[AV.int IntKind.i64 (neaV nrm (ptG nrm n).snd n n_3 n_4 n_5 n_6)]].length)*(8:Nat)≤(140737488355328 :
  Nat)) then bif decide (rng IntKind.i64 (x.fst+(1:Int))) then ∃ y,NdX nrm n rs y∧(nd4 nrm f n rs).m y < (nd4 nrm f n rs).m x∧((0:Nat)=(0:Nat)∧(0:Nat)=(0:Nat)
 ∧((bif f then f=true else True)∧rs=rs)∧(↑rs.length:Int)=(↑rs.length:Int)∧x.fst+(1:Int)=y.fst∧True)∧((0:Nat)=(0:Nat)∧True)∧((intsL x.snd ++
  [[AV.int IntKind.i64 (neaV nrm (ptG nrm n).snd n n_3 n_4 n_5 n_6)]]).length=y.snd.length∧True)∧intsL x.snd++[[AV.int IntKind.i64 (neaV nrm (ptG nrm n).snd n n_3 n_4 n_5
  n_6)]]=intsL y.snd∧(n=n∧hN n=hN n∧(True∧(ptG nrm n).fst=(ptG nrm n).fst)∧True∧(True∧celG nrm n=celG nrm n)∧(True∧edgG nrm n=edgG nrm n)∧(True∧nxtG
  nrm n=nxtG nrm n)∧True)∧(ptG nrm n).snd=(ptG nrm n).snd∧True else False else False else False else bif decide (x.snd.length=(intsL x.snd).length) then ((0:Nat)=(0 :
  Nat)∧(0:Nat)=(0:Nat)∧True)∧((True∧intsL x.snd=intsL (atL nrm n rs))∧True)∧((0:Nat)=(0:Nat)∧True)∧(n=n∧hN n=hN n∧(True∧(ptG nrm n).fst=(ptG
  nrm n).fst)∧True∧(True∧celG nrm n=celG nrm n)∧(True∧edgG nrm n=edgG nrm n)∧(True∧nxtG nrm n=nxtG nrm n)∧True)∧(ptG nrm n).snd=(ptG nrm n).snd∧True else
  False
theorem bnod_P:bnod_T nrm vld:=by
 unfold bnod_T
 intro f rs n hP _ _
 have hp:=hP.rp
 have hq:=hP.bq
 have hl:=hp.le
 have gf:cond f (f=true) True:=gg f
 refine ⟨hq,⟨(0,[]),⟨Int.le_refl 0,by simp only; omega,by simp⟩,by (repeat' (first | exact trivial | exact rfl | assumption | apply And.intro))⟩,?_⟩
 rintro ⟨i,ks⟩ ⟨i0,il,ik⟩
 simp only at i0 il ik
 have hal:(atL nrm n rs).length=rs.length:=by simp [atL]
 have hkl:ks.length=i.toNat:=by rw [ik,List.length_take]; omega
 refine csp (fun h=>?_) (fun h=>?_)
 ·simp only at h
  obtain ⟨k,nm,t,f',a,b,c,e,hv⟩:=hp.row i.toNat (by omega)
  have ea:(atL nrm n rs)[i.toNat]?=some (neaV nrm (ptG nrm n).2 n f' a b c):=by
   have e2:rs[i.toNat]?=some (rs.getD i.toNat []):=by rw [List.getD_eq_getElem?_getD,List.getElem?_eq_getElem (by omega)]; rfl
   rw [atL,List.getElem?_map,e2,e]; rfl
  have e2:intsL ks++[[AV.int .i64 (neaV nrm (ptG nrm n).2 n f' a b c)]]=intsL (ks++[neaV nrm (ptG nrm n).2 n f' a b c]):=intsL_app _ _
  have e3:(intsL ks++[[AV.int .i64 (neaV nrm (ptG nrm n).2 n f' a b c)]]).length=(ks++[neaV nrm (ptG nrm n).2 n f' a b c]).length:=by rw [e2,intsL_len]
  refine cd1 ⟨i0,h⟩ ⟨k,nm,t,f',a,b,c,airR,by rw [e]; rfl,⟨hq.lo,hq.hi,rfl,hv,fun q=>⟨(hq.rg q).1,by have:=(hq.rg q).2; have:=hq.l2; omega⟩⟩,cd1 ⟨by rw [intsL_len],by rw [intsL_len,List.length_singleton]; simp only; omega,by rw [intsL_len,List.length_singleton]; simp only; omega⟩ (cdI (by simp only; omega) ⟨(i+1,ks++[neaV nrm (ptG nrm n).2 n f' a b c]),⟨by simp only; omega,by simp only; omega,?_⟩,by simp only [nd4]; omega,by (repeat' (first | exact trivial | exact rfl | assumption | apply And.intro))⟩)⟩
  simp only
  rw [show (i+1).toNat=i.toNat+1 by omega,List.take_add_one,ea,ik]; rfl
 ·simp only at h
  rw [List.take_of_length_le (by omega)] at ik
  subst ik
  refine cd1 (by rw [intsL_len]) (by (repeat' (first | exact trivial | exact rfl | assumption | apply And.intro)))
def bnod_S (nrm:Int→Int→Int→Int→Int × Int × Int × Int) (vld:Int→Int→Int→Int→Bool):Prop:=∀ (f:Bool) (rs:List (List AV)) (n:Int),NdsP nrm n rs→fnH Tryz.prog { glob:=glb,spec:=lk [],specH:=lk [(43,(mbld_s nrm)),(38,(mnear_s nrm vld))],shape:=[16],slz:=[(16,[2])],nowf:=true } { nt:=26,drop:=drp [(1,1536),(5,98304),(6,16646144),(7,16777216),(8,33554432)],fr:=1000,kp:=[],frz:=fun id=>cond (Nat.beq id 8) [1001600] [],emp:=fun id=>cond (Nat.beq id 3) [(1100600,1600,3,1)] [] } (invs [(4,nd4 nrm f n rs)]) 6 Tryz.f41 [.sl 8 f rs,.int .i64 n] [] (.fn 83 [.ptr 0 0,.ptr 1 0]) [.cells [.sl 1 false (intsL (atL nrm n rs))],.cells [.ptr 2 0],.cells [.int .i64 n,.int .i64 (hN n),.sl 4 false (ptG nrm n).1,.mpv 3,.sl 3 false (celG nrm n),.sl 2 false (edgG nrm n),.sl 1 false (nxtG nrm n)],.mp 27 3 (ptG nrm n).2]
theorem bnod_e (nrm:Int→Int→Int→Int→Int × Int × Int × Int) (vld:Int→Int→Int→Int→Bool):bnod_T nrm vld=bnod_S nrm vld:=by kernel_rfl
theorem bnod_v:bnod_S nrm vld:=Eq.mp (bnod_e ..) (bnod_P)
theorem bnod_ok:HOK Tryz.prog glb 41 (bnod_s nrm):=by
 refine ⟨fok Tryz.func41 (by kernel_rfl) (by kernel_rfl),?_⟩
 intro xs bs pre r bs2 h hp
 unfold bnod_s at h
 split at h
 ·simp only [Option.some.injEq,Prod.mk.injEq] at h
  obtain ⟨h1,h2,h3⟩:=h
  subst h1 h2 h3
  exact fnH_sound tyNil (by exact specOK rfl rfl trivial ⟨(mbld_ok),(mnear_ok),trivial⟩) (by kernel_rfl) Tryz.func41 (bnod_v  _ _ _ hp)
 ·cases h
def nearB (nx:List (List AV)) (ks:List Int) (i k:Nat):Bool:=decide (ks.getD i 0=ks.getD k 0)||decide (ks.getD k 0 ∈ nb nx (ks.getD i 0).toNat)
structure Nd1P (N:Nat) (nx:List (List AV)) (ks:List Int) (i k:Int):Prop where
 i0:0≤i∧i < ks.length
 k0:0≤k∧k < ks.length
 rg:∀ z ∈ ks,0≤z∧z < N
 eX:nx.length=N
 row:∀ k,k < N→nx.getD k []=[.sl 1 false (intsL (nb nx k))]∧(nb nx k).length≤10000
def bnd1_s:SpH
 | [.int .i64 i,.int .i64 k,.ptr 0 0,.ptr 1 0],[.cells [.sl 1 false ys],.cells [.ptr 2 0],.cells [.int .i64 n,.int .i64 h,.sl 4 g4 nd,.mpv 3,.sl 3 g5 cl,.sl 2 g6 ed,.sl 1 false nx],.mp 27 3 l]=>some (ys=intsL (ungI ys)∧Nd1P nx.length nx (ungI ys) i k,.bool (nearB nx (ungI ys) i.toNat k.toNat),[.cells [.sl 1 false ys],.cells [.ptr 2 0],.cells [.int .i64 n,.int .i64 h,.sl 4 g4 nd,.mpv 3,.sl 3 g5 cl,.sl 2 g6 ed,.sl 1 false nx],.mp 27 3 l])
 | _,_=>none
def bnd1_T:Prop :=
 ∀ (gl:Glob) (i k n h:Int) (g4 g5 g6:Bool) (nd cl ed nx ys:List (List AV)) (l:List (Int × AV)),ys=intsL (ungI ys)∧Nd1P nx.length nx (ungI ys) i k →
 (-9223372036854775808:Int)≤i∧i≤(9223372036854775807:Int)→(-9223372036854775808:Int)≤k∧k≤(9223372036854775807:Int)→True→True→True→True →
 (-9223372036854775808:Int)≤n∧n≤(9223372036854775807:Int)→(-9223372036854775808:Int)≤h∧h≤(9223372036854775807:Int)→True→True→True→True→True→bif
 decide ((0:Int)≤i∧i < (↑ys.length:Int)) then ∃ n_1,List.take [AV.int IntKind.i64 n_1].length (ys.getD i.toNat [])=[AV.int IntKind.i64 n_1]∧bif decide ((0:Int)≤k ∧
 k < (↑ys.length:Int)) then ∃ n_2,List.take [AV.int IntKind.i64 n_2].length (ys.getD k.toNat [])=[AV.int IntKind.i64 n_2]∧bif decide (n_1=n_2) then true=nearB nx (ungI
 ys) i.toNat k.toNat∧((True∧ys=ys)∧True)∧((0:Nat)=(0:Nat)∧True)∧(n=n∧h=h∧((bif g4 then g4=true else True)∧nd=nd)∧True∧((bif g5 then g5=true
 else True)∧cl=cl)∧((bif g6 then g6=true else True)∧ed=ed)∧(True∧nx=nx)∧True)∧l=l∧True else bif decide ((0:Int)≤i∧i < (↑ys.length:Int)) then ∃ n_3,
 List.take [AV.int IntKind.i64 n_3].length (ys.getD i.toNat [])=[AV.int IntKind.i64 n_3]∧bif decide ((0:Int)≤n_3∧n_3 < (↑nx.length:Int)) then ∃ xs,List.take [AV.sl (1 :
 Nat) false xs].length (nx.getD n_3.toNat [])=[AV.sl (1:Nat) false xs]∧bif decide ((0:Int)≤k∧k < (↑ys.length:Int)) then ∃ n_4,List.take [AV.int IntKind.i64
 n_4].length (ys.getD k.toNat [])=[AV.int IntKind.i64 n_4]∧(xs=intsL (ungI xs)∧xs.length≤(1000000:Nat))∧decide (n_4 ∈ ungI xs)=nearB nx (ungI ys) i.toNat k.toNat ∧
 ((True∧ys=ys)∧True)∧((0:Nat)=(0:Nat)∧True)∧(n=n∧h=h∧((bif g4 then g4=true else True)∧nd=nd)∧True∧((bif g5 then g5=true else True)∧cl=cl) ∧
 ((bif g6 then g6=true else True)∧ed=ed)∧(True∧nx=nx)∧True)∧l=l∧True else False else False else False else False else False
theorem bnd1_P:bnd1_T:=by
 unfold bnd1_T
 intro gl i k n h g4 g5 g6 nd cl ed nx ys l ⟨he,hP⟩
 intros
 obtain ⟨ks,hks⟩:∃ ks,ks=ungI ys:=⟨_,rfl⟩
 rw [← hks] at he hP ⊢
 clear hks
 subst he
 have c4:cond g4 (g4=true) True:=gg g4
 have c5:cond g5 (g5=true) True:=gg g5
 have c6:cond g6 (g6=true) True:=gg g6
 have i0:=hP.i0
 have k0:=hP.k0
 have ei:=at_getD (l:=ks) (i:=i.toNat) (by omega)
 have ek:=at_getD (l:=ks) (i:=k.toNat) (by omega)
 rw [intsL_len]
 refine cd1 i0 ⟨ks.getD i.toNat 0,by rw [intsL_at ei]; rfl,cd1 k0 ⟨ks.getD k.toNat 0,by rw [intsL_at ek]; rfl,csp (fun q=>?_) (fun q=>?_)⟩⟩
 ·have e:true=nearB nx ks i.toNat k.toNat:=by unfold nearB; rw [decide_eq_true q]; rfl
  (repeat' (first | exact trivial | exact rfl | assumption | apply And.intro))
 ·have hz:=hP.rg _ (List.mem_of_getElem? ei)
  obtain ⟨r1,r2⟩:=hP.row (ks.getD i.toNat 0).toNat (by omega)
  have e:decide (ks.getD k.toNat 0 ∈ nb nx (ks.getD i.toNat 0).toNat)=nearB nx ks i.toNat k.toNat:=by unfold nearB; rw [decide_eq_false q]; rfl
  refine cd1 i0 ⟨ks.getD i.toNat 0,by rw [intsL_at ei]; rfl,cd1 hz ⟨intsL (nb nx (ks.getD i.toNat 0).toNat),by rw [r1]; rfl,cd1 k0 ⟨ks.getD k.toNat 0,by rw [intsL_at ek]; rfl,⟨by rw [ungI_ints],by rw [intsL_len]; omega⟩,?_⟩⟩⟩
  rw [ungI_ints]
  (repeat' (first | exact trivial | exact rfl | assumption | apply And.intro))
def bnd1_S:Prop:=∀ (gl:Glob) (i k n h:Int) (g4 g5 g6:Bool) (nd cl ed nx ys:List (List AV)) (l:List (Int × AV)),ys=intsL (ungI ys)∧Nd1P nx.length nx (ungI ys) i k→fnH Tryz.prog { glob:=gl,spec:=lk [(84,scon_s)],specH:=lk [],shape:=[10,14,24,26,30],slz:=[(26,[1])],nowf:=true } { nt:=33,drop:=drp [(1,8589934464)],fr:=1000,kp:=[0,1,2,3] } (fun _ _=>none) 6 Tryz.f83 [.int .i64 i,.int .i64 k,.ptr 0 0,.ptr 1 0] [.cells [.sl 1 false ys],.cells [.ptr 2 0],.cells [.int .i64 n,.int .i64 h,.sl 4 g4 nd,.mpv 3,.sl 3 g5 cl,.sl 2 g6 ed,.sl 1 false nx],.mp 27 3 l] (.bool (nearB nx (ungI ys) i.toNat k.toNat)) [.cells [.sl 1 false ys],.cells [.ptr 2 0],.cells [.int .i64 n,.int .i64 h,.sl 4 g4 nd,.mpv 3,.sl 3 g5 cl,.sl 2 g6 ed,.sl 1 false nx],.mp 27 3 l]
theorem bnd1_e:bnd1_T=bnd1_S:=by kernel_rfl
theorem bnd1_v:bnd1_S:=Eq.mp (bnd1_e ..) (bnd1_P)
theorem bnd1_ok (gl:Glob):HOK Tryz.prog gl 83 bnd1_s:=by
 refine ⟨fok Tryz.func83 (by kernel_rfl) (by kernel_rfl),?_⟩
 intro xs bs pre r bs2 h hp
 unfold bnd1_s at h
 split at h
 ·simp only [Option.some.injEq,Prod.mk.injEq] at h
  obtain ⟨h1,h2,h3⟩:=h
  subst h1 h2 h3
  exact fnH_sound tyNil (by exact specOK rfl rfl ⟨(scon_ok gl),trivial⟩ trivial) (by kernel_rfl) Tryz.func83 (bnd1_v gl _ _ _ _ _ _ _ _ _ _ _ _ _ hp)
 ·cases h
def arB (nx rs:List (List AV)) (ks:List Int) (i k:Nat):Bool:=!decide (rpN (rs.getD k [])=rpN (rs.getD i []))&&nearB nx ks i k
def arN (nx rs:List (List AV)) (ks:List Int) (i:Nat):Nat→List Int
 | 0=>[]
 | m+1=>arN nx rs ks i m++(if arB nx rs ks i m=true then [(m:Int)] else [])
theorem arN_mem {nx rs:List (List AV)} {ks:List Int} {i:Nat}:∀ {m:Nat} {z:Int},z ∈ arN nx rs ks i m↔∃ k:Nat,k < m∧z=k∧arB nx rs ks i k=true
 | 0,z=>by simp [arN]
 | m+1,z=>by
  rw [arN,List.mem_append,arN_mem]
  constructor
  ·rintro (⟨k,h1,h2,h3⟩ | h)
   ·exact ⟨k,by omega,h2,h3⟩
   ·split at h
    ·rename_i hb
     exact ⟨m,by omega,List.mem_singleton.1 h,hb⟩
    ·simp at h
  ·rintro ⟨k,h1,h2,h3⟩
   by_cases e:k=m
   ·subst e; right; rw [if_pos h3,h2]; exact List.mem_singleton.2 rfl
   ·exact .inl ⟨k,by omega,h2,h3⟩
theorem arN_len {nx rs:List (List AV)} {ks:List Int} {i:Nat}:∀ {m:Nat},(arN nx rs ks i m).length≤m
 | 0=>by simp [arN]
 | m+1=>by
  have:=arN_len (nx:=nx) (rs:=rs) (ks:=ks) (i:=i) (m:=m)
  rw [arN,List.length_append]
  split
  ·simp; omega
  ·simp; omega
structure ArP (N:Nat) (nx rs:List (List AV)) (ks:List Int) (i:Int):Prop where
 rp:RpP rs
 kl:ks.length=rs.length
 i0:0≤i∧i < rs.length
 rg:∀ z ∈ ks,0≤z∧z < N
 eX:nx.length=N
 row:∀ k,k < N→nx.getD k []=[.sl 1 false (intsL (nb nx k))]∧(nb nx k).length≤10000
structure ArX (nx rs:List (List AV)) (ks:List Int) (i:Int) (x:Int × List Int):Prop where
 lo:0≤x.1
 hi:x.1≤rs.length
 eq:x.2=arN nx rs ks i.toNat x.1.toNat
theorem air_f:fdB airR 2=true:=by decide +kernel
def bkH (n h:Int) (g4 g5 g6:Bool) (nd cl ed nx ys:List (List AV)) (l:List (Int × AV)):List (Nat × Blk):=[(0,.cells [.sl 1 false ys]),(1,.cells [.ptr 2 0]),(2,.cells [.int .i64 n,.int .i64 h,.sl 4 g4 nd,.mpv 3,.sl 3 g5 cl,.sl 2 g6 ed,.sl 1 false nx]),(3,.mp 27 3 l)]
def ar6 (f:Bool) (rs nx:List (List AV)) (ks:List Int) (i:Int) (H:List (Nat × Blk)):LInv:=⟨Int × List Int,fun x=>⟨[(0,.sl 8 f rs),(1,.fn 83 [.ptr 0 0,.ptr 1 0]),(2,.int .i64 i),(3,.int .i64 2),(11,.rw 1700 1 x.2.length),(28,.sl 8 f rs),(29,.int .i64 rs.length),(30,.int .i64 x.1)],(1700,.row 3 1 (intsL x.2))::H⟩,ArX nx rs ks i,fun x=>(rs.length - x.1).toNat,none⟩
def baro_s:SpH
 | [.sl 8 f rs,.fn 83 [.ptr 0 0,.ptr 1 0],.int .i64 i,.int .i64 2],[.cells [.sl 1 false ys],.cells [.ptr 2 0],.cells [.int .i64 n,.int .i64 h,.sl 4 g4 nd,.mpv 3,.sl 3 g5 cl,.sl 2 g6 ed,.sl 1 false nx],.mp 27 3 l]=>some (ys=intsL (ungI ys)∧ArP nx.length nx rs (ungI ys) i,.sl 1 false (intsL (arN nx rs (ungI ys) i.toNat rs.length)),[.cells [.sl 1 false ys],.cells [.ptr 2 0],.cells [.int .i64 n,.int .i64 h,.sl 4 g4 nd,.mpv 3,.sl 3 g5 cl,.sl 2 g6 ed,.sl 1 false nx],.mp 27 3 l])
 | _,_=>none
def baro_T (fdV:List (List AV)→Int→Int) (fdB:List (List AV)→Int→Bool):Prop :=
  ∀ (gl:Glob) (f:Bool) (rs:List (List AV)) (i n h:Int) (g4 g5 g6:Bool) (nd cl ed nx ys:List (List AV)) (l:List (Int × AV)),ys=intsL (ungI ys)∧ArP nx.length nx rs
  (ungI ys) i→True→True→(-9223372036854775808:Int)≤i∧i≤(9223372036854775807:Int)→(-9223372036854775808:Int)≤(2:Int)∧(2:Int)≤(9223372036854775807:Int)
 →True→True→(-9223372036854775808:Int)≤n∧n≤(9223372036854775807:Int)→(-9223372036854775808:Int)≤h∧h≤(9223372036854775807:Int)→True→True→True→True
 →True→bif decide ((0:Int)≤i∧i < (↑rs.length:Int)) then ∃ xs,List.take [AV.sl (2:Nat) false xs].length (List.drop (7:Nat) (rs.getD i.toNat []))=[AV.sl (2:Nat)
  false xs]∧RdsP xs∧bif !fdB xs (2:Int) then intsL (arN nx rs (ungI ys) i.toNat rs.length)=[]∧((True∧ys=ys)∧True)∧((0:Nat)=(0:Nat)∧True)∧(n=n∧h=h ∧
  ((bif g4 then g4=true else True)∧nd=nd)∧True∧((bif g5 then g5=true else True)∧cl=cl)∧((bif g6 then g6=true else True)∧ed=ed)∧(True∧nx=nx)∧True)∧l
 =l∧True else (∃ x,ArX nx rs (ungI ys) i x∧(((bif f then f=true else True)∧rs=rs)∧((0:Nat)=(0:Nat)∧(0:Nat)=(0:Nat)∧True)∧i=i∧(2:Int)=(2 :
  Int)∧(0:Nat)=x.snd.length∧((bif f then f=true else True)∧rs=rs)∧(↑rs.length:Int)=(↑rs.length:Int)∧(0:Int)=x.fst∧True)∧[]=intsL x.snd∧((True∧ys
 =ys)∧True)∧((0:Nat)=(0:Nat)∧True)∧(n=n∧h=h∧((bif g4 then g4=true else True)∧nd=nd)∧True∧((bif g5 then g5=true else True)∧cl=cl)∧((bif g6
  then g6=true else True)∧ed=ed)∧(True∧nx=nx)∧True)∧l=l∧True)∧∀ (x:Int × List Int),ArX nx rs (ungI ys) i x→bif decide (x.fst < (↑rs.length:Int)) then bif
  decide ((0:Int)≤x.fst∧x.fst < (↑rs.length:Int)) then ∃ n_1 s n_2 n_3 n_4 n_5 n_6 xs,List.take [AV.int IntKind.i64 n_1,AV.str s,AV.int IntKind.i64 n_2,AV.int IntKind.i64
  n_3,AV.int IntKind.i64 n_4,AV.int IntKind.i64 n_5,AV.int IntKind.i64 n_6,AV.sl (2:Nat) false xs].length (rs.getD x.fst.toNat [])=[AV.int IntKind.i64 n_1,AV.str s,AV.int
  IntKind.i64 n_2,AV.int IntKind.i64 n_3,AV.int IntKind.i64 n_4,AV.int IntKind.i64 n_5,AV.int IntKind.i64 n_6,AV.sl (2:Nat) false xs]∧RdsP xs∧bif fdB xs (2:Int) then bif
  decide ((0:Int)≤i∧i < (↑rs.length:Int)) then ∃ s_1,List.take [AV.str s_1].length (List.drop (1:Nat) (rs.getD i.toNat []))=[AV.str s_1]∧bif !decide (s=s_1) then (ys
 =intsL (ungI ys)∧Nd1P nx.length nx (ungI ys) i x.fst)∧bif nearB nx (ungI ys) i.toNat x.fst.toNat then bif decide (x.snd.length=(intsL x.snd).length∧(intsL x.snd).length +
  [[AV.int IntKind.i64 x.fst]].length≤(9223372036854775807:Nat)∧((intsL x.snd).length+[[AV.int IntKind.i64 x.fst]].length)*(8:Nat)≤(140737488355328:Nat)) then bif
  decide (rng IntKind.i64 (x.fst+(1:Int))) then ∃ y,ArX nx rs (ungI ys) i y∧(ar6 f rs nx (ungI ys) i (bkH n h g4 g5 g6 nd cl ed nx ys l)).m y < (ar6 f rs nx (ungI ys) i (bkH n
  h g4 g5 g6 nd cl ed nx ys l)).m x∧(((bif f then f=true else True)∧rs=rs)∧((0:Nat)=(0:Nat)∧(0:Nat)=(0:Nat)∧True)∧i=i∧(2:Int)=(2:Int)∧(intsL
  x.snd++[[AV.int IntKind.i64 x.fst]]).length=y.snd.length∧((bif f then f=true else True)∧rs=rs)∧(↑rs.length:Int)=(↑rs.length:Int)∧x.fst+(1:Int)=y.fst ∧
  True)∧intsL x.snd++[[AV.int IntKind.i64 x.fst]]=intsL y.snd∧((True∧ys=ys)∧True)∧((0:Nat)=(0:Nat)∧True)∧(n=n∧h=h∧((bif g4 then g4=true else True)
 ∧nd=nd)∧True∧((bif g5 then g5=true else True)∧cl=cl)∧((bif g6 then g6=true else True)∧ed=ed)∧(True∧nx=nx)∧True)∧l=l∧True else False else False
  else bif decide (rng IntKind.i64 (x.fst+(1:Int))) then ∃ y,ArX nx rs (ungI ys) i y∧(ar6 f rs nx (ungI ys) i (bkH n h g4 g5 g6 nd cl ed nx ys l)).m y < (ar6 f rs nx (ungI ys)
  i (bkH n h g4 g5 g6 nd cl ed nx ys l)).m x∧(((bif f then f=true else True)∧rs=rs)∧((0:Nat)=(0:Nat)∧(0:Nat)=(0:Nat)∧True)∧i=i∧(2:Int)=(2:Int) ∧
  x.snd.length=y.snd.length∧((bif f then f=true else True)∧rs=rs)∧(↑rs.length:Int)=(↑rs.length:Int)∧x.fst+(1:Int)=y.fst∧True)∧intsL x.snd=intsL y.snd
 ∧((True∧ys=ys)∧True)∧((0:Nat)=(0:Nat)∧True)∧(n=n∧h=h∧((bif g4 then g4=true else True)∧nd=nd)∧True∧((bif g5 then g5=true else True)∧cl=cl)
 ∧((bif g6 then g6=true else True)∧ed=ed)∧(True∧nx=nx)∧True)∧l=l∧True else False else bif decide (rng IntKind.i64 (x.fst+(1:Int))) then ∃ y,ArX nx rs (ungI
  ys) i y∧(ar6 f rs nx (ungI ys) i (bkH n h g4 g5 g6 nd cl ed nx ys l)).m y < (ar6 f rs nx (ungI ys) i (bkH n h g4 g5 g6 nd cl ed nx ys l)).m x∧(((bif f then f=true else True)
 ∧rs=rs)∧((0:Nat)=(0:Nat)∧(0:Nat)=(0:Nat)∧True)∧i=i∧(2:Int)=(2:Int)∧x.snd.length=y.snd.length∧((bif f then f=true else True)∧rs=rs) ∧
  (↑rs.length:Int)=(↑rs.length:Int)∧x.fst+(1:Int)=y.fst∧True)∧intsL x.snd=intsL y.snd∧((True∧ys=ys)∧True)∧((0:Nat)=(0:Nat)∧True)∧(n=n∧h =
  h∧((bif g4 then g4=true else True)∧nd=nd)∧True∧((bif g5 then g5=true else True)∧cl=cl)∧((bif g6 then g6=true else True)∧ed=ed)∧(True∧nx=nx)∧True)
 ∧l=l∧True else False else False else bif decide (rng IntKind.i64 (x.fst+(1:Int))) then ∃ y,ArX nx rs (ungI ys) i y∧(ar6 f rs nx (ungI ys) i (bkH n h g4 g5 g6 nd cl ed
  nx ys l)).m y < (ar6 f rs nx (ungI ys) i (bkH n h g4 g5 g6 nd cl ed nx ys l)).m x∧(((bif f then f=true else True)∧rs=rs)∧((0:Nat)=(0:Nat)∧(0:Nat)=(0:Nat) ∧
  True)∧i=i∧(2:Int)=(2:Int)∧x.snd.length=y.snd.length∧((bif f then f=true else True)∧rs=rs)∧(↑rs.length:Int)=(↑rs.length:Int)∧x.fst+(1:Int) =
  y.fst∧True)∧intsL x.snd=intsL y.snd∧((True∧ys=ys)∧True)∧((0:Nat)=(0:Nat)∧True)∧(n=n∧h=h∧((bif g4 then g4=true else True)∧nd=nd)∧True ∧
  ((bif g5 then g5=true else True)∧cl=cl)∧((bif g6 then g6=true else True)∧ed=ed)∧(True∧nx=nx)∧True)∧l=l∧True else False else False else bif decide
  (x.snd.length=(intsL x.snd).length) then (True∧intsL x.snd=intsL (arN nx rs (ungI ys) i.toNat rs.length))∧((True∧ys=ys)∧True)∧((0:Nat)=(0:Nat)∧True)∧(n =
  n∧h=h∧((bif g4 then g4=true else True)∧nd=nd)∧True∧((bif g5 then g5=true else True)∧cl=cl)∧((bif g6 then g6=true else True)∧ed=ed)∧(True∧nx=nx)
 ∧True)∧l=l∧True else False else False
theorem baro_P:baro_T fdV fdB:=by
 unfold baro_T
 intro gl f rs i n h g4 g5 g6 nd cl ed nx ys l ⟨he,hP⟩
 intros
 obtain ⟨ks,hks⟩:∃ ks,ks=ungI ys:=⟨_,rfl⟩
 rw [← hks] at he hP ⊢
 clear hks
 have hp:=hP.rp
 have hl:=hp.le
 have i0:=hP.i0
 have hkl:=hP.kl
 have gf:cond f (f=true) True:=gg f
 have c4:cond g4 (g4=true) True:=gg g4
 have c5:cond g5 (g5=true) True:=gg g5
 have c6:cond g6 (g6=true) True:=gg g6
 obtain ⟨k1,nm,t1,f1,a1,b1,c1',ei,_⟩:=hp.row i.toNat (by omega)
 have eni:rpN (rs.getD i.toNat [])=nm:=by rw [ei]; rfl
 refine cd1 i0 ⟨airR,by rw [ei]; rfl,air_ok,?_⟩
 rw [air_f]
 refine ⟨⟨(0,[]),⟨Int.le_refl 0,by simp only; omega,rfl⟩,by (repeat' (first | exact trivial | exact rfl | assumption | apply And.intro))⟩,?_⟩
 rintro ⟨k,os⟩ ⟨k0,kl,ek⟩
 simp only at k0 kl ek
 have hol:os.length≤k.toNat:=by rw [ek]; exact arN_len
 refine csp (fun hk=>?_) (fun hk=>?_)
 ·simp only at hk
  obtain ⟨k2,nm2,t2,f2,a2,b2,c2,e2,_⟩:=hp.row k.toNat (by omega)
  have en2:rpN (rs.getD k.toNat [])=nm2:=by rw [e2]; rfl
  have hkc:((k.toNat:Nat):Int)=k:=Int.toNat_of_nonneg k0
  have st:arN nx rs ks i.toNat (k+1).toNat=arN nx rs ks i.toNat k.toNat++(if arB nx rs ks i.toNat k.toNat=true then [k] else []):=by
   rw [show (k+1).toNat=k.toNat+1 by omega,arN,hkc]
  have no:arB nx rs ks i.toNat k.toNat=false→arN nx rs ks i.toNat (k+1).toNat=os:=fun q=>by rw [st,q,ek]; simp
  refine cd1 ⟨k0,hk⟩ ⟨k2,nm2,t2,f2,a2,b2,c2,airR,by rw [e2]; rfl,air_ok,?_⟩
  rw [air_f]
  refine cd1 i0 ⟨nm,by rw [ei]; rfl,?_⟩
  cases hq:decide (nm2=nm) with
  | true =>
   have hb:=no (by unfold arB; rw [en2,eni,hq]; rfl)
   exact cdI (by simp only; omega) ⟨(k+1,os),⟨by simp only; omega,by simp only; omega,hb.symm⟩,by simp only [ar6]; omega,by (repeat' (first | exact trivial | exact rfl | assumption | apply And.intro))⟩
  | false =>
   refine ⟨⟨he,by rw [hkl]; exact i0,by simp only; omega,fun z hz=>hP.rg z hz,rfl,hP.row⟩,?_⟩
   cases hn:nearB nx ks i.toNat k.toNat with
   | true =>
    have hb:arN nx rs ks i.toNat (k+1).toNat=os++[k]:=by rw [st,show arB nx rs ks i.toNat k.toNat=true by unfold arB; rw [en2,eni,hq,hn]; rfl,ek]; rfl
    have e3:=intsL_app os k
    have e4:(intsL os++[[AV.int .i64 k]]).length=(os++[k]).length:=by rw [e3,intsL_len]
    exact cd1 ⟨by rw [intsL_len],by simp only [intsL_len,List.length_singleton]; omega,by simp only [intsL_len,List.length_singleton]; omega⟩ (cdI (by simp only; omega) ⟨(k+1,os++[k]),⟨by simp only; omega,by simp only; omega,hb.symm⟩,by simp only [ar6]; omega,by (repeat' (first | exact trivial | exact rfl | assumption | apply And.intro))⟩)
   | false =>
    have hb:=no (by unfold arB; rw [hn,Bool.and_false])
    exact cdI (by simp only; omega) ⟨(k+1,os),⟨by simp only; omega,by simp only; omega,hb.symm⟩,by simp only [ar6]; omega,by (repeat' (first | exact trivial | exact rfl | assumption | apply And.intro))⟩
 ·simp only at hk
  have e5:intsL os=intsL (arN nx rs ks i.toNat rs.length):=by rw [ek,show k.toNat=rs.length by omega]
  refine cd1 (by rw [intsL_len]) (by (repeat' (first | exact trivial | exact rfl | assumption | apply And.intro)))
def baro_S (fdV:List (List AV)→Int→Int) (fdB:List (List AV)→Int→Bool):Prop:=∀ (gl:Glob) (f:Bool) (rs:List (List AV)) (i n h:Int) (g4 g5 g6:Bool) (nd cl ed nx ys:List (List AV)) (l:List (Int × AV)),ys=intsL (ungI ys)∧ArP nx.length nx rs (ungI ys) i→fnH Tryz.prog { glob:=gl,spec:=lk [(82,(efind_s fdV fdB))],specH:=lk [(83,bnd1_s)],shape:=[21,34,50],slz:=[(21,[2]),(34,[2])],nowf:=true } { nt:=65,drop:=drp [(1,67043328),(2,67108864),(7,30064771072),(8,4363686772736),(9,288225978105200640),(10,8646911284551352320),(11,9223372036854775808),(12,18446744073709551616)],fr:=1000,kp:=[0,1,2,3],emp:=fun id=>cond (Nat.beq id 5) [(11,1700,3,1)] [] } (invs [(6,ar6 f rs nx (ungI ys) i (bkH n h g4 g5 g6 nd cl ed nx ys l))]) 6 Tryz.f40 [.sl 8 f rs,.fn 83 [.ptr 0 0,.ptr 1 0],.int .i64 i,.int .i64 2] [.cells [.sl 1 false ys],.cells [.ptr 2 0],.cells [.int .i64 n,.int .i64 h,.sl 4 g4 nd,.mpv 3,.sl 3 g5 cl,.sl 2 g6 ed,.sl 1 false nx],.mp 27 3 l] (.sl 1 false (intsL (arN nx rs (ungI ys) i.toNat rs.length))) [.cells [.sl 1 false ys],.cells [.ptr 2 0],.cells [.int .i64 n,.int .i64 h,.sl 4 g4 nd,.mpv 3,.sl 3 g5 cl,.sl 2 g6 ed,.sl 1 false nx],.mp 27 3 l]
theorem baro_e (fdV:List (List AV)→Int→Int) (fdB:List (List AV)→Int→Bool):baro_T fdV fdB=baro_S fdV fdB:=by kernel_rfl
theorem baro_v:baro_S fdV fdB:=Eq.mp (baro_e ..) (baro_P)
theorem baro_ok (gl:Glob):HOK Tryz.prog gl 40 baro_s:=by
 refine ⟨fok Tryz.func40 (by kernel_rfl) (by kernel_rfl),?_⟩
 intro xs bs pre r bs2 h hp
 unfold baro_s at h
 split at h
 ·simp only [Option.some.injEq,Prod.mk.injEq] at h
  obtain ⟨h1,h2,h3⟩:=h
  subst h1 h2 h3
  exact fnH_sound tyNil (by exact specOK rfl rfl ⟨(efind_ok gl),trivial⟩ ⟨(bnd1_ok gl),trivial⟩) (by kernel_rfl) Tryz.func40 (baro_v gl _ _ _ _ _ _ _ _ _ _ _ _ _ _ hp)
 ·cases h
structure BneP (nrm:NrT) (n i:Int) (rs:List (List AV)):Prop where
 bq:BldQ nrm n
 rp:RpP rs
 i0:0≤i∧i < rs.length
 rg:∀ z ∈ atL nrm n rs,0≤z∧z < (nxtG nrm n).length
 row:∀ k,k < (nxtG nrm n).length→(nxtG nrm n).getD k []=[.sl 1 false (intsL (nb (nxtG nrm n) k))]∧(nb (nxtG nrm n) k).length≤10000
def bnei_s (nrm:Int→Int→Int→Int→Int × Int × Int × Int):SpH
 | [.sl 8 f rs,.int .i64 n,.int .i64 i,.int .i64 2],[]=>some (BneP nrm n i rs,.tup [.sl 1 false (intsL (arN (nxtG nrm n) rs (atL nrm n rs) i.toNat rs.length)),.int .i64 0],[])
 | _,_=>none
def bnei_T (nrm:Int→Int→Int→Int→Int × Int × Int × Int):Prop :=
  ∀ (f:Bool) (rs:List (List AV)) (n i:Int),BneP nrm n i rs→True→(-9223372036854775808:Int)≤n∧n≤(9223372036854775807:Int)→(-9223372036854775808:Int)≤i∧i ≤
  (9223372036854775807:Int)→(-9223372036854775808:Int)≤(2:Int)∧(2:Int)≤(9223372036854775807:Int)→True∧bif !decide ((1:Int)≤n∧n≤(8:Int)) then (intsL
  (arN (nxtG nrm n) rs (atL nrm n rs) i.toNat rs.length)=[]∧(1:Int)=(0:Int)∧True)∧True else RpP rs∧bif decide (i < (0:Int)) then (intsL (arN (nxtG nrm n) rs (atL
  nrm n rs) i.toNat rs.length)=[]∧(1:Int)=(0:Int)∧True)∧True else bif decide ((↑rs.length:Int)≤i) then (intsL (arN (nxtG nrm n) rs (atL nrm n rs) i.toNat rs.length)
 =[]∧(1:Int)=(0:Int)∧True)∧True else NdsP nrm n rs∧(intsL (atL nrm n rs)=intsL (ungI (intsL (atL nrm n rs)))∧ArP (nxtG nrm n).length (nxtG nrm n) rs (ungI (intsL
  (atL nrm n rs))) i)∧((True∧intsL (arN (nxtG nrm n) rs (ungI (intsL (atL nrm n rs))) i.toNat rs.length)=intsL (arN (nxtG nrm n) rs (atL nrm n rs) i.toNat rs.length))∧(0 :
  Int)=(0:Int)∧True)∧True
theorem bnei_P:bnei_T nrm:=by
 unfold bnei_T
 intro f rs n i hP
 intros
 have hq:=hP.bq
 have hp:=hP.rp
 have gf:cond f (f=true) True:=gg f
 have i0:=hP.i0
 have n8:decide (1≤n∧n≤8)=true:=by rw [decide_eq_true_eq]; have:=hq.lo; have:=hq.hi; omega
 rw [n8,ungI_ints]
 refine ⟨trivial,⟨hp,?_⟩⟩
 rw [show decide (i < 0)=false by rw [decide_eq_false_iff_not]; omega,show decide ((rs.length:Int)≤i)=false by rw [decide_eq_false_iff_not]; omega]
 have ha:ArP (nxtG nrm n).length (nxtG nrm n) rs (atL nrm n rs) i:=⟨hp,by simp [atL],i0,hP.rg,rfl,hP.row⟩
 exact ⟨⟨hq,hp⟩,⟨rfl,ha⟩,by (repeat' (first | exact trivial | exact rfl | assumption | apply And.intro))⟩
def bnei_S (nrm:Int→Int→Int→Int→Int × Int × Int × Int):Prop:=∀ (f:Bool) (rs:List (List AV)) (n i:Int),BneP nrm n i rs→fnH Tryz.prog { glob:=glb,spec:=lk [(36,mfreq_s),(39,exam_s)],specH:=lk [(41,(bnod_s nrm)),(40,baro_s)],nowf:=true } { nt:=34,drop:=drp [(1,6144),(3,49152),(4,65536),(5,262144),(6,66584576),(8,17045651456)],fr:=1000,kp:=[] } (fun _ _=>none) 6 Tryz.f12 [.sl 8 f rs,.int .i64 n,.int .i64 i,.int .i64 2] [] (.tup [.sl 1 false (intsL (arN (nxtG nrm n) rs (atL nrm n rs) i.toNat rs.length)),.int .i64 0]) []
theorem bnei_e (nrm:Int→Int→Int→Int→Int × Int × Int × Int):bnei_T nrm=bnei_S nrm:=by kernel_rfl
theorem bnei_v:bnei_S nrm:=Eq.mp (bnei_e ..) (bnei_P)
theorem bnei_ok:HOK Tryz.prog glb 12 (bnei_s nrm):=by
 refine ⟨fok Tryz.func12 (by kernel_rfl) (by kernel_rfl),?_⟩
 intro xs bs pre r bs2 h hp
 unfold bnei_s at h
 split at h
 ·simp only [Option.some.injEq,Prod.mk.injEq] at h
  obtain ⟨h1,h2,h3⟩:=h
  subst h1 h2 h3
  exact fnH_sound tyNil (by exact specOK rfl rfl ⟨(mfreq_ok glb),(exam_ok),trivial⟩ ⟨(bnod_ok),(baro_ok glb),trivial⟩) (by kernel_rfl) Tryz.func12 (bnei_v  _ _ _ _ hp)
 ·cases h
end Go.Proofs.YtgbbmadjdaphnaaGreatDoor
