import Derived.Test.YtgnnafneglannaaGreatDoorIAe
set_option maxRecDepth 100000
namespace Go.Proofs.YtgnnafneglannaaGreatDoor
open Go Go.Lib Go.RowKit
set_option linter.unusedVariables false
set_option linter.unusedSimpArgs false
theorem setCells_other (b:Nat):∀ (vs:List Value) (o:Nat) (w:World) (g:Nat),g≠b→(w.setCells b o vs).heap[g]?=w.heap[g]?
 | [],_,_,_,_=>rfl
 | v::r,o,w,g,h=>by
  rw [World.setCells,setCells_other b r (o+1) _ g h]
  simp [World.setCell,Array.getElem?_modify,Ne.symm h]
theorem setCells_rest (b:Nat):∀ (vs:List Value) (o:Nat) (w:World),(w.setCells b o vs).os=w.os∧(w.setCells b o vs).tape=w.tape∧(w.setCells b o vs).output=w.output∧(w.setCells b o vs).heap.size=w.heap.size
 | [],_,_=>⟨rfl,rfl,rfl,rfl⟩
 | v::r,o,w=>by
  obtain ⟨h1,h2,h3,h4⟩:=setCells_rest b r (o+1) (w.setCell ⟨b,o,none⟩ v)
  rw [World.setCells]
  exact ⟨h1,h2,h3,by rw [h4]; simp [World.setCell]⟩
def putL (o:Nat) (vs l:List Value):List Value:=l.take o++vs++l.drop (o+vs.length)
theorem putL_cons {o:Nat} {v:Value} {r l:List Value} (h:o < l.length):putL (o+1) r (l.set o v)=putL o (v::r) l:=by
 unfold putL
 rw [List.drop_set_of_lt (by omega)]
 rw [List.take_add_one,List.take_set_of_le (Nat.le_refl _)]
 simp only [List.getElem?_set_self h,Option.toList_some,List.append_assoc,List.singleton_append,List.length_cons]
 rw [show o+1+r.length=o+(r.length+1) by omega]
theorem setCells_heap (b t:Nat) (fr:Nat × Nat):∀ (vs:List Value) (o:Nat) (w:World) (l:List Value),w.heap[b]?=some (.cells l.toArray t fr)→o+vs.length≤l.length→(w.setCells b o vs).heap[b]?=some (.cells (putL o vs l).toArray t fr)
 | [],o,w,l,h,_=>by
  rw [World.setCells,h]
  unfold putL; simp
 | v::r,o,w,l,h,hl=>by
  rw [List.length_cons] at hl
  have h1:(w.setCell ⟨b,o,none⟩ v).heap[b]?=some (.cells (l.set o v).toArray t fr):=by
   simp [World.setCell,Array.getElem?_modify,h]
  rw [World.setCells,setCells_heap b t fr r (o+1) _ (l.set o v) h1 (by rw [List.length_set]; omega),putL_cons (by omega)]
theorem putL_len {o:Nat} {vs l:List Value} (h:o+vs.length≤l.length):(putL o vs l).length=l.length:=by
 unfold putL
 simp only [List.length_append,List.length_take,List.length_drop]
 omega
theorem putL_take {o k:Nat} {vs l:List Value} (h:o+vs.length≤l.length) (hk:o+vs.length=k):(putL o vs l).take k=l.take o++vs:=by
 unfold putL
 rw [List.take_append_of_le_length (by simp only [List.length_append,List.length_take]; omega),List.take_of_length_le (by simp only [List.length_append,List.length_take]; omega)]
theorem flat_take10:∀ {zs:List (List AV)} (n:Nat),(∀ z ∈ zs,z.length=10)→(zs.take n).flatten=zs.flatten.take (n*10)∧(zs.drop n).flatten=zs.flatten.drop (n*10)
 | _,0,_=>by simp
 | [],n+1,_=>by simp
 | z::zs,n+1,h=>by
  have hz:=h z List.mem_cons_self
  obtain ⟨h1,h2⟩:=flat_take10 (zs:=zs) n (fun y hy=>h y (List.mem_cons_of_mem _ hy))
  have e:(n+1)*10=z.length+n*10:=by omega
  constructor
  ·rw [List.take_succ_cons,List.flatten_cons,List.flatten_cons,e,List.take_append,h1,List.take_of_length_le (l:=z) (by omega),show z.length+n*10 - z.length=n*10 by omega]
  ·rw [List.drop_succ_cons,List.flatten_cons,e,List.drop_append,h2,List.drop_of_length_le (l:=z) (by omega),show z.length+n*10 - z.length=n*10 by omega,List.nil_append]
def insP (n q:Nat) (i:Int) (xs ys:LLA):Prop:=n=xs.length∧q=1∧ys.length=1∧0≤i∧i≤n∧n≤900
def sins_s:SpH
 | [.rw 0 10 n,.int .i64 i,.rw 1 10 q],[.row 29 10 xs,.row 29 10 ys]=>some (insP n q i xs ys,.rw 0 10 (n+1),[.row 29 10 (xs.take i.toNat++ys++xs.drop i.toNat),.row 29 10 ys])
 | _,_=>none
theorem ins_done {S:Pin} {m:Nm} {w w':World} {xs ys zs:LLA} {A:Option Addr} {c g1 c1:Nat} {g' c':Nat} {l:List Value} {vals:List Value}
  (hA:Agree S w) (hm0:m 0=some (.iface 0 (.slice A xs.length c))) (hm1:m 1=some (.iface 0 (.slice (some ⟨g1,0,none⟩) 1 c1)))
  (H1:Held S m w 1 (.row 29 10 ys)) (hnm:∀ k u,m k=some u→k < 2) (hg1:g1 < w.heap.size) (hne:g1≠g')
  (hg:(A=some ⟨g',0,none⟩∧g' < w.heap.size)∨g'=w.heap.size) (hS:∀ o,S g' o=none)
  (r1:w'.os=w.os) (r2:w'.tape=w.tape) (r3:w'.output=w.output) (r4:w.heap.size≤w'.heap.size) (r5:∀ b,b < w.heap.size→b≠g'→w'.heap[b]?=w.heap[b]?)
  (r6:w'.heap[g']?=some (.cells l.toArray 29 (0,0))) (r7:l.length=c'*10) (r8:l.take (zs.length*10)=vals) (hc:zs.length≤c') (hcm:c'≤maxLen)
  (hz:∀ z ∈ zs,z.length=10) (hv:CVl S zs.flatten noNm vals) (h1:∀ v ∈ vals,v.oneCell'=true) (hl:zs.length=xs.length+1) :
  ∃ u S' m',(Ending.returned (.slice (some ⟨g',0,none⟩) (xs.length+1) c'):Ending)=.returned u∧w'.os=w.os∧w'.tape=w.tape∧w'.output=w.output∧w.heap.size≤w'.heap.size∧Ext S S' ∧
   (∀ b,b < w.heap.size→¬ Mof 2 m b→w'.heap[b]?=w.heap[b]?∧∀ o,S' b o=S b o)∧Agree S' w' ∧
   (∀ (q:Nat) (b:Blk),([.row 29 10 zs,.row 29 10 ys]:List Blk)[q]?=some b→Held S' m' w' q b)∧InjB 2 m'∧(∀ q u g,q < 2→m' q=some u→bk u=some g→w.heap.size≤g∨Mof 2 m g)∧MLe m m'∧CV S' (.rw 0 10 (xs.length+1)) m' u:=by
 have hlt:29 < 1000000:=by decide
 have n0:(m.set 0 (.iface 0 (.slice (some ⟨g',0,none⟩) zs.length c'))) 0=some (.iface 0 (.slice (some ⟨g',0,none⟩) zs.length c')):=Nm.set_same _ _ _
 have n1:(m.set 0 (.iface 0 (.slice (some ⟨g',0,none⟩) zs.length c'))) 1=m 1:=Nm.set_ne _ _ (by decide)
 refine ⟨_,S,m.set 0 (.iface 0 (.slice (some ⟨g',0,none⟩) zs.length c')),rfl,r1,r2,r3,r4,.refl _,fun b hb hM=>⟨r5 b hb fun e=>hM ?_,fun _=>rfl⟩,fun b o v h=>?_,fun q b hq=>?_,?_,?_,?_,?_⟩
 ·subst e
  rcases hg with ⟨h,_⟩ | h
  ·exact ⟨0,_,by decide,hm0,by rw [h]; rfl⟩
  ·omega
 ·obtain ⟨k1,k2⟩:=hA b o v h
  have hb:b≠g':=fun e=>by rw [e,hS o] at h; cases h
  exact ⟨by rw [World.cell?_of_block (w:=w) (r5 b (hA.lt h) hb)]; exact k1,k2⟩
 ·match q,hq with
  | 0,hq =>
   simp only [List.getElem?_cons_zero,Option.some.injEq] at hq
   subst hq
   refine ⟨some ⟨g',0,none⟩,c',n0,hc,hcm,.inr ⟨g',l.toArray,(0,0),rfl,by rw [rowTy_lt hlt]; exact r6,.none,by simpa using r7,hS,?_⟩⟩
   rw [rowNm_lo (Nat.lt_trans hlt (by decide))]
   exact row_of_flat hz hv h1 (by simpa using r8)
  | 1,hq =>
   simp only [List.getElem?_cons_succ,List.getElem?_cons_zero,Option.some.injEq] at hq
   subst hq
   refine H1.keep (.refl _) (fun cs vs hi _=>?_) n1 fun u g hu hgu=>?_
   ·obtain ⟨hh,_⟩:=hi
    omega
   ·rw [hm1] at hu
    injection hu with hu
    subst hu
    simp only [bk,Option.some.injEq] at hgu
    subst hgu
    exact ⟨r5 _ hg1 hne,fun _=>rfl⟩
  | q+2,hq=>simp at hq
 ·intro q q' u u' g hq hq' hqq hu hu' hgu
  have key:∀ (q:Nat) (u:Value) (g:Nat),q < 2→(m.set 0 (.iface 0 (.slice (some ⟨g',0,none⟩) zs.length c'))) q=some u→bk u=some g→(q=0∧g=g')∨(q=1∧g=g1):=by
   intro q u g hq hu hgu
   match q,hq with
   | 0,_ =>
    rw [n0] at hu; injection hu with hu; subst hu
    simp only [bk,Option.some.injEq] at hgu
    exact .inl ⟨rfl,hgu.symm⟩
   | 1,_ =>
    rw [n1,hm1] at hu; injection hu with hu; subst hu
    simp only [bk,Option.some.injEq] at hgu
    exact .inr ⟨rfl,hgu.symm⟩
  intro hgu'
  rcases key q u g hq hu hgu with ⟨a1,a2⟩ | ⟨a1,a2⟩ <;> rcases key q' u' g hq' hu' hgu' with ⟨b1,b2⟩ | ⟨b1,b2⟩
  ·omega
  ·exact hne (by rw [← b2,a2])
  ·exact hne (by rw [← a2,b2])
  ·omega
 ·intro q u g hq hu hgu
  match q,hq with
  | 0,_ =>
   rw [n0] at hu; injection hu with hu; subst hu
   simp only [bk,Option.some.injEq] at hgu
   subst hgu
   rcases hg with ⟨h,_⟩ | h
   ·exact .inr ⟨0,_,by decide,hm0,by rw [h]; rfl⟩
   ·exact .inl (by omega)
  | 1,_=>exact .inr ⟨1,u,by decide,by rw [← n1]; exact hu,hgu⟩
 ·exact grow_le hm0 (by omega)
 ·rw [← hl]
  exact CV.rw_mk n0 hc hcm (.inr ⟨g',rfl⟩)
theorem cv_row {S:Pin} {m:Nm} {k s n:Nat} {v:Value} {A:Option Addr} {c:Nat} (h:CV S (.rw k s n) m v) (hm:m k=some (.iface 0 (.slice A n c))):v=.slice A n c:=by
 simp only [CV] at h
 obtain ⟨_,A1,q,c1,p1,p2,p3⟩:=h
 rw [hm] at p1
 injection p1 with p1
 injection p1 with _ p1
 injection p1 with e1 e2 e3
 subst e1 e3
 rw [e2]
 exact p3 (by omega)
set_option maxHeartbeats 1000000 in
theorem sins_ok (gl:Glob):HOK Tryz.prog gl 60 sins_s:=by
 refine ⟨fok Tryz.func60 (by kernel_rfl) (by kernel_rfl),?_⟩
 intro xs0 bs pre r bs2 h hp
 unfold sins_s at h
 split at h
 rotate_left
 ·cases h
 rename_i n i q xs ys
 simp only [Option.some.injEq,Prod.mk.injEq] at h
 obtain ⟨h1,h2,h3⟩:=h
 subst h1 h2 h3
 obtain ⟨hn,hq,hy,i0,i1,hbg⟩:=hp
 subst hn hq
 intro w S m vs hG hA hnm hheld hinj hv
 have H0:=hheld 0 _ rfl
 have H1:=hheld 1 _ rfl
 have hlt:29 < 1000000:=by decide
 obtain ⟨A,c,a1,a2,a3,a4,a5,V,b1,b2,b3,b4,b5⟩:=H0.vals
 obtain ⟨A1,c1,d1,d2,d3,d4,d5,Y,e1,e2,e3,e4,e5⟩:=H1.vals
 rw [rowNm_lo (Nat.lt_trans hlt (by decide))] at b2 e2
 rw [hy] at d1 d2 e1
 obtain ⟨g1,cur1,fr1,rfl,f1,f2,f3,f4⟩:=d5.resolve_left (fun h=>by omega)
 have hfr1:=f2.lt hlt
 subst hfr1
 rw [rowTy_lt hlt] at f1
 have hg1:g1 < w.heap.size:=(Array.getElem?_eq_some_iff.1 f1).1
 simp only [CVl] at hv
 obtain ⟨u1,us1,v1,hv1,u2,us2,v2,hv2,u3,us3,v3,hv3,v4⟩:=hv
 subst v4 v3 v2
 have hv1:=cv_row hv1 a1
 have hv3:=cv_row hv3 d1
 simp only [CV] at hv2
 obtain ⟨hv2,_⟩:=hv2
 subst hv1 hv2 hv3
 obtain ⟨k,rfl⟩:∃ k:Nat,i=k:=⟨i.toNat,by omega⟩
 have hvs:vs=#[.slice A xs.length c,.int .i64 k,.slice (some ⟨g1,0,none⟩) 1 c1]:=by apply Array.ext'; simpa using v1
 subst hvs
 have hk:k≤xs.length:=by omega
 have hs1:∀ j v,Y[j]?=some v→w.cell? ⟨g1,0+j,none⟩=some v:=fun j v h=>by rw [Nat.zero_add]; exact e5 g1 rfl j v h
 have hYl:Y.length=1*10:=by rw [e1]
 have hz:∀ z ∈ xs.take k++ys++xs.drop k,z.length=10:=fun z hz=>by
  rcases List.mem_append.1 hz with hz | hz
  ·rcases List.mem_append.1 hz with hz | hz
   ·exact a4 z (List.mem_of_mem_take hz)
   ·exact d4 z hz
  ·exact a4 z (List.mem_of_mem_drop hz)
 have hzl:(xs.take k++ys++xs.drop k).length=xs.length+1:=by
  simp only [List.length_append,List.length_take,List.length_drop,hy]; omega
 obtain ⟨t1,t2⟩:=flat_take10 (zs:=xs) k a4
 have hct:CVl S (xs.take k++ys++xs.drop k).flatten noNm (V.take (k*10)++Y++V.drop (k*10)):=by
  rw [List.flatten_append,List.flatten_append,t1,t2]
  exact ((b2.take _).append e2).append (b2.drop _)
 have hon:∀ v ∈ V.take (k*10)++Y++V.drop (k*10),v.oneCell'=true:=fun v hv=>by
  rcases List.mem_append.1 hv with hv | hv
  ·rcases List.mem_append.1 hv with hv | hv
   ·exact b3 v (List.mem_of_mem_take hv)
   ·exact e3 v hv
  ·exact b3 v (List.mem_of_mem_drop hv)
 have hnm2:∀ k u,m k=some u→k < 2:=hnm
 have a3':c≤9223372036854775807:=by unfold maxLen at a3; omega
 have hdet:(Int.toNat (k:Int))=k:=by omega
 rw [hdet]
 rcases Nat.lt_or_ge c (xs.length+1) with hroom | hroom
 ·
  have hgn:g1≠w.heap.size:=by omega
  obtain ⟨zc,hzc⟩:∃ zc:Array Value,∀ i z,Tryz.prog.info? 29=some i→i.zero=some z→z.cells=zc:=by
   obtain ⟨i0,z0,hi0,hz0,_⟩:=i_it
   refine ⟨z0.cells,fun i z h1 h2=>?_⟩
   have q1:i=i0:=Option.some.inj (h1.symm.trans hi0)
   rw [q1] at h2
   rw [Option.some.inj (h2.symm.trans hz0)]
  have hzcs:zc.size=10:=by
   obtain ⟨i0,z0,hi0,hz0,_,h,_⟩:=i_it
   rw [← hzc i0 z0 hi0 hz0]; exact h
  have hG1:xs.length+1≤grownCap w (xs.length+1) c 29:=grownCap_ge w _ _ _
  have hG2:grownCap w (xs.length+1) c 29≤maxLen:=grownCap_le_maxLen w (xs.length+1) c 29 (by unfold maxLen; omega)
  have hSn:∀ o,S w.heap.size o=none:=fun o=>by
   cases e:S w.heap.size o with
   | none=>rfl
   | some v=>have:=hA.lt e; omega
  rcases Nat.lt_or_ge k xs.length with hk2 | hk2
  ·obtain ⟨g,cur,fr,rfl,q1,q2,q3,q4⟩:=a5.resolve_left (fun h=>by omega)
   refine (ins_grow g 0 xs.length c k g1 0 1 c1 V Y w hk2 (by decide) a2 hroom (by omega) b1 hYl (fun j v h=>by rw [Nat.zero_add]; exact b5 g rfl j v h) hs1 b3 e3 zc hzc).mono ?_
   rintro e w' ⟨rfl,rfl⟩
   generalize hGc:grownCap w (xs.length+1) c 29=G at *
   obtain ⟨L0,hL0⟩:∃ L0:List Value,L0=V.take (k*10)++(Builtin.zeroCells zc (xs.length+1 - k)).toList++(Builtin.zeroCells zc (G - (xs.length+1))).toList:=⟨_,rfl⟩
   have hrow:(V.take (k*10)).toArray++Builtin.zeroCells zc (xs.length+1 - k)++Builtin.zeroCells zc (G - (xs.length+1))=L0.toArray:=by
    rw [hL0]; apply Array.ext'; simp
   have hL0l:L0.length=G*10:=by
    rw [hL0]
    simp only [List.length_append,List.length_take,Array.length_toList,zero_size,hzcs,b1]
    omega
   rw [hrow]
   have w1:(w.alloc (.cells L0.toArray 29)).drew.heap[w.heap.size]?=some (.cells L0.toArray 29 (0,0)):=heap_alloc_new w _
   have w2:=setCells_heap w.heap.size 29 (0,0) Y (k*10) _ L0 w1 (by omega)
   have w3:=setCells_heap w.heap.size 29 (0,0) (V.drop (k*10)) ((k+1)*10) (((w.alloc (.cells L0.toArray 29)).drew.setCells w.heap.size (k*10) Y).drew) (putL (k*10) Y L0) w2 (by rw [putL_len (by omega),List.length_drop,b1]; omega)
   obtain ⟨s1,s2,s3,s4⟩:=setCells_rest w.heap.size (V.drop (k*10)) ((k+1)*10) (((w.alloc (.cells L0.toArray 29)).drew.setCells w.heap.size (k*10) Y).drew)
   obtain ⟨s5,s6,s7,s8⟩:=setCells_rest w.heap.size Y (k*10) (w.alloc (.cells L0.toArray 29)).drew
   have s9:(w.alloc (.cells L0.toArray 29)).drew.heap.size=w.heap.size+1:=by
    show (w.alloc (.cells L0.toArray 29)).heap.size=_
    rw [World.size_alloc]
   exact ins_done hA a1 d1 H1 hnm2 hg1 hgn (.inr rfl) hSn (s1.trans s5) (s2.trans s6) (s3.trans s7) (by rw [s4]; show w.heap.size≤((w.alloc (.cells L0.toArray 29)).drew.setCells w.heap.size (k*10) Y).heap.size; rw [s8,s9]; omega)
    (fun b hb hne=>by
     rw [setCells_other _ _ _ _ b hne]
     show ((w.alloc (.cells L0.toArray 29)).drew.setCells w.heap.size (k*10) Y).heap[b]?=_
     rw [setCells_other _ _ _ _ b hne]
     exact heap_alloc_old w _ hb)
    w3 (by rw [putL_len (by rw [putL_len (by omega),List.length_drop,b1]; omega),putL_len (by omega)]; exact hL0l)
    (by
     rw [hzl,putL_take (by rw [putL_len (by omega),List.length_drop,b1]; omega) (by rw [List.length_drop,b1]; omega)]
     rw [show ((k+1)*10)=k*10+Y.length by omega,putL_take (by omega) rfl]
     have x:L0.take (k*10)=V.take (k*10):=by
      rw [hL0,List.append_assoc,List.take_append_of_le_length (l₁:=V.take (k*10)) (by rw [List.length_take,b1]; omega),List.take_of_length_le (l:=V.take (k*10)) (by rw [List.length_take]; omega)]
     rw [x])
    (by rw [hzl]; exact hG1) hG2 hz hct hon hzl
  ·have hkn:k=xs.length:=by omega
   subst hkn
   have hnl:A=none→xs.length=0:=fun hn=>by
    rcases a5 with ⟨_,h⟩ | ⟨g,cur,fr,h,_⟩
    ·omega
    ·rw [hn] at h; cases h
   refine (ins_end_grow A xs.length c g1 0 1 c1 V Y w (by decide) a2 hroom (by omega) b1 hYl hnl (fun a ha j v h=>?_) hs1 e3 zc hzc).mono ?_
   ·rcases a5 with ⟨h0,_⟩ | ⟨g,cur,fr,h0,_⟩
    ·rw [h0] at ha; cases ha
    ·rw [h0] at ha; injection ha with ha; subst ha
     rw [Addr.add_lit,Nat.zero_add]; exact b5 g h0 j v h
   ·rintro e w' ⟨rfl,rfl⟩
    generalize hGc:grownCap w (xs.length+1) c 29=G at *
    obtain ⟨L0,hL0⟩:∃ L0:List Value,L0=V++Y++(Builtin.zeroCells zc (G - (xs.length+1))).toList:=⟨_,rfl⟩
    have hrow:(V++Y).toArray++Builtin.zeroCells zc (G - (xs.length+1))=L0.toArray:=by
     rw [hL0]; apply Array.ext'; simp
    have hL0l:L0.length=G*10:=by
     rw [hL0]
     simp only [List.length_append,Array.length_toList,zero_size,hzcs,b1,hYl]
     omega
    rw [hrow]
    have w1:(w.drew.alloc (.cells L0.toArray 29)).heap[w.heap.size]?=some (.cells L0.toArray 29 (0,0)):=heap_alloc_new w.drew _
    exact ins_done hA a1 d1 H1 hnm2 hg1 hgn (.inr rfl) hSn rfl rfl rfl (by show w.heap.size≤(w.drew.alloc (.cells L0.toArray 29)).heap.size; rw [World.size_alloc]; exact Nat.le_succ _) (fun b hb hne=>heap_alloc_old w.drew _ hb) w1 hL0l
     (by
      rw [hzl,hL0,List.take_append_of_le_length (by rw [List.length_append,b1,hYl]; omega),List.take_of_length_le (by rw [List.length_append,b1,hYl]; omega)]
      have x1:V.take (xs.length*10)=V:=List.take_of_length_le (by omega)
      have x2:V.drop (xs.length*10)=[]:=List.drop_eq_nil_of_le (by omega)
      rw [x1,x2,List.append_nil])
     (by rw [hzl]; exact hG1) hG2 hz hct hon hzl
 ·
  obtain ⟨g,cur,fr,rfl,q1,q2,q3,q4⟩:=a5.resolve_left (fun h=>by omega)
  have hfr:=q2.lt hlt
  subst hfr
  rw [rowTy_lt hlt] at q1
  have hgw:g < w.heap.size:=(Array.getElem?_eq_some_iff.1 q1).1
  have hgn:g1≠g:=fun h=>hinj 1 0 _ _ g1 (by simp) (by simp) (by decide) d1 a1 rfl (by rw [h]; rfl)
  obtain ⟨_,_,_,hAe,p1,_,p3,p4⟩:=b4.resolve_left (fun h=>by omega)
  injection hAe with hAe
  injection hAe with hAe
  subst hAe
  rw [rowTy_lt hlt,q1] at p1
  injection p1 with p1
  injection p1 with p1
  subst p1
  obtain ⟨L,hL⟩:∃ L,L=cur.toList:=⟨_,rfl⟩
  have hcur:cur=L.toArray:=by rw [hL]
  rw [hcur] at q1
  rw [← hL] at p4
  have hLl:L.length=c*10:=by rw [hL,Array.length_toList]; exact q3
  have hcell:∀ j,j < (xs.length+1)*10→(w.cell? ⟨g,0+j,none⟩).isSome=true:=fun j hj=>by
   simp only [World.cell?,q1,Nat.zero_add]
   have:j < L.length:=by rw [hLl]; have:=Nat.mul_le_mul_right 10 hroom; omega
   simp [List.getElem?_eq_getElem this]
  have hfz:∀ j,w.frozen? ⟨g,j,none⟩=false:=fun j=>by simp [World.frozen?,q1]
  have hLn:(xs.length+1)*10≤L.length:=by rw [hLl]; exact Nat.mul_le_mul_right 10 hroom
  rcases Nat.lt_or_ge k xs.length with hk2 | hk2
  ·refine (ins_shift g 0 xs.length c k g1 0 1 c1 V Y w hk2 (by decide) hroom (by omega) hgn b1 hYl (fun j v h=>by rw [Nat.zero_add]; exact b5 g rfl j v h) hcell (fun j _=>hfz _) hs1 b3 e3 29 29 cur1.size L.length (by simp [World.shape?,f1]) (by simp [World.shape?,q1]) (by omega) (by simp [World.frozen?,f1]) (by simp [World.frozen?,f1])).mono ?_
   rintro e w' ⟨rfl,rfl⟩
   rw [Nat.zero_add,Nat.zero_add]
   have w2:=setCells_heap g 29 (0,0) (V.drop (k*10)) ((k+1)*10) w.drew L q1 (by rw [List.length_drop,b1]; omega)
   have w3:=setCells_heap g 29 (0,0) Y (k*10) _ _ w2 (by rw [putL_len (by rw [List.length_drop,b1]; omega)]; omega)
   obtain ⟨s1,s2,s3,s4⟩:=setCells_rest g Y (k*10) (w.drew.setCells g ((k+1)*10) (V.drop (k*10)))
   obtain ⟨s5,s6,s7,s8⟩:=setCells_rest g (V.drop (k*10)) ((k+1)*10) w.drew
   exact ins_done hA a1 d1 H1 hnm2 hg1 hgn (.inl ⟨rfl,hgw⟩) q4 (s1.trans s5) (s2.trans s6) (s3.trans s7) (by rw [s4,s8]; exact Nat.le_refl _)
    (fun b hb hne=>by rw [setCells_other _ _ _ _ b hne,setCells_other _ _ _ _ b hne]; rfl)
    w3 (by rw [putL_len (by rw [putL_len (by rw [List.length_drop,b1]; omega)]; omega),putL_len (by rw [List.length_drop,b1]; omega)]; exact hLl)
    (by
     rw [hzl]
     unfold putL
     have x1:(L.take ((k+1)*10)).length=(k+1)*10:=by rw [List.length_take]; omega
     have x3:V.take (k*10)=L.take (k*10):=by rw [← p4,List.take_take,Nat.min_eq_left (by omega)]
     have y1:(L.take ((k+1)*10)++V.drop (k*10)++L.drop ((k+1)*10+(V.drop (k*10)).length)).take (k*10)=V.take (k*10):=by
      rw [List.append_assoc,List.take_append_of_le_length (by omega),List.take_take,Nat.min_eq_left (by omega),x3]
     have y2:(L.take ((k+1)*10)++V.drop (k*10)++L.drop ((k+1)*10+(V.drop (k*10)).length)).drop (k*10+Y.length)=V.drop (k*10)++L.drop ((k+1)*10+(V.drop (k*10)).length):=by
      rw [List.append_assoc,List.drop_append,List.drop_of_length_le (by omega),x1,show k*10+Y.length - (k+1)*10=0 by omega]
      rfl
     rw [y1,y2,← List.append_assoc,List.take_append_of_le_length (by simp only [List.length_append,List.length_take,List.length_drop,b1,hYl]; omega),List.take_of_length_le (by simp only [List.length_append,List.length_take,List.length_drop,b1,hYl]; omega)])
    (by rw [hzl]; exact hroom) a3 hz hct hon hzl
  ·have hkn:k=xs.length:=by omega
   subst hkn
   refine (ins_end_room g 0 xs.length c g1 0 1 c1 Y w (by decide) hroom (by omega) hYl (fun j hj=>by rw [Nat.add_assoc]; exact hcell _ (by omega)) (fun j _=>hfz _) hs1 e3).mono ?_
   rintro e w' ⟨rfl,rfl⟩
   rw [Nat.zero_add]
   have w2:=setCells_heap g 29 (0,0) Y (xs.length*10) w L q1 (by omega)
   obtain ⟨s1,s2,s3,s4⟩:=setCells_rest g Y (xs.length*10) w
   exact ins_done hA a1 d1 H1 hnm2 hg1 hgn (.inl ⟨rfl,hgw⟩) q4 s1 s2 s3 (by rw [s4]; exact Nat.le_refl _)
    (fun b hb hne=>setCells_other _ _ _ _ b hne)
    w2 (by rw [putL_len (by omega)]; exact hLl)
    (by
     rw [hzl,putL_take (by omega) (by omega),p4]
     have x1:V.take (xs.length*10)=V:=List.take_of_length_le (by omega)
     have x2:V.drop (xs.length*10)=[]:=List.drop_eq_nil_of_le (by omega)
     rw [x1,x2,List.append_nil])
    (by rw [hzl]; exact hroom) a3 hz hct hon hzl
end Go.Proofs.YtgnnafneglannaaGreatDoor
namespace Go.Proofs.YtgnnafneglannaaGreatDoor
open Go
set_option linter.unusedVariables false
set_option linter.unusedSimpArgs false
def cloRd_s:Sp
 | [.sl 2 f xs]=>some (xs.length≤1000,.sl 2 false xs)
 | _=>none
def cloRd_T:Prop :=
 ∀ (gl:Glob) (f:Bool) (xs:List (List AV)),xs.length≤(1000:Nat)→True→(xs=[]→xs=[])∧bif decide ((0:Nat)=0∧(0:Nat)+xs.length≤(9223372036854775807:Nat)∧((0:Nat)+xs.length)*(16:Nat)≤(140737488355328:Nat)) then bif decide (([]++xs).length=([]++xs).length) then True∧[]++xs=xs else False else False
theorem cloRd_P:cloRd_T:=by
 unfold cloRd_T
 intro gl f xs hl _
 exact ⟨id,cd1 ⟨rfl,by omega,by omega⟩ (cd1 rfl ⟨trivial,rfl⟩)⟩
def cloRd_S:Prop:=∀ (gl:Glob) (f:Bool) (xs:List (List AV)),xs.length≤1000→fnK Tryz.prog { glob:=gl,spec:=lk [],specH:=lk [],nowf:=true,nq:=true } { nt:=8,drop:=drp [(1,8),(3,224)] } (fun _ _=>none) 6 Tryz.f80 [.sl 2 f xs] (.sl 2 false xs)
theorem cloRd_e:cloRd_T=cloRd_S:=by kernel_rfl
theorem cloRd_v:cloRd_S:=Eq.mp (cloRd_e ..) (cloRd_P)
theorem cloRd_ok (gl:Glob):SOK Tryz.prog gl 80 cloRd_s:=by
 refine ⟨fok Tryz.func80 (by kernel_rfl) (by kernel_rfl),?_⟩
 intro xs pre r h hp
 unfold cloRd_s at h
 split at h
 ·simp only [Option.some.injEq,Prod.mk.injEq] at h
  obtain ⟨h1,h2⟩:=h
  subst h1 h2
  exact fnK_sound tyNil (by exact specOK rfl rfl trivial trivial) (by kernel_rfl) Tryz.func80 rfl (cloRd_v gl _ _ hp)
 ·cases h
def icop_s:Sp
 | [.agg [.int .i64 k,.str n,.int .i64 t,.int .i64 f,.int .i64 a,.int .i64 b,.int .i64 c,.sl 2 h rd,.int .i64 co,.int .i64 ar]]=>some (rd.length≤1000,.agg [.int .i64 k,.str n,.int .i64 t,.int .i64 f,.int .i64 a,.int .i64 b,.int .i64 c,.sl 2 false rd,.int .i64 co,.int .i64 ar])
 | _=>none
def icop_T:Prop :=
  ∀ (gl:Glob) (k t f a b c co ar:Int) (n:ByteArray) (rd:List (List AV)) (h:Bool),rd.length≤(1000:Nat)→(IR9 k)∧n.size.le (9223372036854775807:Nat)∧(IR9 t)∧(IR9 f)∧((-9223372036854775808:Int)≤a∧a ≤
 (9223372036854775807:Int))∧(IR9 b)∧(IR9 c)∧True∧(IR9 co)∧(IR9 ar)∧True→rd.length≤(1000:Nat)∧k=k∧n=n∧t=t∧f=f∧a=a∧b=b∧c=c∧(True∧rd=rd)∧co=co∧ar=ar∧True
theorem icop_P:icop_T:=by
 unfold icop_T
 intro gl k t f a b c co ar n rd h hl _
 refine ⟨hl,?_⟩
 (repeat' (first | exact trivial | exact rfl | assumption | apply And.intro))
def icop_S:Prop:=∀ (gl:Glob) (k t f a b c co ar:Int) (n:ByteArray) (rd:List (List AV)) (h:Bool),rd.length≤1000→fnK Tryz.prog { glob:=gl,spec:=lk [(80,cloRd_s)],specH:=lk [],nowf:=true } { nt:=10,drop:=drp [(1,504),(2,512)] } (fun _ _=>none) 6 Tryz.f61 [.agg [.int .i64 k,.str n,.int .i64 t,.int .i64 f,.int .i64 a,.int .i64 b,.int .i64 c,.sl 2 h rd,.int .i64 co,.int .i64 ar]] (.agg [.int .i64 k,.str n,.int .i64 t,.int .i64 f,.int .i64 a,.int .i64 b,.int .i64 c,.sl 2 false rd,.int .i64 co,.int .i64 ar])
theorem icop_e:icop_T=icop_S:=by kernel_rfl
theorem icop_v:icop_S:=Eq.mp (icop_e ..) (icop_P)
theorem icop_ok (gl:Glob):SOK Tryz.prog gl 61 icop_s:=by
 refine ⟨fok Tryz.func61 (by kernel_rfl) (by kernel_rfl),?_⟩
 intro xs pre r h hp
 unfold icop_s at h
 split at h
 ·simp only [Option.some.injEq,Prod.mk.injEq] at h
  obtain ⟨h1,h2⟩:=h
  subst h1 h2
  exact fnK_sound tyNil (by exact specOK rfl rfl ⟨(cloRd_ok gl),trivial⟩ trivial) (by kernel_rfl) Tryz.func61 rfl (icop_v gl _ _ _ _ _ _ _ _ _ _ _ hp)
 ·cases h
def cloIt_s:SpH
 | [.sl 10 f xs],[]=>some (xs.length≤1000,.rw 0 10 xs.length,[.row 29 10 xs])
 | _,_=>none
def cloIt_T:Prop :=
 ∀ (gl:Glob) (f:Bool) (xs:List (List AV)),xs.length≤(1000:Nat)→True→(xs=[]→(0:Nat)=xs.length∧[]=xs∧True)∧bif decide ((0:Nat)=0∧(0:Nat)+xs.length≤(9223372036854775807:Nat)∧((0:Nat)+xs.length)*(104:Nat)≤(140737488355328:Nat)) then ([]++xs).length=xs.length∧[]++xs=xs∧True else False
theorem cloIt_P:cloIt_T:=by
 unfold cloIt_T
 intro gl f xs hl
 intros
 exact ⟨fun e=>by subst e; exact ⟨rfl,rfl,trivial⟩,cd1 ⟨rfl,by omega,by omega⟩ ⟨rfl,rfl,trivial⟩⟩
def cloIt_S:Prop:=∀ (gl:Glob) (f:Bool) (xs:List (List AV)),xs.length≤1000→fnH Tryz.prog { glob:=gl,spec:=lk [],specH:=lk [],nowf:=true,nq:=true } { nt:=8,drop:=drp [(1,8),(3,224)],fr:=1000,kp:=[],emp:=fun id=>cond (Nat.beq id 900001) [(2,1500,29,10)] [],own:=true } (fun _ _=>none) 6 Tryz.f62 [.sl 10 f xs] [] (.rw 0 10 xs.length) [.row 29 10 xs]
theorem cloIt_e:cloIt_T=cloIt_S:=by kernel_rfl
theorem cloIt_v:cloIt_S:=Eq.mp (cloIt_e ..) (cloIt_P)
theorem cloIt_ok (gl:Glob):HOK Tryz.prog gl 62 cloIt_s:=by
 refine ⟨fok Tryz.func62 (by kernel_rfl) (by kernel_rfl),?_⟩
 intro xs bs pre r bs2 h hp
 unfold cloIt_s at h
 split at h
 ·simp only [Option.some.injEq,Prod.mk.injEq] at h
  obtain ⟨h1,h2,h3⟩:=h
  subst h1 h2 h3
  exact fnH_sound tyNil (by exact specOK rfl rfl trivial trivial) (by kernel_rfl) Tryz.func62 (cloIt_v gl _ _ hp)
 ·cases h
structure ItsL (l:LLA):Prop where
 fr:∀ i,i < l.length→(itRd (l.getD i [])).length≤1000
 fl:l.length≤900
theorem set_self {l:LLA} {i:Nat} {r:List AV} (h:i < l.length) (hr:l.getD i []=r):l.set i r=l:=by
 have:l[i]=r:=by rw [← hr,List.getD_eq_getElem?_getD,List.getElem?_eq_getElem h]; rfl
 rw [← this]; exact List.set_getElem_self h
structure AlI (l:LLA) (i:Int):Prop where
 flo:0≤i
 fhi:i≤l.length
def al3 (k:Nat) (l:LLA):LInv:=⟨Int,fun i=>⟨[(3,.rw k 10 l.length),(8,.int .i64 l.length),(9,.int .i64 i)],[(k,.row 29 10 l)]⟩,AlI l,fun i=>(l.length - i).toNat,none⟩
def iall_s:SpH
 | [.sl 10 f l],[]=>some (ItsP l∧ItsL l,.rw 0 10 l.length,[.row 29 10 l])
 | _,_=>none
def iall_T:Prop :=
  ∀ (gl:Glob) (f:Bool) (l:List (List AV)),ItsP l∧ItsL l→True→l.length≤(1000:Nat)∧(∃ x,AlI l x∧(l.length=l.length∧(↑l.length:Int)=(↑l.length:Int)∧(0:Int)=x∧True)∧l=l∧True)∧∀ (x:Int),AlI l x→bif decide (x < (↑l.length:Int)) then bif decide (0≤x∧x < (↑l.length:Int)) then bif decide (l.length=l.length∧x.toNat < l.length) then ∃ n s n_1 n_2 n_3 n_4 n_5 xs n_6 n_7,List.take [AV.int .i64
 n,.str s,.int .i64 n_1,.int .i64 n_2,.int .i64 n_3,.int .i64 n_4,.int .i64 n_5,.sl (2:Nat) false xs,.int .i64 n_6,.int .i64 n_7].length (List.drop (0:Nat) (l.getD x.toNat []))=[AV.int .i64 n,.str s,.int .i64 n_1,.int .i64 n_2,.int .i64 n_3,.int .i64 n_4,.int .i64 n_5,.sl (2:Nat) false xs,.int .i64 n_6,.int .i64 n_7]∧xs.length≤(1000:Nat)∧bif decide (0≤x∧x < (↑l.length:Int)) then bif decide
 (l.length=l.length∧x.toNat < l.length) then bif decide (rng .i64 (x+(1:Int))) then ∃ y,AlI l y∧(al3 (1006:Nat) l).m y < (al3 (1006:Nat) l).m x∧(l.length=l.length∧(↑l.length:Int)=(↑l.length:Int)∧x+(1:Int)=y∧True)∧setEl l x.toNat (0:Nat) [AV.int .i64 n,.str s,.int .i64 n_1,.int .i64 n_2,.int .i64 n_3,.int .i64 n_4,.int .i64 n_5,.sl (2:Nat) false xs,.int .i64 n_6,.int .i64 n_7]=l∧True else False
 else False else False else False else False else l.length=l.length∧l=l∧True
theorem iall_P:iall_T:=by
 unfold iall_T
 intro gl f l ⟨hp,hl⟩ _
 have ln:=hl.fl
 refine ⟨by omega,⟨0,⟨by decide,by omega⟩,by (repeat' (first | exact trivial | exact rfl | assumption | apply And.intro))⟩,?_⟩
 rintro i ⟨i0,i1⟩
 refine csx (fun hi=>cd1 (by omega) (cd1 ⟨rfl,by omega⟩ ?_)) (fun _=>by (repeat' (first | exact trivial | exact rfl | assumption | apply And.intro)))
 obtain ⟨k,nm,t,a1,a,b,c,rd,co,ar,hr,hrd⟩:=hp.fr i.toNat (by omega)
 have hc:=hl.fr i.toNat (by omega)
 rw [hr] at hc
 have e:setEl l i.toNat 0 (itA k nm t a1 a b c rd co ar)=l:=by
  unfold setEl
  rw [hr]
  exact set_self (by omega) hr
 refine ⟨k,nm,t,a1,a,b,c,rd,co,ar,by rw [hr]; rfl,hc,cd1 (by omega) (cd1 ⟨rfl,by omega⟩ (cdI (by omega) ⟨i+1,⟨by omega,by omega⟩,by simp only [al3]; omega,by (repeat' (first | exact trivial | exact rfl | assumption | apply And.intro)),e,trivial⟩))⟩
def iall_S:Prop:=∀ (gl:Glob) (f:Bool) (l:List (List AV)),ItsP l∧ItsL l→fnH Tryz.prog { glob:=gl,spec:=lk [(61,icop_s)],specH:=lk [(62,cloIt_s)],shape:=[17],slz:=[(17,[2])],nowf:=true } { nt:=22,drop:=drp [(1,96),(2,128),(4,2048),(5,1044480),(6,1048576),(7,2097152)],fr:=1000,kp:=[],own:=true } (invs [(3,al3 1006 l)]) 6 Tryz.f39 [.sl 10 f l] [] (.rw 0 10 l.length) [.row 29 10 l]
theorem iall_e:iall_T=iall_S:=by kernel_rfl
theorem iall_v:iall_S:=Eq.mp (iall_e ..) (iall_P)
theorem iall_ok (gl:Glob):HOK Tryz.prog gl 39 iall_s:=by
 refine ⟨fok Tryz.func39 (by kernel_rfl) (by kernel_rfl),?_⟩
 intro xs bs pre r bs2 h hp
 unfold iall_s at h
 split at h
 ·simp only [Option.some.injEq,Prod.mk.injEq] at h
  obtain ⟨h1,h2,h3⟩:=h
  subst h1 h2 h3
  exact fnH_sound tyNil (by exact specOK rfl rfl ⟨(icop_ok gl),trivial⟩ ⟨(cloIt_ok gl),trivial⟩) (by kernel_rfl) Tryz.func39 (iall_v gl _ _ hp)
 ·cases h
structure BsI (l:LLA) (x:List AV) (p:Int × Int):Prop where
 flo:0≤p.1
 fij:p.1≤p.2
 fhi:p.2≤l.length
 fl:∀ k:Nat,(k:Int) < p.1→itC (l.getD k []) x < 0
 fr:∀ k:Nat,p.2≤k→k < l.length→0≤itC (l.getD k []) x
structure BsP (l:LLA) (n:Nat) (rd:LLA):Prop where
 fp:ItsP l
 fs:Srt l
 fl:l.length≤900
 fn:n=l.length
 fr:RdsP rd
def bs3 (l:LLA) (cf:Nat) (k t f a b c co ar:Int) (n:ByteArray) (rd:LLA) (h:Bool):LInv:=⟨Int × Int,fun p=>⟨[(0,.rw 0 10 l.length),(2,.fn cf []),(4,.ptr 1004 0),(6,.int .i64 0),(7,.bool false),(8,.int .i64 l.length),(9,.int .i64 p.1),(10,.int .i64 p.2)],[(0,.row 29 10 l),(1004,.cells [.int .i64 k,.str n,.int .i64 t,.int .i64 f,.int .i64 a,.int .i64 b,.int .i64 c,.sl 2 h rd,.int .i64 co,.int .i64 ar])]⟩,BsI l (itA k n t f a b c rd co ar),fun p=>(p.2 - p.1).toNat,none⟩
def bsf_s (posI:LLA→List AV→Nat) (hasI:LLA→List AV→Bool) (itC:List AV→List AV→Int):SpH
 | [.rw 0 10 m,.agg [.int .i64 k,.str n,.int .i64 t,.int .i64 f,.int .i64 a,.int .i64 b,.int .i64 c,.sl 2 h rd,.int .i64 co,.int .i64 ar],.fn 35 []],[.row 29 10 l]=>some (BsP l m rd,.tup [.int .i64 (posI l (itA k n t f a b c rd co ar):Nat),.bool (hasI l (itA k n t f a b c rd co ar))],[.row 29 10 l])
 | _,_=>none
def bsf_T (posI:LLA→List AV→Nat) (hasI:LLA→List AV→Bool) (itC:List AV→List AV→Int) (rdC:LLA→LLA→Int) (cmpI:Int→Int→Int) (orL:List (List AV)→Int) (cmpS:ByteArray→ByteArray→Int) (suC:Int→ByteArray→Int→Int→ByteArray→Int→Int):Prop :=
  ∀ (gl:Glob) (l:List (List AV)) (m:Nat) (k t f a b c co ar:Int) (n:ByteArray) (rd:List (List AV)) (h:Bool),BsP l m rd→True→(IR9 k)∧n.size.le (9223372036854775807:Nat)∧(IR9 t)∧(IR9 f)∧((-9223372036854775808:Int)≤a∧a ≤
 (9223372036854775807:Int))∧(IR9 b)∧(IR9 c)∧True∧(IR9 co)∧(IR9 ar)∧True→True→(∃ x,BsI l (itA k n t f a b c rd co ar)
 x∧(m=l.length∧True∧(0:Nat)=0∧(0:Int)=0∧false=false∧(↑m:Int)=(↑l.length:Int)∧(0:Int)=x.fst∧(↑m:Int)=x.snd∧True)∧l=l∧(k=k∧n=n∧t=t∧f=f∧a=a∧b=b∧c=c∧((bif h then h=true else True)∧rd=rd)∧co=co∧ar=ar∧True)∧True)∧∀ (x:Int × Int),BsI l (itA k n t f a b c rd co ar) x→bif decide (x.fst < x.snd) then bif decide (rng .i64 (x.fst+x.snd)) then bif decide (0≤IntKind.i64.wrap (IntKind.u64.wrap (x.fst +
 x.snd) / (2:Int))∧IntKind.i64.wrap (IntKind.u64.wrap (x.fst+x.snd) / (2:Int)) < (↑l.length:Int)) then bif decide (l.length=l.length∧(IntKind.i64.wrap (IntKind.u64.wrap (x.fst+x.snd) / (2:Int))).toNat < l.length) then ∃ n_1 s n_2 n_3 n_4 n_5 n_6 xs n_7 n_8,List.take [AV.int .i64 n_1,.str s,.int .i64 n_2,.int .i64 n_3,.int .i64 n_4,.int .i64 n_5,.int .i64 n_6,.sl (2:Nat) false xs,.int .i64
 n_7,.int .i64 n_8].length (List.drop (0:Nat) (l.getD (IntKind.i64.wrap (IntKind.u64.wrap (x.fst+x.snd) / (2:Int))).toNat []))=[AV.int .i64 n_1,.str s,.int .i64 n_2,.int .i64 n_3,.int .i64 n_4,.int .i64 n_5,.int .i64 n_6,.sl (2:Nat) false xs,.int .i64 n_7,.int .i64 n_8]∧(RdsP xs∧RdsP rd)∧bif decide (itC (itA n_1 s n_2 n_3 n_4 n_5 n_6 xs n_7 n_8) (itA k n t f a b c rd co ar) < (0:Int)) then bif
 decide (rng .i64 (IntKind.i64.wrap (IntKind.u64.wrap (x.fst+x.snd) / (2:Int))+(1:Int))) then ∃ y,BsI l (itA k n t f a b c rd co ar) y∧(bs3 l (52:Nat) k t f a b c co ar n rd h).m y < (bs3 l (52:Nat) k t f a b c co ar n rd h).m x∧(l.length=l.length∧True∧(0:Nat)=0∧(0:Int)=0∧false=false∧(↑l.length:Int)=(↑l.length:Int)∧IntKind.i64.wrap (IntKind.u64.wrap (x.fst+x.snd) / (2:Int)) +
 (1:Int)=y.fst∧x.snd=y.snd∧True)∧l=l∧(k=k∧n=n∧t=t∧f=f∧a=a∧b=b∧c=c∧((bif h then h=true else True)∧rd=rd)∧co=co∧ar=ar∧True)∧True else False else ∃ y,BsI l (itA k n t f a b c rd co ar) y∧(bs3 l (52:Nat) k t f a b c co ar n rd h).m y < (bs3 l (52:Nat) k t f a b c co ar n rd h).m x∧(l.length=l.length∧True∧(0:Nat)=0∧(0:Int)=0∧false=false∧(↑l.length:Int)=(↑l.length:Int)∧x.fst=y.fst∧IntKind.i64.wrap
 (IntKind.u64.wrap (x.fst+x.snd) / (2:Int))=y.snd∧True)∧l=l∧(k=k∧n=n∧t=t∧f=f∧a=a∧b=b∧c=c∧((bif h then h=true else True)∧rd=rd)∧co=co∧ar=ar∧True)∧True else False else False else False else bif decide (x.fst < (↑l.length:Int)) then bif decide (0≤x.fst∧x.fst < (↑l.length:Int)) then bif decide (l.length=l.length∧x.fst.toNat < l.length) then ∃ n_1 s n_2 n_3 n_4 n_5 n_6 xs n_7 n_8,List.take
 [AV.int .i64 n_1,.str s,.int .i64 n_2,.int .i64 n_3,.int .i64 n_4,.int .i64 n_5,.int .i64 n_6,.sl (2:Nat) false xs,.int .i64 n_7,.int .i64 n_8].length (List.drop (0:Nat) (l.getD x.fst.toNat []))=[AV.int .i64 n_1,.str s,.int .i64 n_2,.int .i64 n_3,.int .i64 n_4,.int .i64 n_5,.int .i64 n_6,.sl (2:Nat) false xs,.int .i64 n_7,.int .i64 n_8]∧(RdsP xs∧RdsP rd)∧(x.fst=(↑(posI l (itA k n t f a b c rd co
 ar)):Int)∧decide (itC (itA n_1 s n_2 n_3 n_4 n_5 n_6 xs n_7 n_8) (itA k n t f a b c rd co ar)=(0:Int))=hasI l (itA k n t f a b c rd co ar)∧True)∧l=l∧True else False else False else (x.fst=(↑(posI l (itA k n t f a b c rd co ar)):Int)∧false=hasI l (itA k n t f a b c rd co ar)∧True)∧l=l∧True
theorem bsf_P:bsf_T posI hasI itC rdC cmpI orL cmpS suC:=by
 unfold bsf_T
 intro gl l m k t f a b c co ar n rd h hp _ _ _
 have hm:=hp.fn
 subst hm
 have hs:=hp.fs
 have hl:=hp.fl
 have hrd:=hp.fr
 have bf:cond h (h=true) True:=by cases h <;> trivial
 generalize hx:itA k n t f a b c rd co ar=x
 refine ⟨⟨(0,(l.length:Int)),⟨by simp,by simp,by simp,fun j hj=>by simp only at hj; omega,fun j hj hj2=>by simp only at hj; omega⟩,by (repeat' (first | exact trivial | exact rfl | assumption | apply And.intro))⟩,?_⟩
 rintro ⟨i,j⟩ ⟨i0,ij,j1,hlo,hhi⟩
 simp only at i0 ij j1 hlo hhi
 dsimp only
 refine csx (fun hij=>cdI (by omega) ?_) (fun hij=>?_)
 ·have e1:IntKind.u64.wrap (i+j)=i+j:=wrap_eq (by show _∧_; omega)
  have e2:IntKind.i64.wrap ((i+j) / 2)=(i+j) / 2:=wrap_eq (by show _∧_; omega)
  rw [e1,e2]
  obtain ⟨M,hM⟩:∃ M,M=(i+j) / 2:=⟨_,rfl⟩
  rw [← hM]
  have m1:i≤M∧M < j:=by omega
  refine cd1 (by omega) (cd1 ⟨rfl,by omega⟩ ?_)
  obtain ⟨k2,nm2,t2,a12,a2,b2,c2,rd2,co2,ar2,hr,hrd2⟩:=hp.fp.fr M.toNat (by omega)
  refine ⟨k2,nm2,t2,a12,a2,b2,c2,rd2,co2,ar2,by rw [hr]; rfl,⟨hrd2,hrd⟩,?_⟩
  rw [← hr]
  refine csx (fun q=>cdI (by omega) ⟨(M+1,j),⟨by simp only; omega,by simp only; omega,j1,fun w hw=>?_,hhi⟩,by simp only [bs3]; omega,by (repeat' (first | exact trivial | exact rfl | assumption | apply And.intro))⟩) (fun q=>⟨(i,M),⟨i0,by simp only; omega,by simp only; omega,hlo,fun w hw hw2=>?_⟩,by simp only [bs3]; omega,by (repeat' (first | exact trivial | exact rfl | assumption | apply And.intro))⟩)
  ·simp only at hw
   rcases Nat.lt_or_ge w M.toNat with z | z
   ·exact itC_tr (srt_get hs z (by omega)) q
   ·rw [show w=M.toNat by omega]; exact q
  ·simp only at hw
   rcases Nat.eq_or_lt_of_le (show M.toNat≤w by omega) with z | z
   ·rw [← z]; omega
   ·apply Int.not_lt.1
    intro z2
    exact q (itC_tr (srt_get hs z hw2) z2)
 ·have e:i=j:=by omega
  subst e
  have hpos:posI l x=i.toNat:=pos_uniq (by omega) (fun w hw=>hlo w (by omega)) (fun hw=>hhi _ (by omega) hw)
  have hpi:i=((posI l x:Nat):Int):=by omega
  refine csx (fun hi=>cd1 (by omega) (cd1 ⟨rfl,by omega⟩ ?_)) (fun hi=>⟨⟨hpi,?_,trivial⟩,by (repeat' (first | exact trivial | exact rfl | assumption | apply And.intro))⟩)
  ·obtain ⟨k2,nm2,t2,a12,a2,b2,c2,rd2,co2,ar2,hr,hrd2⟩:=hp.fp.fr i.toNat (by omega)
   refine ⟨k2,nm2,t2,a12,a2,b2,c2,rd2,co2,ar2,by rw [hr]; rfl,⟨hrd2,hrd⟩,⟨hpi,?_,trivial⟩,by (repeat' (first | exact trivial | exact rfl | assumption | apply And.intro))⟩
   rw [← hr,Bool.eq_iff_iff,decide_eq_true_iff,has_iff hs,hpos]
   exact ⟨fun z=>⟨by omega,z⟩,fun z=>z.2⟩
  ·cases hh:hasI l x with
   | false=>rfl
   | true =>
    have:=((has_iff hs).1 hh).1
    omega
def bsf_S (posI:LLA→List AV→Nat) (hasI:LLA→List AV→Bool) (itC:List AV→List AV→Int) (rdC:LLA→LLA→Int) (cmpI:Int→Int→Int) (orL:List (List AV)→Int) (cmpS:ByteArray→ByteArray→Int) (suC:Int→ByteArray→Int→Int→ByteArray→Int→Int):Prop:=∀ (gl:Glob) (l:List (List AV)) (m:Nat) (k t f a b c co ar:Int) (n:ByteArray) (rd:List (List AV)) (h:Bool),BsP l m rd→fnH Tryz.prog { glob:=gl,spec:=lk [(35,(icmp_s rdC cmpI orL cmpS suC itC))],specH:=lk [],shape:=[28,44],slz:=[(28,[2]),(44,[2])],nowf:=true } { nt:=49,drop:=drp [(1,12288),(2,16384),(3,98304),(4,16515072),(5,2130706432),(6,12884901888),(7,17179869184),(8,562915593682944)],fr:=1000,kp:=[0] } (invs [(3,bs3 l 35 k t f a b c co ar n rd h)]) 6 Tryz.f59 [.rw 0 10 m,.agg [.int .i64 k,.str n,.int .i64 t,.int .i64 f,.int .i64 a,.int .i64 b,.int .i64 c,.sl 2 h rd,.int .i64 co,.int .i64 ar],.fn 35 []] [.row 29 10 l] (.tup [.int .i64 (posI l (itA k n t f a b c rd co ar):Nat),.bool (hasI l (itA k n t f a b c rd co ar))]) [.row 29 10 l]
theorem bsf_e (posI:LLA→List AV→Nat) (hasI:LLA→List AV→Bool) (itC:List AV→List AV→Int) (rdC:LLA→LLA→Int) (cmpI:Int→Int→Int) (orL:List (List AV)→Int) (cmpS:ByteArray→ByteArray→Int) (suC:Int→ByteArray→Int→Int→ByteArray→Int→Int):bsf_T posI hasI itC rdC cmpI orL cmpS suC=bsf_S posI hasI itC rdC cmpI orL cmpS suC:=by kernel_rfl
theorem bsf_v:bsf_S posI hasI itC rdC cmpI orL cmpS suC:=Eq.mp (bsf_e ..) (bsf_P)
theorem bsf_ok (gl:Glob):HOK Tryz.prog gl 59 (bsf_s posI hasI itC):=by
 refine ⟨fok Tryz.func59 (by kernel_rfl) (by kernel_rfl),?_⟩
 intro xs bs pre r bs2 h hp
 unfold bsf_s at h
 split at h
 ·simp only [Option.some.injEq,Prod.mk.injEq] at h
  obtain ⟨h1,h2,h3⟩:=h
  subst h1 h2 h3
  exact fnH_sound tyNil (by exact specOK rfl rfl ⟨(icmp_ok gl),trivial⟩ trivial) (by kernel_rfl) Tryz.func59 (bsf_v gl _ _ _ _ _ _ _ _ _ _ _ _ _ hp)
 ·cases h
end Go.Proofs.YtgnnafneglannaaGreatDoor
namespace Go.Proofs.YtgnnafneglannaaGreatDoor
open Go
set_option linter.unusedVariables false
set_option linter.unusedSimpArgs false
theorem alt_K {b:Bool} {P1 P2 K1 K2 G:Prop} (h1:P1→K1→G) (h2:P2→K2→G) (hc:cond b P1 P2) (hk:cond b K1 K2):G:=by
 cases b
 ·exact h2 hc hk
 ·exact h1 hc hk
structure ItG (r:List AV):Prop where
 fr:∃ (k:Int) (nm:ByteArray) (t f a b c:Int) (rd:LLA) (co ar:Int),r=itA k nm t f a b c rd co ar∧RdsP rd∧rd.length≤1000
structure GdL (l:LLA):Prop where
 fg:∀ r ∈ l,ItG r
 fl:l.length≤900
theorem GdL.p {l:LLA} (h:GdL l):ItsP l:=⟨fun i hi=>by
 have:=(h.fg _ (List.getElem_mem hi)).fr
 rw [← getD_lt hi] at this
 obtain ⟨k,nm,t,f,a,b,c,rd,co,ar,h1,h2,_⟩:=this
 exact ⟨k,nm,t,f,a,b,c,rd,co,ar,h1,h2⟩,by have:=h.fl; omega⟩
theorem GdL.l {l:LLA} (h:GdL l):ItsL l:=⟨fun i hi=>by
 have:=(h.fg _ (List.getElem_mem hi)).fr
 rw [← getD_lt hi] at this
 obtain ⟨k,nm,t,f,a,b,c,rd,co,ar,h1,_,h3⟩:=this
 rw [h1]; exact h3,h.fl⟩
theorem adj_srt {l:LLA} (h:adjB l=true):Srt l:=by
 unfold adjB at h
 have h:=of_decide_eq_true h
 have key:∀ (d i:Nat),i+d+1 < l.length→itC (l.getD i []) (l.getD (i+d+1) []) < 0:=by
  intro d
  induction d with
  | zero =>
   intro i hi
   rcases h (i+0+1) (by omega) with z | z
   ·omega
   ·exact z
  | succ d ih =>
   intro i hi
   rcases h (i+(d+1)+1) hi with z | z
   ·omega
   ·exact itC_tr (ih i (by omega)) z
 refine List.pairwise_iff_getElem.2 fun i j hi hj hij=>?_
 have:=key (j - i - 1) i (by omega)
 rw [show i+(j - i - 1)+1=j by omega,getD_lt hi,getD_lt hj] at this
 exact this
theorem inV_ok {l:LLA} (h:inV l=0):l.length≤150∧firE l=0∧Srt l:=by
 unfold inV at h
 split at h
 ·cases h
 ·split at h
  ·next e =>
   split at h
   ·next e2=>exact ⟨by omega,e,adj_srt e2⟩
   ·cases h
  ·next e=>exact absurd h e
def puE (l:LLA) (x:List AV):Int:=if ckR x=0 then (if hasI l x then 0 else if 150≤l.length then 2 else 0) else ckR x
def puN (l:LLA) (x:List AV):Int:=if hasI l x then 0 else 1
structure PuP (l:LLA) (n:Nat) (rd:LLA):Prop where
 fg:GdL l
 fs:Srt l
 fn:n=l.length
 fr:RdsP rd
 fq:rd.length≤1000
def iput_s (posI:LLA→List AV→Nat) (hasI:LLA→List AV→Bool) (itE:Int→ByteArray→Int→Int→Int→Int→Int→LLA→Int→Int→Int) (puE:LLA→List AV→Int) (puN:LLA→List AV→Int) (addI:LLA→List AV→LLA):SpQ
 | [.rw 0 10 m,.agg [.int .i64 k,.str n,.int .i64 t,.int .i64 f,.int .i64 a,.int .i64 b,.int .i64 c,.sl 2 h rd,.int .i64 co,.int .i64 ar]],[.row 29 10 l]=>some (fun K=>(PuP l m rd)∧(cond (decide (puE l (itA k n t f a b c rd co ar)=0)) (K (.tup [.rw 0 10 (addI l (itA k n t f a b c rd co ar)).length,.int .i64 (puN l (itA k n t f a b c rd co ar)),.int .i64 0]) [.row 29 10 (addI l (itA k n t f a b c rd co ar))]) (K (.tup [.nils,.int .i64 0,.int .i64 (puE l (itA k n t f a b c rd co ar))]) [.row 29 10 l])))
 | _,_=>none
def iput_T (posI:LLA→List AV→Nat) (hasI:LLA→List AV→Bool) (itE:Int→ByteArray→Int→Int→Int→Int→Int→LLA→Int→Int→Int) (puE:LLA→List AV→Int) (puN:LLA→List AV→Int) (addI:LLA→List AV→LLA) (gpE:Int→ByteArray→Int→Int→Int→Int→Int→LLA→Int) (itC:List AV→List AV→Int):Prop :=
  ∀ (l:List (List AV)) (m:Nat) (k t f a b c co ar:Int) (n:ByteArray) (rd:List (List AV)) (h:Bool),PuP l m rd→RdsP rd∧bif decide ¬itE k n t f a b c rd co ar=(0:Int) then bif decide (puE l (itA k n t f a b c rd co ar)=(0:Int)) then (False∧(0:Int)=puN l (itA k n t f a b c rd co ar)∧itE k n t f a b c rd co ar=(0:Int)∧True)∧l=addI l (itA k n t f a b c rd co ar)∧True else (True∧(0:Int)=0∧itE k n t
 f a b c rd co ar=puE l (itA k n t f a b c rd co ar)∧True)∧l=l∧True else BsP l m rd∧bif hasI l (itA k n t f a b c rd co ar) then bif decide (puE l (itA k n t f a b c rd co ar)=(0:Int)) then (m=List.length (addI l (itA k n t f a b c rd co ar))∧(0:Int)=puN l (itA k n t f a b c rd co ar)∧(0:Int)=0∧True)∧l=addI l (itA k n t f a b c rd co ar)∧True else (False∧(0:Int)=0∧(0:Int)=puE l (itA k n t f a b c rd
 co ar)∧True)∧l=l∧True else bif decide ((150:Int)≤(↑m:Int)) then bif decide (puE l (itA k n t f a b c rd co ar)=(0:Int)) then (False∧(0:Int)=puN l (itA k n t f a b c rd co ar)∧(2:Int)=0∧True)∧l=addI l (itA k n t f a b c rd co ar)∧True else (True∧(0:Int)=0∧(2:Int)=puE l (itA k n t f a b c rd co ar)∧True)∧l=l∧True else rd.length≤(1000:Nat)∧(m=l.length∧(1:Nat)=1∧[[AV.int .i64 k,.str n,.int .i64
 t,.int .i64 f,.int .i64 a,.int .i64 b,.int .i64 c,.sl (2:Nat) false rd,.int .i64 co,.int .i64 ar]].length=(1:Nat)∧(0:Int)≤(↑(posI l (itA k n t f a b c rd co ar)):Int)∧(↑(posI l (itA k n t f a b c rd co ar)):Int)≤(↑m:Int)∧m≤(900:Nat))∧bif decide (puE l (itA k n t f a b c rd co ar)=(0:Int)) then (m+(1:Nat)=List.length (addI l (itA k n t f a b c rd co ar))∧(1:Int)=puN l (itA k n t f a b c rd
 co ar)∧(0:Int)=0∧True)∧List.take (↑(posI l (itA k n t f a b c rd co ar)):Int).toNat l++[[AV.int .i64 k,.str n,.int .i64 t,.int .i64 f,.int .i64 a,.int .i64 b,.int .i64 c,.sl (2:Nat) false rd,.int .i64 co,.int .i64 ar]]++List.drop (↑(posI l (itA k n t f a b c rd co ar)):Int).toNat l=addI l (itA k n t f a b c rd co ar)∧True else (False∧(1:Int)=0∧(0:Int)=puE l (itA k n t f a b c rd co
 ar)∧True)∧List.take (↑(posI l (itA k n t f a b c rd co ar)):Int).toNat l++[[AV.int .i64 k,.str n,.int .i64 t,.int .i64 f,.int .i64 a,.int .i64 b,.int .i64 c,.sl (2:Nat) false rd,.int .i64 co,.int .i64 ar]]++List.drop (↑(posI l (itA k n t f a b c rd co ar)):Int).toNat l=l∧True
theorem iput_P:iput_T posI hasI itE puE puN addI gpE itC:=by
 unfold iput_T
 intro l m k t f a b c co ar n rd h hp
 have hm:=hp.fn
 subst hm
 have hg:=hp.fg
 have hl:=hg.fl
 have hc:ckR (itA k n t f a b c rd co ar)=itE k n t f a b c rd co ar:=rfl
 have hxr:[[.int .i64 k,.str n,.int .i64 t,.int .i64 f,.int .i64 a,.int .i64 b,.int .i64 c,.sl 2 false rd,.int .i64 co,.int .i64 ar]]=[itA k n t f a b c rd co ar]:=rfl
 rw [hxr]
 unfold puE
 rw [hc]
 generalize itA k n t f a b c rd co ar=x
 refine ⟨hp.fr,csx (fun q=>?_) (fun q=>⟨⟨hg.p,hp.fs,hl,rfl,hp.fr⟩,csplit (fun hh=>?_) (fun hh=>csx (fun q2=>?_) (fun q2=>?_))⟩)⟩
 ·rw [if_neg q]
  exact cd0 q ⟨⟨trivial,rfl,rfl,trivial⟩,rfl,trivial⟩
 ·rw [if_pos (Decidable.not_not.1 q),if_pos hh]
  refine cd1 rfl ⟨⟨?_,?_,rfl,trivial⟩,?_,trivial⟩
  ·unfold addI; rw [if_pos hh]
  ·unfold puN; rw [if_pos hh]
  ·unfold addI; rw [if_pos hh]
 ·have hh2:¬ hasI l x=true:=by rw [hh]; simp
  rw [if_pos (Decidable.not_not.1 q),if_neg hh2,if_pos (by omega)]
  exact cd0 (by decide) ⟨⟨trivial,rfl,rfl,trivial⟩,rfl,trivial⟩
 ·have hh2:¬ hasI l x=true:=by rw [hh]; simp
  have hpl:=pos_le l x
  rw [if_pos (Decidable.not_not.1 q),if_neg hh2,if_neg (by omega)]
  refine ⟨hp.fq,⟨rfl,rfl,rfl,by omega,by omega,by omega⟩,cd1 rfl ⟨⟨?_,?_,rfl,trivial⟩,?_,trivial⟩⟩
  ·unfold addI; rw [if_neg hh2,ins_len]
  ·unfold puN; rw [if_neg hh2]
  ·unfold addI insI; rw [if_neg hh2,Int.toNat_natCast,List.append_assoc]; rfl
def iput_S (posI:LLA→List AV→Nat) (hasI:LLA→List AV→Bool) (itE:Int→ByteArray→Int→Int→Int→Int→Int→LLA→Int→Int→Int) (puE:LLA→List AV→Int) (puN:LLA→List AV→Int) (addI:LLA→List AV→LLA) (gpE:Int→ByteArray→Int→Int→Int→Int→Int→LLA→Int) (itC:List AV→List AV→Int):Prop:=∀ (l:List (List AV)) (m:Nat) (k t f a b c co ar:Int) (n:ByteArray) (rd:List (List AV)) (h:Bool),PuP l m rd→fnQ Tryz.prog { glob:=glb,spec:=lk [(34,(icheck_s gpE itE)),(61,icop_s)],specH:=lk [(59,(bsf_s posI hasI itC)),(60,sins_s)],nowf:=true } { nt:=34,drop:=drp [(1,3072),(2,4096),(3,16384),(4,2064384),(5,4194304),(6,8388608),(7,234881024),(9,16911433728)],fr:=1000,kp:=[0],own:=true } (fun _ _=>none) 6 Tryz.f38 [.rw 0 10 m,.agg [.int .i64 k,.str n,.int .i64 t,.int .i64 f,.int .i64 a,.int .i64 b,.int .i64 c,.sl 2 h rd,.int .i64 co,.int .i64 ar]] [.row 29 10 l] (fun r2 bs2=>cond (decide (puE l (itA k n t f a b c rd co ar)=0)) (le r2 (.tup [.rw 0 10 (addI l (itA k n t f a b c rd co ar)).length,.int .i64 (puN l (itA k n t f a b c rd co ar)),.int .i64 0])∧leBs bs2 [.row 29 10 (addI l (itA k n t f a b c rd co ar))]) (le r2 (.tup [.nils,.int .i64 0,.int .i64 (puE l (itA k n t f a b c rd co ar))])∧leBs bs2 [.row 29 10 l]))
theorem iput_e (posI:LLA→List AV→Nat) (hasI:LLA→List AV→Bool) (itE:Int→ByteArray→Int→Int→Int→Int→Int→LLA→Int→Int→Int) (puE:LLA→List AV→Int) (puN:LLA→List AV→Int) (addI:LLA→List AV→LLA) (gpE:Int→ByteArray→Int→Int→Int→Int→Int→LLA→Int) (itC:List AV→List AV→Int):iput_T posI hasI itE puE puN addI gpE itC=iput_S posI hasI itE puE puN addI gpE itC:=by kernel_rfl
theorem iput_v:iput_S posI hasI itE puE puN addI gpE itC:=Eq.mp (iput_e ..) (iput_P)
theorem iput_ok:QOK Tryz.prog glb 38 (iput_s posI hasI itE puE puN addI):=by
 refine ⟨fok Tryz.func38 (by kernel_rfl) (by kernel_rfl),?_⟩
 intro xs bs T h K hT
 unfold iput_s at h
 split at h
 ·simp only [Option.some.injEq] at h
  subst h
  obtain ⟨hp,hK⟩:=hT
  obtain ⟨r,bs2,hF,hC⟩:=fnQ_sound tyNil (by exact specOK rfl rfl ⟨(icheck_ok),(icop_ok glb),trivial⟩ ⟨(bsf_ok glb),(sins_ok glb),trivial⟩) (by kernel_rfl) Tryz.func38 (iput_v  _ _ _ _ _ _ _ _ _ _ _ _ _ hp)
  exact alt_K (fun hF hK=>by
   obtain ⟨hl,hb⟩:=hF
   exact ⟨_,_,hK,hC.le hl hb⟩) (fun hF hK=>by
   obtain ⟨hl,hb⟩:=hF
   exact ⟨_,_,hK,hC.le hl hb⟩) hF hK
 ·cases h
theorem ckR_it {k:Int} {nm:ByteArray} {t f a b c:Int} {rd:LLA} {co ar:Int}:ckR (itA k nm t f a b c rd co ar)=itE k nm t f a b c rd co ar:=rfl
def adE (l:LLA) (x:List AV):Int:=if inV l=0 then puE l x else inV l
def adO (l:LLA) (x:List AV):LLA:=if adE l x=0 then addI l x else []
structure AdP (l:LLA) (rd:LLA):Prop where
 fp:ItsP l
 fq:inV l=0→GdL l
 fr:RdsP rd
 fl:rd.length≤1000
def iadd_s (inV:LLA→Int) (puE:LLA→List AV→Int) (puN:LLA→List AV→Int) (addI:LLA→List AV→LLA) (adE:LLA→List AV→Int) (adO:LLA→List AV→LLA):Sp
 | [.sl 10 g l,.agg [.int .i64 k,.str n,.int .i64 t,.int .i64 f,.int .i64 a,.int .i64 b,.int .i64 c,.sl 2 h rd,.int .i64 co,.int .i64 ar]]=>some (AdP l rd,.tup [.sl 10 false (adO l (itA k n t f a b c rd co ar)),.int .i64 (adE l (itA k n t f a b c rd co ar))])
 | _=>none
def iadd_T (inV:LLA→Int) (puE:LLA→List AV→Int) (puN:LLA→List AV→Int) (addI:LLA→List AV→LLA) (adE:LLA→List AV→Int) (adO:LLA→List AV→LLA) (itC:List AV→List AV→Int) (itE:Int→ByteArray→Int→Int→Int→Int→Int→LLA→Int→Int→Int) (posI:LLA→List AV→Nat) (hasI:LLA→List AV→Bool):Prop :=
  ∀ (l:List (List AV)) (g:Bool) (k t f a b c co ar:Int) (n:ByteArray) (rd:List (List AV)) (h:Bool),AdP l rd→True→(IR9 k)∧n.size.le (9223372036854775807:Nat)∧(IR9 t)∧(IR9 f)∧((-9223372036854775808:Int)≤a∧a ≤
 (9223372036854775807:Int))∧(IR9 b)∧(IR9 c)∧True∧(IR9 co)∧(IR9 ar)∧True→ItsP l∧bif decide ¬inV l=(0:Int) then adO l (itA k n t f a b c rd co ar)=[]∧inV l=adE l (itA k n t f a b c
 rd co ar)∧True else (ItsP l∧ItsL l)∧PuP l l.length rd∧bif decide (puE l (itA k n t f a b c rd co ar)=(0:Int)) then bif decide (List.length (addI l (itA k n t f a b c rd co ar))=List.length (addI l (itA k n t f a b c rd co ar))) then (True∧addI l (itA k n t f a b c rd co ar)=adO l (itA k n t f a b c rd co ar))∧(0:Int)=adE l (itA k n t f a b c rd co ar)∧True else False else adO l (itA k n t f a b c
 rd co ar)=[]∧puE l (itA k n t f a b c rd co ar)=adE l (itA k n t f a b c rd co ar)∧True
theorem iadd_P:iadd_T inV puE puN addI adE adO itC itE posI hasI:=by
 unfold iadd_T
 intro l g k t f a b c co ar n rd h hp _ _
 generalize itA k n t f a b c rd co ar=x
 unfold adO adE
 refine ⟨hp.fp,csx (fun q=>?_) (fun q=>?_)⟩
 ·rw [if_neg q,if_neg q]; exact ⟨rfl,rfl,trivial⟩
 ·have q:=Decidable.not_not.1 q
  obtain ⟨_,_,hs⟩:=inV_ok q
  have hg:=hp.fq q
  rw [if_pos q]
  refine ⟨⟨hg.p,hg.l⟩,⟨hg,hs,rfl,hp.fr,hp.fl⟩,csx (fun q2=>cd1 rfl ?_) (fun q2=>?_)⟩
  ·rw [if_pos q2]; exact ⟨⟨trivial,rfl⟩,q2.symm,trivial⟩
  ·rw [if_neg q2]; exact ⟨rfl,rfl,trivial⟩
def iadd_S (inV:LLA→Int) (puE:LLA→List AV→Int) (puN:LLA→List AV→Int) (addI:LLA→List AV→LLA) (adE:LLA→List AV→Int) (adO:LLA→List AV→LLA) (itC:List AV→List AV→Int) (itE:Int→ByteArray→Int→Int→Int→Int→Int→LLA→Int→Int→Int) (posI:LLA→List AV→Nat) (hasI:LLA→List AV→Bool):Prop:=∀ (l:List (List AV)) (g:Bool) (k t f a b c co ar:Int) (n:ByteArray) (rd:List (List AV)) (h:Bool),AdP l rd→fnK Tryz.prog { glob:=glb,spec:=lk [(15,(ivalid_s inV itC itE))],specH:=lk [(39,iall_s)],specQ:=lk [(38,(iput_s posI hasI itE puE puN addI))],nowf:=true } { nt:=25,drop:=drp [(1,3072),(2,4096),(3,16384),(4,8355840),(5,25165824)] } (fun _ _=>none) 6 Tryz.f17 [.sl 10 g l,.agg [.int .i64 k,.str n,.int .i64 t,.int .i64 f,.int .i64 a,.int .i64 b,.int .i64 c,.sl 2 h rd,.int .i64 co,.int .i64 ar]] (.tup [.sl 10 false (adO l (itA k n t f a b c rd co ar)),.int .i64 (adE l (itA k n t f a b c rd co ar))])
theorem iadd_e (inV:LLA→Int) (puE:LLA→List AV→Int) (puN:LLA→List AV→Int) (addI:LLA→List AV→LLA) (adE:LLA→List AV→Int) (adO:LLA→List AV→LLA) (itC:List AV→List AV→Int) (itE:Int→ByteArray→Int→Int→Int→Int→Int→LLA→Int→Int→Int) (posI:LLA→List AV→Nat) (hasI:LLA→List AV→Bool):iadd_T inV puE puN addI adE adO itC itE posI hasI=iadd_S inV puE puN addI adE adO itC itE posI hasI:=by kernel_rfl
theorem iadd_v:iadd_S inV puE puN addI adE adO itC itE posI hasI:=Eq.mp (iadd_e ..) (iadd_P)
theorem iadd_ok:SOK Tryz.prog glb 17 (iadd_s inV puE puN addI adE adO):=by
 refine ⟨fok Tryz.func17 (by kernel_rfl) (by kernel_rfl),?_⟩
 intro xs pre r h hp
 unfold iadd_s at h
 split at h
 ·simp only [Option.some.injEq,Prod.mk.injEq] at h
  obtain ⟨h1,h2⟩:=h
  subst h1 h2
  exact fnK_sound tyNil (by exact specOK rfl rfl ⟨(ivalid_ok),trivial⟩ ⟨(iall_ok glb),trivial⟩ (d:=qsOf rfl ⟨(iput_ok),trivial⟩)) (by kernel_rfl) Tryz.func17 rfl (iadd_v  _ _ _ _ _ _ _ _ _ _ _ _ _ hp)
 ·cases h
def rpR (k:Int) (nm:ByteArray) (t f a b c:Int) (rd:LLA):List AV:=[.int .i64 k,.str nm,.int .i64 t,.int .i64 f,.int .i64 a,.int .i64 b,.int .i64 c,.sl 2 false rd]
structure RpG (r:List AV):Prop where
 fr:∃ (k:Int) (nm:ByteArray) (t f a b c:Int) (rd:LLA),r=rpR k nm t f a b c rd∧RdsP rd∧rd.length≤1000
structure RpL (rs:LLA):Prop where
 fg:∀ i,i < rs.length→RpG (rs.getD i [])
 fl:rs.length≤1000
def mkI (r:List AV) (co ar:Int):List AV:=r++[.int .i64 co,.int .i64 ar]
def tkL (co ar:Int):LLA→LLA→LLA × Int
 | l,[]=>(l,0)
 | l,r::rs=>if puE l (mkI r co ar)=0 then tkL co ar (addI l (mkI r co ar)) rs else ([],puE l (mkI r co ar))
def tkE (l rs:LLA) (co ar:Int):Int:=if inV l=0 then (tkL co ar l rs).2 else inV l
def tkO (l rs:LLA) (co ar:Int):LLA:=if inV l=0 then (tkL co ar l rs).1 else []
def tkN (l rs:LLA) (co ar:Int):Int:=if tkE l rs co ar=0 then ((tkO l rs co ar).length:Int) - l.length else 0
theorem ItG.of {r:List AV} (h:RpG r) (co ar:Int):ItG (mkI r co ar):=by
 obtain ⟨k,nm,t,f,a,b,c,rd,rfl,h2,h3⟩:=h.fr
 exact ⟨k,nm,t,f,a,b,c,rd,co,ar,rfl,h2,h3⟩
theorem addI_gd {l:LLA} {x:List AV} (hl:GdL l) (hx:ItG x) (hp:puE l x=0) (h:l.length≤150):GdL (addI l x)∧(addI l x).length≤150:=by
 have hlen:(addI l x).length≤150:=by
  unfold addI
  unfold puE at hp
  by_cases hh:hasI l x=true
  ·rw [if_pos hh]; exact h
  ·rw [if_neg hh,ins_len]
   by_cases hc:ckR x=0
   ·rw [if_pos hc,if_neg hh] at hp
    split at hp
    ·cases hp
    ·omega
   ·rw [if_neg hc] at hp; exact absurd hp hc
 refine ⟨⟨fun r hr=>?_,by omega⟩,hlen⟩
 unfold addI at hr
 split at hr
 ·exact hl.fg r hr
 ·rcases ins_mem.1 hr with rfl | h
  ·exact hx
  ·exact hl.fg r h
theorem addI_n (l:LLA) (x:List AV):((addI l x).length:Int)=l.length+puN l x:=by
 unfold addI puN
 split
 ·omega
 ·rw [ins_len]; omega
structure TkI (l rs:LLA) (co ar:Int) (x:Int × LLA):Prop where
 flo:0≤x.1
 fhi:x.1≤rs.length
 fg:GdL x.2
 fs:Srt x.2
 fl:x.2.length≤150
 fe:tkL co ar l rs=tkL co ar x.2 (rs.drop x.1.toNat)
def tk6 (l rs:LLA) (e:Bool) (co ar:Int):LInv:=⟨Int × LLA,fun x=>⟨[(2,.int .i64 co),(3,.int .i64 ar),(8,.nils),(9,.int .i64 0),(10,.int .i64 0),(12,.rw 25 10 x.2.length),(13,.int .i64 (x.2.length - l.length)),(26,.sl 8 e rs),(27,.int .i64 rs.length),(28,.int .i64 x.1)],[(25,.row 29 10 x.2)]⟩,TkI l rs co ar,fun x=>(rs.length - x.1).toNat,none⟩
structure TkP (l rs:LLA):Prop where
 fp:ItsP l
 fq:inV l=0→GdL l
 fr:RpL rs
def itake_s (inV:LLA→Int) (puE:LLA→List AV→Int) (puN:LLA→List AV→Int) (addI:LLA→List AV→LLA) (tkE:LLA→LLA→Int→Int→Int) (tkN:LLA→LLA→Int→Int→Int) (tkO:LLA→LLA→Int→Int→LLA):Sp
 | [.sl 10 g l,.sl 8 e rs,.int .i64 co,.int .i64 ar]=>some (TkP l rs,.tup [.sl 10 false (tkO l rs co ar),.int .i64 (tkN l rs co ar),.int .i64 (tkE l rs co ar)])
 | _=>none
def itake_T (inV:LLA→Int) (puE:LLA→List AV→Int) (puN:LLA→List AV→Int) (addI:LLA→List AV→LLA) (tkE:LLA→LLA→Int→Int→Int) (tkN:LLA→LLA→Int→Int→Int) (tkO:LLA→LLA→Int→Int→LLA) (itC:List AV→List AV→Int) (itE:Int→ByteArray→Int→Int→Int→Int→Int→LLA→Int→Int→Int) (posI:LLA→List AV→Nat) (hasI:LLA→List AV→Bool):Prop :=
  ∀ (l rs:List (List AV)) (g e:Bool) (co ar:Int),TkP l rs→True→True→IR9 co→IR9 ar→ItsP l∧bif decide ¬inV l=(0:Int) then tkO l rs co ar=[]∧(0:Int)=tkN l rs co ar∧inV l=tkE l rs co ar∧True else (ItsP l∧ItsL l)∧(∃ x,TkI l rs co ar
 x∧(co=co∧ar=ar∧True∧(0:Int)=0∧(0:Int)=0∧l.length=List.length x.snd∧(0:Int)=(↑(List.length x.snd):Int) - (↑l.length:Int)∧((bif e then e=true else True)∧rs=rs)∧(↑rs.length:Int)=(↑rs.length:Int)∧(0:Int)=x.fst∧True)∧l=x.snd∧True)∧∀ (x:Int × LLA),TkI l rs co ar x→bif decide (x.fst < (↑rs.length:Int)) then bif decide (0≤x.fst∧x.fst < (↑rs.length:Int)) then ∃ n s n_1 n_2 n_3 n_4 n_5 xs,List.take
 [AV.int .i64 n,.str s,.int .i64 n_1,.int .i64 n_2,.int .i64 n_3,.int .i64 n_4,.int .i64 n_5,.sl (2:Nat) false xs].length (rs.getD x.fst.toNat [])=[AV.int .i64 n,.str s,.int .i64 n_1,.int .i64 n_2,.int .i64 n_3,.int .i64 n_4,.int .i64 n_5,.sl (2:Nat) false xs]∧PuP x.snd (List.length x.snd) xs∧bif decide (puE x.snd (itA n s n_1 n_2 n_3 n_4 n_5 xs co ar)=(0:Int)) then bif decide (rng .i64
 ((↑(List.length x.snd):Int) - (↑l.length:Int)+puN x.snd (itA n s n_1 n_2 n_3 n_4 n_5 xs co ar))) then bif decide (rng .i64 (x.fst+(1:Int))) then ∃ y,TkI l rs co ar y∧(tk6 l rs e co ar).m y < (tk6 l rs e co ar).m x∧(co=co∧ar=ar∧True∧(0:Int)=0∧(0:Int)=0∧List.length (addI x.snd (itA n s n_1 n_2 n_3 n_4 n_5 xs co ar))=List.length y.snd∧(↑(List.length x.snd):Int) - (↑l.length:Int)+puN x.snd (itA n
 s n_1 n_2 n_3 n_4 n_5 xs co ar)=(↑(List.length y.snd):Int) - (↑l.length:Int)∧((bif e then e=true else True)∧rs=rs)∧(↑rs.length:Int)=(↑rs.length:Int)∧x.fst+(1:Int)=y.fst∧True)∧addI x.snd (itA n s n_1 n_2 n_3 n_4 n_5 xs co ar)=y.snd∧True else False else False else bif decide ¬puE x.snd (itA n s n_1 n_2 n_3 n_4 n_5 xs co ar)=(0:Int) then tkO l rs co ar=[]∧(0:Int)=tkN l rs co ar∧puE x.snd (itA n s
 n_1 n_2 n_3 n_4 n_5 xs co ar)=tkE l rs co ar∧True else bif decide (rng .i64 ((↑(List.length x.snd):Int) - (↑l.length:Int)+(0:Int))) then bif decide (rng .i64 (x.fst+(1:Int))) then ∃ y,TkI l rs co ar y∧(tk6 l rs e co ar).m y < (tk6 l rs e co ar).m x∧(co=co∧ar=ar∧True∧(0:Int)=0∧(0:Int)=0∧False∧(↑(List.length x.snd):Int) - (↑l.length:Int)+(0:Int)=(↑(List.length y.snd):Int) -
 (↑l.length:Int)∧((bif e then e=true else True)∧rs=rs)∧(↑rs.length:Int)=(↑rs.length:Int)∧x.fst+(1:Int)=y.fst∧True)∧x.snd=y.snd∧True else False else False else False else bif decide (List.length x.snd=List.length x.snd) then (True∧x.snd=tkO l rs co ar)∧(↑(List.length x.snd):Int) - (↑l.length:Int)=tkN l rs co ar∧(0:Int)=tkE l rs co ar∧True else False
theorem itake_P:itake_T inV puE puN addI tkE tkN tkO itC itE posI hasI:=by
 unfold itake_T
 intro l rs g e co ar hp _ _ _ _
 have be:cond e (e=true) True:=by cases e <;> trivial
 have hr:=hp.fr
 have hrl:=hr.fl
 refine ⟨hp.fp,csx (fun q=>?_) (fun q=>?_)⟩
 ·unfold tkN tkE tkO
  rw [if_neg q,if_neg q,if_neg q]; exact ⟨rfl,rfl,rfl,trivial⟩
 have q:=Decidable.not_not.1 q
 obtain ⟨hl,_,hs⟩:=inV_ok q
 have hg:=hp.fq q
 have hE:tkE l rs co ar=(tkL co ar l rs).2:=by unfold tkE; rw [if_pos q]
 have hO:tkO l rs co ar=(tkL co ar l rs).1:=by unfold tkO; rw [if_pos q]
 refine ⟨⟨hg.p,hg.l⟩,⟨(0,l),⟨by simp,by simp,hg,hs,hl,rfl⟩,⟨rfl,rfl,trivial,rfl,rfl,rfl,by simp only; omega,⟨be,rfl⟩,rfl,rfl,trivial⟩,rfl,trivial⟩,?_⟩
 rintro ⟨i,out⟩ ⟨i0,i1,og,os,ol,oe⟩
 simp only at i0 i1 og os ol oe
 dsimp only
 refine csx (fun hi=>cd1 (by omega) ?_) (fun hi=>cd1 rfl ?_)
 ·obtain ⟨k,nm,t,f,a,b,c,rd,hrr,hrd,hrq⟩:=(hr.fg i.toNat (by omega)).fr
  have hd:rs.drop i.toNat=rs.getD i.toNat []::rs.drop (i.toNat+1):=by
   rw [List.drop_eq_getElem_cons (show i.toNat < rs.length by omega),getD_lt (by omega)]
  have hx:mkI (rs.getD i.toNat []) co ar=itA k nm t f a b c rd co ar:=by rw [hrr]; rfl
  have gx:ItG (itA k nm t f a b c rd co ar):=by rw [← hx]; exact ItG.of (hr.fg i.toNat (by omega)) co ar
  refine ⟨k,nm,t,f,a,b,c,rd,by rw [hrr]; rfl,⟨og,os,rfl,hrd,hrq⟩,?_⟩
  have hstep:tkL co ar l rs=if puE out (itA k nm t f a b c rd co ar)=0 then tkL co ar (addI out (itA k nm t f a b c rd co ar)) (rs.drop (i.toNat+1)) else ([],puE out (itA k nm t f a b c rd co ar)):=by
   rw [oe,hd,← hx]; rfl
  generalize itA k nm t f a b c rd co ar=x at *
  have hn:=addI_n out x
  have hpn:0≤puN out x∧puN out x≤1:=by unfold puN; split <;> omega
  refine csx (fun q2=>?_) (fun q2=>csx (fun _=>?_) (fun z=>absurd z (fun z=>z q2)))
  ·obtain ⟨g1,g2⟩:=addI_gd og gx q2 ol
   refine cdI (by omega) (cdI (by omega) ⟨(i+1,addI out x),⟨by simp only; omega,by simp only; omega,g1,addI_srt os,g2,?_⟩,by simp only [tk6]; omega,⟨rfl,rfl,trivial,rfl,rfl,rfl,by simp only; omega,⟨be,rfl⟩,rfl,rfl,trivial⟩,rfl,trivial⟩)
   rw [hstep,if_pos q2]
   simp only
   rw [show (i+1).toNat=i.toNat+1 by omega]
  ·have e1:tkE l rs co ar=puE out x:=by rw [hE,hstep,if_neg q2]
   refine ⟨by rw [hO,hstep,if_neg q2],?_,e1.symm,trivial⟩
   unfold tkN; rw [e1,if_neg q2]
 ·have hd:rs.drop i.toNat=[]:=List.drop_eq_nil_of_le (by omega)
  rw [hd] at oe
  have e1:tkE l rs co ar=0:=by rw [hE,oe]; rfl
  have e2:tkO l rs co ar=out:=by rw [hO,oe]; rfl
  refine ⟨⟨trivial,e2.symm⟩,?_,e1.symm,trivial⟩
  unfold tkN; rw [e1,e2,if_pos rfl]
def itake_S (inV:LLA→Int) (puE:LLA→List AV→Int) (puN:LLA→List AV→Int) (addI:LLA→List AV→LLA) (tkE:LLA→LLA→Int→Int→Int) (tkN:LLA→LLA→Int→Int→Int) (tkO:LLA→LLA→Int→Int→LLA) (itC:List AV→List AV→Int) (itE:Int→ByteArray→Int→Int→Int→Int→Int→LLA→Int→Int→Int) (posI:LLA→List AV→Nat) (hasI:LLA→List AV→Bool):Prop:=∀ (l rs:List (List AV)) (g e:Bool) (co ar:Int),TkP l rs→fnK Tryz.prog { glob:=glb,spec:=lk [(15,(ivalid_s inV itC itE))],specH:=lk [(39,iall_s)],specQ:=lk [(38,(iput_s posI hasI itE puE puN addI))],shape:=[31],slz:=[(31,[2])],nowf:=true } { nt:=52,drop:=drp [(1,1572864),(2,2097152),(3,8388608),(4,50331648),(7,3221225472),(8,4393751543808),(9,4398046511104),(10,17592186044416),(11,527765581332480),(12,562949953421312),(13,3377699720527872)] } (invs [(6,tk6 l rs e co ar)]) 6 Tryz.f20 [.sl 10 g l,.sl 8 e rs,.int .i64 co,.int .i64 ar] (.tup [.sl 10 false (tkO l rs co ar),.int .i64 (tkN l rs co ar),.int .i64 (tkE l rs co ar)])
theorem itake_e (inV:LLA→Int) (puE:LLA→List AV→Int) (puN:LLA→List AV→Int) (addI:LLA→List AV→LLA) (tkE:LLA→LLA→Int→Int→Int) (tkN:LLA→LLA→Int→Int→Int) (tkO:LLA→LLA→Int→Int→LLA) (itC:List AV→List AV→Int) (itE:Int→ByteArray→Int→Int→Int→Int→Int→LLA→Int→Int→Int) (posI:LLA→List AV→Nat) (hasI:LLA→List AV→Bool):itake_T inV puE puN addI tkE tkN tkO itC itE posI hasI=itake_S inV puE puN addI tkE tkN tkO itC itE posI hasI:=by kernel_rfl
theorem itake_v:itake_S inV puE puN addI tkE tkN tkO itC itE posI hasI:=Eq.mp (itake_e ..) (itake_P)
theorem itake_ok:SOK Tryz.prog glb 20 (itake_s inV puE puN addI tkE tkN tkO):=by
 refine ⟨fok Tryz.func20 (by kernel_rfl) (by kernel_rfl),?_⟩
 intro xs pre r h hp
 unfold itake_s at h
 split at h
 ·simp only [Option.some.injEq,Prod.mk.injEq] at h
  obtain ⟨h1,h2⟩:=h
  subst h1 h2
  exact fnK_sound tyNil (by exact specOK rfl rfl ⟨(ivalid_ok),trivial⟩ ⟨(iall_ok glb),trivial⟩ (d:=qsOf rfl ⟨(iput_ok),trivial⟩)) (by kernel_rfl) Tryz.func20 rfl (itake_v  _ _ _ _ _ _ hp)
 ·cases h
end Go.Proofs.YtgnnafneglannaaGreatDoor
namespace Go.Proofs.YtgnnafneglannaaGreatDoor
open Go
set_option linter.unusedVariables false
set_option linter.unusedSimpArgs false
structure RaI (l:LLA) (x:List AV) (i:Int):Prop where
 flo:0≤i
 fhi:i≤l.length
 fl:∀ k:Nat,(k:Int) < i→itC (l.getD k []) x < 0
def raS (l:LLA) (k t f a b c co ar:Int) (n:ByteArray) (rd:LLA) (g:Bool) (i:Int):St:=⟨[(0,.sl 10 g l),(3,.ptr 3 0),(4,.nils),(5,.int .i64 0),(8,.int .i64 i)],[(3,.cells [.int .i64 k,.str n,.int .i64 t,.int .i64 f,.int .i64 a,.int .i64 b,.int .i64 c,.sl 2 false rd,.int .i64 co,.int .i64 ar])]⟩
def ra8 (l:LLA) (k t f a b c co ar:Int) (n:ByteArray) (rd:LLA) (g:Bool):LInv:=⟨Int,raS l k t f a b c co ar n rd g,RaI l (itA k n t f a b c rd co ar),fun i=>(l.length - i).toNat,none⟩
structure RaE (l:LLA) (x:List AV) (i:Int):Prop where
 fe:i=(posI l x:Nat)
def raC (l:LLA) (k t f a b c co ar:Int) (n:ByteArray) (rd:LLA) (g:Bool):LInv:=⟨Int,raS l k t f a b c co ar n rd g,RaE l (itA k n t f a b c rd co ar),fun i=>0,none⟩
theorem radd_fin {l L:LLA} (hL:L=l) {x:List AV} (hl:l.length≤150) (hpl:posI l x≤l.length) (hO:adE l x=0→adO l x=addI l x) (hO2:¬ adE l x=0→adO l x=[]) (hh:¬ hasI l x=true) (hE:adE l x=if 150≤l.length then 2 else 0):cond (decide (150≤(l.length:Int))) (adO l x=[]∧2=adE l x∧True) (cond (decide (0≤((posI l x:Nat):Int)∧((posI l x:Nat):Int)≤l.length)) (cond (decide ((0:Int)≤0∧0≤((posI l x:Nat):Int))) (cond (decide (0=0∧0+(l.take (posI l x)).length≤9223372036854775807∧(0+(l.take (posI l x)).length)*104≤140737488355328)) (cond (decide ((l.take (posI l x)).length=(l.take (posI l x)).length∧(l.take (posI l x)).length+[x].length≤9223372036854775807∧((l.take (posI l x)).length+[x].length)*104≤140737488355328)) (cond (decide (0≤(l.length:Int)∧(l.length:Int)≤l.length)) (cond (decide (0≤((posI l x:Nat):Int)∧((posI l x:Nat):Int)≤l.length)) (cond (decide ((l.take (posI l x)++[x]).length=(l.take (posI l x)++[x]).length∧(l.take (posI l x)++[x]).length+(L.drop (posI l x)).length≤9223372036854775807∧((l.take (posI l x)++[x]).length+(L.drop (posI l x)).length)*104≤140737488355328)) (cond (decide ((l.take (posI l x)++[x]++L.drop (posI l x)).length=(l.take (posI l x)++[x]++L.drop (posI l x)).length)) ((True∧l.take (posI l x)++[x]++L.drop (posI l x)=adO l x)∧0=adE l x∧True) False) False) False) False) False) False) False) False):=by
 subst hL
 refine csx (fun w=>?_) (fun w=>?_)
 ·rw [if_pos (by omega)] at hE
  exact ⟨hO2 (by rw [hE]; decide),hE.symm,trivial⟩
 ·rw [if_neg (by omega)] at hE
  have h1:(L.take (posI L x)).length=posI L x:=by rw [List.length_take]; omega
  have h2:(L.drop (posI L x)).length=L.length - posI L x:=List.length_drop
  refine cd1 (by omega) (cd1 (by omega) (cd1 ⟨rfl,by omega,by omega⟩ (cd1 ⟨rfl,by rw [h1]; simp; omega,by rw [h1]; simp; omega⟩ (cd1 (by omega) (cd1 (by omega) (cd1 ⟨rfl,by rw [List.length_append,h1,h2]; simp; omega,by rw [List.length_append,h1,h2]; simp; omega⟩ (cd1 rfl ⟨⟨trivial,?_⟩,hE.symm,trivial⟩)))))))
  rw [hO hE]
  unfold addI insI
  rw [if_neg hh,List.append_assoc]; rfl
def radd_s (posI:LLA→List AV→Nat) (inV:LLA→Int) (itC:List AV→List AV→Int) (itE:Int→ByteArray→Int→Int→Int→Int→Int→LLA→Int→Int→Int) (adE:LLA→List AV→Int) (adO:LLA→List AV→LLA):Sp
 | [.sl 10 g l,.agg [.int .i64 k,.str n,.int .i64 t,.int .i64 f,.int .i64 a,.int .i64 b,.int .i64 c,.sl 2 false rd,.int .i64 co,.int .i64 ar]]=>some (AdP l rd,.tup [.sl 10 false (adO l (itA k n t f a b c rd co ar)),.int .i64 (adE l (itA k n t f a b c rd co ar))])
 | _=>none
def radd_T (posI:LLA→List AV→Nat) (inV:LLA→Int) (itC:List AV→List AV→Int) (itE:Int→ByteArray→Int→Int→Int→Int→Int→LLA→Int→Int→Int) (adE:LLA→List AV→Int) (adO:LLA→List AV→LLA) (gpE:Int→ByteArray→Int→Int→Int→Int→Int→LLA→Int) (inB:Int→Bool) (rdC:LLA→LLA→Int) (cmpI:Int→Int→Int) (cmpS:ByteArray→ByteArray→Int):Prop :=
  ∀ (gl:Glob) (l:List (List AV)) (g:Bool) (k t f a b c co ar:Int) (n:ByteArray) (rd:List (List AV)),AdP l rd→True→(IR9 k)∧n.size.le (9223372036854775807:Nat)∧(IR9 t)∧(IR9 f)∧((-9223372036854775808:Int)≤a∧a ≤
 (9223372036854775807:Int))∧(IR9 b)∧(IR9 c)∧True∧(IR9 co)∧(IR9 ar)∧True→ItsP l∧bif decide ¬inV l=(0:Int) then adO l (itA k n t f a b c rd co ar)=[]∧inV l=adE l (itA k n t f a b c
 rd co ar)∧True else RdsP rd∧bif decide ¬itE k n t f a b c rd co ar=(0:Int) then adO l (itA k n t f a b c rd co ar)=[]∧itE k n t f a b c rd co ar=adE l (itA k n t f a b c rd co ar)∧True else ((∃ x,RaI l (itA k n t f a b c rd co ar) x∧(((bif g then g=true else True)∧l=l)∧(0:Nat)=0∧True∧(0:Int)=0∧(0:Int)=x∧True)∧(k=k∧n=n∧t=t∧f=f∧a=a∧b=b∧c=c∧(True∧rd=rd)∧co=co∧ar=ar∧True)∧True)∧∀ (x:Int),RaI l (itA k n
 t f a b c rd co ar) x→bif decide (x < (↑l.length:Int)) then bif decide (0≤x∧x < (↑l.length:Int)) then ∃ n_1 s n_2 n_3 n_4 n_5 n_6 xs n_7 n_8,List.take [AV.int .i64 n_1,.str s,.int .i64 n_2,.int .i64 n_3,.int .i64 n_4,.int .i64 n_5,.int .i64 n_6,.sl (2:Nat) false xs,.int .i64 n_7,.int .i64 n_8].length (l.getD x.toNat [])=[AV.int .i64 n_1,.str s,.int .i64 n_2,.int .i64 n_3,.int .i64 n_4,.int
 .i64 n_5,.int .i64 n_6,.sl (2:Nat) false xs,.int .i64 n_7,.int .i64 n_8]∧(RdsP xs∧RdsP rd)∧bif decide (itC (itA n_1 s n_2 n_3 n_4 n_5 n_6 xs n_7 n_8) (itA k n t f a b c rd co ar) < (0:Int)) then bif decide (rng .i64 (x+(1:Int))) then ∃ y,RaI l (itA k n t f a b c rd co ar) y∧(ra8 l k t f a b c co ar n rd g).m y < (ra8 l k t f a b c co ar n rd g).m x∧(((bif g then g=true else
 True)∧l=l)∧(0:Nat)=0∧True∧(0:Int)=0∧x+(1:Int)=y∧True)∧(k=k∧n=n∧t=t∧f=f∧a=a∧b=b∧c=c∧(True∧rd=rd)∧co=co∧ar=ar∧True)∧True else False else ∃ x_1,RaE l (itA k n t f a b c rd co ar) x_1∧(((bif g then g=true else True)∧l=l)∧(0:Nat)=0∧True∧(0:Int)=0∧x=x_1∧True)∧(k=k∧n=n∧t=t∧f=f∧a=a∧b=b∧c=c∧(True∧rd=rd)∧co=co∧ar=ar∧True)∧True else False else ∃ x_1,RaE l (itA k n t f a b c rd co ar) x_1∧(((bif g then
 g=true else True)∧l=l)∧(0:Nat)=0∧True∧(0:Int)=0∧x=x_1∧True)∧(k=k∧n=n∧t=t∧f=f∧a=a∧b=b∧c=c∧(True∧rd=rd)∧co=co∧ar=ar∧True)∧True)∧∀ (x:Int),RaE l (itA k n t f a b c rd co ar) x→bif decide (x < (↑l.length:Int)) then bif decide (0≤x∧x < (↑l.length:Int)) then ∃ n_1 s n_2 n_3 n_4 n_5 n_6 xs n_7 n_8,List.take [AV.int .i64 n_1,.str s,.int .i64 n_2,.int .i64 n_3,.int .i64 n_4,.int .i64 n_5,.int .i64
 n_6,.sl (2:Nat) false xs,.int .i64 n_7,.int .i64 n_8].length (l.getD x.toNat [])=[AV.int .i64 n_1,.str s,.int .i64 n_2,.int .i64 n_3,.int .i64 n_4,.int .i64 n_5,.int .i64 n_6,.sl (2:Nat) false xs,.int .i64 n_7,.int .i64 n_8]∧(RdsP xs∧RdsP rd)∧bif decide (itC (itA n_1 s n_2 n_3 n_4 n_5 n_6 xs n_7 n_8) (itA k n t f a b c rd co ar)=(0:Int)) then bif decide ((0:Nat)=0∧(0:Nat)+l.length ≤
 (9223372036854775807:Nat)∧((0:Nat)+l.length)*(104:Nat)≤(140737488355328:Nat)) then bif decide (([]++l).length=([]++l).length) then (True∧[]++l=adO l (itA k n t f a b c rd co ar))∧(0:Int)=adE l (itA k n t f a b c rd co ar)∧True else False else False else bif decide ((150:Int)≤(↑l.length:Int)) then adO l (itA k n t f a b c rd co ar)=[]∧(2:Int)=adE l (itA k n t f a b c rd co ar)∧True
 else bif decide (0≤x∧x≤(↑l.length:Int)) then bif decide ((0:Int)≤(0:Int)∧0≤x) then bif decide ((0:Nat)=0∧(0:Nat)+(List.drop (0:Nat) (List.take x.toNat l)).length≤(9223372036854775807:Nat)∧((0:Nat)+(List.drop (0:Nat) (List.take x.toNat l)).length)*(104:Nat)≤(140737488355328:Nat)) then bif decide (([]++List.drop (0:Nat) (List.take x.toNat l)).length=([]++List.drop
 (0:Nat) (List.take x.toNat l)).length∧([]++List.drop (0:Nat) (List.take x.toNat l)).length+[[AV.int .i64 k,.str n,.int .i64 t,.int .i64 f,.int .i64 a,.int .i64 b,.int .i64 c,.sl (2:Nat) false rd,.int .i64 co,.int .i64 ar]].length≤(9223372036854775807:Nat)∧(([]++List.drop (0:Nat) (List.take x.toNat l)).length+[[AV.int .i64 k,.str n,.int .i64 t,.int .i64 f,.int .i64 a,.int .i64 b,.int .i64
 c,.sl (2:Nat) false rd,.int .i64 co,.int .i64 ar]].length)*(104:Nat)≤(140737488355328:Nat)) then bif decide ((0:Int)≤(↑l.length:Int)∧(↑l.length:Int)≤(↑l.length:Int)) then bif decide (0≤x∧x≤(↑l.length:Int)) then bif decide (([]++List.drop (0:Nat) (List.take x.toNat l)++[[AV.int .i64 k,.str n,.int .i64 t,.int .i64 f,.int .i64 a,.int .i64 b,.int .i64 c,.sl (2:Nat) false rd,.int
 .i64 co,.int .i64 ar]]).length=([]++List.drop (0:Nat) (List.take x.toNat l)++[[AV.int .i64 k,.str n,.int .i64 t,.int .i64 f,.int .i64 a,.int .i64 b,.int .i64 c,.sl (2:Nat) false rd,.int .i64 co,.int .i64 ar]]).length∧([]++List.drop (0:Nat) (List.take x.toNat l)++[[AV.int .i64 k,.str n,.int .i64 t,.int .i64 f,.int .i64 a,.int .i64 b,.int .i64 c,.sl (2:Nat) false rd,.int .i64 co,.int .i64
 ar]]).length+(List.drop x.toNat (List.take (↑l.length:Int).toNat l)).length≤(9223372036854775807:Nat)∧(([]++List.drop (0:Nat) (List.take x.toNat l)++[[AV.int .i64 k,.str n,.int .i64 t,.int .i64 f,.int .i64 a,.int .i64 b,.int .i64 c,.sl (2:Nat) false rd,.int .i64 co,.int .i64 ar]]).length+(List.drop x.toNat (List.take (↑l.length:Int).toNat l)).length)*(104:Nat)≤(140737488355328:Nat))
 then bif decide (([]++List.drop (0:Nat) (List.take x.toNat l)++[[AV.int .i64 k,.str n,.int .i64 t,.int .i64 f,.int .i64 a,.int .i64 b,.int .i64 c,.sl (2:Nat) false rd,.int .i64 co,.int .i64 ar]]++List.drop x.toNat (List.take (↑l.length:Int).toNat l)).length=([]++List.drop (0:Nat) (List.take x.toNat l)++[[AV.int .i64 k,.str n,.int .i64 t,.int .i64 f,.int .i64 a,.int .i64 b,.int .i64 c,.sl
 (2:Nat) false rd,.int .i64 co,.int .i64 ar]]++List.drop x.toNat (List.take (↑l.length:Int).toNat l)).length) then (True∧[]++List.drop (0:Nat) (List.take x.toNat l)++[[AV.int .i64 k,.str n,.int .i64 t,.int .i64 f,.int .i64 a,.int .i64 b,.int .i64 c,.sl (2:Nat) false rd,.int .i64 co,.int .i64 ar]]++List.drop x.toNat (List.take (↑l.length:Int).toNat l)=adO l (itA k n t f a b c rd co
 ar))∧(0:Int)=adE l (itA k n t f a b c rd co ar)∧True else False else False else False else False else False else False else False else False else False else bif decide ((150:Int)≤(↑l.length:Int)) then adO l (itA k n t f a b c rd co ar)=[]∧(2:Int)=adE l (itA k n t f a b c rd co ar)∧True else bif decide (0≤x∧x≤(↑l.length:Int)) then bif decide ((0:Int)≤(0:Int)∧0≤x) then bif
 decide ((0:Nat)=0∧(0:Nat)+(List.drop (0:Nat) (List.take x.toNat l)).length≤(9223372036854775807:Nat)∧((0:Nat)+(List.drop (0:Nat) (List.take x.toNat l)).length)*(104:Nat)≤(140737488355328:Nat)) then bif decide (([]++List.drop (0:Nat) (List.take x.toNat l)).length=([]++List.drop (0:Nat) (List.take x.toNat l)).length∧([]++List.drop (0:Nat) (List.take x.toNat l)).length+[[AV.int .i64
 k,.str n,.int .i64 t,.int .i64 f,.int .i64 a,.int .i64 b,.int .i64 c,.sl (2:Nat) false rd,.int .i64 co,.int .i64 ar]].length≤(9223372036854775807:Nat)∧(([]++List.drop (0:Nat) (List.take x.toNat l)).length+[[AV.int .i64 k,.str n,.int .i64 t,.int .i64 f,.int .i64 a,.int .i64 b,.int .i64 c,.sl (2:Nat) false rd,.int .i64 co,.int .i64 ar]].length)*(104:Nat)≤(140737488355328:Nat)) then bif
 decide ((0:Int)≤(↑l.length:Int)∧(↑l.length:Int)≤(↑l.length:Int)) then bif decide (0≤x∧x≤(↑l.length:Int)) then bif decide (([]++List.drop (0:Nat) (List.take x.toNat l)++[[AV.int .i64 k,.str n,.int .i64 t,.int .i64 f,.int .i64 a,.int .i64 b,.int .i64 c,.sl (2:Nat) false rd,.int .i64 co,.int .i64 ar]]).length=([]++List.drop (0:Nat) (List.take x.toNat l)++[[AV.int .i64 k,.str
 n,.int .i64 t,.int .i64 f,.int .i64 a,.int .i64 b,.int .i64 c,.sl (2:Nat) false rd,.int .i64 co,.int .i64 ar]]).length∧([]++List.drop (0:Nat) (List.take x.toNat l)++[[AV.int .i64 k,.str n,.int .i64 t,.int .i64 f,.int .i64 a,.int .i64 b,.int .i64 c,.sl (2:Nat) false rd,.int .i64 co,.int .i64 ar]]).length+(List.drop x.toNat (List.take (↑l.length:Int).toNat l)).length ≤
 (9223372036854775807:Nat)∧(([]++List.drop (0:Nat) (List.take x.toNat l)++[[AV.int .i64 k,.str n,.int .i64 t,.int .i64 f,.int .i64 a,.int .i64 b,.int .i64 c,.sl (2:Nat) false rd,.int .i64 co,.int .i64 ar]]).length+(List.drop x.toNat (List.take (↑l.length:Int).toNat l)).length)*(104:Nat)≤(140737488355328:Nat)) then bif decide (([]++List.drop (0:Nat) (List.take x.toNat l)++[[AV.int .i64
 k,.str n,.int .i64 t,.int .i64 f,.int .i64 a,.int .i64 b,.int .i64 c,.sl (2:Nat) false rd,.int .i64 co,.int .i64 ar]]++List.drop x.toNat (List.take (↑l.length:Int).toNat l)).length=([]++List.drop (0:Nat) (List.take x.toNat l)++[[AV.int .i64 k,.str n,.int .i64 t,.int .i64 f,.int .i64 a,.int .i64 b,.int .i64 c,.sl (2:Nat) false rd,.int .i64 co,.int .i64 ar]]++List.drop x.toNat (List.take
 (↑l.length:Int).toNat l)).length) then (True∧[]++List.drop (0:Nat) (List.take x.toNat l)++[[AV.int .i64 k,.str n,.int .i64 t,.int .i64 f,.int .i64 a,.int .i64 b,.int .i64 c,.sl (2:Nat) false rd,.int .i64 co,.int .i64 ar]]++List.drop x.toNat (List.take (↑l.length:Int).toNat l)=adO l (itA k n t f a b c rd co ar))∧(0:Int)=adE l (itA k n t f a b c rd co ar)∧True else False else False else False
 else False else False else False else False else False
theorem radd_P:radd_T posI inV itC itE adE adO gpE inB rdC cmpI cmpS:=by
 unfold radd_T
 intro gl l g k t f a b c co ar n rd hp _ _
 have ln:=hp.fp.fl
 have bg:cond g (g=true) True:=by cases g <;> trivial
 have hc:ckR (itA k n t f a b c rd co ar)=itE k n t f a b c rd co ar:=rfl
 have hxr:[[.int .i64 k,.str n,.int .i64 t,.int .i64 f,.int .i64 a,.int .i64 b,.int .i64 c,.sl 2 false rd,.int .i64 co,.int .i64 ar]]=[itA k n t f a b c rd co ar]:=rfl
 rw [hxr,← hc]
 generalize itA k n t f a b c rd co ar=x
 refine ⟨hp.fp,csx (fun q=>?_) (fun q=>⟨hp.fr,csx (fun q2=>?_) (fun q2=>?_)⟩)⟩
 ·unfold adO adE; rw [if_neg q,if_neg q]; exact ⟨rfl,rfl,trivial⟩
 ·have q:=Decidable.not_not.1 q
  unfold adO adE puE; rw [if_pos q,if_neg q2,if_neg q2]; exact ⟨rfl,rfl,trivial⟩
 have q:=Decidable.not_not.1 q
 have q2:=Decidable.not_not.1 q2
 obtain ⟨hl,_,hs⟩:=inV_ok q
 have hE:adE l x=if hasI l x then 0 else if 150≤l.length then 2 else 0:=by unfold adE puE; rw [if_pos q,if_pos q2]
 have hO:adE l x=0→adO l x=addI l x:=fun e=>by unfold adO; rw [if_pos e]
 have hO2:¬ adE l x=0→adO l x=[]:=fun e=>by unfold adO; rw [if_neg e]
 refine ⟨⟨⟨0,⟨by decide,by omega,fun j hj=>by omega⟩,by (repeat' (first | exact trivial | exact rfl | assumption | apply And.intro))⟩,?_⟩,?_⟩
 ·rintro i ⟨i0,i1,il⟩
  have cut:¬ (i < l.length∧itC (l.getD i.toNat []) x < 0)→RaE l x i:=fun hn=>⟨by
   have:=pos_uniq (l:=l) (x:=x) (i:=i.toNat) (by omega) (fun j hj=>il j (by omega)) (fun hi=>by
    apply Int.not_lt.1
    intro z
    exact hn ⟨by omega,z⟩)
   omega⟩
  have cutT:¬ (i < l.length∧itC (l.getD i.toNat []) x < 0)→∃ y,RaE l x y∧((cond g (g=true) True∧l=l)∧(0:Nat)=0∧True∧(0:Int)=0∧i=y∧True)∧(k=k∧n=n∧t=t∧f=f∧a=a∧b=b∧c=c∧(True∧rd=rd)∧co=co∧ar=ar∧True)∧True:=fun hn=>⟨i,cut hn,by (repeat' (first | exact trivial | exact rfl | assumption | apply And.intro))⟩
  refine csx (fun hi=>cd1 (by omega) ?_) (fun hi=>cutT (by omega))
  ·obtain ⟨k2,nm2,t2,a12,a2,b2,c2,rd2,co2,ar2,hr,hrd2⟩:=hp.fp.fr i.toNat (by omega)
   refine ⟨k2,nm2,t2,a12,a2,b2,c2,rd2,co2,ar2,by rw [hr]; rfl,⟨hrd2,hp.fr⟩,?_⟩
   rw [← hr]
   refine csx (fun z=>cdI (by omega) ⟨i+1,⟨by omega,by omega,fun j hj=>?_⟩,by simp only [ra8]; omega,by (repeat' (first | exact trivial | exact rfl | assumption | apply And.intro))⟩) (fun z=>cutT (fun w=>z w.2))
   rcases Int.lt_or_le (j:Int) i with w | w
   ·exact il j w
   ·rw [show j=i.toNat by omega]; exact z
 rintro i ⟨hi⟩
 subst hi
 have hpl:=pos_le l x
 have hL:List.take ((l.length:Int)).toNat l=l:=by rw [Int.toNat_natCast,List.take_length]
 refine csx (fun hi=>cd1 (by omega) ?_) (fun hi=>?_)
 ·obtain ⟨k2,nm2,t2,a12,a2,b2,c2,rd2,co2,ar2,hr,hrd2⟩:=hp.fp.fr (posI l x) (by omega)
  refine ⟨k2,nm2,t2,a12,a2,b2,c2,rd2,co2,ar2,by rw [Int.toNat_natCast,hr]; rfl,⟨hrd2,hp.fr⟩,?_⟩
  rw [← hr,Int.toNat_natCast]
  refine csx (fun z=>?_) (fun z=>?_)
  ·have hh:hasI l x=true:=(has_iff hs).2 ⟨by omega,z⟩
   rw [if_pos hh] at hE
   refine cd1 ⟨rfl,by omega,by omega⟩ (cd1 rfl ⟨⟨trivial,?_⟩,hE.symm,trivial⟩)
   rw [hO hE]; unfold addI; rw [if_pos hh]; rfl
  ·have hh:¬ hasI l x=true:=fun w=>z ((has_iff hs).1 w).2
   rw [if_neg hh] at hE
   exact radd_fin hL hl hpl hO hO2 hh hE
 ·have hh:¬ hasI l x=true:=fun w=>by have:=((has_iff hs).1 w).1; omega
  rw [if_neg hh] at hE
  exact radd_fin hL hl hpl hO hO2 hh hE
def radd_S (posI:LLA→List AV→Nat) (inV:LLA→Int) (itC:List AV→List AV→Int) (itE:Int→ByteArray→Int→Int→Int→Int→Int→LLA→Int→Int→Int) (adE:LLA→List AV→Int) (adO:LLA→List AV→LLA) (gpE:Int→ByteArray→Int→Int→Int→Int→Int→LLA→Int) (inB:Int→Bool) (rdC:LLA→LLA→Int) (cmpI:Int→Int→Int) (cmpS:ByteArray→ByteArray→Int):Prop:=∀ (gl:Glob) (l:List (List AV)) (g:Bool) (k t f a b c co ar:Int) (n:ByteArray) (rd:List (List AV)),AdP l rd→fnK Tryz.prog { glob:=gl,spec:=lk [(16,(ivalidR_s inV itC itE)),(36,(ritem_s gpE itE inB)),(37,(ricmp_s rdC cmpI cmpS itC))],specH:=lk [],shape:=[28,43],slz:=[(28,[2]),(43,[2])],nowf:=true } { nt:=67,drop:=drp [(1,3072),(2,4096),(3,16384),(4,98304),(5,131072),(6,524288),(8,4293918720),(9,25769803776),(10,140703128616960),(11,1970324836974592),(12,6755399441055744),(14,4593671619917905920),(15,142962266571249025024)] } (invs [(8,ra8 l k t f a b c co ar n rd g),(100010,raC l k t f a b c co ar n rd g)]) 6 Tryz.f18 [.sl 10 g l,.agg [.int .i64 k,.str n,.int .i64 t,.int .i64 f,.int .i64 a,.int .i64 b,.int .i64 c,.sl 2 false rd,.int .i64 co,.int .i64 ar]] (.tup [.sl 10 false (adO l (itA k n t f a b c rd co ar)),.int .i64 (adE l (itA k n t f a b c rd co ar))])
theorem radd_e (posI:LLA→List AV→Nat) (inV:LLA→Int) (itC:List AV→List AV→Int) (itE:Int→ByteArray→Int→Int→Int→Int→Int→LLA→Int→Int→Int) (adE:LLA→List AV→Int) (adO:LLA→List AV→LLA) (gpE:Int→ByteArray→Int→Int→Int→Int→Int→LLA→Int) (inB:Int→Bool) (rdC:LLA→LLA→Int) (cmpI:Int→Int→Int) (cmpS:ByteArray→ByteArray→Int):radd_T posI inV itC itE adE adO gpE inB rdC cmpI cmpS=radd_S posI inV itC itE adE adO gpE inB rdC cmpI cmpS:=by kernel_rfl
theorem radd_v:radd_S posI inV itC itE adE adO gpE inB rdC cmpI cmpS:=Eq.mp (radd_e ..) (radd_P)
theorem radd_ok (gl:Glob):SOK Tryz.prog gl 18 (radd_s posI inV itC itE adE adO):=by
 refine ⟨fok Tryz.func18 (by kernel_rfl) (by kernel_rfl),?_⟩
 intro xs pre r h hp
 unfold radd_s at h
 split at h
 ·simp only [Option.some.injEq,Prod.mk.injEq] at h
  obtain ⟨h1,h2⟩:=h
  subst h1 h2
  exact fnK_sound tyNil (by exact specOK rfl rfl ⟨(ivalidR_ok gl),(ritem_ok gl),(ricmp_ok gl),trivial⟩ trivial) (by kernel_rfl) Tryz.func18 rfl (radd_v gl _ _ _ _ _ _ _ _ _ _ _ _ hp)
 ·cases h
theorem inV_of {l:LLA} (h1:l.length≤150) (h2:∀ r ∈ l,ckR r=0) (h3:Srt l):inV l=0:=by
 have e1:firE l=0:=firE_zero fun j hj=>by rw [getD_lt hj]; exact h2 _ (List.getElem_mem hj)
 have e2:adjB l=true:=by
  unfold adjB
  refine decide_eq_true fun j hj=>?_
  by_cases hz:j=0
  ·exact .inl hz
  ·exact .inr (srt_get h3 (by omega) hj)
 unfold inV
 rw [if_neg (by omega),if_pos e1,if_pos e2]
theorem puE_ok {l:LLA} {x:List AV} (h:puE l x=0):ckR x=0:=by
 unfold puE at h
 split at h
 ·assumption
 ·next e=>exact absurd h e
theorem inV_add {l:LLA} {x:List AV} (h:inV l=0) (hl:GdL l) (hx:ItG x) (hp:puE l x=0):inV (addI l x)=0:=by
 obtain ⟨h1,h2,h3⟩:=inV_ok h
 refine inV_of (addI_gd hl hx hp h1).2 (fun r hr=>?_) (addI_srt h3)
 unfold addI at hr
 split at hr
 ·exact firE_all h2 r hr
 ·rcases ins_mem.1 hr with rfl | hr
  ·exact puE_ok hp
  ·exact firE_all h2 r hr
structure TrI (l rs:LLA) (co ar:Int) (x:Int × LLA):Prop where
 flo:0≤x.1
 fhi:x.1≤rs.length
 fp:ItsP x.2
 fq:inV x.2=0→GdL x.2
 fz:(x.1=0∧x.2=l)∨inV x.2=0
 fe:tkE l rs co ar=tkE x.2 (rs.drop x.1.toNat) co ar
 fo:tkO l rs co ar=tkO x.2 (rs.drop x.1.toNat) co ar
def tr6 (l rs:LLA) (g e:Bool) (co ar:Int):LInv:=⟨Int × LLA,fun x=>⟨[(0,.sl 10 g l),(1,.sl 8 e rs),(2,.int .i64 co),(3,.int .i64 ar),(8,.nils),(9,.int .i64 0),(10,.int .i64 0),(12,.sl 10 false x.2),(13,.int .i64 x.1)],[]⟩,TrI l rs co ar,fun x=>(rs.length - x.1).toNat,none⟩
structure TrP (l rs:LLA):Prop where
 fp:ItsP l
 fl:l.length≤900
 fq:inV l=0→GdL l
 fr:RpL rs
def rtake_s (inV:LLA→Int) (adE:LLA→List AV→Int) (adO:LLA→List AV→LLA) (tkE:LLA→LLA→Int→Int→Int) (tkN:LLA→LLA→Int→Int→Int) (tkO:LLA→LLA→Int→Int→LLA):Sp
 | [.sl 10 g l,.sl 8 e rs,.int .i64 co,.int .i64 ar]=>some (TrP l rs,.tup [.sl 10 false (tkO l rs co ar),.int .i64 (tkN l rs co ar),.int .i64 (tkE l rs co ar)])
 | _=>none
def rtake_T (inV:LLA→Int) (adE:LLA→List AV→Int) (adO:LLA→List AV→LLA) (tkE:LLA→LLA→Int→Int→Int) (tkN:LLA→LLA→Int→Int→Int) (tkO:LLA→LLA→Int→Int→LLA) (itC:List AV→List AV→Int) (itE:Int→ByteArray→Int→Int→Int→Int→Int→LLA→Int→Int→Int) (posI:LLA→List AV→Nat):Prop :=
  ∀ (gl:Glob) (l rs:List (List AV)) (g e:Bool) (co ar:Int),TrP l rs→True→True→IR9 co→IR9 ar→ItsP l∧bif decide ¬inV l=(0:Int) then bif decide ((↑rs.length:Int)=(0:Int)) then tkO l rs co ar=[]∧(0:Int)=tkN l rs co ar∧inV l=tkE l rs co ar∧True else bif decide ((0:Nat)=0∧(0:Nat) +
 l.length≤(9223372036854775807:Nat)∧((0:Nat)+l.length)*(104:Nat)≤(140737488355328:Nat)) then (∃ x,TrI l rs co ar x∧(((bif g then g=true else True)∧l=l)∧((bif e then e=true else True)∧rs=rs)∧co=co∧ar=ar∧True∧(0:Int)=0∧(0:Int)=0∧(([]++l).length=([]++l).length∧[]++l=x.snd)∧(0:Int)=x.fst∧True)∧True)∧∀ (x:Int × LLA),TrI l rs co ar x→bif decide (x.fst < (↑rs.length:Int)) then bif decide
 (0≤x.fst∧x.fst < (↑rs.length:Int)) then ∃ n s n_1 n_2 n_3 n_4 n_5 xs,List.take [AV.int .i64 n,.str s,.int .i64 n_1,.int .i64 n_2,.int .i64 n_3,.int .i64 n_4,.int .i64 n_5,.sl (2:Nat) false xs].length (rs.getD x.fst.toNat [])=[AV.int .i64 n,.str s,.int .i64 n_1,.int .i64 n_2,.int .i64 n_3,.int .i64 n_4,.int .i64 n_5,.sl (2:Nat) false xs]∧AdP x.snd xs∧bif decide ¬adE x.snd (itA n s n_1 n_2
 n_3 n_4 n_5 xs co ar)=(0:Int) then tkO l rs co ar=[]∧(0:Int)=tkN l rs co ar∧adE x.snd (itA n s n_1 n_2 n_3 n_4 n_5 xs co ar)=tkE l rs co ar∧True else bif decide (rng .i64 (x.fst+(1:Int))) then ∃ y,TrI l rs co ar y∧(tr6 l rs g e co ar).m y < (tr6 l rs g e co ar).m x∧(((bif g then g=true else True)∧l=l)∧((bif e then e=true else True)∧rs=rs)∧co=co∧ar=ar∧True∧(0:Int)=0∧(0:Int)=0∧(True∧adO x.snd (itA
 n s n_1 n_2 n_3 n_4 n_5 xs co ar)=y.snd)∧x.fst+(1:Int)=y.fst∧True)∧True else False else False else bif decide (rng .i64 ((↑(List.length x.snd):Int) - (↑l.length:Int))) then (True∧x.snd=tkO l rs co ar)∧(↑(List.length x.snd):Int) - (↑l.length:Int)=tkN l rs co ar∧(0:Int)=tkE l rs co ar∧True else False else False else bif decide ((0:Nat)=0∧(0:Nat)+l.length≤(9223372036854775807:Nat)∧((0:Nat) +
 l.length)*(104:Nat)≤(140737488355328:Nat)) then (∃ x,TrI l rs co ar x∧(((bif g then g=true else True)∧l=l)∧((bif e then e=true else True)∧rs=rs)∧co=co∧ar=ar∧True∧(0:Int)=0∧(0:Int)=0∧(([]++l).length=([]++l).length∧[]++l=x.snd)∧(0:Int)=x.fst∧True)∧True)∧∀ (x:Int × LLA),TrI l rs co ar x→bif decide (x.fst < (↑rs.length:Int)) then bif decide (0≤x.fst∧x.fst < (↑rs.length:Int)) then ∃
 n s n_1 n_2 n_3 n_4 n_5 xs,List.take [AV.int .i64 n,.str s,.int .i64 n_1,.int .i64 n_2,.int .i64 n_3,.int .i64 n_4,.int .i64 n_5,.sl (2:Nat) false xs].length (rs.getD x.fst.toNat [])=[AV.int .i64 n,.str s,.int .i64 n_1,.int .i64 n_2,.int .i64 n_3,.int .i64 n_4,.int .i64 n_5,.sl (2:Nat) false xs]∧AdP x.snd xs∧bif decide ¬adE x.snd (itA n s n_1 n_2 n_3 n_4 n_5 xs co ar)=(0:Int) then tkO l rs co
 ar=[]∧(0:Int)=tkN l rs co ar∧adE x.snd (itA n s n_1 n_2 n_3 n_4 n_5 xs co ar)=tkE l rs co ar∧True else bif decide (rng .i64 (x.fst+(1:Int))) then ∃ y,TrI l rs co ar y∧(tr6 l rs g e co ar).m y < (tr6 l rs g e co ar).m x∧(((bif g then g=true else True)∧l=l)∧((bif e then e=true else True)∧rs=rs)∧co=co∧ar=ar∧True∧(0:Int)=0∧(0:Int)=0∧(True∧adO x.snd (itA n s n_1 n_2 n_3 n_4 n_5 xs co ar)=y.snd)∧x.fst
+(1:Int)=y.fst∧True)∧True else False else False else bif decide (rng .i64 ((↑(List.length x.snd):Int) - (↑l.length:Int))) then (True∧x.snd=tkO l rs co ar)∧(↑(List.length x.snd):Int) - (↑l.length:Int)=tkN l rs co ar∧(0:Int)=tkE l rs co ar∧True else False else False
theorem rtake_P:rtake_T inV adE adO tkE tkN tkO itC itE posI:=by
 unfold rtake_T
 intro gl l rs g e co ar hp _ _ _ _
 have be:cond e (e=true) True:=by cases e <;> trivial
 have bg:cond g (g=true) True:=by cases g <;> trivial
 have hr:=hp.fr
 have hrl:=hr.fl
 have hll:=hp.fl
 have start:∃ x:Int × LLA,TrI l rs co ar x∧((cond g (g=true) True∧l=l)∧(cond e (e=true) True∧rs=rs)∧co=co∧ar=ar∧True∧(0:Int)=0∧(0:Int)=0∧(([]++l).length=([]++l).length∧[]++l=x.2)∧0=x.1∧True)∧True :=
  ⟨(0,l),⟨by simp,by simp,hp.fp,hp.fq,.inl ⟨rfl,rfl⟩,rfl,rfl⟩,by (repeat' (first | exact trivial | exact rfl | assumption | apply And.intro))⟩
 have loop:(inV l=0∨0 < rs.length)→∀ x:Int × LLA,TrI l rs co ar x→bif decide (x.fst < (↑rs.length:Int)) then bif decide ((0:Int)≤x.fst∧x.fst < (↑rs.length:Int)) then ∃ n s n_1 n_2 n_3 n_4 n_5 xs,List.take [AV.int IntKind.i64 n,AV.str s,AV.int IntKind.i64 n_1,AV.int IntKind.i64 n_2,AV.int IntKind.i64 n_3,AV.int IntKind.i64 n_4,AV.int IntKind.i64 n_5,AV.sl (2:Nat) false xs].length (rs.getD x.fst.toNat [])=[AV.int IntKind.i64 n,AV.str s,AV.int IntKind.i64 n_1,AV.int IntKind.i64 n_2,AV.int IntKind.i64 n_3,AV.int IntKind.i64 n_4,AV.int IntKind.i64 n_5,AV.sl (2:Nat) false xs]∧AdP x.snd xs∧bif decide ¬adE x.snd (itA n s n_1 n_2 n_3 n_4 n_5 xs co ar)=(0:Int) then tkO l rs co ar=[]∧(0:Int)=tkN l rs co ar∧adE x.snd (itA n s n_1 n_2 n_3 n_4 n_5 xs co ar)=tkE l rs co ar∧True else bif decide (rng IntKind.i64 (x.fst+(1:Int))) then ∃ y,TrI l rs co ar y∧(tr6 l rs g e co ar).m y < (tr6 l rs g e co ar).m x∧(((bif g then g=true else True)∧l=l)∧((bif e then e=true else True)∧rs=rs)∧co=co∧ar=ar∧True∧(0:Int)=(0:Int)∧(0:Int)=(0:Int)∧(True∧adO x.snd (itA n s n_1 n_2 n_3 n_4 n_5 xs co ar)=y.snd)∧x.fst+(1:Int)=y.fst∧True)∧True else False else False else bif decide (rng IntKind.i64 ((↑(List.length x.snd):Int) - (↑l.length:Int))) then (True∧x.snd=tkO l rs co ar)∧(↑(List.length x.snd):Int) - (↑l.length:Int)=tkN l rs co ar∧(0:Int)=tkE l rs co ar∧True else False:=fun hz=>by
  rintro ⟨i,out⟩ ⟨i0,i1,op,oq,oz,oe,oo⟩
  simp only at i0 i1 op oq oz oe oo
  dsimp only
  refine csx (fun hi=>cd1 (by omega) ?_) (fun hi=>?_)
  ·obtain ⟨k,nm,t,f,a,b,c,rd,hrr,hrd,hrq⟩:=(hr.fg i.toNat (by omega)).fr
   have hd:rs.drop i.toNat=rs.getD i.toNat []::rs.drop (i.toNat+1):=by
    rw [List.drop_eq_getElem_cons (show i.toNat < rs.length by omega),getD_lt (by omega)]
   have hx:mkI (rs.getD i.toNat []) co ar=itA k nm t f a b c rd co ar:=by rw [hrr]; rfl
   have gx:ItG (itA k nm t f a b c rd co ar):=by rw [← hx]; exact ItG.of (hr.fg i.toNat (by omega)) co ar
   refine ⟨k,nm,t,f,a,b,c,rd,by rw [hrr]; rfl,⟨op,oq,hrd,hrq⟩,?_⟩
   have hstep:inV out=0→tkL co ar out (rs.drop i.toNat)=if puE out (itA k nm t f a b c rd co ar)=0 then tkL co ar (addI out (itA k nm t f a b c rd co ar)) (rs.drop (i.toNat+1)) else ([],puE out (itA k nm t f a b c rd co ar)):=fun _=>by
    rw [hd,← hx]; rfl
   generalize itA k nm t f a b c rd co ar=x at *
   refine csx (fun q2=>?_) (fun q2=>?_)
   ·have e1:tkE l rs co ar=adE out x:=by
     rw [oe]
     unfold tkE adE
     unfold adE at q2
     by_cases hv:inV out=0
     ·rw [if_pos hv] at q2 ⊢
      rw [if_pos hv,hstep hv,if_neg q2]
     ·rw [if_neg hv,if_neg hv]
    have e2:tkO l rs co ar=[]:=by
     rw [oo]
     unfold tkO
     unfold adE at q2
     by_cases hv:inV out=0
     ·rw [if_pos hv] at q2
      rw [if_pos hv,hstep hv,if_neg q2]
     ·rw [if_neg hv]
    refine ⟨e2,?_,e1.symm,trivial⟩
    unfold tkN; rw [e1,if_neg q2]
   ·have q2:=Decidable.not_not.1 q2
    have hv:inV out=0:=by
     unfold adE at q2
     split at q2
     ·assumption
     ·next w=>exact absurd q2 w
    have hpu:puE out x=0:=by unfold adE at q2; rw [if_pos hv] at q2; exact q2
    have hg:=oq hv
    have hl150:=(inV_ok hv).1
    have hadO:adO out x=addI out x:=by unfold adO; rw [if_pos q2]
    have hv2:=inV_add hv hg gx hpu
    have hg2:=(addI_gd hg gx hpu hl150).1
    refine cdI (by omega) ⟨(i+1,addI out x),⟨by simp only; omega,by simp only; omega,hg2.p,fun _=>hg2,.inr hv2,?_,?_⟩,by simp only [tr6]; omega,⟨⟨bg,rfl⟩,⟨be,rfl⟩,rfl,rfl,trivial,rfl,rfl,⟨trivial,hadO⟩,rfl,trivial⟩,trivial⟩
    ·rw [oe]
     unfold tkE
     rw [if_pos hv,hstep hv,if_pos hpu,if_pos hv2,show (i+1).toNat=i.toNat+1 by omega]
    ·rw [oo]
     unfold tkO
     rw [if_pos hv,hstep hv,if_pos hpu,if_pos hv2,show (i+1).toNat=i.toNat+1 by omega]
  ·have hd:rs.drop i.toNat=[]:=List.drop_eq_nil_of_le (by omega)
   rw [hd] at oe oo
   have hv:inV out=0:=by
    rcases oz with ⟨z1,z2⟩ | z
    ·rcases hz with w | w
     ·rw [z2]; exact w
     ·omega
    ·exact z
   have e1:tkE l rs co ar=0:=by rw [oe]; unfold tkE; rw [if_pos hv]; rfl
   have e2:tkO l rs co ar=out:=by rw [oo]; unfold tkO; rw [if_pos hv]; rfl
   have hl150:=(inV_ok hv).1
   refine cdI (by omega) ⟨⟨trivial,e2.symm⟩,?_,e1.symm,trivial⟩
   unfold tkN; rw [e1,e2,if_pos rfl]
 refine ⟨hp.fp,csx (fun q=>csx (fun z=>?_) (fun z=>cd1 ⟨rfl,by omega,by omega⟩ ⟨start,loop (.inr (by omega))⟩)) (fun q=>cd1 ⟨rfl,by omega,by omega⟩ ⟨start,loop (.inl (Decidable.not_not.1 q))⟩)⟩
 unfold tkN tkE tkO
 rw [if_neg q,if_neg q,if_neg q]; exact ⟨rfl,rfl,rfl,trivial⟩
def rtake_S (inV:LLA→Int) (adE:LLA→List AV→Int) (adO:LLA→List AV→LLA) (tkE:LLA→LLA→Int→Int→Int) (tkN:LLA→LLA→Int→Int→Int) (tkO:LLA→LLA→Int→Int→LLA) (itC:List AV→List AV→Int) (itE:Int→ByteArray→Int→Int→Int→Int→Int→LLA→Int→Int→Int) (posI:LLA→List AV→Nat):Prop:=∀ (gl:Glob) (l rs:List (List AV)) (g e:Bool) (co ar:Int),TrP l rs→fnK Tryz.prog { glob:=gl,spec:=lk [(16,(ivalidR_s inV itC itE)),(18,(radd_s posI inV itC itE adE adO))],specH:=lk [],shape:=[40],slz:=[(40,[2])],nowf:=true } { nt:=57,drop:=drp [(1,196608),(2,16515072),(3,33554432),(4,469762048),(6,3758096384),(7,25769803776),(8,140703128616960),(9,140737488355328),(10,562949953421312),(11,1125899906842624),(12,141863388262170624)],frz:=fun id=>cond (Nat.beq id 5) [12] [] } (invs [(6,tr6 l rs g e co ar)]) 6 Tryz.f22 [.sl 10 g l,.sl 8 e rs,.int .i64 co,.int .i64 ar] (.tup [.sl 10 false (tkO l rs co ar),.int .i64 (tkN l rs co ar),.int .i64 (tkE l rs co ar)])
theorem rtake_e (inV:LLA→Int) (adE:LLA→List AV→Int) (adO:LLA→List AV→LLA) (tkE:LLA→LLA→Int→Int→Int) (tkN:LLA→LLA→Int→Int→Int) (tkO:LLA→LLA→Int→Int→LLA) (itC:List AV→List AV→Int) (itE:Int→ByteArray→Int→Int→Int→Int→Int→LLA→Int→Int→Int) (posI:LLA→List AV→Nat):rtake_T inV adE adO tkE tkN tkO itC itE posI=rtake_S inV adE adO tkE tkN tkO itC itE posI:=by kernel_rfl
theorem rtake_v:rtake_S inV adE adO tkE tkN tkO itC itE posI:=Eq.mp (rtake_e ..) (rtake_P)
theorem rtake_ok (gl:Glob):SOK Tryz.prog gl 22 (rtake_s inV adE adO tkE tkN tkO):=by
 refine ⟨fok Tryz.func22 (by kernel_rfl) (by kernel_rfl),?_⟩
 intro xs pre r h hp
 unfold rtake_s at h
 split at h
 ·simp only [Option.some.injEq,Prod.mk.injEq] at h
  obtain ⟨h1,h2⟩:=h
  subst h1 h2
  exact fnK_sound tyNil (by exact specOK rfl rfl ⟨(ivalidR_ok gl),(radd_ok gl),trivial⟩ trivial) (by kernel_rfl) Tryz.func22 rfl (rtake_v gl _ _ _ _ _ _ hp)
 ·cases h
def smI (a b:LLA):Bool:=decide (a.length=b.length)&&decide (∀ j,j < a.length→itC (a.getD j []) (b.getD j [])=0)
theorem smI_rfl (a:LLA):smI a a=true:=by
 unfold smI
 rw [decide_eq_true rfl,Bool.true_and]
 exact decide_eq_true fun j _=>itC_rfl _
structure SmP (a b:LLA) (i:Int):Prop where
 flo:0≤i
 fhi:i≤a.length
 fz:∀ k:Nat,(k:Int) < i→itC (a.getD k []) (b.getD k [])=0
def sm4 (a b:LLA) (g h:Bool):LInv:=⟨Int,fun i=>⟨[(0,.sl 10 g a),(1,.sl 10 h b),(4,.bool false),(5,.int .i64 i)],[]⟩,SmP a b,fun i=>(a.length - i).toNat,none⟩
def isame_s (itC:List AV→List AV→Int) (smI:LLA→LLA→Bool):Sp
 | [.sl 10 g a,.sl 10 h b]=>some (ItsP a∧ItsP b,.bool (smI a b))
 | _=>none
def isame_T (itC:List AV→List AV→Int) (smI:LLA→LLA→Bool) (rdC:LLA→LLA→Int) (cmpI:Int→Int→Int) (cmpS:ByteArray→ByteArray→Int):Prop :=
  ∀ (gl:Glob) (a b:List (List AV)) (g h:Bool),ItsP a∧ItsP b→True→True→bif decide ¬(↑a.length:Int)=(↑b.length:Int) then false=smI a b else (∃ x,SmP a b x∧(((bif g then g=true else True)∧a=a)∧((bif h then h=true else True)∧b=b)∧false=false∧(0:Int)=x∧True)∧True)∧∀ (x:Int),SmP a b x→bif decide (x < (↑a.length:Int)) then bif decide (0≤x∧x < (↑a.length:Int)) then ∃ n s n_1 n_2 n_3 n_4 n_5 xs
 n_6 n_7,List.take [AV.int .i64 n,.str s,.int .i64 n_1,.int .i64 n_2,.int .i64 n_3,.int .i64 n_4,.int .i64 n_5,.sl (2:Nat) false xs,.int .i64 n_6,.int .i64 n_7].length (a.getD x.toNat [])=[AV.int .i64 n,.str s,.int .i64 n_1,.int .i64 n_2,.int .i64 n_3,.int .i64 n_4,.int .i64 n_5,.sl (2:Nat) false xs,.int .i64 n_6,.int .i64 n_7]∧bif decide (0≤x∧x < (↑b.length:Int)) then ∃ n_8 s_1 n_9 n_10
 n_11 n_12 n_13 xs_1 n_14 n_15,List.take [AV.int .i64 n_8,.str s_1,.int .i64 n_9,.int .i64 n_10,.int .i64 n_11,.int .i64 n_12,.int .i64 n_13,.sl (2:Nat) false xs_1,.int .i64 n_14,.int .i64 n_15].length (b.getD x.toNat [])=[AV.int .i64 n_8,.str s_1,.int .i64 n_9,.int .i64 n_10,.int .i64 n_11,.int .i64 n_12,.int .i64 n_13,.sl (2:Nat) false xs_1,.int .i64 n_14,.int .i64 n_15]∧(RdsP xs∧RdsP xs_1)∧bif
 decide ¬itC (itA n s n_1 n_2 n_3 n_4 n_5 xs n_6 n_7) (itA n_8 s_1 n_9 n_10 n_11 n_12 n_13 xs_1 n_14 n_15)=(0:Int) then false=smI a b else bif decide (rng .i64 (x+(1:Int))) then ∃ y,SmP a b y∧(sm4 a b g h).m y < (sm4 a b g h).m x∧(((bif g then g=true else True)∧a=a)∧((bif h then h=true else True)∧b=b)∧false=false∧x+(1:Int)=y∧True)∧True else False else False else False else true=smI a b
theorem isame_P:isame_T itC smI rdC cmpI cmpS:=by
 unfold isame_T
 intro gl a b g h ⟨ha,hb⟩ _ _
 have la:=ha.fl
 have bg:cond g (g=true) True:=by cases g <;> trivial
 have bh:cond h (h=true) True:=by cases h <;> trivial
 refine csx (fun q=>?_) (fun q=>⟨⟨0,⟨by decide,by omega,fun j hj=>by omega⟩,by (repeat' (first | exact trivial | exact rfl | assumption | apply And.intro))⟩,?_⟩)
 ·unfold smI; rw [decide_eq_false (by omega)]; rfl
 rintro i ⟨i0,i1,iz⟩
 refine csx (fun hi=>cd1 (by omega) ?_) (fun hi=>?_)
 ·obtain ⟨k,nm,t,f,a1,b1,c,rd,co,ar,hr,hrd⟩:=ha.fr i.toNat (by omega)
  obtain ⟨k2,nm2,t2,f2,a2,b2,c2,rd2,co2,ar2,hr2,hrd2⟩:=hb.fr i.toNat (by omega)
  refine ⟨k,nm,t,f,a1,b1,c,rd,co,ar,by rw [hr]; rfl,cd1 (by omega) ⟨k2,nm2,t2,f2,a2,b2,c2,rd2,co2,ar2,by rw [hr2]; rfl,⟨hrd,hrd2⟩,?_⟩⟩
  rw [← hr,← hr2]
  refine csx (fun z=>?_) (fun z=>cdI (by omega) ⟨i+1,⟨by omega,by omega,fun j hj=>?_⟩,by simp only [sm4]; omega,by (repeat' (first | exact trivial | exact rfl | assumption | apply And.intro))⟩)
  ·unfold smI
   rw [Bool.and_eq_false_iff.2 (.inr (decide_eq_false fun w=>z (w i.toNat (by omega))))]
  ·rcases Int.lt_or_le (j:Int) i with w | w
   ·exact iz j w
   ·rw [show j=i.toNat by omega]; exact Decidable.not_not.1 z
 ·unfold smI
  rw [decide_eq_true (show a.length=b.length by omega),Bool.true_and]
  exact (decide_eq_true fun j hj=>iz j (by omega)).symm
def isame_S (itC:List AV→List AV→Int) (smI:LLA→LLA→Bool) (rdC:LLA→LLA→Int) (cmpI:Int→Int→Int) (cmpS:ByteArray→ByteArray→Int):Prop:=∀ (gl:Glob) (a b:List (List AV)) (g h:Bool),ItsP a∧ItsP b→fnK Tryz.prog { glob:=gl,spec:=lk [(37,(ricmp_s rdC cmpI cmpS itC))],specH:=lk [],shape:=[20,24],slz:=[(20,[2]),(24,[2])],nowf:=true } { nt:=27,drop:=drp [(1,960),(4,14336),(5,98304),(6,66977792)] } (invs [(4,sm4 a b g h)]) 6 Tryz.f19 [.sl 10 g a,.sl 10 h b] (.bool (smI a b))
theorem isame_e (itC:List AV→List AV→Int) (smI:LLA→LLA→Bool) (rdC:LLA→LLA→Int) (cmpI:Int→Int→Int) (cmpS:ByteArray→ByteArray→Int):isame_T itC smI rdC cmpI cmpS=isame_S itC smI rdC cmpI cmpS:=by kernel_rfl
theorem isame_v:isame_S itC smI rdC cmpI cmpS:=Eq.mp (isame_e ..) (isame_P)
theorem isame_ok (gl:Glob):SOK Tryz.prog gl 19 (isame_s itC smI):=by
 refine ⟨fok Tryz.func19 (by kernel_rfl) (by kernel_rfl),?_⟩
 intro xs pre r h hp
 unfold isame_s at h
 split at h
 ·simp only [Option.some.injEq,Prod.mk.injEq] at h
  obtain ⟨h1,h2⟩:=h
  subst h1 h2
  exact fnK_sound tyNil (by exact specOK rfl rfl ⟨(ricmp_ok gl),trivial⟩ trivial) (by kernel_rfl) Tryz.func19 rfl (isame_v gl _ _ _ _ hp)
 ·cases h
end Go.Proofs.YtgnnafneglannaaGreatDoor
namespace Go.Proofs.YtgnnafneglannaaGreatDoor
open Go
set_option linter.unusedVariables false
set_option linter.unusedSimpArgs false
def ibS (out:LLA) (x:List AV):LLA:=if adE out x=0 then adO out x else out
def ibO (l:LLA):LLA:=l.foldl ibS []
theorem ibO_snoc (l:LLA) (x:List AV):ibO (l++[x])=ibS (ibO l) x:=by unfold ibO; rw [List.foldl_append]; rfl
structure IbR (l:LLA):Prop where
 fv:inV l=0
 fg:GdL l
theorem ibO_ok:∀ l:LLA,(∀ r ∈ l,ItG r)→IbR (ibO l) :=
 snoc_ind (fun _=>⟨inV_of (by decide) (by simp [ibO]) (by simp [ibO,Srt]),⟨by simp [ibO],by decide⟩⟩) fun l x ih h=>by
  have i1:=ih fun r hr=>h r (by simp [hr])
  have hx:=h x (by simp)
  rw [ibO_snoc]
  unfold ibS
  split
  ·next e =>
   have hpu:puE (ibO l) x=0:=by unfold adE at e; rw [if_pos i1.fv] at e; exact e
   have hadO:adO (ibO l) x=addI (ibO l) x:=by unfold adO; rw [if_pos e]
   rw [hadO]
   exact ⟨inV_add i1.fv i1.fg hx hpu,(addI_gd i1.fg hx hpu (inV_ok i1.fv).1).1⟩
  ·exact i1
structure QiI (l:LLA) (x:Int × LLA):Prop where
 flo:0≤x.1
 fhi:x.1≤l.length
 fe:x.2=ibO (l.take x.1.toNat)
def qi3 (l:LLA) (g:Bool):LInv:=⟨Int × LLA,fun x=>⟨[(0,.sl 10 g l),(3,.sl 10 false x.2),(4,.int .i64 x.1)],[]⟩,QiI l,fun x=>(l.length - x.1).toNat,none⟩
def qinbox_s (ibO:LLA→LLA) (adE:LLA→List AV→Int) (adO:LLA→List AV→LLA):Sp
 | [.sl 10 g l]=>some (GdL l,.sl 10 false (ibO l))
 | _=>none
def qinbox_T (ibO:LLA→LLA) (adE:LLA→List AV→Int) (adO:LLA→List AV→LLA) (posI:LLA→List AV→Nat) (inV:LLA→Int) (itC:List AV→List AV→Int) (itE:Int→ByteArray→Int→Int→Int→Int→Int→LLA→Int→Int→Int):Prop :=
  ∀ (gl:Glob) (l:List (List AV)) (g:Bool),GdL l→True→(∃ x,QiI l x∧(((bif g then g=true else True)∧l=l)∧x.snd=[]∧(0:Int)=x.fst∧True)∧True)∧∀ (x:Int × LLA),QiI l x→bif decide (x.fst < (↑l.length:Int)) then bif decide (0≤x.fst∧x.fst < (↑l.length:Int)) then ∃ n s n_1 n_2 n_3 n_4 n_5 xs n_6 n_7,List.take [AV.int .i64 n,.str s,.int .i64 n_1,.int .i64 n_2,.int .i64 n_3,.int .i64 n_4,.int
 .i64 n_5,.sl (2:Nat) false xs,.int .i64 n_6,.int .i64 n_7].length (l.getD x.fst.toNat [])=[AV.int .i64 n,.str s,.int .i64 n_1,.int .i64 n_2,.int .i64 n_3,.int .i64 n_4,.int .i64 n_5,.sl (2:Nat) false xs,.int .i64 n_6,.int .i64 n_7]∧AdP x.snd xs∧bif decide (adE x.snd (itA n s n_1 n_2 n_3 n_4 n_5 xs n_6 n_7)=(0:Int)) then bif decide (rng .i64 (x.fst+(1:Int))) then ∃ y,QiI l y∧(qi3 l g).m y < (qi3 l
 g).m x∧(((bif g then g=true else True)∧l=l)∧(True∧adO x.snd (itA n s n_1 n_2 n_3 n_4 n_5 xs n_6 n_7)=y.snd)∧x.fst+(1:Int)=y.fst∧True)∧True else False else bif decide (rng .i64 (x.fst+(1:Int))) then ∃ y,QiI l y∧(qi3 l g).m y < (qi3 l g).m x∧(((bif g then g=true else True)∧l=l)∧(True∧x.snd=y.snd)∧x.fst+(1:Int)=y.fst∧True)∧True else False else False else True∧x.snd=ibO l
theorem qinbox_P:qinbox_T ibO adE adO posI inV itC itE:=by
 unfold qinbox_T
 intro gl l g hg _
 have bg:cond g (g=true) True:=by cases g <;> trivial
 have hl:=hg.fl
 refine ⟨⟨(0,[]),⟨by simp,by simp,by simp [ibO]⟩,by (repeat' (first | exact trivial | exact rfl | assumption | apply And.intro))⟩,?_⟩
 rintro ⟨i,out⟩ ⟨i0,i1,e⟩
 simp only at i0 i1 e
 dsimp only
 refine csx (fun hi=>cd1 (by omega) ?_) (fun hi=>?_)
 ·have hm:l.getD i.toNat [] ∈ l:=by rw [getD_lt (by omega)]; exact List.getElem_mem _
  obtain ⟨k,nm,t,f,a,b,c,rd,co,ar,h1,h2,h3⟩:=(hg.fg _ hm).fr
  have hb:=ibO_ok (l.take i.toNat) (fun r hr=>hg.fg r (List.mem_of_mem_take hr))
  rw [← e] at hb
  have hs:ibO (l.take (i.toNat+1))=ibS out (itA k nm t f a b c rd co ar):=by
   rw [List.take_add_one,List.getElem?_eq_getElem (show i.toNat < l.length by omega),← getD_lt (by omega),h1,Option.toList_some,ibO_snoc,← e]
  refine ⟨k,nm,t,f,a,b,c,rd,co,ar,by rw [h1]; rfl,⟨hb.fg.p,fun _=>hb.fg,h2,h3⟩,?_⟩
  generalize itA k nm t f a b c rd co ar=x at *
  refine csx (fun q=>?_) (fun q=>?_)
  ·exact cdI (by omega) ⟨(i+1,adO out x),⟨by simp only; omega,by simp only; omega,by simp only; rw [show (i+1).toNat=i.toNat+1 by omega,hs]; unfold ibS; rw [if_pos q]⟩,by simp only [qi3]; omega,⟨⟨bg,rfl⟩,⟨trivial,rfl⟩,rfl,trivial⟩,trivial⟩
  ·exact cdI (by omega) ⟨(i+1,out),⟨by simp only; omega,by simp only; omega,by simp only; rw [show (i+1).toNat=i.toNat+1 by omega,hs]; unfold ibS; rw [if_neg q]⟩,by simp only [qi3]; omega,⟨⟨bg,rfl⟩,⟨trivial,rfl⟩,rfl,trivial⟩,trivial⟩
 ·refine ⟨trivial,?_⟩
  rw [e,List.take_of_length_le (by omega)]
def qinbox_S (ibO:LLA→LLA) (adE:LLA→List AV→Int) (adO:LLA→List AV→LLA) (posI:LLA→List AV→Nat) (inV:LLA→Int) (itC:List AV→List AV→Int) (itE:Int→ByteArray→Int→Int→Int→Int→Int→LLA→Int→Int→Int):Prop:=∀ (gl:Glob) (l:List (List AV)) (g:Bool),GdL l→fnK Tryz.prog { glob:=gl,spec:=lk [(18,(radd_s posI inV itC itE adE adO))],specH:=lk [],shape:=[18],slz:=[(18,[2])],nowf:=true } { nt:=26,drop:=drp [(3,896),(4,6144),(5,4186112),(6,4194304),(7,16777216),(8,33554432)] } (invs [(3,qi3 l g)]) 6 Tryz.f10 [.sl 10 g l] (.sl 10 false (ibO l))
theorem qinbox_e (ibO:LLA→LLA) (adE:LLA→List AV→Int) (adO:LLA→List AV→LLA) (posI:LLA→List AV→Nat) (inV:LLA→Int) (itC:List AV→List AV→Int) (itE:Int→ByteArray→Int→Int→Int→Int→Int→LLA→Int→Int→Int):qinbox_T ibO adE adO posI inV itC itE=qinbox_S ibO adE adO posI inV itC itE:=by kernel_rfl
theorem qinbox_v:qinbox_S ibO adE adO posI inV itC itE:=Eq.mp (qinbox_e ..) (qinbox_P)
theorem qinbox_ok (gl:Glob):SOK Tryz.prog gl 10 (qinbox_s ibO adE adO):=by
 refine ⟨fok Tryz.func10 (by kernel_rfl) (by kernel_rfl),?_⟩
 intro xs pre r h hp
 unfold qinbox_s at h
 split at h
 ·simp only [Option.some.injEq,Prod.mk.injEq] at h
  obtain ⟨h1,h2⟩:=h
  subst h1 h2
  exact fnK_sound tyNil (by exact specOK rfl rfl ⟨(radd_ok gl),trivial⟩ trivial) (by kernel_rfl) Tryz.func10 rfl (qinbox_v gl _ _ hp)
 ·cases h
end Go.Proofs.YtgnnafneglannaaGreatDoor
namespace Go.Proofs.YtgnnafneglannaaGreatDoor
open Go
set_option linter.unusedVariables false
set_option linter.unusedSimpArgs false
structure ItV (r:List AV):Prop where
 fr:∃ (k:Int) (nm:ByteArray) (t f a b c:Int) (ys:LLA) (co ar:Int),r=itA k nm t f a b c ys co ar∧RepQ k nm t f a b c ys 0∧(0≤co∧co≤2)∧0≤ar∧ar≤52595999
structure ItmQ (n:Int) (os:LLA) (j:Int):Prop where
 fr:∀ r ∈ os,ItV r
 fl:os.length≤n
 fj:0≤j
structure ItmP (n:Int) (x:Int × Int × LLA):Prop where
 fi:x.1+x.2.2.length≤n
 fj:0≤x.2.1
 fr:∀ r ∈ x.2.2,ItV r
 fn:x.2.2.length≤n
def itmI (xs:LLA) (near n:Int):LInv:=⟨Int × Int × LLA,fun x=>⟨[(0,.ptr 0 0),(2,.int .i64 near),(7,.rw 1701 10 x.2.2.length),(8,.int .i64 x.1)],[(0,.cells [.sl 1 false xs,.int .i64 x.2.1]),(1701,.row 29 10 x.2.2)]⟩,ItmP n,fun x=>x.1.toNat,none⟩
theorem rdV_set {ys:LLA} (h:RdV 12 ys) {i:Nat} {e v w:Int} (hi:i < ys.length) (he:ys.getD i []=[.int .i64 e,.int .i64 v]) (hw:inLo e≤w∧w≤inHi e):RdV 12 (setEl ys i 0 [.int .i64 e,.int .i64 w]):=by
 have e1:setEl ys i 0 [.int .i64 e,.int .i64 w]=ys.set i [.int .i64 e,.int .i64 w]:=by
  unfold setEl spl; rw [he]; rfl
 have e2:∀ j,j < ys.length→(ys.set i [.int .i64 e,.int .i64 w]).getD j []=if i=j then [.int .i64 e,.int .i64 w] else ys.getD j []:=fun j hj=>by
  rw [List.getD_eq_getElem?_getD,List.getD_eq_getElem?_getD,List.getElem?_set]
  split
  ·rfl
  ·rfl
 have e3:∀ j,j < ys.length→rE ((ys.set i [.int .i64 e,.int .i64 w]).getD j [])=rE (ys.getD j []):=fun j hj=>by
  rw [e2 j hj]
  split
  ·next q=>rw [← q,he]; rfl
  ·rfl
 rw [e1]
 refine ⟨fun j hj=>?_,fun j k hjk hk=>?_,by rw [List.length_set]; exact h.flen⟩
 ·rw [List.length_set] at hj
  rw [e2 j hj]
  split
  ·next q =>
   obtain ⟨e',v',h1,h2,h3⟩:=h.frow i hi
   rw [he] at h1
   simp only [List.cons.injEq,AV.int.injEq,and_true,true_and] at h1
   rw [h1.1] at hw ⊢
   exact ⟨_,_,rfl,h2,hw⟩
  ·exact h.frow j hj
 ·rw [List.length_set] at hk
  rw [e3 j (by omega),e3 k hk]
  exact h.fasc j k hjk hk
def qitems_s:SpQ
 | [.ptr 0 0,.int .i64 n,.int .i64 near],[.cells [.sl 1 false xs,.int .i64 i]]=>some (fun K=>(SrcQ xs i∧(0≤near∧near≤52595999)∧0≤n∧n≤100)∧(∀ (os:List (List AV)) (j:Int),(ItmQ n os j)→K (.sl 10 false os) [.cells [.sl 1 false xs,.int .i64 j]]))
 | _,_=>none
def qitems_T (iL:Int→ByteArray) (inLo:Int→Int) (inHi:Int→Int) (inD:Int→Int) (inE:Int→Int):Prop :=
  ∀ (gl:Glob) (xs:List (List AV)) (i n near:Int),SrcQ xs i∧(0≤near∧near≤(52595999:Int))∧0≤n∧n≤(100:Int)→bif decide (rng .i64 (n+(1:Int))) then SrcQ xs i∧∀ (v j:Int),NumQ (n+(1:Int)) v j→(∃ x,ItmP n x∧((0:Nat)=0∧near=near∧(0:Nat)=List.length x.snd.snd∧v=x.fst∧True)∧((True∧xs=xs)∧j=x.snd.fst∧True)∧[]=x.snd.snd∧True)∧∀ (x:Int × Int × LLA),ItmP n x→bif decide ((0:Int) <
 x.fst) then (SrcQ xs x.snd.fst∧0≤near∧near≤(52595999:Int))∧∀ (k:Int) (nm:ByteArray) (t f a b c:Int) (ys:List (List AV)) (j:Int),RepQ k nm t f a b c ys j→(SrcQ xs j∧(-60:Int)≤(300:Int)∧(-1000000000:Int)≤(-60:Int)∧(300:Int)≤(1000000000:Int))∧∀ (v j:Int),((-60:Int)≤v∧v≤(300:Int))∧0≤j→bif decide (rng .i64 (near+v)) then (SrcQ xs j∧(-12:Int)≤(12:Int)∧(-1000000000:Int)
≤(-12:Int)∧(12:Int)≤(1000000000:Int))∧∀ (v_1 j:Int),((-12:Int)≤v_1∧v_1≤(12:Int))∧0≤j→bif decide (rng .i64 ((10:Int)*v_1)) then bif decide (rng .i64 (near+(10:Int)*v_1)) then bif decide ((0:Int) < (↑(List.length x.snd.snd):Int)) then SrcQ xs j∧∀ (v_2 j:Int),NumQ (2:Int) v_2 j→bif decide (v_2=(0:Int)) then SrcQ xs j∧∀ (v_3 j:Int),NumQ (↑(List.length x.snd.snd):Int) v_3 j→bif
 decide (0≤v_3∧v_3 < (↑(List.length x.snd.snd):Int)) then bif decide (List.length x.snd.snd=List.length x.snd.snd∧v_3.toNat < List.length x.snd.snd) then ∃ n_1 s n_2 n_3 n_4 n_5 n_6 xs_1,List.take [AV.int .i64 n_1,.str s,.int .i64 n_2,.int .i64 n_3,.int .i64 n_4,.int .i64 n_5,.int .i64 n_6,.sl (2:Nat) false xs_1].length (List.drop (0:Nat) (List.getD x.snd.snd v_3.toNat []))=[AV.int .i64
 n_1,.str s,.int .i64 n_2,.int .i64 n_3,.int .i64 n_4,.int .i64 n_5,.int .i64 n_6,.sl (2:Nat) false xs_1]∧bif decide ((0:Nat)=0∧(0:Nat)+xs_1.length≤(9223372036854775807:Nat)∧((0:Nat)+xs_1.length)*(16:Nat)≤(140737488355328:Nat)) then SrcQ xs j∧∀ (v_4 j:Int),NumQ (4:Int) v_4 j→bif decide (v_4=(0:Int)) then SrcQ xs j∧∀ (ys:List (List AV)) (j:Int),RdQ ys j→(SrcQ xs j∧((5:Nat)=5∧(1:Nat) ≤
 (5:Nat)∧(5:Nat)≤(1000:Nat))∧IntsB [[AV.int .i64 (0:Int)],[AV.int .i64 (0:Int)],[AV.int .i64 (0:Int)],[AV.int .i64 (1:Int)],[AV.int .i64 (2:Int)]])∧∀ (v_5 j:Int),PickQ [[AV.int .i64 (0:Int)],[AV.int .i64 (0:Int)],[AV.int .i64 (0:Int)],[AV.int .i64 (1:Int)],[AV.int .i64 (2:Int)]] (AV.int .i64 v_5) j→bif decide (List.length x.snd.snd=List.length x.snd.snd∧List.length x.snd.snd+[[AV.int .i64
 n_1,.str s,.int .i64 n_2,.int .i64 n_3,.int .i64 n_4,.int .i64 n_5,.int .i64 n_6,.sl (2:Nat) false ys,.int .i64 v_5,.int .i64 (max (0:Int) (min (52595999:Int) (near+v)))]].length≤(9223372036854775807:Nat)∧(List.length x.snd.snd+[[AV.int .i64 n_1,.str s,.int .i64 n_2,.int .i64 n_3,.int .i64 n_4,.int .i64 n_5,.int .i64 n_6,.sl (2:Nat) false ys,.int .i64 v_5,.int .i64 (max (0:Int) (min
 (52595999:Int) (near+v)))]].length)*(104:Nat)≤(140737488355328:Nat)) then bif decide (rng .i64 (x.fst - (1:Int))) then ∃ y,ItmP n y∧(itmI xs near n).m y < (itmI xs near n).m x∧((0:Nat)=0∧near=near∧(x.snd.snd++[[AV.int .i64 n_1,.str s,.int .i64 n_2,.int .i64 n_3,.int .i64 n_4,.int .i64 n_5,.int .i64 n_6,.sl (2:Nat) false ys,.int .i64 v_5,.int .i64 (max (0:Int) (min (52595999:Int) (near +
 v)))]]).length=List.length y.snd.snd∧x.fst - (1:Int)=y.fst∧True)∧((True∧xs=xs)∧j=y.snd.fst∧True)∧x.snd.snd++[[AV.int .i64 n_1,.str s,.int .i64 n_2,.int .i64 n_3,.int .i64 n_4,.int .i64 n_5,.int .i64 n_6,.sl (2:Nat) false ys,.int .i64 v_5,.int .i64 (max (0:Int) (min (52595999:Int) (near+v)))]]=y.snd.snd∧True else False else False else bif decide (v_4=(1:Int)) then bif decide ((0:Int) < (↑([] ++
 xs_1).length:Int)) then SrcQ xs j∧∀ (v_5 j:Int),NumQ (↑([]++xs_1).length:Int) v_5 j→bif decide (0≤v_5∧v_5 < (↑([]++xs_1).length:Int)) then bif decide (([]++xs_1).length=([]++xs_1).length∧v_5.toNat < ([]++xs_1).length) then ∃ n_7,List.take [AV.int .i64 n_7].length (List.drop (0:Nat) (([]++xs_1).getD v_5.toNat []))=[AV.int .i64 n_7]∧(SrcQ xs j∧1≤n_7∧n_7≤(11:Int))∧∀ (v_6
 j:Int),SomQ n_7 v_6 j→bif decide (0≤v_5∧v_5 < (↑([]++xs_1).length:Int)) then bif decide (([]++xs_1).length=([]++xs_1).length∧v_5.toNat < ([]++xs_1).length) then (SrcQ xs j∧((5:Nat)=5∧(1:Nat)≤(5:Nat)∧(5:Nat)≤(1000:Nat))∧IntsB [[AV.int .i64 (0:Int)],[AV.int .i64 (0:Int)],[AV.int .i64 (0:Int)],[AV.int .i64 (1:Int)],[AV.int .i64 (2:Int)]])∧∀ (v_7 j:Int),PickQ [[AV.int .i64
 (0:Int)],[AV.int .i64 (0:Int)],[AV.int .i64 (0:Int)],[AV.int .i64 (1:Int)],[AV.int .i64 (2:Int)]] (AV.int .i64 v_7) j→bif decide (([]++xs_1).length=(setEl ([]++xs_1) v_5.toNat (0:Nat) [AV.int .i64 n_7,.int .i64 v_6]).length) then bif decide (List.length x.snd.snd=List.length x.snd.snd∧List.length x.snd.snd+[[AV.int .i64 n_1,.str s,.int .i64 n_2,.int .i64 n_3,.int .i64 n_4,.int .i64 n_5,.int
 .i64 n_6,.sl (2:Nat) false (setEl ([]++xs_1) v_5.toNat (0:Nat) [AV.int .i64 n_7,.int .i64 v_6]),.int .i64 v_7,.int .i64 (max (0:Int) (min (52595999:Int) (near+v)))]].length≤(9223372036854775807:Nat)∧(List.length x.snd.snd+[[AV.int .i64 n_1,.str s,.int .i64 n_2,.int .i64 n_3,.int .i64 n_4,.int .i64 n_5,.int .i64 n_6,.sl (2:Nat) false (setEl ([]++xs_1) v_5.toNat (0:Nat) [AV.int .i64
 n_7,.int .i64 v_6]),.int .i64 v_7,.int .i64 (max (0:Int) (min (52595999:Int) (near+v)))]].length)*(104:Nat)≤(140737488355328:Nat)) then bif decide (rng .i64 (x.fst - (1:Int))) then ∃ y,ItmP n y∧(itmI xs near n).m y < (itmI xs near n).m x∧((0:Nat)=0∧near=near∧(x.snd.snd++[[AV.int .i64 n_1,.str s,.int .i64 n_2,.int .i64 n_3,.int .i64 n_4,.int .i64 n_5,.int .i64 n_6,.sl (2:Nat) false (setEl
 ([]++xs_1) v_5.toNat (0:Nat) [AV.int .i64 n_7,.int .i64 v_6]),.int .i64 v_7,.int .i64 (max (0:Int) (min (52595999:Int) (near+v)))]]).length=List.length y.snd.snd∧x.fst - (1:Int)=y.fst∧True)∧((True∧xs=xs)∧j=y.snd.fst∧True)∧x.snd.snd++[[AV.int .i64 n_1,.str s,.int .i64 n_2,.int .i64 n_3,.int .i64 n_4,.int .i64 n_5,.int .i64 n_6,.sl (2:Nat) false (setEl ([]++xs_1) v_5.toNat (0:Nat) [AV.int
 .i64 n_7,.int .i64 v_6]),.int .i64 v_7,.int .i64 (max (0:Int) (min (52595999:Int) (near+v)))]]=y.snd.snd∧True else False else False else False else False else False else False else False else (SrcQ xs j∧((5:Nat)=5∧(1:Nat)≤(5:Nat)∧(5:Nat)≤(1000:Nat))∧IntsB [[AV.int .i64 (0:Int)],[AV.int .i64 (0:Int)],[AV.int .i64 (0:Int)],[AV.int .i64 (1:Int)],[AV.int .i64 (2:Int)]])∧∀ (v_5 j:Int),PickQ
 [[AV.int .i64 (0:Int)],[AV.int .i64 (0:Int)],[AV.int .i64 (0:Int)],[AV.int .i64 (1:Int)],[AV.int .i64 (2:Int)]] (AV.int .i64 v_5) j→bif decide (([]++xs_1).length=([]++xs_1).length) then bif decide (List.length x.snd.snd=List.length x.snd.snd∧List.length x.snd.snd+[[AV.int .i64 n_1,.str s,.int .i64 n_2,.int .i64 n_3,.int .i64 n_4,.int .i64 n_5,.int .i64 n_6,.sl (2:Nat) false ([]++xs_1),.int
 .i64 v_5,.int .i64 (max (0:Int) (min (52595999:Int) (near+v)))]].length≤(9223372036854775807:Nat)∧(List.length x.snd.snd+[[AV.int .i64 n_1,.str s,.int .i64 n_2,.int .i64 n_3,.int .i64 n_4,.int .i64 n_5,.int .i64 n_6,.sl (2:Nat) false ([]++xs_1),.int .i64 v_5,.int .i64 (max (0:Int) (min (52595999:Int) (near+v)))]].length)*(104:Nat)≤(140737488355328:Nat)) then bif decide (rng .i64
 (x.fst - (1:Int))) then ∃ y,ItmP n y∧(itmI xs near n).m y < (itmI xs near n).m x∧((0:Nat)=0∧near=near∧(x.snd.snd++[[AV.int .i64 n_1,.str s,.int .i64 n_2,.int .i64 n_3,.int .i64 n_4,.int .i64 n_5,.int .i64 n_6,.sl (2:Nat) false ([]++xs_1),.int .i64 v_5,.int .i64 (max (0:Int) (min (52595999:Int) (near+v)))]]).length=List.length y.snd.snd∧x.fst -
 (1:Int)=y.fst∧True)∧((True∧xs=xs)∧j=y.snd.fst∧True)∧x.snd.snd++[[AV.int .i64 n_1,.str s,.int .i64 n_2,.int .i64 n_3,.int .i64 n_4,.int .i64 n_5,.int .i64 n_6,.sl (2:Nat) false ([]++xs_1),.int .i64 v_5,.int .i64 (max (0:Int) (min (52595999:Int) (near+v)))]]=y.snd.snd∧True else False else False else False else bif decide (v_4=(2:Int)) then bif decide ¬n_1=(1:Int) then SrcQ xs j∧∀ (f a b c
 j:Int),PlaQ f a b c j→(SrcQ xs j∧((5:Nat)=5∧(1:Nat)≤(5:Nat)∧(5:Nat)≤(1000:Nat))∧IntsB [[AV.int .i64 (0:Int)],[AV.int .i64 (0:Int)],[AV.int .i64 (0:Int)],[AV.int .i64 (1:Int)],[AV.int .i64 (2:Int)]])∧∀ (v_5 j:Int),PickQ [[AV.int .i64 (0:Int)],[AV.int .i64 (0:Int)],[AV.int .i64 (0:Int)],[AV.int .i64 (1:Int)],[AV.int .i64 (2:Int)]] (AV.int .i64 v_5) j→bif decide (([]++xs_1).length=([] ++
 xs_1).length) then bif decide (List.length x.snd.snd=List.length x.snd.snd∧List.length x.snd.snd+[[AV.int .i64 n_1,.str s,.int .i64 n_2,.int .i64 f,.int .i64 a,.int .i64 b,.int .i64 c,.sl (2:Nat) false ([]++xs_1),.int .i64 v_5,.int .i64 (max (0:Int) (min (52595999:Int) (near+v)))]].length≤(9223372036854775807:Nat)∧(List.length x.snd.snd+[[AV.int .i64 n_1,.str s,.int .i64 n_2,.int .i64
 f,.int .i64 a,.int .i64 b,.int .i64 c,.sl (2:Nat) false ([]++xs_1),.int .i64 v_5,.int .i64 (max (0:Int) (min (52595999:Int) (near+v)))]].length)*(104:Nat)≤(140737488355328:Nat)) then bif decide (rng .i64 (x.fst - (1:Int))) then ∃ y,ItmP n y∧(itmI xs near n).m y < (itmI xs near n).m x∧((0:Nat)=0∧near=near∧(x.snd.snd++[[AV.int .i64 n_1,.str s,.int .i64 n_2,.int .i64 f,.int .i64 a,.int .i64
 b,.int .i64 c,.sl (2:Nat) false ([]++xs_1),.int .i64 v_5,.int .i64 (max (0:Int) (min (52595999:Int) (near+v)))]]).length=List.length y.snd.snd∧x.fst - (1:Int)=y.fst∧True)∧((True∧xs=xs)∧j=y.snd.fst∧True)∧x.snd.snd++[[AV.int .i64 n_1,.str s,.int .i64 n_2,.int .i64 f,.int .i64 a,.int .i64 b,.int .i64 c,.sl (2:Nat) false ([]++xs_1),.int .i64 v_5,.int .i64 (max (0:Int) (min (52595999:Int) (near
+v)))]]=y.snd.snd∧True else False else False else False else (SrcQ xs j∧((5:Nat)=5∧(1:Nat)≤(5:Nat)∧(5:Nat)≤(1000:Nat))∧IntsB [[AV.int .i64 (0:Int)],[AV.int .i64 (0:Int)],[AV.int .i64 (0:Int)],[AV.int .i64 (1:Int)],[AV.int .i64 (2:Int)]])∧∀ (v_5 j:Int),PickQ [[AV.int .i64 (0:Int)],[AV.int .i64 (0:Int)],[AV.int .i64 (0:Int)],[AV.int .i64 (1:Int)],[AV.int .i64 (2:Int)]] (AV.int .i64 v_5) j→bif
 decide (([]++xs_1).length=([]++xs_1).length) then bif decide (List.length x.snd.snd=List.length x.snd.snd∧List.length x.snd.snd+[[AV.int .i64 n_1,.str s,.int .i64 n_2,.int .i64 n_3,.int .i64 n_4,.int .i64 n_5,.int .i64 n_6,.sl (2:Nat) false ([]++xs_1),.int .i64 v_5,.int .i64 (max (0:Int) (min (52595999:Int) (near+v)))]].length≤(9223372036854775807:Nat)∧(List.length x.snd.snd+[[AV.int
 .i64 n_1,.str s,.int .i64 n_2,.int .i64 n_3,.int .i64 n_4,.int .i64 n_5,.int .i64 n_6,.sl (2:Nat) false ([]++xs_1),.int .i64 v_5,.int .i64 (max (0:Int) (min (52595999:Int) (near+v)))]].length)*(104:Nat)≤(140737488355328:Nat)) then bif decide (rng .i64 (x.fst - (1:Int))) then ∃ y,ItmP n y∧(itmI xs near n).m y < (itmI xs near n).m x∧((0:Nat)=0∧near=near∧(x.snd.snd++[[AV.int .i64 n_1,.str
 s,.int .i64 n_2,.int .i64 n_3,.int .i64 n_4,.int .i64 n_5,.int .i64 n_6,.sl (2:Nat) false ([]++xs_1),.int .i64 v_5,.int .i64 (max (0:Int) (min (52595999:Int) (near+v)))]]).length=List.length y.snd.snd∧x.fst - (1:Int)=y.fst∧True)∧((True∧xs=xs)∧j=y.snd.fst∧True)∧x.snd.snd++[[AV.int .i64 n_1,.str s,.int .i64 n_2,.int .i64 n_3,.int .i64 n_4,.int .i64 n_5,.int .i64 n_6,.sl (2:Nat) false ([] ++
 xs_1),.int .i64 v_5,.int .i64 (max (0:Int) (min (52595999:Int) (near+v)))]]=y.snd.snd∧True else False else False else False else (SrcQ xs j∧((5:Nat)=5∧(1:Nat)≤(5:Nat)∧(5:Nat)≤(1000:Nat))∧IntsB [[AV.int .i64 (0:Int)],[AV.int .i64 (0:Int)],[AV.int .i64 (0:Int)],[AV.int .i64 (1:Int)],[AV.int .i64 (2:Int)]])∧∀ (v_5 j:Int),PickQ [[AV.int .i64 (0:Int)],[AV.int .i64 (0:Int)],[AV.int .i64
 (0:Int)],[AV.int .i64 (1:Int)],[AV.int .i64 (2:Int)]] (AV.int .i64 v_5) j→bif decide (([]++xs_1).length=([]++xs_1).length) then bif decide (List.length x.snd.snd=List.length x.snd.snd∧List.length x.snd.snd+[[AV.int .i64 n_1,.str s,.int .i64 n_2,.int .i64 n_3,.int .i64 n_4,.int .i64 n_5,.int .i64 n_6,.sl (2:Nat) false ([]++xs_1),.int .i64 v_5,.int .i64 (max (0:Int) (min (52595999:Int) (near
+v)))]].length≤(9223372036854775807:Nat)∧(List.length x.snd.snd+[[AV.int .i64 n_1,.str s,.int .i64 n_2,.int .i64 n_3,.int .i64 n_4,.int .i64 n_5,.int .i64 n_6,.sl (2:Nat) false ([]++xs_1),.int .i64 v_5,.int .i64 (max (0:Int) (min (52595999:Int) (near+v)))]].length)*(104:Nat)≤(140737488355328:Nat)) then bif decide (rng .i64 (x.fst - (1:Int))) then ∃ y,ItmP n y∧(itmI xs near n).m y <
 (itmI xs near n).m x∧((0:Nat)=0∧near=near∧(x.snd.snd++[[AV.int .i64 n_1,.str s,.int .i64 n_2,.int .i64 n_3,.int .i64 n_4,.int .i64 n_5,.int .i64 n_6,.sl (2:Nat) false ([]++xs_1),.int .i64 v_5,.int .i64 (max (0:Int) (min (52595999:Int) (near+v)))]]).length=List.length y.snd.snd∧x.fst - (1:Int)=y.fst∧True)∧((True∧xs=xs)∧j=y.snd.fst∧True)∧x.snd.snd++[[AV.int .i64 n_1,.str s,.int .i64 n_2,.int
 .i64 n_3,.int .i64 n_4,.int .i64 n_5,.int .i64 n_6,.sl (2:Nat) false ([]++xs_1),.int .i64 v_5,.int .i64 (max (0:Int) (min (52595999:Int) (near+v)))]]=y.snd.snd∧True else False else False else False else False else False else False else (SrcQ xs j∧((5:Nat)=5∧(1:Nat)≤(5:Nat)∧(5:Nat)≤(1000:Nat))∧IntsB [[AV.int .i64 (0:Int)],[AV.int .i64 (0:Int)],[AV.int .i64 (0:Int)],[AV.int .i64
 (1:Int)],[AV.int .i64 (2:Int)]])∧∀ (v_3 j:Int),PickQ [[AV.int .i64 (0:Int)],[AV.int .i64 (0:Int)],[AV.int .i64 (0:Int)],[AV.int .i64 (1:Int)],[AV.int .i64 (2:Int)]] (AV.int .i64 v_3) j→bif decide (List.length x.snd.snd=List.length x.snd.snd∧List.length x.snd.snd+[[AV.int .i64 k,.str nm,.int .i64 (max (0:Int) (min (52595999:Int) (near+(10:Int)*v_1))),.int .i64 f,.int .i64 a,.int .i64 b,.int
 .i64 c,.sl (2:Nat) false ys,.int .i64 v_3,.int .i64 (max (0:Int) (min (52595999:Int) (near+v)))]].length≤(9223372036854775807:Nat)∧(List.length x.snd.snd+[[AV.int .i64 k,.str nm,.int .i64 (max (0:Int) (min (52595999:Int) (near+(10:Int)*v_1))),.int .i64 f,.int .i64 a,.int .i64 b,.int .i64 c,.sl (2:Nat) false ys,.int .i64 v_3,.int .i64 (max (0:Int) (min (52595999:Int) (near+v)))]].length)
*(104:Nat)≤(140737488355328:Nat)) then bif decide (rng .i64 (x.fst - (1:Int))) then ∃ y,ItmP n y∧(itmI xs near n).m y < (itmI xs near n).m x∧((0:Nat)=0∧near=near∧(x.snd.snd++[[AV.int .i64 k,.str nm,.int .i64 (max (0:Int) (min (52595999:Int) (near+(10:Int)*v_1))),.int .i64 f,.int .i64 a,.int .i64 b,.int .i64 c,.sl (2:Nat) false ys,.int .i64 v_3,.int .i64 (max (0:Int) (min (52595999:Int)
 (near+v)))]]).length=List.length y.snd.snd∧x.fst - (1:Int)=y.fst∧True)∧((True∧xs=xs)∧j=y.snd.fst∧True)∧x.snd.snd++[[AV.int .i64 k,.str nm,.int .i64 (max (0:Int) (min (52595999:Int) (near+(10:Int)*v_1))),.int .i64 f,.int .i64 a,.int .i64 b,.int .i64 c,.sl (2:Nat) false ys,.int .i64 v_3,.int .i64 (max (0:Int) (min (52595999:Int) (near+v)))]]=y.snd.snd∧True else False else False else (SrcQ
 xs j∧((5:Nat)=5∧(1:Nat)≤(5:Nat)∧(5:Nat)≤(1000:Nat))∧IntsB [[AV.int .i64 (0:Int)],[AV.int .i64 (0:Int)],[AV.int .i64 (0:Int)],[AV.int .i64 (1:Int)],[AV.int .i64 (2:Int)]])∧∀ (v_2 j:Int),PickQ [[AV.int .i64 (0:Int)],[AV.int .i64 (0:Int)],[AV.int .i64 (0:Int)],[AV.int .i64 (1:Int)],[AV.int .i64 (2:Int)]] (AV.int .i64 v_2) j→bif decide (List.length x.snd.snd=List.length x.snd.snd∧List.length
 x.snd.snd+[[AV.int .i64 k,.str nm,.int .i64 (max (0:Int) (min (52595999:Int) (near+(10:Int)*v_1))),.int .i64 f,.int .i64 a,.int .i64 b,.int .i64 c,.sl (2:Nat) false ys,.int .i64 v_2,.int .i64 (max (0:Int) (min (52595999:Int) (near+v)))]].length≤(9223372036854775807:Nat)∧(List.length x.snd.snd+[[AV.int .i64 k,.str nm,.int .i64 (max (0:Int) (min (52595999:Int) (near+(10:Int) *
 v_1))),.int .i64 f,.int .i64 a,.int .i64 b,.int .i64 c,.sl (2:Nat) false ys,.int .i64 v_2,.int .i64 (max (0:Int) (min (52595999:Int) (near+v)))]].length)*(104:Nat)≤(140737488355328:Nat)) then bif decide (rng .i64 (x.fst - (1:Int))) then ∃ y,ItmP n y∧(itmI xs near n).m y < (itmI xs near n).m x∧((0:Nat)=0∧near=near∧(x.snd.snd++[[AV.int .i64 k,.str nm,.int .i64 (max (0:Int) (min (52595999:Int)
 (near+(10:Int)*v_1))),.int .i64 f,.int .i64 a,.int .i64 b,.int .i64 c,.sl (2:Nat) false ys,.int .i64 v_2,.int .i64 (max (0:Int) (min (52595999:Int) (near+v)))]]).length=List.length y.snd.snd∧x.fst - (1:Int)=y.fst∧True)∧((True∧xs=xs)∧j=y.snd.fst∧True)∧x.snd.snd++[[AV.int .i64 k,.str nm,.int .i64 (max (0:Int) (min (52595999:Int) (near+(10:Int)*v_1))),.int .i64 f,.int .i64 a,.int .i64
 b,.int .i64 c,.sl (2:Nat) false ys,.int .i64 v_2,.int .i64 (max (0:Int) (min (52595999:Int) (near+v)))]]=y.snd.snd∧True else False else False else False else False else False else bif decide (List.length x.snd.snd=List.length x.snd.snd) then ∃ os j,ItmQ n os j∧(True∧x.snd.snd=os)∧((True∧xs=xs)∧x.snd.fst=j∧True)∧True else False else False
theorem qitems_P:qitems_T iL inLo inHi inD inE:=by
 unfold qitems_T
 intro gl xs i n near ⟨hs,hr,hn⟩
 have s:=hs.s
 have i5:IntsB [[.int .i64 0],[.int .i64 0],[.int .i64 0],[.int .i64 1],[.int .i64 2]]:=ints_of [0,0,0,1,2] fun n hn=>by
  simp only [List.mem_cons,List.not_mem_nil,or_false] at hn
  show _∧_
  omega
 refine cdI (by omega) ⟨hs,fun v j q=>⟨⟨(v,j,[]),⟨by have:=q.fv (by omega); simp; omega,q.fj,by simp,by simp; omega⟩,⟨rfl,rfl,rfl,rfl,trivial⟩,⟨⟨trivial,rfl⟩,rfl,trivial⟩,rfl,trivial⟩,?_⟩⟩
 rintro ⟨i,q,os⟩ ⟨fi,fj,fr,fn⟩
 simp only at fi fj fr fn
 dsimp only
 have fin:∀ (r:List AV) (j:Int),ItV r→0≤j→0 < i→cond (decide (os.length=os.length∧os.length+[r].length≤9223372036854775807∧(os.length+[r].length)*104≤140737488355328)) (cond (decide (rng .i64 (i - 1))) (∃ y:Int × Int × LLA,ItmP n y∧(itmI xs near n).m y < (itmI xs near n).m (i,q,os)∧((0:Nat)=0∧near=near∧(os++[r]).length=y.2.2.length∧i - 1=y.1∧True)∧((True∧xs=xs)∧j=y.2.1∧True)∧os++[r]=y.2.2∧True) False) False:=fun r j hv hj hi =>
  cd1 ⟨rfl,by simp only [List.length_singleton]; omega,by simp only [List.length_singleton]; omega⟩ (cdI (by omega) ⟨(i - 1,j,os++[r]),⟨by simp only [List.length_append,List.length_singleton]; omega,hj,fun x hx=>by
   rcases List.mem_append.1 hx with h | h
   ·exact fr x h
   ·rw [List.mem_singleton.1 h]; exact hv,by simp only [List.length_append,List.length_singleton]; omega⟩,by simp only [itmI]; omega,⟨rfl,rfl,rfl,rfl,trivial⟩,⟨⟨trivial,rfl⟩,rfl,trivial⟩,rfl,trivial⟩)
 have pk:∀ {k:Int} {nm:ByteArray} {t f a b c:Int} {ys:LLA} {v w j:Int},RepQ k nm t f a b c ys 0→PickQ [[.int .i64 0],[.int .i64 0],[.int .i64 0],[.int .i64 1],[.int .i64 2]] (.int .i64 v) j→ItV (itA k nm t f a b c ys v (max 0 (min 52595999 w))):=fun h q=>by
  have:=pick_of [0,0,0,1,2] q
  simp only [List.mem_cons,List.not_mem_nil,or_false] at this
  exact ⟨_,_,_,_,_,_,_,_,_,_,rfl,h,by omega,by omega,by omega⟩
 refine csx (fun hi=>?_) (fun hi=>cd1 rfl ⟨os,q,⟨fr,fn,fj⟩,⟨trivial,rfl⟩,sT⟩)
 refine ⟨⟨⟨s,fj⟩,hr⟩,fun k nm t f a b c ys j q1=>⟨⟨⟨s,q1.fj⟩,by decide,by decide,by decide⟩,fun w j q2=>cdI (by omega) ⟨⟨⟨s,q2.2⟩,by decide,by decide,by decide⟩,fun w2 j q3=>cdI (by omega) (cdI (by omega) ?_)⟩⟩⟩
 have hq:RepQ k nm (max 0 (min 52595999 (near+10*w2))) f a b c ys 0:=⟨q1.fk,q1.fn,by omega,q1.fl,q1.fp,q1.fr,by decide⟩
 refine csx (fun h0=>⟨⟨s,q3.2⟩,fun v2 j q4=>csx (fun h1=>⟨⟨s,q4.fj⟩,fun v3 j q5=>?_⟩) (fun _=>⟨⟨⟨s,q4.fj⟩,⟨rfl,by decide,by decide⟩,i5⟩,fun v j p=>fin _ j (pk hq p) p.fj hi⟩)⟩) (fun _=>⟨⟨⟨s,q3.2⟩,⟨rfl,by decide,by decide⟩,i5⟩,fun v j p=>fin _ j (pk hq p) p.fj hi⟩)
 have h5:=q5.fv (by omega)
 have hm:os.getD v3.toNat [] ∈ os:=by rw [getD_lt (by omega)]; exact List.getElem_mem _
 obtain ⟨k2,nm2,t2,f2,a2,b2,c2,ys2,co2,ar2,e,r2,_,_⟩:=(fr _ hm).fr
 have hy:=r2.fr.flen
 refine cd1 (by omega) (cd1 ⟨rfl,by omega⟩ ⟨k2,nm2,t2,f2,a2,b2,c2,ys2,by rw [e]; rfl,cd1 ⟨rfl,by omega,by omega⟩ ⟨⟨s,q5.fj⟩,fun v4 j q6=>?_⟩⟩)
 refine csx (fun _=>⟨⟨s,q6.fj⟩,fun ys j q7=>⟨⟨⟨s,q7.fj⟩,⟨rfl,by decide,by decide⟩,i5⟩,fun v j p=>fin _ j (pk ⟨r2.fk,r2.fn,r2.ft,r2.fl,r2.fp,q7.fr,by decide⟩ p) p.fj hi⟩⟩) (fun _=>csx (fun _=>csx (fun h2=>⟨⟨s,q6.fj⟩,fun v5 j q7=>?_⟩) (fun _=>⟨⟨⟨s,q6.fj⟩,⟨rfl,by decide,by decide⟩,i5⟩,fun v j p=>cd1 rfl (fin _ j (pk r2 p) p.fj hi)⟩)) (fun _=>csx (fun _=>csx (fun h3=>⟨⟨s,q6.fj⟩,fun f a b c j q7=>⟨⟨⟨s,q7.fj⟩,⟨rfl,by decide,by decide⟩,i5⟩,fun v j p=>cd1 rfl (fin _ j (pk ⟨r2.fk,r2.fn,r2.ft,fun e=>absurd e h3,fun _=>⟨q7.fv,q7.fn⟩,r2.fr,by decide⟩ p) p.fj hi)⟩⟩) (fun _=>⟨⟨⟨s,q6.fj⟩,⟨rfl,by decide,by decide⟩,i5⟩,fun v j p=>cd1 rfl (fin _ j (pk r2 p) p.fj hi)⟩)) (fun _=>⟨⟨⟨s,q6.fj⟩,⟨rfl,by decide,by decide⟩,i5⟩,fun v j p=>cd1 rfl (fin _ j (pk r2 p) p.fj hi)⟩)))
 rw [List.nil_append] at *
 have h7:=q7.fv (by omega)
 obtain ⟨e7,w7,g1,g2,g3⟩:=r2.fr.frow v5.toNat (by omega)
 refine cd1 (by omega) (cd1 ⟨rfl,by omega⟩ ⟨e7,by rw [g1]; rfl,⟨⟨s,q7.fj⟩,g2.1,by omega⟩,fun w8 j q8=>cd1 (by omega) (cd1 ⟨rfl,by omega⟩ ⟨⟨⟨s,q8.fj⟩,⟨rfl,by decide,by decide⟩,i5⟩,fun v j p=>cd1 (by simp [setEl]) (fin _ j (pk ⟨r2.fk,r2.fn,r2.ft,r2.fl,r2.fp,rdV_set r2.fr (by omega) g1 q8.fv,by decide⟩ p) p.fj hi)⟩)⟩)
def qitems_S (iL:Int→ByteArray) (inLo:Int→Int) (inHi:Int→Int) (inD:Int→Int) (inE:Int→Int):Prop:=∀ (gl:Glob) (xs:List (List AV)) (i n near:Int),SrcQ xs i∧(0≤near∧near≤52595999)∧0≤n∧n≤100→fnQ Tryz.prog { glob:=gl,spec:=lk [],specH:=lk [],specQ:=lk [(11,qn_s),(21,qreport_s),(12,qrange_s),(30,qlist_s),(31,(qsome_s iL inLo inHi inD inE)),(32,qplace_s),(13,qpick_s)],shape:=[54,95],slz:=[(54,[2])],nowf:=true } { nt:=116,drop:=drp [(2,61440),(3,65536),(4,786432),(5,1072693248),(6,548682072064),(7,69818988363776),(8,35888059530608640),(9,108086391056891904),(10,9079256848778919936),(11,9223372036854775808),(12,73786976294838206464),(13,2213609288845146193920),(14,4722366482869645213696),(15,141670994486089356410880),(16,19040581658930409501622272),(17,316893307243943516307380502528),(18,633825300114114700748351602688),(19,3802951800684688204490109616128),(20,152118072027387528179604384645120),(21,2433889152438200450873670154321920),(22,38942226439011207213978722469150720),(23,41538374868278621028243970633760768)],fr:=1000,kp:=[0],frz:=fun id=>cond (Nat.beq id 21) [1001057] [],emp:=fun id=>cond (Nat.beq id 2) [(7,1701,29,10)] [] } (invs [(3,itmI xs near n)]) 6 Tryz.f9 [.ptr 0 0,.int .i64 n,.int .i64 near] [.cells [.sl 1 false xs,.int .i64 i]] (fun r2 bs2=>∃ (os:List (List AV)) (j:Int),(ItmQ n os j)∧le r2 (.sl 10 false os)∧leBs bs2 [.cells [.sl 1 false xs,.int .i64 j]])
theorem qitems_e (iL:Int→ByteArray) (inLo:Int→Int) (inHi:Int→Int) (inD:Int→Int) (inE:Int→Int):qitems_T iL inLo inHi inD inE=qitems_S iL inLo inHi inD inE:=by kernel_rfl
theorem qitems_v:qitems_S iL inLo inHi inD inE:=Eq.mp (qitems_e ..) (qitems_P)
theorem qitems_ok (gl:Glob):QOK Tryz.prog gl 9 qitems_s:=by
 refine ⟨fok Tryz.func9 (by kernel_rfl) (by kernel_rfl),?_⟩
 intro xs bs T h K hT
 unfold qitems_s at h
 split at h
 ·simp only [Option.some.injEq] at h
  subst h
  obtain ⟨hp,hK⟩:=hT
  obtain ⟨r,bs2,⟨o0,o1,hq,hl,hb⟩,hC⟩:=fnQ_sound tyNil (by exact specOK rfl rfl trivial trivial (d:=qsOf rfl ⟨(qn_ok gl),(qreport_ok gl),(qrange_ok gl),(qlist_ok gl),(qsome_ok gl),(qplace_ok gl),(qpick_ok gl),trivial⟩)) (by kernel_rfl) Tryz.func9 (qitems_v gl _ _ _ _ hp)
  exact ⟨_,_,hK o0 o1 hq,hC.le hl hb⟩
 ·cases h
end Go.Proofs.YtgnnafneglannaaGreatDoor
namespace Go.Proofs.YtgnnafneglannaaGreatDoor
open Go
set_option linter.unusedVariables false
set_option linter.unusedSimpArgs false
structure RpsQ (n:Int) (os:LLA) (j:Int):Prop where
 fr:∀ r ∈ os,RpG r
 fl:os.length≤n
 fj:0≤j
structure RpsP (n:Int) (x:Int × Int × LLA):Prop where
 fi:x.1+x.2.2.length≤n
 fj:0≤x.2.1
 fr:∀ r ∈ x.2.2,RpG r
 fn:x.2.2.length≤n
theorem rdv_rds {ys:LLA} (h:RdV 12 ys):RdsP ys:=⟨fun i hi=>by
 obtain ⟨e,v,h1,h2,h3⟩:=h.frow i hi
 have:=in_bd (c:=e) (by omega)
 exact ⟨e,v,h1,by show _∧_; omega,by show _∧_; omega⟩,by have:=h.flen; omega⟩
structure BntQ (ys:LLA) (j:Int):Prop where
 fr:RdsP ys
 fl:ys.length≤1000
 fj:0≤j
structure BntP (ys:LLA) (c:Int):Prop where
 fr:RdsP ys
 fl:ys.length≤900
 fc:0≤c∧c≤1000
theorem rds_add {ys:LLA} {v w:Int} (h:RdsP ys) (hl:ys.length≤900) (hv:rng .i64 v) (hw:rng .i64 w):RdsP (ys++[[.int .i64 v,.int .i64 w]]):=⟨fun i hi=>by
 rw [List.length_append,List.length_singleton] at hi
 rw [gD_app]
 by_cases hl:i < ys.length
 ·rw [if_pos hl]; exact h.row i hl
 ·rw [if_neg hl,show i - ys.length=0 by omega]
  exact ⟨v,w,rfl,hv,hw⟩,by rw [List.length_append,List.length_singleton]; omega⟩
theorem rds_set {ys:LLA} {w:Int} {i:Nat} (h:RdsP ys) (hi:i < ys.length) (hw:rng .i64 w):RdsP (setEl ys i 1 [.int .i64 w]):=by
 obtain ⟨e,v,he,h1,h2⟩:=h.row i hi
 have e1:setEl ys i 1 [.int .i64 w]=ys.set i [.int .i64 e,.int .i64 w]:=by
  unfold setEl spl; rw [he]; rfl
 rw [e1]
 refine ⟨fun j hj=>?_,by rw [List.length_set]; exact h.sm⟩
 rw [List.length_set] at hj
 rw [List.getD_eq_getElem?_getD,List.getElem?_set]
 split
 ·exact ⟨e,w,rfl,h1,hw⟩
 ·rw [← List.getD_eq_getElem?_getD]; exact h.row j hj
def qbent_s:SpQ
 | [.ptr 0 0,.agg [.int .i64 k,.str nm,.int .i64 t,.int .i64 f,.int .i64 a,.int .i64 b,.int .i64 c,.sl 2 h ys]],[.cells [.sl 1 false xs,.int .i64 i]]=>some (fun K=>(SrcQ xs i∧BntP ys c)∧(∀ (k:Int) (nm:ByteArray) (t f a b c:Int) (zs:List (List AV)) (j:Int),(BntQ zs j)→K (.agg [.int .i64 k,.str nm,.int .i64 t,.int .i64 f,.int .i64 a,.int .i64 b,.int .i64 c,.sl 2 false zs]) [.cells [.sl 1 false xs,.int .i64 j]]))
 | _,_=>none
def qbent_T:Prop :=
  ∀ (gl:Glob) (xs:List (List AV)) (i k:Int) (nm:ByteArray) (t f a b c:Int) (h:Bool) (ys:List (List AV)),SrcQ xs i∧BntP ys c→bif decide ((0:Nat)=0∧(0:Nat)+ys.length≤(9223372036854775807:Nat)∧((0:Nat)+ys.length)*(16:Nat)≤(140737488355328:Nat)) then SrcQ xs i∧∀ (v j:Int),NumQ (8:Int) v j→bif decide (v=(0:Int)) then (SrcQ xs j∧(-1:Int)≤(4:Int)∧(-1000000000:Int)≤(-1:Int)∧(4:Int) ≤
 (1000000000:Int))∧∀ (v j:Int),((-1:Int)≤v∧v≤(4:Int))∧0≤j→bif decide (([]++ys).length=([]++ys).length) then ∃ k nm_1 t_1 f_1 a_4 b_1 c_1 zs j_1,BntQ zs j_1∧(v=k∧nm=nm_1∧t=t_1∧f=f_1∧a=a_4∧b=b_1∧c=c_1∧(True∧[]++ys=zs)∧True)∧((True∧xs=xs)∧j=j_1∧True)∧True else False else bif decide (v=(1:Int)) then (SrcQ xs j∧((6:Nat)=6∧(1:Nat)≤(6:Nat)∧(6:Nat)≤(1000:Nat))∧StrsA [[AV.str (⟨#[]⟩ :
 ByteArray)],[AV.str { data:=#[(65:UInt8),(76:UInt8),(80:UInt8),(72:UInt8)] }],[AV.str { data:=#[(97:UInt8),(108:UInt8),(112:UInt8),(104:UInt8),(97:UInt8)] }],[AV.str { data:=#[(65:UInt8),(76:UInt8),(80:UInt8),(72:UInt8),(65:UInt8),(49:UInt8)] }],[AV.str { data:=#[(65:UInt8),(76:UInt8),(32:UInt8),(80:UInt8),(72:UInt8)] }],[AV.str { data:=#[(65 :
 UInt8),(76:UInt8),(80:UInt8),(72:UInt8),(65:UInt8)] }]])∧∀ (v:ByteArray) (j:Int),PickQ [[AV.str (⟨#[]⟩:ByteArray)],[AV.str { data:=#[(65:UInt8),(76:UInt8),(80:UInt8),(72:UInt8)] }],[AV.str { data:=#[(97:UInt8),(108:UInt8),(112:UInt8),(104:UInt8),(97:UInt8)] }],[AV.str { data:=#[(65:UInt8),(76:UInt8),(80:UInt8),(72:UInt8),(65:UInt8),(49:UInt8)]
 }],[AV.str { data:=#[(65:UInt8),(76:UInt8),(32:UInt8),(80:UInt8),(72:UInt8)] }],[AV.str { data:=#[(65:UInt8),(76:UInt8),(80:UInt8),(72:UInt8),(65:UInt8)] }]] (AV.str v) j→bif decide (([]++ys).length=([]++ys).length) then ∃ k_1 nm t_1 f_1 a_4 b_1 c_1 zs j_1,BntQ zs j_1∧(k=k_1∧v=nm∧t=t_1∧f=f_1∧a=a_4∧b=b_1∧c=c_1∧(True∧[]++ys=zs)∧True)∧((True∧xs=xs)∧j=j_1∧True)∧True else
 False else bif decide (v=(2:Int)) then (SrcQ xs j∧((3:Nat)=3∧(1:Nat)≤(3:Nat)∧(3:Nat)≤(1000:Nat))∧IntsB [[AV.int .i64 (-1:Int)],[AV.int .i64 (52596000:Int)],[AV.int .i64 (0:Int)]])∧∀ (v j:Int),PickQ [[AV.int .i64 (-1:Int)],[AV.int .i64 (52596000:Int)],[AV.int .i64 (0:Int)]] (AV.int .i64 v) j→bif decide (([]++ys).length=([]++ys).length) then ∃ k_1 nm_1 t f_1 a_4 b_1 c_1 zs j_1,BntQ zs
 j_1∧(k=k_1∧nm=nm_1∧v=t∧f=f_1∧a=a_4∧b=b_1∧c=c_1∧(True∧[]++ys=zs)∧True)∧((True∧xs=xs)∧j=j_1∧True)∧True else False else bif decide (v=(3:Int)) then SrcQ xs j∧∀ (f a b c j:Int),PlaQ f a b c j→bif decide (([]++ys).length=([]++ys).length) then ∃ k_1 nm_1 t_1 f_1 a_4 b_1 c_1 zs j_1,BntQ zs j_1∧(k=k_1∧nm=nm_1∧t=t_1∧f=f_1∧a=a_4∧b=b_1∧c=c_1∧(True∧[]++ys=zs)∧True)∧((True∧xs=xs)∧j=j_1∧True)∧True else
 False else bif decide (v=(4:Int)) then (SrcQ xs j∧(-1:Int)≤(20:Int)∧(-1000000000:Int)≤(-1:Int)∧(20:Int)≤(1000000000:Int))∧∀ (v j:Int),((-1:Int)≤v∧v≤(20:Int))∧0≤j→SrcQ xs j∧∀ (v_1 j:Int),NumQ (841:Int) v_1 j→SrcQ xs j∧∀ (v_2 j:Int),NumQ (200:Int) v_2 j→bif decide (([]++ys).length=([]++ys).length) then ∃ k_1 nm_1 t_1 f a b c zs j_1,BntQ zs
 j_1∧(k=k_1∧nm=nm_1∧t=t_1∧v=f∧v_1=a∧v_2=b∧(0:Int)=c∧(True∧[]++ys=zs)∧True)∧((True∧xs=xs)∧j=j_1∧True)∧True else False else bif decide (v=(5:Int)) then (SrcQ xs j∧(0:Int)≤(12:Int)∧(-1000000000:Int)≤(0:Int)∧(12:Int)≤(1000000000:Int))∧∀ (v j:Int),(0≤v∧v≤(12:Int))∧0≤j→SrcQ xs j∧∀ (v_1 j:Int),NumQ (9000:Int) v_1 j→bif decide (([]++ys).length=([]++ys).length∧([]++ys).length
+[[AV.int .i64 v,.int .i64 v_1]].length≤(9223372036854775807:Nat)∧(([]++ys).length+[[AV.int .i64 v,.int .i64 v_1]].length)*(16:Nat)≤(140737488355328:Nat)) then bif decide (([]++ys++[[AV.int .i64 v,.int .i64 v_1]]).length=([]++ys++[[AV.int .i64 v,.int .i64 v_1]]).length) then ∃ k_1 nm_1 t_1 f_1 a_5 b_1 c_1 zs j_1,BntQ zs j_1∧(k=k_1∧nm=nm_1∧t=t_1∧f=f_1∧a=a_5∧b=b_1∧c=c_1∧(True∧[] ++
 ys++[[AV.int .i64 v,.int .i64 v_1]]=zs)∧True)∧((True∧xs=xs)∧j=j_1∧True)∧True else False else False else bif decide (v=(6:Int)) then bif decide ((0:Int) < (↑([]++ys).length:Int)) then SrcQ xs j∧∀ (v j:Int),NumQ (↑([]++ys).length:Int) v j→(SrcQ xs j∧((3:Nat)=3∧(1:Nat)≤(3:Nat)∧(3:Nat)≤(1000:Nat))∧IntsB [[AV.int .i64 (-1001:Int)],[AV.int .i64 (0:Int)],[AV.int .i64 (99999:Int)]])∧∀ (v_1
 j:Int),PickQ [[AV.int .i64 (-1001:Int)],[AV.int .i64 (0:Int)],[AV.int .i64 (99999:Int)]] (AV.int .i64 v_1) j→bif decide (0≤v∧v < (↑([]++ys).length:Int)) then bif decide (([]++ys).length=([]++ys).length∧v.toNat < ([]++ys).length) then bif decide (([]++ys).length=(setEl ([]++ys) v.toNat (1:Nat) [AV.int .i64 v_1]).length) then ∃ k_1 nm_1 t_1 f_1 a_5 b_1 c_1 zs j_1,BntQ zs
 j_1∧(k=k_1∧nm=nm_1∧t=t_1∧f=f_1∧a=a_5∧b=b_1∧c=c_1∧(True∧setEl ([]++ys) v.toNat (1:Nat) [AV.int .i64 v_1]=zs)∧True)∧((True∧xs=xs)∧j=j_1∧True)∧True else False else False else False else bif decide (([]++ys).length=([]++ys).length) then ∃ k_1 nm_1 t_1 f_1 a_3 b_1 c_1 zs j_1,BntQ zs j_1∧(k=k_1∧nm=nm_1∧t=t_1∧f=f_1∧a=a_3∧b=b_1∧c=c_1∧(True∧[]++ys=zs)∧True)∧((True∧xs=xs)∧j=j_1∧True)∧True else False
 else bif decide (rng .i64 (c+(1:Int))) then bif decide (([]++ys).length=([]++ys).length) then ∃ k_1 nm_1 t_1 f_1 a_3 b_1 c_1 zs j_1,BntQ zs j_1∧(k=k_1∧nm=nm_1∧t=t_1∧f=f_1∧a=a_3∧b=b_1∧c+(1:Int)=c_1∧(True∧[]++ys=zs)∧True)∧((True∧xs=xs)∧j=j_1∧True)∧True else False else False else False
theorem qbent_P:qbent_T:=by
 unfold qbent_T
 intro gl xs i k nm t f a b c h ys ⟨hs,hr,hl,hc⟩
 have s:=hs.s
 have q0:∀ j,0≤j→BntQ ys j:=fun j hj=>⟨hr,by omega,hj⟩
 refine cd1 ⟨rfl,by omega,by omega⟩ ⟨hs,fun v j q=>csx (fun _=>⟨⟨⟨s,q.fj⟩,by decide,by decide,by decide⟩,fun v j p=>cd1 rfl ⟨_,_,_,_,_,_,_,_,_,q0 j p.2,⟨rfl,rfl,rfl,rfl,rfl,rfl,rfl,⟨trivial,rfl⟩,trivial⟩,sT⟩⟩) (fun _=>csx (fun _=>⟨⟨⟨s,q.fj⟩,⟨rfl,by decide,by decide⟩,⟨fun x hx=>?_⟩⟩,fun v j p=>cd1 rfl ⟨_,_,_,_,_,_,_,_,_,q0 j p.fj,⟨rfl,rfl,rfl,rfl,rfl,rfl,rfl,⟨trivial,rfl⟩,trivial⟩,sT⟩⟩) (fun _=>csx (fun _=>⟨⟨⟨s,q.fj⟩,⟨rfl,by decide,by decide⟩,ints_of [-1,52596000,0] ?_⟩,fun v j p=>cd1 rfl ⟨_,_,_,_,_,_,_,_,_,q0 j p.fj,⟨rfl,rfl,rfl,rfl,rfl,rfl,rfl,⟨trivial,rfl⟩,trivial⟩,sT⟩⟩) (fun _=>csx (fun _=>⟨⟨s,q.fj⟩,fun f a b c j p=>cd1 rfl ⟨_,_,_,_,_,_,_,_,_,q0 j p.fj,⟨rfl,rfl,rfl,rfl,rfl,rfl,rfl,⟨trivial,rfl⟩,trivial⟩,sT⟩⟩) (fun _=>csx (fun _=>⟨⟨⟨s,q.fj⟩,by decide,by decide,by decide⟩,fun v j p=>⟨⟨s,p.2⟩,fun v j p=>⟨⟨s,p.fj⟩,fun v j p=>cd1 rfl ⟨_,_,_,_,_,_,_,_,_,q0 j p.fj,⟨rfl,rfl,rfl,rfl,rfl,rfl,rfl,⟨trivial,rfl⟩,trivial⟩,sT⟩⟩⟩⟩) (fun _=>csx (fun _=>⟨⟨⟨s,q.fj⟩,by decide,by decide,by decide⟩,fun v j p=>⟨⟨s,p.2⟩,fun v2 j p2=>?_⟩⟩) (fun _=>csx (fun _=>csx (fun h0=>⟨⟨s,q.fj⟩,fun v j p=>⟨⟨⟨s,p.fj⟩,⟨rfl,by decide,by decide⟩,ints_of [-1001,0,99999] ?_⟩,fun v2 j p2=>?_⟩⟩) (fun _=>cd1 rfl ⟨_,_,_,_,_,_,_,_,_,q0 j q.fj,⟨rfl,rfl,rfl,rfl,rfl,rfl,rfl,⟨trivial,rfl⟩,trivial⟩,sT⟩)) (fun _=>cdI (by omega) (cd1 rfl ⟨_,_,_,_,_,_,_,_,_,q0 j q.fj,⟨rfl,rfl,rfl,rfl,rfl,rfl,rfl,⟨trivial,rfl⟩,trivial⟩,sT⟩))))))))⟩
 ·simp only [List.mem_cons,List.not_mem_nil,or_false] at hx
  rcases hx with rfl | rfl | rfl | rfl | rfl | rfl <;> exact ⟨_,rfl⟩
 ·intro n hn
  simp only [List.mem_cons,List.not_mem_nil,or_false] at hn
  show _∧_
  omega
 ·have:=p2.fv (by omega)
  exact cd1 ⟨rfl,by simp; omega,by simp; omega⟩ (cd1 rfl ⟨_,_,_,_,_,_,_,_,_,⟨rds_add hr hl (by show _∧_; omega) (by show _∧_; omega),by simp; omega,p2.fj⟩,⟨rfl,rfl,rfl,rfl,rfl,rfl,rfl,⟨trivial,rfl⟩,trivial⟩,sT⟩)
 ·intro n hn
  simp only [List.mem_cons,List.not_mem_nil,or_false] at hn
  show _∧_
  omega
 ·rw [List.nil_append] at *
  have hv:=p.fv (by omega)
  have:=pick_of [-1001,0,99999] p2
  simp only [List.mem_cons,List.not_mem_nil,or_false] at this
  exact cd1 (by omega) (cd1 ⟨rfl,by omega⟩ (cd1 (by simp [setEl]) ⟨_,_,_,_,_,_,_,_,_,⟨rds_set hr (by omega) (by show _∧_; omega),by simp [setEl]; omega,p2.fj⟩,⟨rfl,rfl,rfl,rfl,rfl,rfl,rfl,⟨trivial,rfl⟩,trivial⟩,sT⟩))
def qbent_S:Prop:=∀ (gl:Glob) (xs:List (List AV)) (i k:Int) (nm:ByteArray) (t f a b c:Int) (h:Bool) (ys:List (List AV)),SrcQ xs i∧BntP ys c→fnQ Tryz.prog { glob:=gl,spec:=lk [],specH:=lk [],specQ:=lk [(11,qn_s),(12,qrange_s),(33,qtext_s),(32,qplace_s),(13,qpick_s)],nowf:=true } { nt:=81,drop:=drp [(1,992),(2,1024),(3,258048),(4,524288),(5,7340032),(6,16777216),(7,503316480),(8,1073741824),(9,32212254720),(10,68719476736),(11,962072674304),(12,2199023255552),(13,1121501860331520),(14,2251799813685248),(15,4607182418800017408),(16,9223372036854775808),(17,129127208515966861312),(18,1208630671709449821880320),(19,1208925819614629174706176)],fr:=1000,kp:=[0],frz:=fun id=>cond (Nat.beq id 19) [1001005] [] } (fun _ _=>none) 6 Tryz.f14 [.ptr 0 0,.agg [.int .i64 k,.str nm,.int .i64 t,.int .i64 f,.int .i64 a,.int .i64 b,.int .i64 c,.sl 2 h ys]] [.cells [.sl 1 false xs,.int .i64 i]] (fun r2 bs2=>∃ (k:Int) (nm:ByteArray) (t f a b c:Int) (zs:List (List AV)) (j:Int),(BntQ zs j)∧le r2 (.agg [.int .i64 k,.str nm,.int .i64 t,.int .i64 f,.int .i64 a,.int .i64 b,.int .i64 c,.sl 2 false zs])∧leBs bs2 [.cells [.sl 1 false xs,.int .i64 j]])
theorem qbent_e:qbent_T=qbent_S:=by kernel_rfl
theorem qbent_v:qbent_S:=Eq.mp (qbent_e ..) (qbent_P)
theorem qbent_ok (gl:Glob):QOK Tryz.prog gl 14 qbent_s:=by
 refine ⟨fok Tryz.func14 (by kernel_rfl) (by kernel_rfl),?_⟩
 intro xs bs T h K hT
 unfold qbent_s at h
 split at h
 ·simp only [Option.some.injEq] at h
  subst h
  obtain ⟨hp,hK⟩:=hT
  obtain ⟨r,bs2,⟨o0,o1,o2,o3,o4,o5,o6,o7,o8,hq,hl,hb⟩,hC⟩:=fnQ_sound tyNil (by exact specOK rfl rfl trivial trivial (d:=qsOf rfl ⟨(qn_ok gl),(qrange_ok gl),(qtext_ok gl),(qplace_ok gl),(qpick_ok gl),trivial⟩)) (by kernel_rfl) Tryz.func14 (qbent_v gl _ _ _ _ _ _ _ _ _ _ _ hp)
  exact ⟨_,_,hK o0 o1 o2 o3 o4 o5 o6 o7 o8 hq,hC.le hl hb⟩
 ·cases h
end Go.Proofs.YtgnnafneglannaaGreatDoor
namespace Go.Proofs.YtgnnafneglannaaGreatDoor
open Go
set_option linter.unusedVariables false
set_option linter.unusedSimpArgs false
def cvs (P:LLA) (c:Int):List Int:=(P.filter fun r=>decide (rE r=c)).map rV
def alq:List Int→Bool
 | []=>true
 | v::l=>l.all fun u=>decide (u=v)
theorem alq_last:∀ {l:List Int} {v:Int},alq (v::l)=true→(v::l).getLast?=some v
 | [],v,_=>rfl
 | a::l,v,h=>by
  simp only [alq,List.all_cons,Bool.and_eq_true,decide_eq_true_eq] at h
  obtain ⟨rfl,h⟩:=h
  rw [List.getLast?_cons_cons]
  exact alq_last (l:=l) (v:=a) h
theorem alq_snoc (l:List Int) (v:Int):alq (l++[v])=(alq l&&(match l.getLast? with | none=>true | some u=>decide (u=v))):=by
 cases l with
 | nil=>rfl
 | cons a l =>
  cases h:alq (a::l) with
  | true =>
   rw [alq_last h]
   simp only [alq] at h
   simp only [List.cons_append,alq,List.all_append,h,List.all_cons,List.all_nil,Bool.and_true,Bool.true_and]
   exact decide_eq_decide.2 eq_comm
  | false =>
   simp only [alq] at h
   simp only [List.cons_append,alq,List.all_append,h,Bool.false_and]
def bdP (P:LLA) (c:Int):Bool:=!(alq (cvs P c))
theorem cvs_snoc (P:LLA) (r:List AV) (c:Int):cvs (P++[r]) c=cvs P c++(if rE r=c then [rV r] else []):=by
 unfold cvs
 rw [List.filter_append,List.map_append]
 by_cases h:rE r=c
 ·simp [h]
 ·simp [h]
def vmP (P:LLA):List (Int × AV):=P.foldl (fun m r=>mPut m (rE r) (.int .i64 (rV r))) []
theorem vmP_snoc (P:LLA) (r:List AV):vmP (P++[r])=mPut (vmP P) (rE r) (.int .i64 (rV r)):=by
 unfold vmP; rw [List.foldl_append]; rfl
theorem vm_get (c:Int):∀ P:LLA,mGet (vmP P) c=((cvs P c).getLast?).map (AV.int .i64) :=
 snoc_ind (by simp [vmP,mGet,cvs]) fun P r ih=>by
  rw [vmP_snoc,cvs_snoc,mGet_put]
  by_cases h:rE r=c
  ·rw [if_pos h,if_pos h]; simp
  ·rw [if_neg h,if_neg h,List.append_nil]; exact ih
theorem vm_has (P:LLA) (c:Int):mHas (vmP P) c=decide (cvs P c≠[]):=by
 unfold mHas
 rw [vm_get]
 cases h:cvs P c with
 | nil=>simp
 | cons a l=>simp
def lasI (l:List Int):Int:=l.getLast?.getD 0
theorem vm_int (P:LLA) (c:Int):mInt (vmP P) c=lasI (cvs P c):=by
 unfold mInt lasI
 rw [vm_get]
 cases h:(cvs P c).getLast? with
 | none=>rfl
 | some v=>rfl
theorem bdP_same (P:LLA) (e v:Int):bdP (P++[[.int .i64 e,.int .i64 v]]) e=(bdP P e||(mHas (vmP P) e&&decide (¬ mInt (vmP P) e=v))):=by
 unfold bdP
 rw [cvs_snoc,if_pos (show rE [.int .i64 e,.int .i64 v]=e from rfl),vm_has,vm_int]
 have:rV [.int .i64 e,.int .i64 v]=v:=rfl
 rw [this,alq_snoc]
 unfold lasI
 cases h:cvs P e with
 | nil=>simp
 | cons a l =>
  have hl:(a::l).getLast?=some ((a::l).getLast (by simp)):=List.getLast?_eq_some_getLast (by simp)
  rw [hl]
  cases alq (a::l) <;> simp
theorem bdP_ne (P:LLA) (e v c:Int) (h:¬ e=c):bdP (P++[[.int .i64 e,.int .i64 v]]) c=bdP P c:=by
 unfold bdP
 rw [cvs_snoc,if_neg (show ¬ rE [.int .i64 e,.int .i64 v]=c from h),List.append_nil]
def rdsF (G:LLA):LLA:=(G.map itRd).flatten
def plF (G:LLA) (p:List Int):Bool:=G.any fun x=>decide (¬ itPl x=p)
theorem plF_snoc (G:LLA) (x:List AV) (p:List Int):plF (G++[x]) p=(plF G p||decide (¬ itPl x=p)):=by
 unfold plF; rw [List.any_append]; simp
theorem rdsF_snoc (G:LLA) (x:List AV):rdsF (G++[x])=rdsF G++itRd x:=by
 unfold rdsF; rw [List.map_append,List.flatten_append]; simp
theorem take_snoc {G:LLA} {i:Nat} (h:i < G.length):G.take (i+1)=G.take i++[G.getD i []]:=by
 rw [getD_lt h]; exact (List.take_append_getElem h).symm
def badC (G:LLA) (c:Nat):Bool:=if c=0 then plF G (itPl (G.headD [])) else bdP (rdsF G) c
def ctN (G:LLA):Nat→LLA
 | 0=>[]
 | n+1=>ctN G n++(if badC G n then [[.int .i64 (n:Int)]] else [])
def rdN (G:LLA):Nat→LLA
 | 0=>[]
 | n+1=>rdN G n++(if badC G n then [] else if cvs (rdsF G) n=[] then [] else [[.int .i64 (n:Int),.int .i64 (lasI (cvs (rdsF G) n))]])
theorem ctN_len (G:LLA):∀ n,(ctN G n).length≤n
 | 0=>by simp [ctN]
 | n+1=>by
  have:=ctN_len G n
  simp only [ctN]
  split <;> simp <;> omega
theorem rdN_len (G:LLA):∀ n,(rdN G n).length≤n
 | 0=>by simp [rdN]
 | n+1=>by
  have:=rdN_len G n
  simp only [rdN]
  split
  ·simp; omega
  ·split <;> simp <;> omega
structure RdE (rd:LLA):Prop where
 fr:∀ i,i < rd.length→∃ e v:Int,rd.getD i []=[.int .i64 e,.int .i64 v]∧(1≤e∧e≤11)∧rng .i64 v
 fl:rd.length≤1000
structure MgP (G:LLA):Prop where
 fr:∀ i,i < G.length→∃ (k:Int) (nm:ByteArray) (t f a b c:Int) (rd:LLA) (co ar:Int),G.getD i []=itA k nm t f a b c rd co ar∧RdE rd
 fl:G.length≤900
 f0:0 < G.length
theorem rdE_mem {rd:LLA} (h:RdE rd):∀ r ∈ rd,1≤rE r∧rE r≤11:=fun r hr=>by
 obtain ⟨i,hi,rfl⟩:=List.mem_iff_getElem.1 hr
 obtain ⟨e,v,h1,h2,_⟩:=h.fr i hi
 rw [getD_lt hi] at h1
 rw [h1]; exact h2
theorem cvs_0 {G:LLA} (h:MgP G):cvs (rdsF G) 0=[]:=by
 unfold cvs
 rw [List.map_eq_nil_iff,List.filter_eq_nil_iff]
 intro r hr
 unfold rdsF at hr
 rw [List.mem_flatten] at hr
 obtain ⟨l,hl,hr⟩:=hr
 obtain ⟨x,hx,rfl⟩:=List.mem_map.1 hl
 obtain ⟨i,hi,rfl⟩:=List.mem_iff_getElem.1 hx
 obtain ⟨k,nm,t,f,a,b,c,rd,co,ar,h1,h2⟩:=h.fr i hi
 rw [getD_lt hi] at h1
 rw [h1] at hr
 have:=rdE_mem h2 r hr
 simp only [decide_eq_true_eq]
 omega
end Go.Proofs.YtgnnafneglannaaGreatDoor
