import Derived.Test.YtgnnafneglannaaGreatDoorIAg
import Derived.Test.YtgnnafneglannaaGreatDoorIAd
import Derived.Test.YtgnnafneglannaaGreatDoorIAe
import Derived.Test.YtgnnafneglannaaGreatDoorIAf
import Derived.Test.YtgnnafneglannaaGreatDoorIAc
import Derived.ProofKit
import Derived.OpenShut
import Derived.ShutString
import Derived.ChangeOld
import Derived.Carry
import Derived.Deep.Slices
import Derived.WideShapes
import Derived.LaidMore
set_option maxRecDepth 100000
namespace Go.Proofs.YtgnnafneglannaaGreatDoor
open Go
set_option linter.unusedVariables false
set_option linter.unusedSimpArgs false
def vcF (l:LLA) (q:List Int) (cut:Int):LLA:=vsF (arF l cut) q
def vcT (l:LLA) (q:List Int) (cut best:Int):LLA:=(arF l cut).filter fun y=>decide (itKy y=q)&&decide (itCo y=best)
def rp8 (l:LLA):LLA:=l.map (List.take 8)
def kyM (k:Int) (nm:ByteArray) (t:Int):List Int:=itKy [.int .i64 k,.str nm,.int .i64 t]
def ctR (l:LLA) (k:Int) (nm:ByteArray) (t cut:Int):LLA:=rp8 (vcF l (kyM k nm t) cut)
theorem vcT_pos {l:LLA} {x:List AV} {q:List Int} {cut best:Int} (h:(itKy x=q∧itAr x≤cut)∧itCo x=best):vcT (l++[x]) q cut best=vcT l q cut best++[x]:=by
 unfold vcT; rw [arF_snoc,if_pos h.1.2,List.filter_append,List.filter_cons_of_pos (by simp [h])]; rfl
theorem vcT_neg {l:LLA} {x:List AV} {q:List Int} {cut best:Int} (h:¬ ((itKy x=q∧itAr x≤cut)∧itCo x=best)):vcT (l++[x]) q cut best=vcT l q cut best:=by
 unfold vcT; rw [arF_snoc]
 by_cases h1:itAr x≤cut
 ·rw [if_pos h1,List.filter_append,List.filter_cons_of_neg (by simp only [Bool.and_eq_true,decide_eq_true_eq]; exact fun z=>h ⟨⟨z.1,h1⟩,z.2⟩)]; simp
 ·rw [if_neg h1,List.append_nil]
theorem vcT_len {l:LLA} {q:List Int} {cut best:Int}:(vcT l q cut best).length≤l.length:=Nat.le_trans (List.length_filter_le _ _) (List.length_filter_le _ _)
theorem rp8_snoc (l:LLA) (x:List AV):rp8 (l++[x])=rp8 l++[x.take 8]:=by unfold rp8; simp
theorem rp8_len (l:LLA):(rp8 l).length=l.length:=by unfold rp8; simp
def skB (l:LLA) (fr to:Int) (n:Nat):Bool:=(decide (0 < n)&&decide (itKy (l.getD (n - 1) [])=itKy (l.getD n [])))||(decide (itTm (l.getD n []) < fr)||decide (to < itTm (l.getD n [])))
def refG (l:LLA) (fr to cut:Int):Nat→List LLA
 | 0=>[]
 | n+1=>refG l fr to cut n++(if skB l fr to n then [] else if vcF l (itKy (l.getD n [])) cut=[] then [] else [vcF l (itKy (l.getD n [])) cut])
def refN (l:LLA) (fr to cut:Int) (n:Nat):LLA:=(refG l fr to cut n).map mgRow
theorem refG_mem {l:LLA} {fr to cut:Int} {g:LLA}:∀ n:Nat,g ∈ refG l fr to cut n↔∃ j:Nat,j < n∧skB l fr to j=false∧g=vcF l (itKy (l.getD j [])) cut∧g≠[]
 | 0=>by simp [refG]
 | n+1=>by
  simp only [refG]
  rw [List.mem_append,refG_mem n]
  constructor
  ·rintro (⟨j,hj,h⟩ | h)
   ·exact ⟨j,by omega,h⟩
   ·split at h
    ·simp at h
    ·next hs =>
     split at h
     ·simp at h
     ·next hv=>exact ⟨n,by omega,by simpa using hs,by simpa using h,by rw [List.mem_singleton.1 h]; exact hv⟩
  ·rintro ⟨j,hj,h1,h2,h3⟩
   by_cases e:j=n
   ·subst e
    refine .inr ?_
    rw [if_neg (by rw [h1]; simp),if_neg (by rw [← h2]; exact h3),h2]; simp
   ·exact .inl ⟨j,by omega,h1,h2,h3⟩
theorem refG_len {l:LLA} {fr to cut:Int}:∀ n:Nat,(refG l fr to cut n).length≤n
 | 0=>by simp [refG]
 | n+1=>by
  have:=refG_len (l:=l) (fr:=fr) (to:=to) (cut:=cut) n
  simp only [refG]
  rw [List.length_append]
  split
  ·simp; omega
  ·split <;> simp <;> omega
theorem vc_win {l:LLA} {fr to cut:Int} (h:OkL l) {x:List AV} (hx:ItS x) (hf:fr≤itTm x) (ht:itTm x≤to):vcF l (itKy x) cut=vsF (mrF l fr to cut) (itKy x):=by
 have e:mrF l fr to cut=(arF l cut).filter fun y=>wnP fr to (itKy y):=by
  unfold mrF arF
  rw [List.filter_filter]
  refine List.filter_congr fun y hy=>?_
  unfold wnP cntd
  rw [kT_ky (h.its y hy),Bool.and_comm]
 rw [e]
 exact (vsF_filter (wnP fr to) _ (by unfold wnP; rw [kT_ky hx]; simp [hf,ht]) _).symm
theorem ref_gr {l:LLA} {fr to cut:Int} (h:OkL l):GrP (mrF l fr to cut) (refG l fr to cut l.length):=by
 have hs:l.Pairwise OrdR:=List.Pairwise.imp_of_mem (fun {a b} ha hb hab=>itC_ord (h.its a ha) (h.its b hb) hab) (inV_ok h.fv).2.2
 have key:∀ {i j:Nat},i < j→j < l.length→lexI (itKy (l.getD i [])) (itKy (l.getD j []))≤0:=fun hij hj=>by
  rw [getD_lt hj,getD_lt (by omega)]
  exact ordR_le (List.pairwise_iff_getElem.1 hs _ _ (by omega) hj hij)
 have its:∀ {j:Nat},j < l.length→ItS (l.getD j []):=fun hj=>by rw [getD_lt hj]; exact h.its _ (List.getElem_mem hj)
 have sk:∀ {j:Nat},skB l fr to j=false→(0 < j→itKy (l.getD (j - 1) [])≠itKy (l.getD j []))∧fr≤itTm (l.getD j [])∧itTm (l.getD j [])≤to:=fun {j} hj=>by
  unfold skB at hj
  simp only [Bool.or_eq_false_iff,Bool.and_eq_false_iff,decide_eq_false_iff_not] at hj
  exact ⟨fun h0=>by rcases hj.1 with q | q; exact absurd h0 q; exact q,by omega,by omega⟩
 have lt:∀ {i j:Nat},i < j→j < l.length→skB l fr to j=false→ltK (itKy (l.getD i [])) (itKy (l.getD j [])):=fun {i j} hij hj hk=>by
  have h1:=(sk hk).1 (by omega)
  have h2:lexI (itKy (l.getD (j - 1) [])) (itKy (l.getD j [])) < 0:=by
   have:=key (i:=j - 1) (j:=j) (by omega) hj
   rcases Int.lt_or_le (lexI (itKy (l.getD (j - 1) [])) (itKy (l.getD j []))) 0 with q | q
   ·exact q
   ·exact absurd (lexI_zero (by omega)) h1
  by_cases e:i=j - 1
  ·rw [e]; exact h2
  ·have h3:=key (i:=i) (j:=j - 1) (by omega) (by omega)
   rcases Int.lt_or_le (lexI (itKy (l.getD i [])) (itKy (l.getD (j - 1) []))) 0 with q | q
   ·exact lexI_tr q h2
   ·have:=lexI_zero (show lexI (itKy (l.getD i [])) (itKy (l.getD (j - 1) []))=0 by omega)
    unfold ltK
    rw [this]; exact h2
 have hd:∀ {j:Nat},j < l.length→skB l fr to j=false→vcF l (itKy (l.getD j [])) cut≠[]→hdK (vcF l (itKy (l.getD j [])) cut)=itKy (l.getD j []):=fun hj hk hn=>by
  have:=vc_win (cut:=cut) h (its hj) (sk hk).2.1 (sk hk).2.2
  rw [this] at hn ⊢
  exact hdK_vs hn
 refine ⟨fun g hg=>?_,?_,fun x hx=>?_⟩
 ·obtain ⟨j,hj,hk,e,hn⟩:=(refG_mem _).1 hg
  refine ⟨hn,?_⟩
  rw [e] at hn
  rw [e,hd hj hk hn]
  exact vc_win h (its hj) (sk hk).2.1 (sk hk).2.2
 ·have:∀ n:Nat,n≤l.length→((refG l fr to cut n).map hdK).Pairwise ltK:=by
   intro n
   induction n with
   | zero=>intro _; simp [refG]
   | succ n ih =>
    intro hn
    simp only [refG]
    split
    ·rw [List.append_nil]; exact ih (by omega)
    ·next hs2 =>
     split
     ·rw [List.append_nil]; exact ih (by omega)
     ·next hv =>
      have hs2:skB l fr to n=false:=by simpa using hs2
      rw [List.map_append,List.pairwise_append]
      refine ⟨ih (by omega),by simp,fun a ha b hb=>?_⟩
      simp only [List.map_cons,List.map_nil,List.mem_singleton] at hb
      subst hb
      obtain ⟨g,hg,rfl⟩:=List.mem_map.1 ha
      obtain ⟨j,hj,hk,e,hne⟩:=(refG_mem _).1 hg
      rw [e] at hne
      rw [e,hd (by omega) hk hne,hd (by omega) hs2 hv]
      exact lt hj (by omega) hs2
  exact this _ (Nat.le_refl _)
 ·obtain ⟨x1,x2⟩:=List.mem_filter.1 hx
  obtain ⟨i,hi,e⟩:=List.mem_iff_getElem.1 x1
  have ei:l.getD i []=x:=by rw [getD_lt hi]; exact e
  have hw:fr≤itTm x∧itTm x≤to:=by
   unfold cntd at x2
   simp only [Bool.and_eq_true,decide_eq_true_eq] at x2
   omega
  have hx1:ItS x:=h.its x x1
  have first:∀ n:Nat,n≤i→itKy (l.getD n [])=itKy x→∃ j:Nat,j≤i∧itKy (l.getD j [])=itKy x∧(0 < j→itKy (l.getD (j - 1) [])≠itKy x):=by
   intro n
   induction n with
   | zero=>intro _ hq; exact ⟨0,by omega,hq,fun z=>by omega⟩
   | succ n ih =>
    intro hn hq
    by_cases q:itKy (l.getD n [])=itKy x
    ·exact ih (by omega) q
    ·exact ⟨n+1,hn,hq,fun _=>q⟩
  obtain ⟨j,hj,hq,hp⟩:=first i (Nat.le_refl _) (by rw [ei])
  have hjl:j < l.length:=by omega
  have htm:itTm (l.getD j [])=itTm x:=by rw [← kT_ky (its hjl),hq,kT_ky hx1]
  have hsk:skB l fr to j=false:=by
   unfold skB
   simp only [Bool.or_eq_false_iff,Bool.and_eq_false_iff,decide_eq_false_iff_not]
   refine ⟨?_,by omega,by omega⟩
   by_cases h0:0 < j
   ·exact .inr (by rw [hq]; exact hp h0)
   ·exact .inl h0
  have hne:vcF l (itKy (l.getD j [])) cut≠[]:=by
   rw [hq,vc_win h hx1 hw.1 hw.2]
   have ho:=mrF_ord (fr:=fr) (to:=to) (cut:=cut) h
   rcases bsF_at (mrF l fr to cut) (itKy x) with ⟨q,_⟩ | ⟨y,hy,hyk,q⟩
   ·exact absurd rfl (q x hx)
   ·have h1:=(bsF_ge (mrF l fr to cut) (itKy x)).1 x hx rfl
    have h2:=ho.2 x hx
    have h3:bsF (mrF l fr to cut) (itKy x)=itCo y:=by rcases q with q | q; exact q; omega
    exact List.ne_nil_of_mem (List.mem_filter.2 ⟨hy,by rw [h3,decide_eq_true hyk]; simp⟩)
  refine List.mem_map.2 ⟨vcF l (itKy (l.getD j [])) cut,(refG_mem _).2 ⟨j,hjl,hsk,rfl,hne⟩,?_⟩
  rw [hd hjl hsk hne,hq]
theorem ref_all {l:LLA} {fr to cut:Int} (h:OkL l):refN l fr to cut l.length=(grF (mrF l fr to cut)).map mgRow:=by
 have ho:=mrF_ord (fr:=fr) (to:=to) (cut:=cut) h
 unfold refN
 rw [gr_ext (ref_gr h) (grF_ok ho.1 ho.2) (fun q=>Iff.rfl) fun x _=>rfl]
theorem refN_skip {l:LLA} {fr to cut:Int} {n:Nat} (h:skB l fr to n=true∨vcF l (itKy (l.getD n [])) cut=[]):refN l fr to cut (n+1)=refN l fr to cut n:=by
 unfold refN
 simp only [refG]
 rcases h with h | h
 ·rw [if_pos h,List.append_nil]
 ·rw [if_pos h]
  split <;> rw [List.append_nil]
theorem refN_add {l:LLA} {fr to cut:Int} {n:Nat} (h:skB l fr to n=false) (hv:vcF l (itKy (l.getD n [])) cut≠[]):refN l fr to cut (n+1)=refN l fr to cut n++[mgRow (vcF l (itKy (l.getD n [])) cut)]:=by
 unfold refN
 simp only [refG]
 rw [if_neg (by rw [h]; simp),if_neg hv,List.map_append]; rfl
theorem refN_len {l:LLA} {fr to cut:Int} (n:Nat):(refN l fr to cut n).length≤n:=by unfold refN; rw [List.length_map]; exact refG_len n
theorem vcF_sub {l:LLA} {q:List Int} {cut:Int}:(∀ y ∈ vcF l q cut,y ∈ l)∧(vcF l q cut).length≤l.length:=⟨fun y hy=>(List.mem_filter.1 (List.mem_filter.1 hy).1).1,Nat.le_trans (List.length_filter_le _ _) (List.length_filter_le _ _)⟩
theorem las_snoc (l:List Int) (v:Int):lasI (l++[v])=v:=by simp [lasI]
theorem ne_snoc (l:List Int) (v:Int):decide (¬ l++[v]=[])=true:=by simp
theorem alq_s {l:List Int} (v:Int) (h:¬ l=[]):alq (l++[v])=(alq l&&decide (v=lasI l)):=by
 rw [alq_snoc]
 cases e:l.getLast? with
 | none=>exact absurd (List.getLast?_eq_none_iff.1 e) h
 | some u =>
  unfold lasI
  rw [e]
  congr 1
  exact decide_eq_decide.2 eq_comm
theorem cvs_app (a b:LLA) (c:Int):cvs (a++b) c=cvs a c++cvs b c:=by unfold cvs; rw [List.filter_append,List.map_append]
def itM (rs:LLA):LLA:=rs.map fun r=>mkI r 0 0
theorem rdN_eq {G H:LLA} (h:∀ n,badC G n=badC H n) (hr:rdsF G=rdsF H):∀ n,rdN G n=rdN H n∧ctN G n=ctN H n
 | 0=>⟨rfl,rfl⟩
 | n+1=>by
  obtain ⟨h1,h2⟩:=rdN_eq h hr n
  simp only [rdN,ctN]
  rw [h1,h2,h n,hr]
  exact ⟨rfl,rfl⟩
theorem mg_eq {G H:LLA} (h1:G.map itRd=H.map itRd) (h2:G.map itPl=H.map itPl) (h3:itk (G.headD [])=itk (H.headD [])∧itn (G.headD [])=itn (H.headD [])∧itTm (G.headD [])=itTm (H.headD [])):mgRow G=mgRow H:=by
 have hr:rdsF G=rdsF H:=by unfold rdsF; rw [h1]
 have hl:G.length=H.length:=by have:=congrArg List.length h1; simpa using this
 have hp:∀ p,plF G p=plF H p:=fun p=>by
  have e:∀ X:LLA,plF X p=(X.map itPl).any fun z=>decide (¬ z=p):=fun X=>by unfold plF; rw [List.any_map]; rfl
  rw [e,e,h2]
 have h0:itPl (G.headD [])=itPl (H.headD []):=by
  have e:∀ X:LLA,itPl (X.headD [])=(X.map itPl).headD []:=fun X=>by cases X <;> rfl
  rw [e,e,h2]
 have hb:∀ n,badC G n=badC H n:=fun n=>by
  unfold badC
  rw [h0,hp,hr]
 obtain ⟨e1,e2⟩:=rdN_eq hb hr 12
 unfold mgRow gK gN gT gQ gR gC
 rw [e1,e2,h3.1,h3.2.1,h3.2.2,h0,hp,hl]
theorem itM_eq {V:LLA} (h:∀ x ∈ V,ItS x):mgRow (itM (rp8 V))=mgRow V:=by
 have one:∀ x:List AV,ItS x→itRd (mkI (x.take 8) 0 0)=itRd x∧itPl (mkI (x.take 8) 0 0)=itPl x∧itk (mkI (x.take 8) 0 0)=itk x∧itn (mkI (x.take 8) 0 0)=itn x∧itTm (mkI (x.take 8) 0 0)=itTm x:=fun x hx=>by
  obtain ⟨k,nm,t,f,a,b,c,rd,co,ar,rfl⟩:=hx.fr
  exact ⟨rfl,rfl,rfl,rfl,rfl⟩
 unfold itM rp8
 rw [List.map_map]
 refine mg_eq ?_ ?_ ?_
 ·rw [List.map_map]; exact List.map_congr_left fun x hx=>(one x (h x hx)).1
 ·rw [List.map_map]; exact List.map_congr_left fun x hx=>(one x (h x hx)).2.1
 ·cases V with
  | nil=>exact ⟨rfl,rfl,rfl⟩
  | cons x V=>exact ⟨(one x (h x (by simp))).2.2.1,(one x (h x (by simp))).2.2.2.1,(one x (h x (by simp))).2.2.2.2⟩
theorem itM_len (rs:LLA):(itM rs).length=rs.length:=by unfold itM; simp
theorem itM_at {rs:LLA} {i:Nat} (h:i < rs.length):(itM rs).getD i []=mkI (rs.getD i []) 0 0:=by
 rw [getD_lt (by rw [itM_len]; exact h),getD_lt h]
 unfold itM; rw [List.getElem_map]
structure RmP (rs:LLA):Prop where
 fr:∀ i,i < rs.length→∃ (k:Int) (nm:ByteArray) (t f a b c:Int) (rd:LLA),rs.getD i []=rpR k nm t f a b c rd∧RdE rd∧RdsP rd∧ascB rd=true
 fl:rs.length≤900
 f0:0 < rs.length
theorem ok_asc {l:LLA} (h:OkL l) {x:List AV} (hx:x ∈ l):ascB (itRd x)=true:=by
 have hc:=firE_all (inV_ok h.fv).2.1 x hx
 obtain ⟨k,nm,t,f,a,b,c,rd,co,ar,rfl,_,_,_⟩:=h.row hx
 have hc:itE k nm t f a b c rd co ar=0:=hc
 show ascB rd=true
 unfold itE at hc
 split at hc
 ·next hg =>
  unfold gpE at hg
  split at hg
  ·omega
  ·split at hg
   ·omega
   ·split at hg
    ·omega
    ·unfold vdE at hg
     split at hg
     ·omega
     ·split at hg
      ·omega
      ·split at hg
       ·next q=>exact q
       ·omega
 ·next hg=>exact absurd hc hg
theorem rm_of {l V:LLA} (h:OkL l) (hs:∀ x ∈ V,x ∈ l) (hl:V.length≤900) (h0:V≠[]):RmP (rp8 V):=by
 refine ⟨fun i hi=>?_,by rw [rp8_len]; exact hl,by rw [rp8_len]; exact List.length_pos_iff.2 h0⟩
 rw [rp8_len] at hi
 have hx:=hs _ (List.getElem_mem hi)
 have ha:=ok_asc h hx
 obtain ⟨k,nm,t,f,a,b,c,rd,co,ar,e,h1,h2,_⟩:=h.row hx
 rw [e] at ha
 refine ⟨k,nm,t,f,a,b,c,rd,?_,h2,h1,ha⟩
 rw [getD_lt (by rw [rp8_len]; exact hi)]
 unfold rp8
 rw [List.getElem_map,e]; rfl
theorem cv_find {rd:LLA} (ha:ascB rd=true) (c:Int):cvs rd c=if fdB rd c=true then [fdV rd c] else []:=by
 have hasc:∀ {i j:Nat},i < j→j < rd.length→rE (rd.getD i []) < rE (rd.getD j []):=by
  have h:=of_decide_eq_true ha
  have:∀ (d i:Nat),i+d+1 < rd.length→rE (rd.getD i []) < rE (rd.getD (i+d+1) []):=by
   intro d
   induction d with
   | zero =>
    intro i hi
    rcases h (i+0+1) (by omega) with z | z
    ·omega
    ·exact z
   | succ d ih =>
    intro i hi
    have h1:=ih i (by omega)
    rcases h (i+(d+1)+1) hi with z | z
    ·omega
    ·have z:rE (rd.getD (i+d+1) []) < rE (rd.getD (i+(d+1)+1) []):=z
     omega
  intro i j hij hj
  have h1:=this (j - i - 1) i (by omega)
  rw [show i+(j - i - 1)+1=j by omega] at h1
  exact h1
 by_cases h:∃ i:Nat,i < rd.length∧rE (rd.getD i [])=c
 ·obtain ⟨i,hi,he⟩:=h
  have e:cdI' c rd=i:=(idx_some (p:=cdP c) hi (by unfold cdP; exact decide_eq_true he) (fun j hj=>by unfold cdP; exact decide_eq_false (by have:=hasc hj hi; omega))).symm
  have hb:fdB rd c=true:=by unfold fdB; rw [e]; exact decide_eq_true (by omega)
  rw [if_pos hb]
  unfold fdV
  rw [if_pos hb,e,Int.toNat_natCast]
  unfold cvs
  rw [fil_split (P:=fun r=>decide (rE r=c)) hi (decide_eq_true he)]
  have n1:(rd.take i).filter (fun r=>decide (rE r=c))=[]:=List.filter_eq_nil_iff.2 fun r hr=>by
   obtain ⟨j,hj,rfl⟩:=List.mem_iff_getElem.1 hr
   rw [List.length_take] at hj
   have:=hasc (i:=j) (j:=i) (by omega) hi
   rw [getD_lt (show j < rd.length by omega)] at this
   rw [List.getElem_take]
   simp only [decide_eq_true_eq]
   omega
  have n2:(rd.drop (i+1)).filter (fun r=>decide (rE r=c))=[]:=List.filter_eq_nil_iff.2 fun r hr=>by
   obtain ⟨j,hj,rfl⟩:=List.mem_iff_getElem.1 hr
   rw [List.length_drop] at hj
   have:=hasc (i:=i) (j:=i+1+j) (by omega) (by omega)
   rw [getD_lt (show i+1+j < rd.length by omega)] at this
   rw [List.getElem_drop]
   simp only [decide_eq_true_eq]
   omega
  rw [n1,n2]; rfl
 ·have e:cdI' c rd=-1:=(idx_none (p:=cdP c) fun j hj=>by unfold cdP; exact decide_eq_false fun z=>h ⟨j,hj,z⟩).symm
  have hb:¬ fdB rd c=true:=by unfold fdB; rw [e]; simp
  rw [if_neg hb]
  unfold cvs
  rw [List.map_eq_nil_iff,List.filter_eq_nil_iff]
  intro r hr
  obtain ⟨j,hj,rfl⟩:=List.mem_iff_getElem.1 hr
  simp only [decide_eq_true_eq]
  intro z
  exact h ⟨j,hj,by rw [getD_lt hj]; exact z⟩
end Go.Proofs.YtgnnafneglannaaGreatDoor
namespace Go.Proofs.YtgnnafneglannaaGreatDoor
open Go
set_option linter.unusedVariables false
set_option linter.unusedSimpArgs false
structure KoP (xs:List (List AV)) (k:Nat):Prop where
 fk:k=xs.length
 fi:IntsB xs
 fl:Ln xs
structure RfdP (code:Int) (xs:List (List AV)) (i:Int):Prop where
 flo:0≤i
 fhi:i≤xs.length
 fno:∀ j:Nat,(j:Int) < i→cdP code (xs.getD j [])=false
def rfdL (f:Bool) (xs:List (List AV)) (code:Int):LInv:=⟨Int,fun i=>⟨[(0,.sl 2 f xs),(1,.int .i64 code),(6,.int .i64 i)],[]⟩,RfdP code xs,fun i=>(xs.length - i).toNat,none⟩
def rfind_s:Sp
 | [.sl 2 f xs,.int .i64 code]=>some (RdsP xs,.tup [.int .i64 (fdV xs code),.bool (fdB xs code)])
 | _=>none
def rfind_T:Prop :=
  ∀ (gl:Glob) (f:Bool) (xs:List (List AV)) (code:Int),RdsP xs→True→IR9 code→(∃ x,RfdP code xs x∧(((bif f then f=true else True)∧xs=xs)∧code=code∧(0:Int)=x∧True)∧True)∧∀ (x:Int),RfdP code xs x→bif decide (x < (↑xs.length:Int)) then bif decide (0≤x∧x < (↑xs.length:Int)) then ∃ n,List.take [AV.int .i64 n].length (List.drop (0:Nat)
 (xs.getD x.toNat []))=[AV.int .i64 n]∧bif decide (n=code) then bif decide (0≤x∧x < (↑xs.length:Int)) then ∃ n,List.take [AV.int .i64 n].length (List.drop (1:Nat) (xs.getD x.toNat []))=[AV.int .i64 n]∧n=fdV xs code∧true=fdB xs code∧True else False else bif decide (rng .i64 (x+(1:Int))) then ∃ y,RfdP code xs y∧(rfdL f xs code).m y < (rfdL f xs code).m x∧(((bif f then f=true else
 True)∧xs=xs)∧code=code∧x+(1:Int)=y∧True)∧True else False else False else (0:Int)=fdV xs code∧false=fdB xs code∧True
theorem rfind_P:rfind_T:=by
 unfold rfind_T
 intro gl f xs code hr _ _
 have hs:=hr.sm
 have bf:cond f (f=true) True:=by cases f <;> trivial
 refine ⟨⟨0,⟨by decide,by omega,fun j h=>by omega⟩,⟨⟨bf,rfl⟩,rfl,rfl,trivial⟩,trivial⟩,?_⟩
 rintro i ⟨h0,h1,hn⟩
 refine csx (fun hl=>?_) (fun hl=>?_)
 ·obtain ⟨e,v,he,_⟩:=hr.row i.toNat (by omega)
  have e1:rE (xs.getD i.toNat [])=e:=by rw [he]; rfl
  have e2:rV (xs.getD i.toNat [])=v:=by rw [he]; rfl
  refine cd1 (by omega) ⟨e,by rw [he]; rfl,csx (fun q=>?_) (fun q=>?_)⟩
  ·refine cd1 (by omega) ⟨v,by rw [he]; rfl,?_⟩
   have hc:cdI' code xs=i.toNat:=(idx_some (p:=cdP code) (xs:=xs) (i:=i.toNat) (by omega) (by unfold cdP; rw [e1]; exact decide_eq_true q) (fun j hj=>hn j (by omega))).symm
   have hb:fdB xs code=true:=by unfold fdB; rw [hc]; exact decide_eq_true (by omega)
   unfold fdV
   rw [hb,hc,if_pos rfl,Int.toNat_natCast,e2]
   exact ⟨rfl,rfl,trivial⟩
  ·refine cdI (by omega) ⟨i+1,⟨by omega,by omega,fun j hj=>?_⟩,by simp only [rfdL]; omega,⟨⟨bf,rfl⟩,rfl,rfl,trivial⟩,trivial⟩
   rcases Nat.lt_or_ge j i.toNat with k | k
   ·exact hn j (by omega)
   ·rw [show j=i.toNat by omega]; unfold cdP; rw [e1]; exact decide_eq_false q
 ·have hc:cdI' code xs=-1:=(idx_none fun j hj=>hn j (by omega)).symm
  have hb:fdB xs code=false:=by unfold fdB; rw [hc]; rfl
  unfold fdV
  rw [hb]
  exact ⟨rfl,rfl,trivial⟩
def rfind_S:Prop:=∀ (gl:Glob) (f:Bool) (xs:List (List AV)) (code:Int),RdsP xs→fnK Tryz.prog { glob:=gl,spec:=lk [],specH:=lk [],shape:=[17,24],nowf:=true } { nt:=25,drop:=drp [(2,896),(3,6144),(4,516096),(5,32505856)] } (invs [(2,rfdL f xs code)]) 6 Tryz.f64 [.sl 2 f xs,.int .i64 code] (.tup [.int .i64 (fdV xs code),.bool (fdB xs code)])
theorem rfind_e:rfind_T=rfind_S:=by kernel_rfl
theorem rfind_v:rfind_S:=Eq.mp (rfind_e ..) (rfind_P)
theorem rfind_ok (gl:Glob):SOK Tryz.prog gl 64 rfind_s:=by
 refine ⟨fok Tryz.func64 (by kernel_rfl) (by kernel_rfl),?_⟩
 intro xs pre r h hp
 unfold rfind_s at h
 split at h
 ·simp only [Option.some.injEq,Prod.mk.injEq] at h
  obtain ⟨h1,h2⟩:=h
  subst h1 h2
  exact fnK_sound tyNil (by exact specOK rfl rfl trivial trivial) (by kernel_rfl) Tryz.func64 rfl (rfind_v gl _ _ _ hp)
 ·cases h
end Go.Proofs.YtgnnafneglannaaGreatDoor
namespace Go.Proofs.YtgnnafneglannaaGreatDoor
open Go
set_option linter.unusedVariables false
set_option linter.unusedSimpArgs false
structure CtP (l rd:LLA):Prop where
 fp:ItsP l
 fl:l.length≤900
 fr:RdsP rd
structure Ct1 (l:LLA) (q:List Int) (cut:Int) (x:Int × Int):Prop where
 fi:0≤x.1∧x.1≤l.length
 fb:x.2=bsF (arF (l.take x.1.toNat) cut) q
structure Ct2 (l:LLA) (i:Int):Prop where
 fi:0≤i∧i≤l.length
def ct3 (l:LLA) (h:Bool) (k:Int) (nm:ByteArray) (t f a b c:Int) (rd:LLA) (g:Bool) (cut:Int):LInv:=⟨Int × Int,fun x=>⟨[(0,.sl 10 h l),(2,.int .i64 cut),(4,.ptr 4 0),(7,.int .i64 x.2),(8,.int .i64 x.1)],[(4,.cells [.int .i64 k,.str nm,.int .i64 t,.int .i64 f,.int .i64 a,.int .i64 b,.int .i64 c,.sl 2 g rd])]⟩,Ct1 l (kyM k nm t) cut,fun x=>(l.length - x.1).toNat,none⟩
def ct9 (l:LLA) (h:Bool) (k:Int) (nm:ByteArray) (t f a b c:Int) (rd:LLA) (g:Bool) (cut best:Int):LInv:=⟨Int,fun i=>⟨[(0,.sl 10 h l),(2,.int .i64 cut),(4,.ptr 4 0),(7,.int .i64 best),(9,.rw 509 8 (rp8 (vcT (l.take i.toNat) (kyM k nm t) cut best)).length),(10,.int .i64 i)],[(4,.cells [.int .i64 k,.str nm,.int .i64 t,.int .i64 f,.int .i64 a,.int .i64 b,.int .i64 c,.sl 2 g rd]),(509,.row 27 8 (rp8 (vcT (l.take i.toNat) (kyM k nm t) cut best)))]⟩,Ct2 l,fun i=>(l.length - i).toNat,none⟩
def ctJ (l:LLA) (h:Bool) (k:Int) (nm:ByteArray) (t f a b c:Int) (rd:LLA) (g:Bool) (cut:Int) (id:Nat) (st:St):Option LInv:=cond (Nat.beq id 3) (some (ct3 l h k nm t f a b c rd g cut)) (cond (Nat.beq id 9) (match lk st.tmps 7 with
 | some (.int _ best)=>some (ct9 l h k nm t f a b c rd g cut best)
 | _=>none) none)
def rcount_s (rdC:LLA→LLA→Int) (cmpI:Int→Int→Int) (cmpS:ByteArray→ByteArray→Int) (ctR:LLA→Int→ByteArray→Int→Int→LLA):Sp
 | [.sl 10 h l,.agg [.int .i64 k,.str nm,.int .i64 t,.int .i64 f,.int .i64 a,.int .i64 b,.int .i64 c,.sl 2 g rd],.int .i64 cut]=>some (CtP l rd,.sl 8 false (ctR l k nm t cut))
 | _=>none
def rcount_T (rdC:LLA→LLA→Int) (cmpI:Int→Int→Int) (cmpS:ByteArray→ByteArray→Int) (ctR:LLA→Int→ByteArray→Int→Int→LLA):Prop :=
  ∀ (gl:Glob) (l:List (List AV)) (h:Bool) (k t f a b c cut:Int) (nm:ByteArray) (rd:List (List AV)) (g:Bool),CtP l rd→True→(IR9 k)∧nm.size.le (9223372036854775807:Nat)∧(IR9 t)∧(IR9 f)∧((-9223372036854775808:Int)≤a∧a ≤
 (9223372036854775807:Int))∧(IR9 b)∧(IR9 c)∧True∧True→IR9 cut→(∃ x,Ct1 l (kyM k nm t) cut x∧(((bif h then h=true else True)∧l=l)∧cut=cut∧(0:Nat)=0∧(-1:Int)=x.snd∧(0:Int)=x.fst∧True)∧(k=k∧nm=nm∧t=t∧f=f∧a=a∧b=b∧c=c∧((bif g then g=true
 else True)∧rd=rd)∧True)∧True)∧∀ (x:Int × Int),Ct1 l (kyM k nm t) cut x→bif decide (x.fst < (↑l.length:Int)) then bif decide (0≤x.fst∧x.fst < (↑l.length:Int)) then ∃ n s n_1 n_2 n_3 n_4 n_5 xs,List.take [AV.int .i64 n,.str s,.int .i64 n_1,.int .i64 n_2,.int .i64 n_3,.int .i64 n_4,.int .i64 n_5,.sl (2:Nat) false xs].length (List.drop (0:Nat) (l.getD x.fst.toNat []))=[AV.int .i64 n,.str
 s,.int .i64 n_1,.int .i64 n_2,.int .i64 n_3,.int .i64 n_4,.int .i64 n_5,.sl (2:Nat) false xs]∧True∧True∧(RdsP []∧RdsP [])∧bif decide (orI (cmpI n k) (orI (cmpS s nm) (orI (cmpI n_1 t) (orI (cmpI (0:Int) (0:Int)) (orI (cmpI (0:Int) (0:Int)) (orI (cmpI (0:Int) (0:Int)) (orI (cmpI (0:Int) (0:Int)) (rdC [] [])))))))=(0:Int)) then bif decide (0≤x.fst∧x.fst < (↑l.length:Int)) then ∃ n,List.take
 [AV.int .i64 n].length (List.drop (9:Nat) (l.getD x.fst.toNat []))=[AV.int .i64 n]∧bif decide (n≤cut) then bif decide (0≤x.fst∧x.fst < (↑l.length:Int)) then ∃ n,List.take [AV.int .i64 n].length (List.drop (8:Nat) (l.getD x.fst.toNat []))=[AV.int .i64 n]∧bif decide (rng .i64 (x.fst+(1:Int))) then ∃ y,Ct1 l (kyM k nm t) cut y∧(ct3 l h k nm t f a b c rd g cut).m y < (ct3 l h k nm t f a b c
 rd g cut).m x∧(((bif h then h=true else True)∧l=l)∧cut=cut∧(0:Nat)=0∧max x.snd n=y.snd∧x.fst+(1:Int)=y.fst∧True)∧(k=k∧nm=nm∧t=t∧f=f∧a=a∧b=b∧c=c∧((bif g then g=true else True)∧rd=rd)∧True)∧True else False else False else bif decide (rng .i64 (x.fst+(1:Int))) then ∃ y,Ct1 l (kyM k nm t) cut y∧(ct3 l h k nm t f a b c rd g cut).m y < (ct3 l h k nm t f a b c rd g cut).m x∧(((bif h then h=true else
 True)∧l=l)∧cut=cut∧(0:Nat)=0∧x.snd=y.snd∧x.fst+(1:Int)=y.fst∧True)∧(k=k∧nm=nm∧t=t∧f=f∧a=a∧b=b∧c=c∧((bif g then g=true else True)∧rd=rd)∧True)∧True else False else False else bif decide (rng .i64 (x.fst+(1:Int))) then ∃ y,Ct1 l (kyM k nm t) cut y∧(ct3 l h k nm t f a b c rd g cut).m y < (ct3 l h k nm t f a b c rd g cut).m x∧(((bif h then h=true else True)∧l=l)∧cut=cut∧(0:Nat)=0∧x.snd=y.snd∧x.fst
+(1:Int)=y.fst∧True)∧(k=k∧nm=nm∧t=t∧f=f∧a=a∧b=b∧c=c∧((bif g then g=true else True)∧rd=rd)∧True)∧True else False else False else (∃ x_1,Ct2 l x_1∧(((bif h then h=true else True)∧l=l)∧cut=cut∧(0:Nat)=0∧x.snd=x.snd∧(0:Nat)=List.length (rp8 (vcT (List.take (Int.toNat x_1) l) (kyM k nm t) cut x.snd))∧(0:Int)=x_1∧True)∧(k=k∧nm=nm∧t=t∧f=f∧a=a∧b=b∧c=c∧((bif g then g=true else True)∧rd=rd)∧True)∧[]=rp8
 (vcT (List.take (Int.toNat x_1) l) (kyM k nm t) cut x.snd)∧True)∧∀ (x_1:Int),Ct2 l x_1→bif decide (x_1 < (↑l.length:Int)) then bif decide (0≤x_1∧x_1 < (↑l.length:Int)) then ∃ n s n_1 n_2 n_3 n_4 n_5 xs,List.take [AV.int .i64 n,.str s,.int .i64 n_1,.int .i64 n_2,.int .i64 n_3,.int .i64 n_4,.int .i64 n_5,.sl (2:Nat) false xs].length (List.drop (0:Nat) (l.getD x_1.toNat []))=[AV.int .i64
 n,.str s,.int .i64 n_1,.int .i64 n_2,.int .i64 n_3,.int .i64 n_4,.int .i64 n_5,.sl (2:Nat) false xs]∧True∧True∧(RdsP []∧RdsP [])∧bif decide (orI (cmpI n k) (orI (cmpS s nm) (orI (cmpI n_1 t) (orI (cmpI (0:Int) (0:Int)) (orI (cmpI (0:Int) (0:Int)) (orI (cmpI (0:Int) (0:Int)) (orI (cmpI (0:Int) (0:Int)) (rdC [] [])))))))=(0:Int)) then bif decide (0≤x_1∧x_1 < (↑l.length:Int)) then ∃
 n,List.take [AV.int .i64 n].length (List.drop (9:Nat) (l.getD x_1.toNat []))=[AV.int .i64 n]∧bif decide (n≤cut) then bif decide (0≤x_1∧x_1 < (↑l.length:Int)) then ∃ n,List.take [AV.int .i64 n].length (List.drop (8:Nat) (l.getD x_1.toNat []))=[AV.int .i64 n]∧bif decide (n=x.snd) then bif decide (0≤x_1∧x_1 < (↑l.length:Int)) then ∃ n s n_6 n_7 n_8 n_9 n_10 xs,List.take [AV.int .i64
 n,.str s,.int .i64 n_6,.int .i64 n_7,.int .i64 n_8,.int .i64 n_9,.int .i64 n_10,.sl (2:Nat) false xs].length (List.drop (0:Nat) (l.getD x_1.toNat []))=[AV.int .i64 n,.str s,.int .i64 n_6,.int .i64 n_7,.int .i64 n_8,.int .i64 n_9,.int .i64 n_10,.sl (2:Nat) false xs]∧bif decide (List.length (rp8 (vcT (List.take x_1.toNat l) (kyM k nm t) cut x.snd))=List.length (rp8 (vcT (List.take x_1.toNat l) (kyM k
 nm t) cut x.snd))∧List.length (rp8 (vcT (List.take x_1.toNat l) (kyM k nm t) cut x.snd))+[[AV.int .i64 n,.str s,.int .i64 n_6,.int .i64 n_7,.int .i64 n_8,.int .i64 n_9,.int .i64 n_10,.sl (2:Nat) false xs]].length≤(9223372036854775807:Nat)∧(List.length (rp8 (vcT (List.take x_1.toNat l) (kyM k nm t) cut x.snd))+[[AV.int .i64 n,.str s,.int .i64 n_6,.int .i64 n_7,.int .i64 n_8,.int .i64 n_9,.int
 .i64 n_10,.sl (2:Nat) false xs]].length)*(88:Nat)≤(140737488355328:Nat)) then bif decide (rng .i64 (x_1+(1:Int))) then ∃ y,Ct2 l y∧(ct9 l h k nm t f a b c rd g cut x.snd).m y < (ct9 l h k nm t f a b c rd g cut x.snd).m x_1∧(((bif h then h=true else True)∧l=l)∧cut=cut∧(0:Nat)=0∧x.snd=x.snd∧(rp8 (vcT (List.take x_1.toNat l) (kyM k nm t) cut x.snd)++[[AV.int .i64 n,.str s,.int .i64 n_6,.int
 .i64 n_7,.int .i64 n_8,.int .i64 n_9,.int .i64 n_10,.sl (2:Nat) false xs]]).length=List.length (rp8 (vcT (List.take (Int.toNat y) l) (kyM k nm t) cut x.snd))∧x_1+(1:Int)=y∧True)∧(k=k∧nm=nm∧t=t∧f=f∧a=a∧b=b∧c=c∧((bif g then g=true else True)∧rd=rd)∧True)∧rp8 (vcT (List.take x_1.toNat l) (kyM k nm t) cut x.snd)++[[AV.int .i64 n,.str s,.int .i64 n_6,.int .i64 n_7,.int .i64 n_8,.int .i64 n_9,.int
 .i64 n_10,.sl (2:Nat) false xs]]=rp8 (vcT (List.take (Int.toNat y) l) (kyM k nm t) cut x.snd)∧True else False else False else False else bif decide (rng .i64 (x_1+(1:Int))) then ∃ y,Ct2 l y∧(ct9 l h k nm t f a b c rd g cut x.snd).m y < (ct9 l h k nm t f a b c rd g cut x.snd).m x_1∧(((bif h then h=true else True)∧l=l)∧cut=cut∧(0:Nat)=0∧x.snd=x.snd∧List.length (rp8 (vcT (List.take x_1.toNat l) (kyM
 k nm t) cut x.snd))=List.length (rp8 (vcT (List.take (Int.toNat y) l) (kyM k nm t) cut x.snd))∧x_1+(1:Int)=y∧True)∧(k=k∧nm=nm∧t=t∧f=f∧a=a∧b=b∧c=c∧((bif g then g=true else True)∧rd=rd)∧True)∧rp8 (vcT (List.take x_1.toNat l) (kyM k nm t) cut x.snd)=rp8 (vcT (List.take (Int.toNat y) l) (kyM k nm t) cut x.snd)∧True else False else False else bif decide (rng .i64 (x_1+(1:Int))) then ∃ y,Ct2 l y∧(ct9
 l h k nm t f a b c rd g cut x.snd).m y < (ct9 l h k nm t f a b c rd g cut x.snd).m x_1∧(((bif h then h=true else True)∧l=l)∧cut=cut∧(0:Nat)=0∧x.snd=x.snd∧List.length (rp8 (vcT (List.take x_1.toNat l) (kyM k nm t) cut x.snd))=List.length (rp8 (vcT (List.take (Int.toNat y) l) (kyM k nm t) cut x.snd))∧x_1+(1:Int)=y∧True)∧(k=k∧nm=nm∧t=t∧f=f∧a=a∧b=b∧c=c∧((bif g then g=true else True)∧rd=rd)∧True)∧rp8
 (vcT (List.take x_1.toNat l) (kyM k nm t) cut x.snd)=rp8 (vcT (List.take (Int.toNat y) l) (kyM k nm t) cut x.snd)∧True else False else False else bif decide (rng .i64 (x_1+(1:Int))) then ∃ y,Ct2 l y∧(ct9 l h k nm t f a b c rd g cut x.snd).m y < (ct9 l h k nm t f a b c rd g cut x.snd).m x_1∧(((bif h then h=true else True)∧l=l)∧cut=cut∧(0:Nat)=0∧x.snd=x.snd∧List.length (rp8 (vcT (List.take
 x_1.toNat l) (kyM k nm t) cut x.snd))=List.length (rp8 (vcT (List.take (Int.toNat y) l) (kyM k nm t) cut x.snd))∧x_1+(1:Int)=y∧True)∧(k=k∧nm=nm∧t=t∧f=f∧a=a∧b=b∧c=c∧((bif g then g=true else True)∧rd=rd)∧True)∧rp8 (vcT (List.take x_1.toNat l) (kyM k nm t) cut x.snd)=rp8 (vcT (List.take (Int.toNat y) l) (kyM k nm t) cut x.snd)∧True else False else False else bif decide (List.length (rp8 (vcT
 (List.take x_1.toNat l) (kyM k nm t) cut x.snd))=List.length (rp8 (vcT (List.take x_1.toNat l) (kyM k nm t) cut x.snd))) then True∧rp8 (vcT (List.take x_1.toNat l) (kyM k nm t) cut x.snd)=ctR l k nm t cut else False
theorem rcount_P:rcount_T rdC cmpI cmpS ctR:=by
 unfold rcount_T
 intro gl l h k t f a b c cut nm rd g hp
 intros
 obtain ⟨hp,hl,hr⟩:=hp
 have bh:cond h (h=true) True:=by cases h <;> trivial
 have bg:cond g (g=true) True:=by cases g <;> trivial
 have r0:RdsP []:=⟨fun i h=>by simp at h,by simp⟩
 refine ⟨⟨(0,-1),⟨by simp only; omega,rfl⟩,by (repeat' (first | exact trivial | exact rfl | assumption | apply And.intro))⟩,?_⟩
 rintro ⟨i,best⟩ ⟨⟨i0,i1⟩,ib⟩
 simp only at i0 i1 ib
 dsimp only
 have hky:∀ {k2 t2 f2 a2 b2 c2 co2 ar2:Int} {nm2:ByteArray} {rd2:LLA},suC k2 nm2 t2 k nm t=0↔itKy (itA k2 nm2 t2 f2 a2 b2 c2 rd2 co2 ar2)=kyM k nm t:=ky_su (f2:=0) (a2:=0) (b2:=0) (c2:=0) (co2:=0) (ar2:=0) (rd2:=[])
 refine csx (fun hi=>cd1 (by omega) ?_) (fun hi=>?_)
 ·obtain ⟨k2,nm2,t2,f2,a2,b2,c2,rd2,co2,ar2,h1,_⟩:=hp.fr i.toNat (by omega)
  have hs:arF (l.take (i+1).toNat) cut=arF (l.take i.toNat) cut++(if ar2≤cut then [itA k2 nm2 t2 f2 a2 b2 c2 rd2 co2 ar2] else []):=by
   rw [show (i+1).toNat=i.toNat+1 by omega,take_snoc (by omega),arF_snoc,h1]; rfl
  have ms:∀ b9:Int,(ct3 l h k nm t f a b c rd g cut).m (i+1,b9) < (ct3 l h k nm t f a b c rd g cut).m (i,best):=fun b9=>by simp only [ct3]; omega
  have no:¬ (ar2≤cut∧itKy (itA k2 nm2 t2 f2 a2 b2 c2 rd2 co2 ar2)=kyM k nm t)→Ct1 l (kyM k nm t) cut (i+1,best):=fun e=>⟨by simp only; omega,by
   simp only
   rw [hs]
   by_cases q:ar2≤cut
   ·rw [if_pos q,bsF_snoc,if_neg (fun z=>e ⟨q,z⟩)]; exact ib
   ·rw [if_neg q,List.append_nil]; exact ib⟩
  refine ⟨k2,nm2,t2,f2,a2,b2,c2,rd2,by rw [h1]; rfl,trivial,trivial,⟨r0,r0⟩,?_⟩
  rw [ky_eq]
  exact csx (fun q=>cd1 (by omega) ⟨ar2,by rw [h1]; rfl,csx (fun q2=>cd1 (by omega) ⟨co2,by rw [h1]; rfl,cdI (by omega) ⟨(i+1,max best co2),⟨by simp only; omega,by simp only; rw [hs,if_pos q2,bsF_snoc,if_pos (hky.1 q),← ib]; rfl⟩,ms _,by (repeat' (first | exact trivial | exact rfl | assumption | apply And.intro))⟩⟩) (fun q2=>cdI (by omega) ⟨(i+1,best),no (fun z=>q2 z.1),ms _,by (repeat' (first | exact trivial | exact rfl | assumption | apply And.intro))⟩)⟩) (fun q=>cdI (by omega) ⟨(i+1,best),no (fun z=>q (hky.2 z.2)),ms _,by (repeat' (first | exact trivial | exact rfl | assumption | apply And.intro))⟩)
 ·rw [List.take_of_length_le (by omega)] at ib
  refine ⟨⟨0,⟨by decide,by omega⟩,by (repeat' (first | exact trivial | exact rfl | assumption | apply And.intro))⟩,?_⟩
  rintro j ⟨j0,j1⟩
  have hlen:(rp8 (vcT (l.take j.toNat) (kyM k nm t) cut best)).length≤900:=by
   rw [rp8_len]
   have h1:=vcT_len (l:=l.take j.toNat) (q:=kyM k nm t) (cut:=cut) (best:=best)
   have h2:(l.take j.toNat).length≤l.length:=by rw [List.length_take]; omega
   omega
  refine csx (fun hj=>cd1 (by omega) ?_) (fun hj=>cd1 rfl ⟨trivial,?_⟩)
  ·obtain ⟨k2,nm2,t2,f2,a2,b2,c2,rd2,co2,ar2,h1,_⟩:=hp.fr j.toNat (by omega)
   have hsn:l.take (j+1).toNat=l.take j.toNat++[itA k2 nm2 t2 f2 a2 b2 c2 rd2 co2 ar2]:=by rw [show (j+1).toNat=j.toNat+1 by omega,← h1]; exact take_snoc (by omega)
   have ms:(ct9 l h k nm t f a b c rd g cut best).m (j+1) < (ct9 l h k nm t f a b c rd g cut best).m j:=by simp only [ct9]; omega
   have hc2:Ct2 l (j+1):=⟨by omega,by omega⟩
   have no:¬ ((itKy (itA k2 nm2 t2 f2 a2 b2 c2 rd2 co2 ar2)=kyM k nm t∧ar2≤cut)∧co2=best)→vcT (l.take (j+1).toNat) (kyM k nm t) cut best=vcT (l.take j.toNat) (kyM k nm t) cut best:=fun e=>by rw [hsn]; exact vcT_neg e
   refine ⟨k2,nm2,t2,f2,a2,b2,c2,rd2,by rw [h1]; rfl,trivial,trivial,⟨r0,r0⟩,?_⟩
   rw [ky_eq]
   refine csx (fun q=>cd1 (by omega) ⟨ar2,by rw [h1]; rfl,csx (fun q2=>cd1 (by omega) ⟨co2,by rw [h1]; rfl,csx (fun q3=>cd1 (by omega) ⟨k2,nm2,t2,f2,a2,b2,c2,rd2,by rw [h1]; rfl,cd1 ⟨rfl,by simp only [List.length_singleton]; omega,by simp only [List.length_singleton]; omega⟩ (cdI (by omega) ⟨j+1,hc2,ms,?_⟩)⟩) (fun q3=>cdI (by omega) ⟨j+1,hc2,ms,by rw [no (fun z=>q3 z.2)]; (repeat' (first | exact trivial | exact rfl | assumption | apply And.intro))⟩)⟩) (fun q2=>cdI (by omega) ⟨j+1,hc2,ms,by rw [no (fun z=>q2 z.1.2)]; (repeat' (first | exact trivial | exact rfl | assumption | apply And.intro))⟩)⟩) (fun q=>cdI (by omega) ⟨j+1,hc2,ms,by rw [no (fun z=>q (hky.2 z.1.1))]; (repeat' (first | exact trivial | exact rfl | assumption | apply And.intro))⟩)
   have hpos:rp8 (vcT (l.take (j+1).toNat) (kyM k nm t) cut best)=rp8 (vcT (l.take j.toNat) (kyM k nm t) cut best)++[[.int .i64 k2,.str nm2,.int .i64 t2,.int .i64 f2,.int .i64 a2,.int .i64 b2,.int .i64 c2,.sl 2 false rd2]]:=by
    rw [hsn,vcT_pos ⟨⟨hky.1 q,q2⟩,q3⟩,rp8_snoc]; rfl
   rw [hpos]
   (repeat' (first | exact trivial | exact rfl | assumption | apply And.intro))
  ·rw [List.take_of_length_le (by omega),ib]; rfl
def rcount_S (rdC:LLA→LLA→Int) (cmpI:Int→Int→Int) (cmpS:ByteArray→ByteArray→Int) (ctR:LLA→Int→ByteArray→Int→Int→LLA):Prop:=∀ (gl:Glob) (l:List (List AV)) (h:Bool) (k t f a b c cut:Int) (nm:ByteArray) (rd:List (List AV)) (g:Bool),CtP l rd→fnK Tryz.prog { glob:=gl,spec:=lk [(46,rkey_s),(45,(rsame_s rdC cmpI cmpS))],specH:=lk [],shape:=[21,31,40,52,62,71,80],slz:=[(21,[2]),(52,[2]),(80,[2])],nowf:=true } { nt:=84,drop:=drp [(3,14336),(4,98304),(5,17179738112),(6,4363686772736),(9,30786325577728),(10,211106232532992),(11,18889465650003604144128),(12,9633627625054076235939840),(13,9671406556917033397649408)],emp:=fun id=>cond (Nat.beq id 8) [(9,509,27,8)] [] } (ctJ l h k nm t f a b c rd g cut) 6 Tryz.f47 [.sl 10 h l,.agg [.int .i64 k,.str nm,.int .i64 t,.int .i64 f,.int .i64 a,.int .i64 b,.int .i64 c,.sl 2 g rd],.int .i64 cut] (.sl 8 false (ctR l k nm t cut))
theorem rcount_e (rdC:LLA→LLA→Int) (cmpI:Int→Int→Int) (cmpS:ByteArray→ByteArray→Int) (ctR:LLA→Int→ByteArray→Int→Int→LLA):rcount_T rdC cmpI cmpS ctR=rcount_S rdC cmpI cmpS ctR:=by kernel_rfl
theorem rcount_v:rcount_S rdC cmpI cmpS ctR:=Eq.mp (rcount_e ..) (rcount_P)
theorem rcount_ok (gl:Glob):SOK Tryz.prog gl 47 (rcount_s rdC cmpI cmpS ctR):=by
 refine ⟨fok Tryz.func47 (by kernel_rfl) (by kernel_rfl),?_⟩
 intro xs pre r h hp
 unfold rcount_s at h
 split at h
 ·simp only [Option.some.injEq,Prod.mk.injEq] at h
  obtain ⟨h1,h2⟩:=h
  subst h1 h2
  exact fnK_sound tyNil (by exact specOK rfl rfl ⟨(rkey_ok gl),(rsame_ok gl),trivial⟩ trivial) (by kernel_rfl) Tryz.func47 rfl (rcount_v gl _ _ _ _ _ _ _ _ _ _ _ _ hp)
 ·cases h
def cz (p:Bool):LLA:=if p then [[.int .i64 0]] else []
def pR (rs:LLA) (i f a b c:Int):Bool:=plF ((itM rs).take i.toNat) [f,a,b,c]
structure Rm4 (rs:LLA) (i:Int):Prop where
 fi:0≤i∧i≤rs.length
structure Rm9 (c:Int):Prop where
 fc:1≤c∧c≤12
def cvI (rs:LLA) (i c:Int):List Int:=cvs (rdsF ((itM rs).take i.toNat)) c
def rm4 (rs:LLA) (h:Bool) (k:Int) (nm:ByteArray) (t f a b c vs:Int):LInv:=⟨Int,fun i=>⟨[(0,.sl 8 h rs),(2,.ptr 2 0),(3,.ptr 3 0),(4,.int .i64 i)],[(2,.cells mgZ),(3,.cells [.int .i64 k,.str nm,.int .i64 t,.int .i64 (mgI (pR rs i f a b c) f),.int .i64 (mgI (pR rs i f a b c) a),.int .i64 (mgI (pR rs i f a b c) b),.int .i64 (mgI (pR rs i f a b c) c),.rw 501 2 0,.int .i64 vs,.rw 502 1 (cz (pR rs i f a b c)).length]),(501,.row 63 2 []),(502,.row 3 1 (cz (pR rs i f a b c)))]⟩,Rm4 rs,fun i=>(rs.length - i).toNat,none⟩
def rm9 (rs:LLA) (h:Bool) (k:Int) (nm:ByteArray) (t f a b c vs:Int):LInv:=⟨Int,fun n=>⟨[(0,.sl 8 h rs),(2,.ptr 2 0),(3,.ptr 3 0),(5,.int .i64 n)],[(2,.cells mgZ),(3,.cells [.int .i64 k,.str nm,.int .i64 t,.int .i64 f,.int .i64 a,.int .i64 b,.int .i64 c,.rw 501 2 (rdN (itM rs) n.toNat).length,.int .i64 vs,.rw 502 1 (ctN (itM rs) n.toNat).length]),(501,.row 63 2 (rdN (itM rs) n.toNat)),(502,.row 3 1 (ctN (itM rs) n.toNat))]⟩,Rm9,fun n=>(12 - n).toNat,none⟩
def rm13 (rs:LLA) (h:Bool) (k:Int) (nm:ByteArray) (t f a b c vs n:Int):LInv:=⟨Int,fun i=>⟨[(0,.sl 8 h rs),(2,.ptr 2 0),(3,.ptr 3 0),(5,.int .i64 n),(6,.int .i64 (lasI (cvI rs i n))),(7,.bool (decide (¬ cvI rs i n=[]))),(8,.bool (alq (cvI rs i n))),(9,.int .i64 i)],[(2,.cells mgZ),(3,.cells [.int .i64 k,.str nm,.int .i64 t,.int .i64 f,.int .i64 a,.int .i64 b,.int .i64 c,.rw 501 2 (rdN (itM rs) n.toNat).length,.int .i64 vs,.rw 502 1 (ctN (itM rs) n.toNat).length]),(501,.row 63 2 (rdN (itM rs) n.toNat)),(502,.row 3 1 (ctN (itM rs) n.toNat))]⟩,Rm4 rs,fun i=>(rs.length - i).toNat,none⟩
def rmJ (rs:LLA) (h:Bool) (id:Nat) (st:St):Option LInv:=match lk st.heap 3 with
 | some (.cells [.int _ k,.str nm,.int _ t,.int _ f,.int _ a,.int _ b,.int _ c,_,.int _ vs,_])=>cond (Nat.beq id 4) (some (rm4 rs h k nm t f a b c vs)) (cond (Nat.beq id 9) (some (rm9 rs h k nm t f a b c vs)) (cond (Nat.beq id 13) (match lk st.tmps 5 with
  | some (.int _ n)=>some (rm13 rs h k nm t f a b c vs n)
  | _=>none) none))
 | _=>none
def rkeyN_s:Sp
 | [.agg [.int .i64 k,.str n,.int .i64 t,.int .i64 f,.int .i64 a,.int .i64 b,.int .i64 c,.sl 2 h rd]]=>some (True,.agg [.int .i64 k,.str n,.int .i64 t,.int .i64 0,.int .i64 0,.int .i64 0,.int .i64 0,.nils])
 | _=>none
def rkeyN_T:Prop :=
  ∀ (gl:Glob) (k t f a b c:Int) (n:ByteArray) (rd:List (List AV)) (h:Bool),(IR9 k)∧n.size.le (9223372036854775807:Nat)∧(IR9 t)∧(IR9 f)∧(IR9 a)∧((-9223372036854775808:Int) ≤
 b∧b≤(9223372036854775807:Int))∧(IR9 c)∧True∧True→k=k∧n=n∧t=t∧(0:Int)=0∧(0:Int)=0∧(0:Int)=0∧(0:Int)=0∧True∧True
theorem rkeyN_P:rkeyN_T:=by
 unfold rkeyN_T
 intros
 (repeat' (first | exact trivial | exact rfl | assumption | apply And.intro))
def rkeyN_S:Prop:=∀ (gl:Glob) (k t f a b c:Int) (n:ByteArray) (rd:List (List AV)) (h:Bool),fnK Tryz.prog { glob:=gl,spec:=lk [],specH:=lk [],nowf:=true } { nt:=10,drop:=drp [(1,1016)] } (fun _ _=>none) 6 Tryz.f46 [.agg [.int .i64 k,.str n,.int .i64 t,.int .i64 f,.int .i64 a,.int .i64 b,.int .i64 c,.sl 2 h rd]] (.agg [.int .i64 k,.str n,.int .i64 t,.int .i64 0,.int .i64 0,.int .i64 0,.int .i64 0,.nils])
theorem rkeyN_e:rkeyN_T=rkeyN_S:=by kernel_rfl
theorem rkeyN_v:rkeyN_S:=Eq.mp (rkeyN_e ..) (rkeyN_P)
theorem rkeyN_ok (gl:Glob):SOK Tryz.prog gl 46 rkeyN_s:=by
 refine ⟨fok Tryz.func46 (by kernel_rfl) (by kernel_rfl),?_⟩
 intro xs pre r h hp
 unfold rkeyN_s at h
 split at h
 ·simp only [Option.some.injEq,Prod.mk.injEq] at h
  obtain ⟨h1,h2⟩:=h
  subst h1 h2
  exact fnK_sound tyNil (by exact specOK rfl rfl trivial trivial) (by kernel_rfl) Tryz.func46 rfl (rkeyN_v gl _ _ _ _ _ _ _ _ _)
 ·cases h
def rmgd_s (fdV:List (List AV)→Int→Int) (fdB:List (List AV)→Int→Bool) (gK:LLA→Int) (gN:LLA→ByteArray) (gT:LLA→Int) (gQ:LLA→Nat→Int) (gR:LLA→LLA) (gC:LLA→LLA):Sp
 | [.sl 8 h rs]=>some (RmP rs,.agg [.int .i64 (gK (itM rs)),.str (gN (itM rs)),.int .i64 (gT (itM rs)),.int .i64 (gQ (itM rs) 0),.int .i64 (gQ (itM rs) 1),.int .i64 (gQ (itM rs) 2),.int .i64 (gQ (itM rs) 3),.sl 2 false (gR (itM rs)),.int .i64 (itM rs).length,.sl 1 false (gC (itM rs))])
 | _=>none
def rmgd_T (fdV:List (List AV)→Int→Int) (fdB:List (List AV)→Int→Bool) (gK:LLA→Int) (gN:LLA→ByteArray) (gT:LLA→Int) (gQ:LLA→Nat→Int) (gR:LLA→LLA) (gC:LLA→LLA):Prop :=
  ∀ (gl:Glob) (rs:List (List AV)) (h:Bool),RmP rs→True→bif decide ((0:Int)≤(0:Int)∧(0:Int) < (↑rs.length:Int)) then ∃ n s n_1 n_2 n_3 n_4 n_5 xs,List.take [AV.int .i64 n,.str s,.int .i64 n_1,.int .i64 n_2,.int .i64 n_3,.int .i64 n_4,.int .i64 n_5,.sl (2:Nat) false xs].length (rs.getD (0:Nat) [])=[AV.int .i64 n,.str s,.int .i64 n_1,.int .i64 n_2,.int .i64 n_3,.int .i64 n_4,.int .i64 n_5,.sl
 (2:Nat) false xs]∧True∧bif decide ((0:Int)≤(0:Int)∧(0:Int) < (↑rs.length:Int)) then ∃ n_6 n_7 n_8 n_9,List.take [AV.int .i64 n_6,.int .i64 n_7,.int .i64 n_8,.int .i64 n_9].length (List.drop (3:Nat) (rs.getD (0:Nat) []))=[AV.int .i64 n_6,.int .i64 n_7,.int .i64 n_8,.int .i64 n_9]∧(∃ x,Rm4 rs x∧(((bif h then h=true else True)∧rs=rs)∧(0:Nat)=0∧(0:Nat)=0∧(0:Int)=x∧True)∧((0:Int)=0∧(⟨#[]⟩ :
 ByteArray)=(⟨#[]⟩:ByteArray)∧(0:Int)=0∧(0:Int)=0∧(0:Int)=0∧(0:Int)=0∧(0:Int)=0∧True∧(0:Int)=0∧True∧True)∧(n=n∧s=s∧n_1=n_1∧n_6=mgI (pR rs x n_6 n_7 n_8 n_9) n_6∧n_7=mgI (pR rs x n_6 n_7 n_8 n_9) n_7∧n_8=mgI (pR rs x n_6 n_7 n_8 n_9) n_8∧n_9=mgI (pR rs x n_6 n_7 n_8 n_9) n_9∧(0:Nat)=0∧(↑rs.length:Int)=(↑rs.length:Int)∧(0:Nat)=List.length (cz (pR rs x n_6 n_7 n_8 n_9))∧True)∧([]:List (List
 AV))=[]∧[]=cz (pR rs x n_6 n_7 n_8 n_9)∧True)∧∀ (x:Int),Rm4 rs x→bif decide (x < (↑rs.length:Int)) then bif decide (0≤x∧x < (↑rs.length:Int)) then ∃ n_10 n_11 n_12 n_13,List.take [AV.int .i64 n_10,.int .i64 n_11,.int .i64 n_12,.int .i64 n_13].length (List.drop (3:Nat) (rs.getD x.toNat []))=[AV.int .i64 n_10,.int .i64 n_11,.int .i64 n_12,.int .i64 n_13]∧bif decide ((0:Int)≤(0:Int)∧(0:Int)
 < (↑rs.length:Int)) then ∃ n_14 n_15 n_16 n_17,List.take [AV.int .i64 n_14,.int .i64 n_15,.int .i64 n_16,.int .i64 n_17].length (List.drop (3:Nat) (rs.getD (0:Nat) []))=[AV.int .i64 n_14,.int .i64 n_15,.int .i64 n_16,.int .i64 n_17]∧bif !(decide (n_10=n_14)&&(decide (n_11=n_15)&&(decide (n_12=n_16)&&(decide (n_13=n_17)&&true)))) then bif decide ((↑(List.length (cz (pR rs x n_6 n_7 n_8
 n_9))):Int)=(0:Int)) then bif decide (rng .i64 (x+(1:Int))) then ∃ y,Rm4 rs y∧(rm4 rs h n s n_1 n_6 n_7 n_8 n_9 (↑rs.length:Int)).m y < (rm4 rs h n s n_1 n_6 n_7 n_8 n_9 (↑rs.length:Int)).m x∧(((bif h then h=true else True)∧rs=rs)∧(0:Nat)=0∧(0:Nat)=0∧x+(1:Int)=y∧True)∧((0:Int)=0∧{ data:=#[] }=(⟨#[]⟩ :
 ByteArray)∧(0:Int)=0∧(0:Int)=0∧(0:Int)=0∧(0:Int)=0∧(0:Int)=0∧True∧(0:Int)=0∧True∧True)∧(n=n∧s=s∧n_1=n_1∧(0:Int)=mgI (pR rs y n_6 n_7 n_8 n_9) n_6∧(0:Int)=mgI (pR rs y n_6 n_7 n_8 n_9) n_7∧(0:Int)=mgI (pR rs y n_6 n_7 n_8 n_9) n_8∧(0:Int)=mgI (pR rs y n_6 n_7 n_8 n_9) n_9∧(0:Nat)=0∧(↑rs.length:Int)=(↑rs.length:Int)∧(1:Nat)=List.length (cz (pR rs y n_6 n_7 n_8 n_9))∧True)∧([]:List (List
 AV))=[]∧[[AV.int .i64 (0:Int)]]=cz (pR rs y n_6 n_7 n_8 n_9)∧True else False else bif decide (rng .i64 (x+(1:Int))) then ∃ y,Rm4 rs y∧(rm4 rs h n s n_1 n_6 n_7 n_8 n_9 (↑rs.length:Int)).m y < (rm4 rs h n s n_1 n_6 n_7 n_8 n_9 (↑rs.length:Int)).m x∧(((bif h then h=true else True)∧rs=rs)∧(0:Nat)=0∧(0:Nat)=0∧x+(1:Int)=y∧True)∧((0:Int)=0∧(⟨#[]⟩:ByteArray)=(⟨#[]⟩ :
 ByteArray)∧(0:Int)=0∧(0:Int)=0∧(0:Int)=0∧(0:Int)=0∧(0:Int)=0∧True∧(0:Int)=0∧True∧True)∧(n=n∧s=s∧n_1=n_1∧mgI (pR rs x n_6 n_7 n_8 n_9) n_6=mgI (pR rs y n_6 n_7 n_8 n_9) n_6∧mgI (pR rs x n_6 n_7 n_8 n_9) n_7=mgI (pR rs y n_6 n_7 n_8 n_9) n_7∧mgI (pR rs x n_6 n_7 n_8 n_9) n_8=mgI (pR rs y n_6 n_7 n_8 n_9) n_8∧mgI (pR rs x n_6 n_7 n_8 n_9) n_9=mgI (pR rs y n_6 n_7 n_8 n_9)
 n_9∧(0:Nat)=0∧(↑rs.length:Int)=(↑rs.length:Int)∧List.length (cz (pR rs x n_6 n_7 n_8 n_9))=List.length (cz (pR rs y n_6 n_7 n_8 n_9))∧True)∧([]:List (List AV))=[]∧cz (pR rs x n_6 n_7 n_8 n_9)=cz (pR rs y n_6 n_7 n_8 n_9)∧True else False else bif decide (rng .i64 (x+(1:Int))) then ∃ y,Rm4 rs y∧(rm4 rs h n s n_1 n_6 n_7 n_8 n_9 (↑rs.length:Int)).m y < (rm4 rs h n s n_1 n_6 n_7 n_8 n_9
 (↑rs.length:Int)).m x∧(((bif h then h=true else True)∧rs=rs)∧(0:Nat)=0∧(0:Nat)=0∧x+(1:Int)=y∧True)∧((0:Int)=0∧(⟨#[]⟩:ByteArray)={ data:=#[] }∧(0:Int)=0∧(0:Int)=0∧(0:Int)=0∧(0:Int)=0∧(0:Int)=0∧True∧(0:Int)=0∧True∧True)∧(n=n∧s=s∧n_1=n_1∧mgI (pR rs x n_6 n_7 n_8 n_9) n_6=mgI (pR rs y n_6 n_7 n_8 n_9) n_6∧mgI (pR rs x n_6 n_7 n_8 n_9) n_7=mgI (pR rs y n_6 n_7 n_8 n_9) n_7∧mgI (pR rs x n_6 n_7 n_8
 n_9) n_8=mgI (pR rs y n_6 n_7 n_8 n_9) n_8∧mgI (pR rs x n_6 n_7 n_8 n_9) n_9=mgI (pR rs y n_6 n_7 n_8 n_9) n_9∧(0:Nat)=0∧(↑rs.length:Int)=(↑rs.length:Int)∧List.length (cz (pR rs x n_6 n_7 n_8 n_9))=List.length (cz (pR rs y n_6 n_7 n_8 n_9))∧True)∧([]:List (List AV))=[]∧cz (pR rs x n_6 n_7 n_8 n_9)=cz (pR rs y n_6 n_7 n_8 n_9)∧True else False else False else False else (∃ x_1,Rm9 x_1∧(((bif h then
 h=true else True)∧rs=rs)∧(0:Nat)=0∧(0:Nat)=0∧(1:Int)=x_1∧True)∧((0:Int)=0∧(⟨#[]⟩:ByteArray)=(⟨#[]⟩:ByteArray)∧(0:Int)=0∧(0:Int)=0∧(0:Int)=0∧(0:Int)=0∧(0:Int)=0∧True∧(0:Int)=0∧True∧True)∧(n=n∧s=s∧n_1=n_1∧mgI (pR rs x n_6 n_7 n_8 n_9) n_6=mgI (pR rs x n_6 n_7 n_8 n_9) n_6∧mgI (pR rs x n_6 n_7 n_8 n_9) n_7=mgI (pR rs x n_6 n_7 n_8 n_9) n_7∧mgI (pR rs x n_6 n_7 n_8 n_9) n_8=mgI (pR rs x n_6 n_7 n_8
 n_9) n_8∧mgI (pR rs x n_6 n_7 n_8 n_9) n_9=mgI (pR rs x n_6 n_7 n_8 n_9) n_9∧(0:Nat)=List.length (rdN (itM rs) (Int.toNat x_1))∧(↑rs.length:Int)=(↑rs.length:Int)∧List.length (cz (pR rs x n_6 n_7 n_8 n_9))=List.length (ctN (itM rs) (Int.toNat x_1))∧True)∧[]=rdN (itM rs) (Int.toNat x_1)∧cz (pR rs x n_6 n_7 n_8 n_9)=ctN (itM rs) (Int.toNat x_1)∧True)∧∀ (x_1:Int),Rm9 x_1→bif decide (x_1≤(11:Int))
 then (∃ x_2,Rm4 rs x_2∧(((bif h then h=true else True)∧rs=rs)∧(0:Nat)=0∧(0:Nat)=0∧x_1=x_1∧(0:Int)=lasI (cvI rs x_2 x_1)∧false=decide ¬cvI rs x_2 x_1=[]∧true=alq (cvI rs x_2 x_1)∧(0:Int)=x_2∧True)∧((0:Int)=0∧(⟨#[]⟩:ByteArray)=(⟨#[]⟩:ByteArray)∧(0:Int)=0∧(0:Int)=0∧(0:Int)=0∧(0:Int)=0∧(0:Int)=0∧True∧(0:Int)=0∧True∧True)∧(n=n∧s=s∧n_1=n_1∧mgI (pR rs x n_6 n_7 n_8 n_9) n_6=mgI (pR rs x n_6 n_7 n_8
 n_9) n_6∧mgI (pR rs x n_6 n_7 n_8 n_9) n_7=mgI (pR rs x n_6 n_7 n_8 n_9) n_7∧mgI (pR rs x n_6 n_7 n_8 n_9) n_8=mgI (pR rs x n_6 n_7 n_8 n_9) n_8∧mgI (pR rs x n_6 n_7 n_8 n_9) n_9=mgI (pR rs x n_6 n_7 n_8 n_9) n_9∧List.length (rdN (itM rs) x_1.toNat)=List.length (rdN (itM rs) x_1.toNat)∧(↑rs.length:Int)=(↑rs.length:Int)∧List.length (ctN (itM rs) x_1.toNat)=List.length (ctN (itM rs)
 x_1.toNat)∧True)∧rdN (itM rs) x_1.toNat=rdN (itM rs) x_1.toNat∧ctN (itM rs) x_1.toNat=ctN (itM rs) x_1.toNat∧True)∧∀ (x_2:Int),Rm4 rs x_2→bif decide (x_2 < (↑rs.length:Int)) then bif decide (0≤x_2∧x_2 < (↑rs.length:Int)) then ∃ xs,List.take [AV.sl (2:Nat) false xs].length (List.drop (7:Nat) (rs.getD x_2.toNat []))=[AV.sl (2:Nat) false xs]∧RdsP xs∧bif !YtgnnafneglannaaGreatDoor.fdB xs x_1
 then bif decide (rng .i64 (x_2+(1:Int))) then ∃ y,Rm4 rs y∧(rm13 rs h n s n_1 (mgI (pR rs x n_6 n_7 n_8 n_9) n_6) (mgI (pR rs x n_6 n_7 n_8 n_9) n_7) (mgI (pR rs x n_6 n_7 n_8 n_9) n_8) (mgI (pR rs x n_6 n_7 n_8 n_9) n_9) (↑rs.length:Int) x_1).m y < (rm13 rs h n s n_1 (mgI (pR rs x n_6 n_7 n_8 n_9) n_6) (mgI (pR rs x n_6 n_7 n_8 n_9) n_7) (mgI (pR rs x n_6 n_7 n_8 n_9) n_8) (mgI (pR rs x n_6 n_7
 n_8 n_9) n_9) (↑rs.length:Int) x_1).m x_2∧(((bif h then h=true else True)∧rs=rs)∧(0:Nat)=0∧(0:Nat)=0∧x_1=x_1∧lasI (cvI rs x_2 x_1)=lasI (cvI rs y x_1)∧(decide ¬cvI rs x_2 x_1=[])=decide ¬cvI rs y x_1=[]∧alq (cvI rs x_2 x_1)=alq (cvI rs y x_1)∧x_2+(1:Int)=y∧True)∧((0:Int)=0∧(⟨#[]⟩:ByteArray)=(⟨#[]⟩ :
 ByteArray)∧(0:Int)=0∧(0:Int)=0∧(0:Int)=0∧(0:Int)=0∧(0:Int)=0∧True∧(0:Int)=0∧True∧True)∧(n=n∧s=s∧n_1=n_1∧mgI (pR rs x n_6 n_7 n_8 n_9) n_6=mgI (pR rs x n_6 n_7 n_8 n_9) n_6∧mgI (pR rs x n_6 n_7 n_8 n_9) n_7=mgI (pR rs x n_6 n_7 n_8 n_9) n_7∧mgI (pR rs x n_6 n_7 n_8 n_9) n_8=mgI (pR rs x n_6 n_7 n_8 n_9) n_8∧mgI (pR rs x n_6 n_7 n_8 n_9) n_9=mgI (pR rs x n_6 n_7 n_8 n_9) n_9∧List.length (rdN (itM rs)
 x_1.toNat)=List.length (rdN (itM rs) x_1.toNat)∧(↑rs.length:Int)=(↑rs.length:Int)∧List.length (ctN (itM rs) x_1.toNat)=List.length (ctN (itM rs) x_1.toNat)∧True)∧rdN (itM rs) x_1.toNat=rdN (itM rs) x_1.toNat∧ctN (itM rs) x_1.toNat=ctN (itM rs) x_1.toNat∧True else False else bif alq (cvI rs x_2 x_1) then bif !decide ¬cvI rs x_2 x_1=[] then bif decide (rng .i64 (x_2+(1:Int))) then ∃ y,Rm4 rs
 y∧(rm13 rs h n s n_1 (mgI (pR rs x n_6 n_7 n_8 n_9) n_6) (mgI (pR rs x n_6 n_7 n_8 n_9) n_7) (mgI (pR rs x n_6 n_7 n_8 n_9) n_8) (mgI (pR rs x n_6 n_7 n_8 n_9) n_9) (↑rs.length:Int) x_1).m y < (rm13 rs h n s n_1 (mgI (pR rs x n_6 n_7 n_8 n_9) n_6) (mgI (pR rs x n_6 n_7 n_8 n_9) n_7) (mgI (pR rs x n_6 n_7 n_8 n_9) n_8) (mgI (pR rs x n_6 n_7 n_8 n_9) n_9) (↑rs.length:Int) x_1).m x_2∧(((bif h then
 h=true else True)∧rs=rs)∧(0:Nat)=0∧(0:Nat)=0∧x_1=x_1∧YtgnnafneglannaaGreatDoor.fdV xs x_1=lasI (cvI rs y x_1)∧true=decide ¬cvI rs y x_1=[]∧true=alq (cvI rs y x_1)∧x_2+(1:Int)=y∧True)∧((0:Int)=0∧(⟨#[]⟩:ByteArray)=(⟨#[]⟩:ByteArray)∧(0:Int)=0∧(0:Int)=0∧(0:Int)=0∧(0:Int)=0∧(0:Int)=0∧True∧(0:Int)=0∧True∧True)∧(n=n∧s=s∧n_1=n_1∧mgI (pR rs x n_6 n_7 n_8 n_9) n_6=mgI (pR rs x n_6 n_7 n_8 n_9) n_6∧mgI
 (pR rs x n_6 n_7 n_8 n_9) n_7=mgI (pR rs x n_6 n_7 n_8 n_9) n_7∧mgI (pR rs x n_6 n_7 n_8 n_9) n_8=mgI (pR rs x n_6 n_7 n_8 n_9) n_8∧mgI (pR rs x n_6 n_7 n_8 n_9) n_9=mgI (pR rs x n_6 n_7 n_8 n_9) n_9∧List.length (rdN (itM rs) x_1.toNat)=List.length (rdN (itM rs) x_1.toNat)∧(↑rs.length:Int)=(↑rs.length:Int)∧List.length (ctN (itM rs) x_1.toNat)=List.length (ctN (itM rs) x_1.toNat)∧True)∧rdN (itM rs)
 x_1.toNat=rdN (itM rs) x_1.toNat∧ctN (itM rs) x_1.toNat=ctN (itM rs) x_1.toNat∧True else False else bif decide (rng .i64 (x_2+(1:Int))) then ∃ y,Rm4 rs y∧(rm13 rs h n s n_1 (mgI (pR rs x n_6 n_7 n_8 n_9) n_6) (mgI (pR rs x n_6 n_7 n_8 n_9) n_7) (mgI (pR rs x n_6 n_7 n_8 n_9) n_8) (mgI (pR rs x n_6 n_7 n_8 n_9) n_9) (↑rs.length:Int) x_1).m y < (rm13 rs h n s n_1 (mgI (pR rs x n_6 n_7 n_8 n_9) n_6)
 (mgI (pR rs x n_6 n_7 n_8 n_9) n_7) (mgI (pR rs x n_6 n_7 n_8 n_9) n_8) (mgI (pR rs x n_6 n_7 n_8 n_9) n_9) (↑rs.length:Int) x_1).m x_2∧(((bif h then h=true else True)∧rs=rs)∧(0:Nat)=0∧(0:Nat)=0∧x_1=x_1∧YtgnnafneglannaaGreatDoor.fdV xs x_1=lasI (cvI rs y x_1)∧true=decide ¬cvI rs y x_1=[]∧decide (YtgnnafneglannaaGreatDoor.fdV xs x_1=lasI (cvI rs x_2 x_1))=alq (cvI rs y x_1)∧x_2 +
 (1:Int)=y∧True)∧((0:Int)=0∧{ data:=#[] }=(⟨#[]⟩:ByteArray)∧(0:Int)=0∧(0:Int)=0∧(0:Int)=0∧(0:Int)=0∧(0:Int)=0∧True∧(0:Int)=0∧True∧True)∧(n=n∧s=s∧n_1=n_1∧mgI (pR rs x n_6 n_7 n_8 n_9) n_6=mgI (pR rs x n_6 n_7 n_8 n_9) n_6∧mgI (pR rs x n_6 n_7 n_8 n_9) n_7=mgI (pR rs x n_6 n_7 n_8 n_9) n_7∧mgI (pR rs x n_6 n_7 n_8 n_9) n_8=mgI (pR rs x n_6 n_7 n_8 n_9) n_8∧mgI (pR rs x n_6 n_7 n_8 n_9) n_9=mgI (pR
 rs x n_6 n_7 n_8 n_9) n_9∧List.length (rdN (itM rs) x_1.toNat)=List.length (rdN (itM rs) x_1.toNat)∧(↑rs.length:Int)=(↑rs.length:Int)∧List.length (ctN (itM rs) x_1.toNat)=List.length (ctN (itM rs) x_1.toNat)∧True)∧rdN (itM rs) x_1.toNat=rdN (itM rs) x_1.toNat∧ctN (itM rs) x_1.toNat=ctN (itM rs) x_1.toNat∧True else False else bif decide (rng .i64 (x_2+(1:Int))) then ∃ y,Rm4 rs y∧(rm13 rs h n s n_1
 (mgI (pR rs x n_6 n_7 n_8 n_9) n_6) (mgI (pR rs x n_6 n_7 n_8 n_9) n_7) (mgI (pR rs x n_6 n_7 n_8 n_9) n_8) (mgI (pR rs x n_6 n_7 n_8 n_9) n_9) (↑rs.length:Int) x_1).m y < (rm13 rs h n s n_1 (mgI (pR rs x n_6 n_7 n_8 n_9) n_6) (mgI (pR rs x n_6 n_7 n_8 n_9) n_7) (mgI (pR rs x n_6 n_7 n_8 n_9) n_8) (mgI (pR rs x n_6 n_7 n_8 n_9) n_9) (↑rs.length:Int) x_1).m x_2∧(((bif h then h=true else
 True)∧rs=rs)∧(0:Nat)=0∧(0:Nat)=0∧x_1=x_1∧YtgnnafneglannaaGreatDoor.fdV xs x_1=lasI (cvI rs y x_1)∧true=decide ¬cvI rs y x_1=[]∧false=alq (cvI rs y x_1)∧x_2+(1:Int)=y∧True)∧((0:Int)=0∧(⟨#[]⟩:ByteArray)=(⟨#[]⟩:ByteArray)∧(0:Int)=0∧(0:Int)=0∧(0:Int)=0∧(0:Int)=0∧(0:Int)=0∧True∧(0:Int)=0∧True∧True)∧(n=n∧s=s∧n_1=n_1∧mgI (pR rs x n_6 n_7 n_8 n_9) n_6=mgI (pR rs x n_6 n_7 n_8 n_9) n_6∧mgI (pR rs x
 n_6 n_7 n_8 n_9) n_7=mgI (pR rs x n_6 n_7 n_8 n_9) n_7∧mgI (pR rs x n_6 n_7 n_8 n_9) n_8=mgI (pR rs x n_6 n_7 n_8 n_9) n_8∧mgI (pR rs x n_6 n_7 n_8 n_9) n_9=mgI (pR rs x n_6 n_7 n_8 n_9) n_9∧List.length (rdN (itM rs) x_1.toNat)=List.length (rdN (itM rs) x_1.toNat)∧(↑rs.length:Int)=(↑rs.length:Int)∧List.length (ctN (itM rs) x_1.toNat)=List.length (ctN (itM rs) x_1.toNat)∧True)∧rdN (itM rs)
 x_1.toNat=rdN (itM rs) x_1.toNat∧ctN (itM rs) x_1.toNat=ctN (itM rs) x_1.toNat∧True else False else False else bif decide ¬cvI rs x_2 x_1=[] then bif alq (cvI rs x_2 x_1) then bif decide (List.length (rdN (itM rs) x_1.toNat)=List.length (rdN (itM rs) x_1.toNat)∧List.length (rdN (itM rs) x_1.toNat)+[[AV.int .i64 x_1,.int .i64 (lasI (cvI rs x_2 x_1))]].length ≤
 (9223372036854775807:Nat)∧(List.length (rdN (itM rs) x_1.toNat)+[[AV.int .i64 x_1,.int .i64 (lasI (cvI rs x_2 x_1))]].length)*(16:Nat)≤(140737488355328:Nat)) then bif decide (rng .i64 (x_1+(1:Int))) then ∃ y,Rm9 y∧(rm9 rs h n s n_1 (mgI (pR rs x n_6 n_7 n_8 n_9) n_6) (mgI (pR rs x n_6 n_7 n_8 n_9) n_7) (mgI (pR rs x n_6 n_7 n_8 n_9) n_8) (mgI (pR rs x n_6 n_7 n_8 n_9) n_9)
 (↑rs.length:Int)).m y < (rm9 rs h n s n_1 (mgI (pR rs x n_6 n_7 n_8 n_9) n_6) (mgI (pR rs x n_6 n_7 n_8 n_9) n_7) (mgI (pR rs x n_6 n_7 n_8 n_9) n_8) (mgI (pR rs x n_6 n_7 n_8 n_9) n_9) (↑rs.length:Int)).m x_1∧(((bif h then h=true else True)∧rs=rs)∧(0:Nat)=0∧(0:Nat)=0∧x_1+(1:Int)=y∧True)∧((0:Int)=0∧(⟨#[]⟩:ByteArray)=(⟨#[]⟩ :
 ByteArray)∧(0:Int)=0∧(0:Int)=0∧(0:Int)=0∧(0:Int)=0∧(0:Int)=0∧True∧(0:Int)=0∧True∧True)∧(n=n∧s=s∧n_1=n_1∧mgI (pR rs x n_6 n_7 n_8 n_9) n_6=mgI (pR rs x n_6 n_7 n_8 n_9) n_6∧mgI (pR rs x n_6 n_7 n_8 n_9) n_7=mgI (pR rs x n_6 n_7 n_8 n_9) n_7∧mgI (pR rs x n_6 n_7 n_8 n_9) n_8=mgI (pR rs x n_6 n_7 n_8 n_9) n_8∧mgI (pR rs x n_6 n_7 n_8 n_9) n_9=mgI (pR rs x n_6 n_7 n_8 n_9) n_9∧(rdN (itM rs) x_1.toNat
++[[AV.int .i64 x_1,.int .i64 (lasI (cvI rs x_2 x_1))]]).length=List.length (rdN (itM rs) (Int.toNat y))∧(↑rs.length:Int)=(↑rs.length:Int)∧List.length (ctN (itM rs) x_1.toNat)=List.length (ctN (itM rs) (Int.toNat y))∧True)∧rdN (itM rs) x_1.toNat++[[AV.int .i64 x_1,.int .i64 (lasI (cvI rs x_2 x_1))]]=rdN (itM rs) (Int.toNat y)∧ctN (itM rs) x_1.toNat=ctN (itM rs) (Int.toNat y)∧True else False else
 False else bif decide ¬cvI rs x_2 x_1=[] then bif decide (List.length (ctN (itM rs) x_1.toNat)=List.length (ctN (itM rs) x_1.toNat)∧List.length (ctN (itM rs) x_1.toNat)+[[AV.int .i64 x_1]].length≤(9223372036854775807:Nat)∧(List.length (ctN (itM rs) x_1.toNat)+[[AV.int .i64 x_1]].length)*(8:Nat)≤(140737488355328:Nat)) then bif decide (rng .i64 (x_1+(1:Int))) then ∃ y,Rm9 y∧(rm9 rs h n s
 n_1 (mgI (pR rs x n_6 n_7 n_8 n_9) n_6) (mgI (pR rs x n_6 n_7 n_8 n_9) n_7) (mgI (pR rs x n_6 n_7 n_8 n_9) n_8) (mgI (pR rs x n_6 n_7 n_8 n_9) n_9) (↑rs.length:Int)).m y < (rm9 rs h n s n_1 (mgI (pR rs x n_6 n_7 n_8 n_9) n_6) (mgI (pR rs x n_6 n_7 n_8 n_9) n_7) (mgI (pR rs x n_6 n_7 n_8 n_9) n_8) (mgI (pR rs x n_6 n_7 n_8 n_9) n_9) (↑rs.length:Int)).m x_1∧(((bif h then h=true else
 True)∧rs=rs)∧(0:Nat)=0∧(0:Nat)=0∧x_1+(1:Int)=y∧True)∧((0:Int)=0∧(⟨#[]⟩:ByteArray)=(⟨#[]⟩:ByteArray)∧(0:Int)=0∧(0:Int)=0∧(0:Int)=0∧(0:Int)=0∧(0:Int)=0∧True∧(0:Int)=0∧True∧True)∧(n=n∧s=s∧n_1=n_1∧mgI (pR rs x n_6 n_7 n_8 n_9) n_6=mgI (pR rs x n_6 n_7 n_8 n_9) n_6∧mgI (pR rs x n_6 n_7 n_8 n_9) n_7=mgI (pR rs x n_6 n_7 n_8 n_9) n_7∧mgI (pR rs x n_6 n_7 n_8 n_9) n_8=mgI (pR rs x n_6 n_7 n_8 n_9)
 n_8∧mgI (pR rs x n_6 n_7 n_8 n_9) n_9=mgI (pR rs x n_6 n_7 n_8 n_9) n_9∧List.length (rdN (itM rs) x_1.toNat)=List.length (rdN (itM rs) (Int.toNat y))∧(↑rs.length:Int)=(↑rs.length:Int)∧(ctN (itM rs) x_1.toNat++[[AV.int .i64 x_1]]).length=List.length (ctN (itM rs) (Int.toNat y))∧True)∧rdN (itM rs) x_1.toNat=rdN (itM rs) (Int.toNat y)∧ctN (itM rs) x_1.toNat++[[AV.int .i64 x_1]]=ctN (itM rs)
 (Int.toNat y)∧True else False else False else bif decide (rng .i64 (x_1+(1:Int))) then ∃ y,Rm9 y∧(rm9 rs h n s n_1 (mgI (pR rs x n_6 n_7 n_8 n_9) n_6) (mgI (pR rs x n_6 n_7 n_8 n_9) n_7) (mgI (pR rs x n_6 n_7 n_8 n_9) n_8) (mgI (pR rs x n_6 n_7 n_8 n_9) n_9) (↑rs.length:Int)).m y < (rm9 rs h n s n_1 (mgI (pR rs x n_6 n_7 n_8 n_9) n_6) (mgI (pR rs x n_6 n_7 n_8 n_9) n_7) (mgI (pR rs x n_6 n_7 n_8
 n_9) n_8) (mgI (pR rs x n_6 n_7 n_8 n_9) n_9) (↑rs.length:Int)).m x_1∧(((bif h then h=true else True)∧rs=rs)∧(0:Nat)=0∧(0:Nat)=0∧x_1+(1:Int)=y∧True)∧((0:Int)=0∧(⟨#[]⟩:ByteArray)=(⟨#[]⟩:ByteArray)∧(0:Int)=0∧(0:Int)=0∧(0:Int)=0∧(0:Int)=0∧(0:Int)=0∧True∧(0:Int)=0∧True∧True)∧(n=n∧s=s∧n_1=n_1∧mgI (pR rs x n_6 n_7 n_8 n_9) n_6=mgI (pR rs x n_6 n_7 n_8 n_9) n_6∧mgI (pR rs x n_6 n_7 n_8 n_9) n_7=mgI
 (pR rs x n_6 n_7 n_8 n_9) n_7∧mgI (pR rs x n_6 n_7 n_8 n_9) n_8=mgI (pR rs x n_6 n_7 n_8 n_9) n_8∧mgI (pR rs x n_6 n_7 n_8 n_9) n_9=mgI (pR rs x n_6 n_7 n_8 n_9) n_9∧List.length (rdN (itM rs) x_1.toNat)=List.length (rdN (itM rs) (Int.toNat y))∧(↑rs.length:Int)=(↑rs.length:Int)∧List.length (ctN (itM rs) x_1.toNat)=List.length (ctN (itM rs) (Int.toNat y))∧True)∧rdN (itM rs) x_1.toNat=rdN (itM rs)
 (Int.toNat y)∧ctN (itM rs) x_1.toNat=ctN (itM rs) (Int.toNat y)∧True else False else bif decide ¬cvI rs x_2 x_1=[] then bif decide (List.length (ctN (itM rs) x_1.toNat)=List.length (ctN (itM rs) x_1.toNat)∧List.length (ctN (itM rs) x_1.toNat)+[[AV.int .i64 x_1]].length≤(9223372036854775807:Nat)∧(List.length (ctN (itM rs) x_1.toNat)+[[AV.int .i64 x_1]].length)*(8:Nat) ≤
 (140737488355328:Nat)) then bif decide (rng .i64 (x_1+(1:Int))) then ∃ y,Rm9 y∧(rm9 rs h n s n_1 (mgI (pR rs x n_6 n_7 n_8 n_9) n_6) (mgI (pR rs x n_6 n_7 n_8 n_9) n_7) (mgI (pR rs x n_6 n_7 n_8 n_9) n_8) (mgI (pR rs x n_6 n_7 n_8 n_9) n_9) (↑rs.length:Int)).m y < (rm9 rs h n s n_1 (mgI (pR rs x n_6 n_7 n_8 n_9) n_6) (mgI (pR rs x n_6 n_7 n_8 n_9) n_7) (mgI (pR rs x n_6 n_7 n_8 n_9) n_8) (mgI (pR
 rs x n_6 n_7 n_8 n_9) n_9) (↑rs.length:Int)).m x_1∧(((bif h then h=true else True)∧rs=rs)∧(0:Nat)=0∧(0:Nat)=0∧x_1+(1:Int)=y∧True)∧((0:Int)=0∧(⟨#[]⟩:ByteArray)=(⟨#[]⟩:ByteArray)∧(0:Int)=0∧(0:Int)=0∧(0:Int)=0∧(0:Int)=0∧(0:Int)=0∧True∧(0:Int)=0∧True∧True)∧(n=n∧s=s∧n_1=n_1∧mgI (pR rs x n_6 n_7 n_8 n_9) n_6=mgI (pR rs x n_6 n_7 n_8 n_9) n_6∧mgI (pR rs x n_6 n_7 n_8 n_9) n_7=mgI (pR rs x n_6 n_7
 n_8 n_9) n_7∧mgI (pR rs x n_6 n_7 n_8 n_9) n_8=mgI (pR rs x n_6 n_7 n_8 n_9) n_8∧mgI (pR rs x n_6 n_7 n_8 n_9) n_9=mgI (pR rs x n_6 n_7 n_8 n_9) n_9∧List.length (rdN (itM rs) x_1.toNat)=List.length (rdN (itM rs) (Int.toNat y))∧(↑rs.length:Int)=(↑rs.length:Int)∧(ctN (itM rs) x_1.toNat++[[AV.int .i64 x_1]]).length=List.length (ctN (itM rs) (Int.toNat y))∧True)∧rdN (itM rs) x_1.toNat=rdN (itM rs)
 (Int.toNat y)∧ctN (itM rs) x_1.toNat++[[AV.int .i64 x_1]]=ctN (itM rs) (Int.toNat y)∧True else False else False else bif decide (rng .i64 (x_1+(1:Int))) then ∃ y,Rm9 y∧(rm9 rs h n s n_1 (mgI (pR rs x n_6 n_7 n_8 n_9) n_6) (mgI (pR rs x n_6 n_7 n_8 n_9) n_7) (mgI (pR rs x n_6 n_7 n_8 n_9) n_8) (mgI (pR rs x n_6 n_7 n_8 n_9) n_9) (↑rs.length:Int)).m y < (rm9 rs h n s n_1 (mgI (pR rs x n_6 n_7 n_8
 n_9) n_6) (mgI (pR rs x n_6 n_7 n_8 n_9) n_7) (mgI (pR rs x n_6 n_7 n_8 n_9) n_8) (mgI (pR rs x n_6 n_7 n_8 n_9) n_9) (↑rs.length:Int)).m x_1∧(((bif h then h=true else True)∧rs=rs)∧(0:Nat)=0∧(0:Nat)=0∧x_1+(1:Int)=y∧True)∧((0:Int)=0∧(⟨#[]⟩:ByteArray)={ data:=#[] }∧(0:Int)=0∧(0:Int)=0∧(0:Int)=0∧(0:Int)=0∧(0:Int)=0∧True∧(0:Int)=0∧True∧True)∧(n=n∧s=s∧n_1=n_1∧mgI (pR rs x n_6 n_7 n_8 n_9) n_6=mgI
 (pR rs x n_6 n_7 n_8 n_9) n_6∧mgI (pR rs x n_6 n_7 n_8 n_9) n_7=mgI (pR rs x n_6 n_7 n_8 n_9) n_7∧mgI (pR rs x n_6 n_7 n_8 n_9) n_8=mgI (pR rs x n_6 n_7 n_8 n_9) n_8∧mgI (pR rs x n_6 n_7 n_8 n_9) n_9=mgI (pR rs x n_6 n_7 n_8 n_9) n_9∧List.length (rdN (itM rs) x_1.toNat)=List.length (rdN (itM rs) (Int.toNat y))∧(↑rs.length:Int)=(↑rs.length:Int)∧List.length (ctN (itM rs) x_1.toNat)=List.length (ctN
 (itM rs) (Int.toNat y))∧True)∧rdN (itM rs) x_1.toNat=rdN (itM rs) (Int.toNat y)∧ctN (itM rs) x_1.toNat=ctN (itM rs) (Int.toNat y)∧True else False else bif decide (List.length (rdN (itM rs) x_1.toNat)=List.length (rdN (itM rs) x_1.toNat)) then bif decide (List.length (ctN (itM rs) x_1.toNat)=List.length (ctN (itM rs) x_1.toNat)) then n=gK (itM rs)∧s=gN (itM rs)∧n_1=gT (itM rs)∧mgI (pR rs x n_6 n_7
 n_8 n_9) n_6=gQ (itM rs) (0:Nat)∧mgI (pR rs x n_6 n_7 n_8 n_9) n_7=gQ (itM rs) (1:Nat)∧mgI (pR rs x n_6 n_7 n_8 n_9) n_8=gQ (itM rs) (2:Nat)∧mgI (pR rs x n_6 n_7 n_8 n_9) n_9=gQ (itM rs) (3:Nat)∧(True∧rdN (itM rs) x_1.toNat=gR (itM rs))∧(↑rs.length:Int)=(↑(List.length (itM rs)):Int)∧(True∧ctN (itM rs) x_1.toNat=gC (itM rs))∧True else False else False else False else False
theorem rmgd_P:rmgd_T fdV fdB gK gN gT gQ gR gC:=by
 unfold rmgd_T
 intro gl rs h hp
 intros
 have bh:cond h (h=true) True:=by cases h <;> trivial
 have l0:=hp.f0
 have ln:=hp.fl
 obtain ⟨k,nm,t,f0,a,b,c,rd0,h0,_⟩:=hp.fr 0 l0
 have hlen:=itM_len rs
 have hMg:MgP (itM rs):=⟨fun i hi=>by
  rw [hlen] at hi
  obtain ⟨k,nm,t,f,a,b,c,rd,h1,h2,_⟩:=hp.fr i hi
  exact ⟨k,nm,t,f,a,b,c,rd,0,0,by rw [itM_at hi,h1]; rfl,h2⟩,by omega,by omega⟩
 have hh0:(itM rs).headD []=itA k nm t f0 a b c rd0 0 0:=by
  have e:∀ G:LLA,G.headD []=G.getD 0 []:=fun G=>by cases G <;> rfl
  rw [e,itM_at l0,h0]; rfl
 have hpl:itPl ((itM rs).headD [])=[f0,a,b,c]:=by rw [hh0]; rfl
 refine cd1 (by omega) ⟨k,nm,t,f0,a,b,c,rd0,by rw [h0]; rfl,trivial,cd1 (by omega) ⟨f0,a,b,c,by rw [h0]; rfl,⟨0,⟨by omega⟩,by (repeat' (first | exact trivial | exact rfl | assumption | apply And.intro))⟩,?_⟩⟩
 rintro i ⟨i0,i1⟩
 refine csx (fun hi=>cd1 (by omega) ?_) (fun hi=>?_)
 ·obtain ⟨k2,nm2,t2,f2,a2,b2,c2,rd2,h1,_⟩:=hp.fr i.toNat (by omega)
  have hps:pR rs (i+1) f0 a b c=(pR rs i f0 a b c||!(decide (f2=f0)&&(decide (a2=a)&&(decide (b2=b)&&(decide (c2=c)&&true))))):=by
   unfold pR
   rw [show (i+1).toNat=i.toNat+1 by omega,take_snoc (G:=itM rs) (i:=i.toNat) (by omega),plF_snoc,itM_at (by omega),h1]
   congr 1
   rw [Bool.eq_iff_iff]
   simp [rpR,mkI,itPl]
  have ms:(rm4 rs h k nm t f0 a b c rs.length).m (i+1) < (rm4 rs h k nm t f0 a b c rs.length).m i:=by simp only [rm4]; omega
  have nx:Rm4 rs (i+1):=⟨by omega⟩
  refine ⟨f2,a2,b2,c2,by rw [h1]; rfl,cd1 (by omega) ⟨f0,a,b,c,by rw [h0]; rfl,csplit (fun hd=>?_) (fun hd=>?_)⟩⟩
  ·have hT:pR rs (i+1) f0 a b c=true:=by rw [hps,hd,Bool.or_true]
   refine csx (fun hz=>cdI (by omega) ⟨i+1,nx,ms,by rw [hT]; (repeat' (first | exact trivial | exact rfl | assumption | apply And.intro))⟩) (fun hz=>cdI (by omega) ⟨i+1,nx,ms,?_⟩)
   have hp1:pR rs i f0 a b c=true:=by
    cases q:pR rs i f0 a b c with
    | true=>rfl
    | false=>rw [q] at hz; exact absurd rfl hz
   rw [hT,hp1]
   (repeat' (first | exact trivial | exact rfl | assumption | apply And.intro))
  ·have hS:pR rs (i+1) f0 a b c=pR rs i f0 a b c:=by rw [hps,hd,Bool.or_false]
   exact cdI (by omega) ⟨i+1,nx,ms,by rw [hS]; (repeat' (first | exact trivial | exact rfl | assumption | apply And.intro))⟩
 ·have hpi:pR rs i f0 a b c=badC (itM rs) 0:=by
   unfold pR badC
   rw [if_pos rfl,hpl,List.take_of_length_le (by omega)]
  have hct:ctN (itM rs) 1=cz (pR rs i f0 a b c):=by
   rw [hpi]; unfold cz; simp only [ctN,List.nil_append]; rfl
  have hrd:rdN (itM rs) 1=[]:=by
   simp only [rdN,List.nil_append]
   split
   ·rfl
   ·rw [if_pos (show cvs (rdsF (itM rs)) ((0:Nat):Int)=[] from cvs_0 hMg)]
  refine ⟨⟨1,⟨by omega⟩,by rw [show Int.toNat 1=1 from rfl,hct,hrd]; (repeat' (first | exact trivial | exact rfl | assumption | apply And.intro))⟩,?_⟩
  rintro n ⟨n1,n2⟩
  have hrl:=rdN_len (itM rs) n.toNat
  have hcl:=ctN_len (itM rs) n.toNat
  refine csx (fun hn=>?_) (fun hn=>?_)
  ·refine ⟨⟨0,⟨by omega⟩,by (repeat' (first | exact trivial | exact rfl | assumption | apply And.intro))⟩,?_⟩
   rintro j ⟨j0,j1⟩
   refine csx (fun hj=>cd1 (by omega) ?_) (fun hj=>?_)
   ·obtain ⟨k2,nm2,t2,f2,a2,b2,c2,rd2,h1,_,hr2,ha2⟩:=hp.fr j.toNat (by omega)
    have hE:cvI rs (j+1) n=cvI rs j n++cvs rd2 n:=by
     unfold cvI
     rw [show (j+1).toNat=j.toNat+1 by omega,take_snoc (G:=itM rs) (i:=j.toNat) (by omega),rdsF_snoc,cvs_app,itM_at (by omega),h1]; rfl
    rw [cv_find ha2 n] at hE
    have ms:∀ f a b c:Int,(rm13 rs h k nm t f a b c rs.length n).m (j+1) < (rm13 rs h k nm t f a b c rs.length n).m j:=fun f a b c=>by simp only [rm13]; omega
    have nx:Rm4 rs (j+1):=⟨by omega⟩
    refine ⟨rd2,by rw [h1]; rfl,hr2,csplit (fun hb=>?_) (fun hb=>?_)⟩
    ·have hb:¬ fdB rd2 n=true:=by simpa using hb
     rw [if_neg hb,List.append_nil] at hE
     exact cdI (by omega) ⟨j+1,nx,ms _ _ _ _,by rw [hE]; (repeat' (first | exact trivial | exact rfl | assumption | apply And.intro))⟩
    ·have hb:fdB rd2 n=true:=by simpa using hb
     rw [if_pos hb] at hE
     have hl:=las_snoc (cvI rs j n) (fdV rd2 n)
     have hne:=ne_snoc (cvI rs j n) (fdV rd2 n)
     refine csplit (fun ha=>csplit (fun hz=>?_) (fun hz=>?_)) (fun ha=>?_)
     ·have hz:cvI rs j n=[]:=by simpa using hz
      have hA:alq (cvI rs j n++[fdV rd2 n])=true:=by rw [hz]; rfl
      exact cdI (by omega) ⟨j+1,nx,ms _ _ _ _,by rw [hE,hl,hne,hA]; (repeat' (first | exact trivial | exact rfl | assumption | apply And.intro))⟩
     ·have hz:¬ cvI rs j n=[]:=by simpa using hz
      have hA:=alq_s (fdV rd2 n) hz
      rw [ha,Bool.true_and] at hA
      exact cdI (by omega) ⟨j+1,nx,ms _ _ _ _,by rw [hE,hl,hne,hA]; (repeat' (first | exact trivial | exact rfl | assumption | apply And.intro))⟩
     ·have hz:¬ cvI rs j n=[]:=fun z=>by rw [z] at ha; cases ha
      have hA:=alq_s (fdV rd2 n) hz
      rw [ha,Bool.false_and] at hA
      exact cdI (by omega) ⟨j+1,nx,ms _ _ _ _,by rw [hE,hl,hne,hA]; (repeat' (first | exact trivial | exact rfl | assumption | apply And.intro))⟩
   ·have hL:cvI rs j n=cvs (rdsF (itM rs)) n:=by unfold cvI; rw [List.take_of_length_le (by omega)]
    have hb:badC (itM rs) n.toNat=!(alq (cvs (rdsF (itM rs)) n)):=by
     unfold badC
     rw [if_neg (by omega),show ((n.toNat:Nat):Int)=n by omega]; rfl
    have hn1:(n+1).toNat=n.toNat+1:=by omega
    have hni:((n.toNat:Nat):Int)=n:=by omega
    rw [hL]
    generalize hcv:cvs (rdsF (itM rs)) n=L at *
    have ms:∀ f a b c:Int,(rm9 rs h k nm t f a b c rs.length).m (n+1) < (rm9 rs h k nm t f a b c rs.length).m n:=fun f a b c=>by simp only [rm9]; omega
    have nx:Rm9 (n+1):=⟨by omega⟩
    have st:∀ w:Bool,alq L=w→badC (itM rs) n.toNat=!w:=fun w hw=>by rw [hb,hw]
    refine csx (fun hne=>csplit (fun ha=>?_) (fun ha=>csx (fun _=>?_) (fun w=>absurd hne w))) (fun he=>csx (fun w=>absurd w he) (fun _=>?_))
    ·have hbf:badC (itM rs) n.toNat=false:=st _ ha
     have hR:rdN (itM rs) (n+1).toNat=rdN (itM rs) n.toNat++[[.int .i64 n,.int .i64 (lasI L)]]:=by
      rw [hn1]; simp only [rdN]
      rw [hni,hcv,if_neg (by rw [hbf]; simp),if_neg hne]
     have hC:ctN (itM rs) (n+1).toNat=ctN (itM rs) n.toNat:=by
      rw [hn1]; simp only [ctN]
      rw [if_neg (by rw [hbf]; simp),List.append_nil]
     exact cd1 ⟨rfl,by simp only [List.length_singleton]; omega,by simp only [List.length_singleton]; omega⟩ (cdI (by omega) ⟨n+1,nx,ms _ _ _ _,by rw [hR,hC]; (repeat' (first | exact trivial | exact rfl | assumption | apply And.intro))⟩)
    ·have hbt:badC (itM rs) n.toNat=true:=st _ ha
     have hR:rdN (itM rs) (n+1).toNat=rdN (itM rs) n.toNat:=by
      rw [hn1]; simp only [rdN]
      rw [if_pos hbt,List.append_nil]
     have hC:ctN (itM rs) (n+1).toNat=ctN (itM rs) n.toNat++[[.int .i64 n]]:=by
      rw [hn1]; simp only [ctN]
      rw [if_pos hbt,hni]
     exact cd1 ⟨rfl,by simp only [List.length_singleton]; omega,by simp only [List.length_singleton]; omega⟩ (cdI (by omega) ⟨n+1,nx,ms _ _ _ _,by rw [hR,hC]; (repeat' (first | exact trivial | exact rfl | assumption | apply And.intro))⟩)
    ·have he:L=[]:=Decidable.not_not.1 he
     have hbf:badC (itM rs) n.toNat=false:=st true (by rw [he]; rfl)
     have hR:rdN (itM rs) (n+1).toNat=rdN (itM rs) n.toNat:=by
      rw [hn1]; simp only [rdN]
      rw [hni,hcv,if_neg (by rw [hbf]; simp),if_pos he,List.append_nil]
     have hC:ctN (itM rs) (n+1).toNat=ctN (itM rs) n.toNat:=by
      rw [hn1]; simp only [ctN]
      rw [if_neg (by rw [hbf]; simp),List.append_nil]
     exact cdI (by omega) ⟨n+1,nx,ms _ _ _ _,by rw [hR,hC]; (repeat' (first | exact trivial | exact rfl | assumption | apply And.intro))⟩
  ·have h12:n.toNat=12:=by omega
   refine cd1 rfl (cd1 rfl ?_)
   unfold gK gN gT gQ gR gC
   rw [h12,hlen,hpl,hh0,hpi]
   have e0:badC (itM rs) 0=plF (itM rs) [f0,a,b,c]:=by unfold badC; rw [if_pos rfl,hpl]
   rw [e0]
   (repeat' (first | exact trivial | exact rfl | assumption | apply And.intro))
def rmgd_S (fdV:List (List AV)→Int→Int) (fdB:List (List AV)→Int→Bool) (gK:LLA→Int) (gN:LLA→ByteArray) (gT:LLA→Int) (gQ:LLA→Nat→Int) (gR:LLA→LLA) (gC:LLA→LLA):Prop:=∀ (gl:Glob) (rs:List (List AV)) (h:Bool),RmP rs→fnK Tryz.prog { glob:=gl,spec:=lk [(46,rkeyN_s),(64,rfind_s)],specH:=lk [],shape:=[14,22,35,39,67],slz:=[(14,[2]),(67,[2])],nowf:=true } { nt:=109,drop:=drp [(1,520192),(2,33030144),(4,234881024),(5,1610612736),(6,70366596694016),(7,4362862139015168),(9,4503599627370496),(10,54043195528445952),(13,504403158265495552),(14,3458764513820540928),(15,4717754796851217825792),(16,4722366482869645213696),(17,19323923647902588214444032),(18,19342813113834066795298816),(19,1160568786830044007717928960),(20,1266412660188944021221804081152),(21,2535301200456458802993406410752),(22,319447951257513809177169207754752),(23,324518553658426726783156020576256)],tys:=[24],emp:=fun id=>cond (Nat.beq id 3) [(1000307,501,63,2),(1000309,502,3,1)] (cond (Nat.beq id 5) [(1000309,502,3,1)] []) } (rmJ rs h) 6 Tryz.f48 [.sl 8 h rs] (.agg [.int .i64 (gK (itM rs)),.str (gN (itM rs)),.int .i64 (gT (itM rs)),.int .i64 (gQ (itM rs) 0),.int .i64 (gQ (itM rs) 1),.int .i64 (gQ (itM rs) 2),.int .i64 (gQ (itM rs) 3),.sl 2 false (gR (itM rs)),.int .i64 (itM rs).length,.sl 1 false (gC (itM rs))])
theorem rmgd_e (fdV:List (List AV)→Int→Int) (fdB:List (List AV)→Int→Bool) (gK:LLA→Int) (gN:LLA→ByteArray) (gT:LLA→Int) (gQ:LLA→Nat→Int) (gR:LLA→LLA) (gC:LLA→LLA):rmgd_T fdV fdB gK gN gT gQ gR gC=rmgd_S fdV fdB gK gN gT gQ gR gC:=by kernel_rfl
theorem rmgd_v:rmgd_S fdV fdB gK gN gT gQ gR gC:=Eq.mp (rmgd_e ..) (rmgd_P)
theorem rmgd_ok (gl:Glob):SOK Tryz.prog gl 48 (rmgd_s fdV fdB gK gN gT gQ gR gC):=by
 refine ⟨fok Tryz.func48 (by kernel_rfl) (by kernel_rfl),?_⟩
 intro xs pre r h hp
 unfold rmgd_s at h
 split at h
 ·simp only [Option.some.injEq,Prod.mk.injEq] at h
  obtain ⟨h1,h2⟩:=h
  subst h1 h2
  exact fnK_sound (tyOf (by kernel_rfl)) (by exact specOK rfl rfl ⟨(rkeyN_ok gl),(rfind_ok gl),trivial⟩ trivial) (by kernel_rfl) Tryz.func48 rfl (rmgd_v gl _ _ hp)
 ·cases h
structure Rg8 (l:LLA) (i:Int):Prop where
 fi:0≤i∧i≤l.length
def rg8 (l:LLA) (h:Bool) (fr to cut:Int):LInv:=⟨Int,fun i=>⟨[(0,.sl 10 h l),(3,.ptr 3 0),(7,.rw 707 10 (refN l fr to cut i.toNat).length),(8,.int .i64 i)],[(3,.cells [.int .i64 fr,.int .i64 to,.int .i64 cut]),(707,.row 66 10 (refN l fr to cut i.toNat))]⟩,Rg8 l,fun i=>(l.length - i).toNat,none⟩
def rmerge_s (inV:LLA→Int) (rdC:LLA→LLA→Int) (cmpI:Int→Int→Int) (cmpS:ByteArray→ByteArray→Int) (mrE:LLA→Int→Int→Int) (mrO:LLA→Int→Int→Int→LLA) (ctR:LLA→Int→ByteArray→Int→Int→LLA):Sp
 | [.sl 10 h l,.agg [.int .i64 fr,.int .i64 to,.int .i64 cut]]=>some (ItsP l,.tup [.sl 10 false (mrO l fr to cut),.int .i64 (mrE l fr to)])
 | _=>none
def rmerge_T (inV:LLA→Int) (rdC:LLA→LLA→Int) (cmpI:Int→Int→Int) (cmpS:ByteArray→ByteArray→Int) (mrE:LLA→Int→Int→Int) (mrO:LLA→Int→Int→Int→LLA) (ctR:LLA→Int→ByteArray→Int→Int→LLA) (itC:List AV→List AV→Int) (itE:Int→ByteArray→Int→Int→Int→Int→Int→LLA→Int→Int→Int) (fdV:List (List AV)→Int→Int) (fdB:List (List AV)→Int→Bool) (gK:LLA→Int) (gN:LLA→ByteArray) (gT:LLA→Int) (gQ:LLA→Nat→Int) (gR:LLA→LLA) (gC:LLA→LLA):Prop :=
  ∀ (gl:Glob) (l:List (List AV)) (h:Bool) (fr to cut:Int),ItsP l→True→(IR9 fr)∧(IR9 to)∧(IR9 cut)∧True→ItsP l∧bif decide ¬inV l=(0:Int) then mrO l fr to cut=[]∧inV l=mrE l fr to∧True else bif decide (to < fr) then mrO l fr to
 cut=[]∧(1:Int)=mrE l fr to∧True else (∃ x,Rg8 l x∧(((bif h then h=true else True)∧l=l)∧(0:Nat)=0∧(0:Nat)=List.length (refN l fr to cut (Int.toNat x))∧(0:Int)=x∧True)∧(fr=fr∧to=to∧cut=cut∧True)∧[]=refN l fr to cut (Int.toNat x)∧True)∧∀ (x:Int),Rg8 l x→bif decide (x < (↑l.length:Int)) then bif decide (0 < x) then bif decide (rng .i64 (x - (1:Int))) then bif decide (0≤x - (1:Int)∧x -
 (1:Int) < (↑l.length:Int)) then ∃ n s n_1 n_2 n_3 n_4 n_5 xs,List.take [AV.int .i64 n,.str s,.int .i64 n_1,.int .i64 n_2,.int .i64 n_3,.int .i64 n_4,.int .i64 n_5,.sl (2:Nat) false xs].length (List.drop (0:Nat) (l.getD (x - (1:Int)).toNat []))=[AV.int .i64 n,.str s,.int .i64 n_1,.int .i64 n_2,.int .i64 n_3,.int .i64 n_4,.int .i64 n_5,.sl (2:Nat) false xs]∧True∧bif decide (0≤x∧x <
 (↑l.length:Int)) then ∃ n_6 s_1 n_7 n_8 n_9 n_10 n_11 xs,List.take [AV.int .i64 n_6,.str s_1,.int .i64 n_7,.int .i64 n_8,.int .i64 n_9,.int .i64 n_10,.int .i64 n_11,.sl (2:Nat) false xs].length (List.drop (0:Nat) (l.getD x.toNat []))=[AV.int .i64 n_6,.str s_1,.int .i64 n_7,.int .i64 n_8,.int .i64 n_9,.int .i64 n_10,.int .i64 n_11,.sl (2:Nat) false xs]∧True∧(RdsP []∧RdsP [])∧bif decide (orI (cmpI n
 n_6) (orI (cmpS s s_1) (orI (cmpI n_1 n_7) (orI (cmpI (0:Int) (0:Int)) (orI (cmpI (0:Int) (0:Int)) (orI (cmpI (0:Int) (0:Int)) (orI (cmpI (0:Int) (0:Int)) (rdC [] [])))))))=(0:Int)) then bif decide (rng .i64 (x+(1:Int))) then ∃ y,Rg8 l y∧(rg8 l h fr to cut).m y < (rg8 l h fr to cut).m x∧(((bif h then h=true else True)∧l=l)∧(0:Nat)=0∧List.length (refN l fr to cut x.toNat)=List.length (refN l fr to
 cut (Int.toNat y))∧x+(1:Int)=y∧True)∧(fr=fr∧to=to∧cut=cut∧True)∧refN l fr to cut x.toNat=refN l fr to cut (Int.toNat y)∧True else False else bif decide (0≤x∧x < (↑l.length:Int)) then ∃ n,List.take [AV.int .i64 n].length (List.drop (2:Nat) (List.drop (0:Nat) (l.getD x.toNat [])))=[AV.int .i64 n]∧bif decide (n < fr) then bif decide (rng .i64 (x+(1:Int))) then ∃ y,Rg8 l y∧(rg8 l h fr to
 cut).m y < (rg8 l h fr to cut).m x∧(((bif h then h=true else True)∧l=l)∧(0:Nat)=0∧List.length (refN l fr to cut x.toNat)=List.length (refN l fr to cut (Int.toNat y))∧x+(1:Int)=y∧True)∧(fr=fr∧to=to∧cut=cut∧True)∧refN l fr to cut x.toNat=refN l fr to cut (Int.toNat y)∧True else False else bif decide (0≤x∧x < (↑l.length:Int)) then ∃ n,List.take [AV.int .i64 n].length (List.drop (2:Nat)
 (List.drop (0:Nat) (l.getD x.toNat [])))=[AV.int .i64 n]∧bif decide (to < n) then bif decide (rng .i64 (x+(1:Int))) then ∃ y,Rg8 l y∧(rg8 l h fr to cut).m y < (rg8 l h fr to cut).m x∧(((bif h then h=true else True)∧l=l)∧(0:Nat)=0∧List.length (refN l fr to cut x.toNat)=List.length (refN l fr to cut (Int.toNat y))∧x+(1:Int)=y∧True)∧(fr=fr∧to=to∧cut=cut∧True)∧refN l fr to cut x.toNat=refN l fr to
 cut (Int.toNat y)∧True else False else bif decide (0≤x∧x < (↑l.length:Int)) then ∃ n s n_12 n_13 n_14 n_15 n_16 xs,List.take [AV.int .i64 n,.str s,.int .i64 n_12,.int .i64 n_13,.int .i64 n_14,.int .i64 n_15,.int .i64 n_16,.sl (2:Nat) false xs].length (List.drop (0:Nat) (l.getD x.toNat []))=[AV.int .i64 n,.str s,.int .i64 n_12,.int .i64 n_13,.int .i64 n_14,.int .i64 n_15,.int .i64 n_16,.sl
 (2:Nat) false xs]∧CtP l xs∧bif decide ((0:Int) < (↑(List.length (ctR l n s n_12 cut)):Int)) then RmP (ctR l n s n_12 cut)∧bif decide (List.length (refN l fr to cut x.toNat)=List.length (refN l fr to cut x.toNat)∧List.length (refN l fr to cut x.toNat)+[[AV.int .i64 (gK (itM (ctR l n s n_12 cut))),.str (gN (itM (ctR l n s n_12 cut))),.int .i64 (gT (itM (ctR l n s n_12 cut))),.int .i64 (gQ (itM (ctR
 l n s n_12 cut)) (0:Nat)),.int .i64 (gQ (itM (ctR l n s n_12 cut)) (1:Nat)),.int .i64 (gQ (itM (ctR l n s n_12 cut)) (2:Nat)),.int .i64 (gQ (itM (ctR l n s n_12 cut)) (3:Nat)),.sl (2:Nat) false (gR (itM (ctR l n s n_12 cut))),.int .i64 (↑(List.length (itM (ctR l n s n_12 cut))):Int),.sl (1:Nat) false (gC (itM (ctR l n s n_12 cut)))]].length≤(9223372036854775807:Nat)∧(List.length (refN l fr to cut
 x.toNat)+[[AV.int .i64 (gK (itM (ctR l n s n_12 cut))),.str (gN (itM (ctR l n s n_12 cut))),.int .i64 (gT (itM (ctR l n s n_12 cut))),.int .i64 (gQ (itM (ctR l n s n_12 cut)) (0:Nat)),.int .i64 (gQ (itM (ctR l n s n_12 cut)) (1:Nat)),.int .i64 (gQ (itM (ctR l n s n_12 cut)) (2:Nat)),.int .i64 (gQ (itM (ctR l n s n_12 cut)) (3:Nat)),.sl (2:Nat) false (gR (itM (ctR l n s n_12 cut))),.int .i64
 (↑(List.length (itM (ctR l n s n_12 cut))):Int),.sl (1:Nat) false (gC (itM (ctR l n s n_12 cut)))]].length)*(120:Nat)≤(140737488355328:Nat)) then bif decide (rng .i64 (x+(1:Int))) then ∃ y,Rg8 l y∧(rg8 l h fr to cut).m y < (rg8 l h fr to cut).m x∧(((bif h then h=true else True)∧l=l)∧(0:Nat)=0∧(refN l fr to cut x.toNat++[[AV.int .i64 (gK (itM (ctR l n s n_12 cut))),.str (gN (itM (ctR l n s
 n_12 cut))),.int .i64 (gT (itM (ctR l n s n_12 cut))),.int .i64 (gQ (itM (ctR l n s n_12 cut)) (0:Nat)),.int .i64 (gQ (itM (ctR l n s n_12 cut)) (1:Nat)),.int .i64 (gQ (itM (ctR l n s n_12 cut)) (2:Nat)),.int .i64 (gQ (itM (ctR l n s n_12 cut)) (3:Nat)),.sl (2:Nat) false (gR (itM (ctR l n s n_12 cut))),.int .i64 (↑(List.length (itM (ctR l n s n_12 cut))):Int),.sl (1:Nat) false (gC (itM (ctR l n s
 n_12 cut)))]]).length=List.length (refN l fr to cut (Int.toNat y))∧x+(1:Int)=y∧True)∧(fr=fr∧to=to∧cut=cut∧True)∧refN l fr to cut x.toNat++[[AV.int .i64 (gK (itM (ctR l n s n_12 cut))),.str (gN (itM (ctR l n s n_12 cut))),.int .i64 (gT (itM (ctR l n s n_12 cut))),.int .i64 (gQ (itM (ctR l n s n_12 cut)) (0:Nat)),.int .i64 (gQ (itM (ctR l n s n_12 cut)) (1:Nat)),.int .i64 (gQ (itM (ctR l n s n_12
 cut)) (2:Nat)),.int .i64 (gQ (itM (ctR l n s n_12 cut)) (3:Nat)),.sl (2:Nat) false (gR (itM (ctR l n s n_12 cut))),.int .i64 (↑(List.length (itM (ctR l n s n_12 cut))):Int),.sl (1:Nat) false (gC (itM (ctR l n s n_12 cut)))]]=refN l fr to cut (Int.toNat y)∧True else False else False else bif decide (rng .i64 (x+(1:Int))) then ∃ y,Rg8 l y∧(rg8 l h fr to cut).m y < (rg8 l h fr to cut).m x∧(((bif h
 then h=true else True)∧l=l)∧(0:Nat)=0∧List.length (refN l fr to cut x.toNat)=List.length (refN l fr to cut (Int.toNat y))∧x+(1:Int)=y∧True)∧(fr=fr∧to=to∧cut=cut∧True)∧refN l fr to cut x.toNat=refN l fr to cut (Int.toNat y)∧True else False else False else False else False else False else False else False else bif decide (0≤x∧x < (↑l.length:Int)) then ∃ n,List.take [AV.int .i64 n].length
 (List.drop (2:Nat) (List.drop (0:Nat) (l.getD x.toNat [])))=[AV.int .i64 n]∧bif decide (n < fr) then bif decide (rng .i64 (x+(1:Int))) then ∃ y,Rg8 l y∧(rg8 l h fr to cut).m y < (rg8 l h fr to cut).m x∧(((bif h then h=true else True)∧l=l)∧(0:Nat)=0∧List.length (refN l fr to cut x.toNat)=List.length (refN l fr to cut (Int.toNat y))∧x+(1:Int)=y∧True)∧(fr=fr∧to=to∧cut=cut∧True)∧refN l fr to cut
 x.toNat=refN l fr to cut (Int.toNat y)∧True else False else bif decide (0≤x∧x < (↑l.length:Int)) then ∃ n,List.take [AV.int .i64 n].length (List.drop (2:Nat) (List.drop (0:Nat) (l.getD x.toNat [])))=[AV.int .i64 n]∧bif decide (to < n) then bif decide (rng .i64 (x+(1:Int))) then ∃ y,Rg8 l y∧(rg8 l h fr to cut).m y < (rg8 l h fr to cut).m x∧(((bif h then h=true else
 True)∧l=l)∧(0:Nat)=0∧List.length (refN l fr to cut x.toNat)=List.length (refN l fr to cut (Int.toNat y))∧x+(1:Int)=y∧True)∧(fr=fr∧to=to∧cut=cut∧True)∧refN l fr to cut x.toNat=refN l fr to cut (Int.toNat y)∧True else False else bif decide (0≤x∧x < (↑l.length:Int)) then ∃ n s n_1 n_2 n_3 n_4 n_5 xs,List.take [AV.int .i64 n,.str s,.int .i64 n_1,.int .i64 n_2,.int .i64 n_3,.int .i64 n_4,.int
 .i64 n_5,.sl (2:Nat) false xs].length (List.drop (0:Nat) (l.getD x.toNat []))=[AV.int .i64 n,.str s,.int .i64 n_1,.int .i64 n_2,.int .i64 n_3,.int .i64 n_4,.int .i64 n_5,.sl (2:Nat) false xs]∧CtP l xs∧bif decide ((0:Int) < (↑(List.length (ctR l n s n_1 cut)):Int)) then RmP (ctR l n s n_1 cut)∧bif decide (List.length (refN l fr to cut x.toNat)=List.length (refN l fr to cut x.toNat)∧List.length (refN
 l fr to cut x.toNat)+[[AV.int .i64 (gK (itM (ctR l n s n_1 cut))),.str (gN (itM (ctR l n s n_1 cut))),.int .i64 (gT (itM (ctR l n s n_1 cut))),.int .i64 (gQ (itM (ctR l n s n_1 cut)) (0:Nat)),.int .i64 (gQ (itM (ctR l n s n_1 cut)) (1:Nat)),.int .i64 (gQ (itM (ctR l n s n_1 cut)) (2:Nat)),.int .i64 (gQ (itM (ctR l n s n_1 cut)) (3:Nat)),.sl (2:Nat) false (gR (itM (ctR l n s n_1 cut))),.int .i64
 (↑(List.length (itM (ctR l n s n_1 cut))):Int),.sl (1:Nat) false (gC (itM (ctR l n s n_1 cut)))]].length≤(9223372036854775807:Nat)∧(List.length (refN l fr to cut x.toNat)+[[AV.int .i64 (gK (itM (ctR l n s n_1 cut))),.str (gN (itM (ctR l n s n_1 cut))),.int .i64 (gT (itM (ctR l n s n_1 cut))),.int .i64 (gQ (itM (ctR l n s n_1 cut)) (0:Nat)),.int .i64 (gQ (itM (ctR l n s n_1 cut)) (1:Nat)),.int
 .i64 (gQ (itM (ctR l n s n_1 cut)) (2:Nat)),.int .i64 (gQ (itM (ctR l n s n_1 cut)) (3:Nat)),.sl (2:Nat) false (gR (itM (ctR l n s n_1 cut))),.int .i64 (↑(List.length (itM (ctR l n s n_1 cut))):Int),.sl (1:Nat) false (gC (itM (ctR l n s n_1 cut)))]].length)*(120:Nat)≤(140737488355328:Nat)) then bif decide (rng .i64 (x+(1:Int))) then ∃ y,Rg8 l y∧(rg8 l h fr to cut).m y < (rg8 l h fr to cut).m
 x∧(((bif h then h=true else True)∧l=l)∧(0:Nat)=0∧(refN l fr to cut x.toNat++[[AV.int .i64 (gK (itM (ctR l n s n_1 cut))),.str (gN (itM (ctR l n s n_1 cut))),.int .i64 (gT (itM (ctR l n s n_1 cut))),.int .i64 (gQ (itM (ctR l n s n_1 cut)) (0:Nat)),.int .i64 (gQ (itM (ctR l n s n_1 cut)) (1:Nat)),.int .i64 (gQ (itM (ctR l n s n_1 cut)) (2:Nat)),.int .i64 (gQ (itM (ctR l n s n_1 cut)) (3:Nat)),.sl
 (2:Nat) false (gR (itM (ctR l n s n_1 cut))),.int .i64 (↑(List.length (itM (ctR l n s n_1 cut))):Int),.sl (1:Nat) false (gC (itM (ctR l n s n_1 cut)))]]).length=List.length (refN l fr to cut (Int.toNat y))∧x+(1:Int)=y∧True)∧(fr=fr∧to=to∧cut=cut∧True)∧refN l fr to cut x.toNat++[[AV.int .i64 (gK (itM (ctR l n s n_1 cut))),.str (gN (itM (ctR l n s n_1 cut))),.int .i64 (gT (itM (ctR l n s n_1
 cut))),.int .i64 (gQ (itM (ctR l n s n_1 cut)) (0:Nat)),.int .i64 (gQ (itM (ctR l n s n_1 cut)) (1:Nat)),.int .i64 (gQ (itM (ctR l n s n_1 cut)) (2:Nat)),.int .i64 (gQ (itM (ctR l n s n_1 cut)) (3:Nat)),.sl (2:Nat) false (gR (itM (ctR l n s n_1 cut))),.int .i64 (↑(List.length (itM (ctR l n s n_1 cut))):Int),.sl (1:Nat) false (gC (itM (ctR l n s n_1 cut)))]]=refN l fr to cut (Int.toNat y)∧True else
 False else False else bif decide (rng .i64 (x+(1:Int))) then ∃ y,Rg8 l y∧(rg8 l h fr to cut).m y < (rg8 l h fr to cut).m x∧(((bif h then h=true else True)∧l=l)∧(0:Nat)=0∧List.length (refN l fr to cut x.toNat)=List.length (refN l fr to cut (Int.toNat y))∧x+(1:Int)=y∧True)∧(fr=fr∧to=to∧cut=cut∧True)∧refN l fr to cut x.toNat=refN l fr to cut (Int.toNat y)∧True else False else False else False else
 False else bif decide (List.length (refN l fr to cut x.toNat)=List.length (refN l fr to cut x.toNat)) then (True∧refN l fr to cut x.toNat=mrO l fr to cut)∧(0:Int)=mrE l fr to∧True else False
theorem rmerge_P:rmerge_T inV rdC cmpI cmpS mrE mrO ctR itC itE fdV fdB gK gN gT gQ gR gC:=by
 unfold rmerge_T
 intro gl l h fr to cut hp
 intros
 have bh:cond h (h=true) True:=by cases h <;> trivial
 have r0:RdsP []:=⟨fun i h=>by simp at h,by simp⟩
 refine ⟨hp,csx (fun q=>?_) (fun q=>?_)⟩
 ·have e:mrE l fr to=inV l:=by unfold mrE; rw [if_neg q]
  exact ⟨by unfold mrO; rw [e,if_neg q],e.symm,trivial⟩
 have q:=Decidable.not_not.1 q
 refine csx (fun q2=>?_) (fun q2=>?_)
 ·have e:mrE l fr to=1:=by unfold mrE; rw [if_pos q,if_pos q2]
  exact ⟨by unfold mrO; rw [e]; rfl,e.symm,trivial⟩
 have e0:mrE l fr to=0:=by unfold mrE; rw [if_pos q,if_neg q2]
 have ok:OkL l:=⟨hp,q⟩
 have hl:=(inV_ok q).1
 refine ⟨⟨0,⟨by omega⟩,by (repeat' (first | exact trivial | exact rfl | assumption | apply And.intro))⟩,?_⟩
 rintro i ⟨i0,i1⟩
 refine csx (fun hi=>?_) (fun hi=>?_)
 ·obtain ⟨k2,nm2,t2,f2,a2,b2,c2,rd2,co2,ar2,h1,hr2⟩:=hp.fr i.toNat (by omega)
  have ms:(rg8 l h fr to cut).m (i+1) < (rg8 l h fr to cut).m i:=by simp only [rg8]; omega
  have nx:Rg8 l (i+1):=⟨by omega⟩
  have hn1:(i+1).toNat=i.toNat+1:=by omega
  have hq:itKy (l.getD i.toNat [])=kyM k2 nm2 t2:=by rw [h1]; rfl
  have htm:itTm (l.getD i.toNat [])=t2:=by rw [h1]; rfl
  have skip:skB l fr to i.toNat=true∨vcF l (kyM k2 nm2 t2) cut=[]→refN l fr to cut (i+1).toNat=refN l fr to cut i.toNat:=fun e=>by
   rw [hn1]; exact refN_skip (by rw [hq]; exact e)
  have hnl:=refN_len (l:=l) (fr:=fr) (to:=to) (cut:=cut) i.toNat
  have hnil:¬ (0:Int) < ((ctR l k2 nm2 t2 cut).length:Int)→vcF l (kyM k2 nm2 t2) cut=[]:=fun e=>by
   have:(ctR l k2 nm2 t2 cut).length=(vcF l (kyM k2 nm2 t2) cut).length:=rp8_len _
   exact List.eq_nil_of_length_eq_zero (by omega)
  have sT:t2 < fr→skB l fr to i.toNat=true:=fun e=>by unfold skB; rw [htm,decide_eq_true e]; simp
  have sU:to < t2→skB l fr to i.toNat=true:=fun e=>by unfold skB; rw [htm,decide_eq_true e]; simp
  have add:¬ (0 < i.toNat∧itKy (l.getD (i.toNat - 1) [])=itKy (l.getD i.toNat []))→¬ t2 < fr→¬ to < t2→(0:Int) < ((ctR l k2 nm2 t2 cut).length:Int)→RmP (ctR l k2 nm2 t2 cut)∧refN l fr to cut (i+1).toNat=refN l fr to cut i.toNat++[mgRow (itM (ctR l k2 nm2 t2 cut))]:=fun e1 e2 e3 e4=>by
   have hne:vcF l (kyM k2 nm2 t2) cut≠[]:=fun z=>by
    have:(ctR l k2 nm2 t2 cut).length=(vcF l (kyM k2 nm2 t2) cut).length:=rp8_len _
    rw [z,List.length_nil] at this
    omega
   have hsub:=vcF_sub (l:=l) (q:=kyM k2 nm2 t2) (cut:=cut)
   have hsk:skB l fr to i.toNat=false:=by
    unfold skB
    rw [htm,decide_eq_false e2,decide_eq_false e3,Bool.or_false,Bool.or_false]
    simpa using e1
   refine ⟨rm_of ok hsub.1 (by omega) hne,?_⟩
   have he:mgRow (itM (ctR l k2 nm2 t2 cut))=mgRow (vcF l (kyM k2 nm2 t2) cut):=itM_eq fun x hx=>ok.its x (hsub.1 x hx)
   rw [he,hn1,refN_add hsk (by rw [hq]; exact hne),hq]
  refine csx (fun hi0=>cdI (by omega) (cd1 (by omega) ?_)) (fun hi0=>?_)
  ·obtain ⟨k3,nm3,t3,f3,a3,b3,c3,rd3,co3,ar3,h3,_⟩:=hp.fr (i - 1).toNat (by omega)
   have hky:suC k3 nm3 t3 k2 nm2 t2=0↔itKy (l.getD (i.toNat - 1) [])=itKy (l.getD i.toNat []):=by
    rw [show i.toNat - 1=(i - 1).toNat by omega,h3,h1]; exact ky_su
   refine ⟨k3,nm3,t3,f3,a3,b3,c3,rd3,by rw [h3]; rfl,trivial,cd1 (by omega) ⟨k2,nm2,t2,f2,a2,b2,c2,rd2,by rw [h1]; rfl,trivial,⟨r0,r0⟩,?_⟩⟩
   rw [ky_eq]
   refine csx (fun e=>cdI (by omega) ⟨i+1,nx,ms,?_⟩) (fun e0=>?_)
   ·rw [skip (.inl (by unfold skB; rw [decide_eq_true (show 0 < i.toNat by omega),decide_eq_true (hky.1 e)]; simp))]
    (repeat' (first | exact trivial | exact rfl | assumption | apply And.intro))
   refine cd1 (by omega) ⟨t2,by rw [h1]; rfl,csx (fun e=>cdI (by omega) ⟨i+1,nx,ms,by rw [skip (.inl (sT e))]; (repeat' (first | exact trivial | exact rfl | assumption | apply And.intro))⟩) (fun e1=>cd1 (by omega) ⟨t2,by rw [h1]; rfl,csx (fun e=>cdI (by omega) ⟨i+1,nx,ms,by rw [skip (.inl (sU e))]; (repeat' (first | exact trivial | exact rfl | assumption | apply And.intro))⟩) (fun e2=>cd1 (by omega) ⟨k2,nm2,t2,f2,a2,b2,c2,rd2,by rw [h1]; rfl,⟨hp,by omega,hr2⟩,csx (fun e3=>?_) (fun e3=>cdI (by omega) ⟨i+1,nx,ms,by rw [skip (.inr (hnil e3))]; (repeat' (first | exact trivial | exact rfl | assumption | apply And.intro))⟩)⟩)⟩)⟩
   obtain ⟨hrm,hadd⟩:=add (fun z=>e0 (hky.2 z.2)) e1 e2 e3
   exact ⟨hrm,cd1 ⟨rfl,by simp only [List.length_singleton]; omega,by simp only [List.length_singleton]; omega⟩ (cdI (by omega) ⟨i+1,nx,ms,by rw [hadd]; (repeat' (first | exact trivial | exact rfl | assumption | apply And.intro))⟩)⟩
  ·refine cd1 (by omega) ⟨t2,by rw [h1]; rfl,csx (fun e=>cdI (by omega) ⟨i+1,nx,ms,by rw [skip (.inl (sT e))]; (repeat' (first | exact trivial | exact rfl | assumption | apply And.intro))⟩) (fun e1=>cd1 (by omega) ⟨t2,by rw [h1]; rfl,csx (fun e=>cdI (by omega) ⟨i+1,nx,ms,by rw [skip (.inl (sU e))]; (repeat' (first | exact trivial | exact rfl | assumption | apply And.intro))⟩) (fun e2=>cd1 (by omega) ⟨k2,nm2,t2,f2,a2,b2,c2,rd2,by rw [h1]; rfl,⟨hp,by omega,hr2⟩,csx (fun e3=>?_) (fun e3=>cdI (by omega) ⟨i+1,nx,ms,by rw [skip (.inr (hnil e3))]; (repeat' (first | exact trivial | exact rfl | assumption | apply And.intro))⟩)⟩)⟩)⟩
   obtain ⟨hrm,hadd⟩:=add (fun z=>hi0 (by omega)) e1 e2 e3
   exact ⟨hrm,cd1 ⟨rfl,by simp only [List.length_singleton]; omega,by simp only [List.length_singleton]; omega⟩ (cdI (by omega) ⟨i+1,nx,ms,by rw [hadd]; (repeat' (first | exact trivial | exact rfl | assumption | apply And.intro))⟩)⟩
 ·refine cd1 rfl ⟨⟨trivial,?_⟩,e0.symm,trivial⟩
  rw [show i.toNat=l.length by omega,ref_all ok]
  unfold mrO
  rw [if_pos e0]
def rmerge_S (inV:LLA→Int) (rdC:LLA→LLA→Int) (cmpI:Int→Int→Int) (cmpS:ByteArray→ByteArray→Int) (mrE:LLA→Int→Int→Int) (mrO:LLA→Int→Int→Int→LLA) (ctR:LLA→Int→ByteArray→Int→Int→LLA) (itC:List AV→List AV→Int) (itE:Int→ByteArray→Int→Int→Int→Int→Int→LLA→Int→Int→Int) (fdV:List (List AV)→Int→Int) (fdB:List (List AV)→Int→Bool) (gK:LLA→Int) (gN:LLA→ByteArray) (gT:LLA→Int) (gQ:LLA→Nat→Int) (gR:LLA→LLA) (gC:LLA→LLA):Prop:=∀ (gl:Glob) (l:List (List AV)) (h:Bool) (fr to cut:Int),ItsP l→fnK Tryz.prog { glob:=gl,spec:=lk [(16,(ivalidR_s inV itC itE)),(46,rkey_s),(45,(rsame_s rdC cmpI cmpS)),(47,(rcount_s rdC cmpI cmpS ctR)),(48,(rmgd_s fdV fdB gK gN gT gQ gR gC))],specH:=lk [],shape:=[34,40,50,61,71],slz:=[(34,[2]),(40,[2]),(71,[2])],nowf:=true } { nt:=84,drop:=drp [(1,3072),(2,4096),(3,16384),(4,491520),(8,7340032),(9,50331648),(10,36893488147351994368),(11,37705144886662323503104),(12,113336795588871485128704),(13,9369175102013376103972864),(14,9671406556917033397649408)],emp:=fun id=>cond (Nat.beq id 7) [(7,707,66,10)] [] } (invs [(8,rg8 l h fr to cut)]) 6 Tryz.f25 [.sl 10 h l,.agg [.int .i64 fr,.int .i64 to,.int .i64 cut]] (.tup [.sl 10 false (mrO l fr to cut),.int .i64 (mrE l fr to)])
theorem rmerge_e (inV:LLA→Int) (rdC:LLA→LLA→Int) (cmpI:Int→Int→Int) (cmpS:ByteArray→ByteArray→Int) (mrE:LLA→Int→Int→Int) (mrO:LLA→Int→Int→Int→LLA) (ctR:LLA→Int→ByteArray→Int→Int→LLA) (itC:List AV→List AV→Int) (itE:Int→ByteArray→Int→Int→Int→Int→Int→LLA→Int→Int→Int) (fdV:List (List AV)→Int→Int) (fdB:List (List AV)→Int→Bool) (gK:LLA→Int) (gN:LLA→ByteArray) (gT:LLA→Int) (gQ:LLA→Nat→Int) (gR:LLA→LLA) (gC:LLA→LLA):rmerge_T inV rdC cmpI cmpS mrE mrO ctR itC itE fdV fdB gK gN gT gQ gR gC=rmerge_S inV rdC cmpI cmpS mrE mrO ctR itC itE fdV fdB gK gN gT gQ gR gC:=by kernel_rfl
theorem rmerge_v:rmerge_S inV rdC cmpI cmpS mrE mrO ctR itC itE fdV fdB gK gN gT gQ gR gC:=Eq.mp (rmerge_e ..) (rmerge_P)
theorem rmerge_ok (gl:Glob):SOK Tryz.prog gl 25 (rmerge_s inV rdC cmpI cmpS mrE mrO ctR):=by
 refine ⟨fok Tryz.func25 (by kernel_rfl) (by kernel_rfl),?_⟩
 intro xs pre r h hp
 unfold rmerge_s at h
 split at h
 ·simp only [Option.some.injEq,Prod.mk.injEq] at h
  obtain ⟨h1,h2⟩:=h
  subst h1 h2
  exact fnK_sound tyNil (by exact specOK rfl rfl ⟨(ivalidR_ok gl),(rkey_ok gl),(rsame_ok gl),(rcount_ok gl),(rmgd_ok gl),trivial⟩ trivial) (by kernel_rfl) Tryz.func25 rfl (rmerge_v gl _ _ _ _ _ hp)
 ·cases h
end Go.Proofs.YtgnnafneglannaaGreatDoor
namespace Go.Proofs.YtgnnafneglannaaGreatDoor
open Go
set_option linter.unusedVariables false
set_option linter.unusedSimpArgs false
def itakeZ_s (inV:LLA→Int) (puE:LLA→List AV→Int) (puN:LLA→List AV→Int) (addI:LLA→List AV→LLA) (tkE:LLA→LLA→Int→Int→Int) (tkN:LLA→LLA→Int→Int→Int) (tkO:LLA→LLA→Int→Int→LLA):Sp
 | [.sl 10 g l,.nils,.int .i64 co,.int .i64 ar]=>some (TkP l [],.tup [.sl 10 false (tkO l [] co ar),.int .i64 (tkN l [] co ar),.int .i64 (tkE l [] co ar)])
 | _=>none
def itakeZ_T (inV:LLA→Int) (puE:LLA→List AV→Int) (puN:LLA→List AV→Int) (addI:LLA→List AV→LLA) (tkE:LLA→LLA→Int→Int→Int) (tkN:LLA→LLA→Int→Int→Int) (tkO:LLA→LLA→Int→Int→LLA) (itC:List AV→List AV→Int) (itE:Int→ByteArray→Int→Int→Int→Int→Int→LLA→Int→Int→Int) (posI:LLA→List AV→Nat) (hasI:LLA→List AV→Bool):Prop :=
  ∀ (l:List (List AV)) (g:Bool) (co ar:Int),TkP l []→True→True→IR9 co→IR9 ar→ItsP l∧bif decide ¬inV l=(0:Int) then tkO l [] co ar=[]∧(0:Int)=tkN l [] co ar∧inV l=tkE l [] co ar∧True else (ItsP l∧ItsL l)∧(∃ x,TkI l [] co ar x∧(co=co∧ar=ar∧True∧(0:Int)=0∧(0:Int)=0∧l.length=List.length
 x.snd∧(0:Int)=(↑(List.length x.snd):Int) - (↑l.length:Int)∧([]:List (List AV))=[]∧(0:Int)=0∧(0:Int)=x.fst∧True)∧l=x.snd∧True)∧∀ (x:Int × LLA),TkI l [] co ar x→bif decide (x.fst < (0:Int)) then bif decide (0≤x.fst∧x.fst < (0:Int)) then ∃ n s n_1 n_2 n_3 n_4 n_5 xs,List.take [AV.int .i64 n,.str s,.int .i64 n_1,.int .i64 n_2,.int .i64 n_3,.int .i64 n_4,.int .i64 n_5,.sl (2:Nat) false
 xs].length ([].getD x.fst.toNat [])=[AV.int .i64 n,.str s,.int .i64 n_1,.int .i64 n_2,.int .i64 n_3,.int .i64 n_4,.int .i64 n_5,.sl (2:Nat) false xs]∧PuP x.snd (List.length x.snd) xs∧bif decide (puE x.snd (itA n s n_1 n_2 n_3 n_4 n_5 xs co ar)=(0:Int)) then bif decide (rng .i64 ((↑(List.length x.snd):Int) - (↑l.length:Int)+puN x.snd (itA n s n_1 n_2 n_3 n_4 n_5 xs co ar))) then bif decide (rng
 .i64 (x.fst+(1:Int))) then ∃ y,TkI l [] co ar y∧(tk6 l [] false co ar).m y < (tk6 l [] false co ar).m x∧(co=co∧ar=ar∧True∧(0:Int)=0∧(0:Int)=0∧List.length (addI x.snd (itA n s n_1 n_2 n_3 n_4 n_5 xs co ar))=List.length y.snd∧(↑(List.length x.snd):Int) - (↑l.length:Int)+puN x.snd (itA n s n_1 n_2 n_3 n_4 n_5 xs co ar)=(↑(List.length y.snd):Int) - (↑l.length:Int)∧(True∧([]:List (List
 AV))=[])∧(0:Int)=0∧x.fst+(1:Int)=y.fst∧True)∧addI x.snd (itA n s n_1 n_2 n_3 n_4 n_5 xs co ar)=y.snd∧True else False else False else bif decide ¬puE x.snd (itA n s n_1 n_2 n_3 n_4 n_5 xs co ar)=(0:Int) then tkO l [] co ar=[]∧(0:Int)=tkN l [] co ar∧puE x.snd (itA n s n_1 n_2 n_3 n_4 n_5 xs co ar)=tkE l [] co ar∧True else bif decide (rng .i64 ((↑(List.length x.snd):Int) - (↑l.length:Int) +
 (0:Int))) then bif decide (rng .i64 (x.fst+(1:Int))) then ∃ y,TkI l [] co ar y∧(tk6 l [] false co ar).m y < (tk6 l [] false co ar).m x∧(co=co∧ar=ar∧True∧(0:Int)=0∧(0:Int)=0∧False∧(↑(List.length x.snd):Int) - (↑l.length:Int)+(0:Int)=(↑(List.length y.snd):Int) - (↑l.length:Int)∧(True∧([]:List (List AV))=[])∧(0:Int)=0∧x.fst+(1:Int)=y.fst∧True)∧x.snd=y.snd∧True else False else False else False
 else bif decide (List.length x.snd=List.length x.snd) then (True∧x.snd=tkO l [] co ar)∧(↑(List.length x.snd):Int) - (↑l.length:Int)=tkN l [] co ar∧(0:Int)=tkE l [] co ar∧True else False
theorem itakeZ_P:itakeZ_T inV puE puN addI tkE tkN tkO itC itE posI hasI:=by
 unfold itakeZ_T
 intro l g co ar hp _ _ _ _
 refine ⟨hp.fp,csx (fun q=>?_) (fun q=>?_)⟩
 ·unfold tkN tkE tkO
  rw [if_neg q,if_neg q,if_neg q]; exact ⟨rfl,rfl,rfl,trivial⟩
 have q:=Decidable.not_not.1 q
 obtain ⟨hl,_,hs⟩:=inV_ok q
 have hg:=hp.fq q
 have hE:tkE l [] co ar=(tkL co ar l []).2:=by unfold tkE; rw [if_pos q]
 have hO:tkO l [] co ar=(tkL co ar l []).1:=by unfold tkO; rw [if_pos q]
 refine ⟨⟨hg.p,hg.l⟩,⟨(0,l),⟨by simp,by simp,hg,hs,hl,rfl⟩,⟨rfl,rfl,trivial,rfl,rfl,rfl,by simp only; omega,rfl,rfl,rfl,trivial⟩,rfl,trivial⟩,?_⟩
 rintro ⟨i,out⟩ ⟨i0,i1,og,os,ol,oe⟩
 simp only at i0 i1 og os ol oe
 dsimp only
 refine csx (fun hi=>absurd hi (by omega)) (fun hi=>cd1 rfl ?_)
 rw [List.drop_nil] at oe
 have e1:tkE l [] co ar=0:=by rw [hE,oe]; rfl
 have e2:tkO l [] co ar=out:=by rw [hO,oe]; rfl
 refine ⟨⟨trivial,e2.symm⟩,?_,e1.symm,trivial⟩
 unfold tkN; rw [e1,e2,if_pos rfl]
def itakeZ_S (inV:LLA→Int) (puE:LLA→List AV→Int) (puN:LLA→List AV→Int) (addI:LLA→List AV→LLA) (tkE:LLA→LLA→Int→Int→Int) (tkN:LLA→LLA→Int→Int→Int) (tkO:LLA→LLA→Int→Int→LLA) (itC:List AV→List AV→Int) (itE:Int→ByteArray→Int→Int→Int→Int→Int→LLA→Int→Int→Int) (posI:LLA→List AV→Nat) (hasI:LLA→List AV→Bool):Prop:=∀ (l:List (List AV)) (g:Bool) (co ar:Int),TkP l []→fnK Tryz.prog { glob:=glb,spec:=lk [(15,(ivalid_s inV itC itE))],specH:=lk [(39,iall_s)],specQ:=lk [(38,(iput_s posI hasI itE puE puN addI))],shape:=[31],slz:=[(31,[2])],nowf:=true } { nt:=52,drop:=drp [(1,1572864),(2,2097152),(3,8388608),(4,50331648),(7,3221225472),(8,4393751543808),(9,4398046511104),(10,17592186044416),(11,527765581332480),(12,562949953421312),(13,3377699720527872)] } (invs [(6,tk6 l [] false co ar)]) 6 Tryz.f20 [.sl 10 g l,.nils,.int .i64 co,.int .i64 ar] (.tup [.sl 10 false (tkO l [] co ar),.int .i64 (tkN l [] co ar),.int .i64 (tkE l [] co ar)])
theorem itakeZ_e (inV:LLA→Int) (puE:LLA→List AV→Int) (puN:LLA→List AV→Int) (addI:LLA→List AV→LLA) (tkE:LLA→LLA→Int→Int→Int) (tkN:LLA→LLA→Int→Int→Int) (tkO:LLA→LLA→Int→Int→LLA) (itC:List AV→List AV→Int) (itE:Int→ByteArray→Int→Int→Int→Int→Int→LLA→Int→Int→Int) (posI:LLA→List AV→Nat) (hasI:LLA→List AV→Bool):itakeZ_T inV puE puN addI tkE tkN tkO itC itE posI hasI=itakeZ_S inV puE puN addI tkE tkN tkO itC itE posI hasI:=by kernel_rfl
theorem itakeZ_v:itakeZ_S inV puE puN addI tkE tkN tkO itC itE posI hasI:=Eq.mp (itakeZ_e ..) (itakeZ_P)
theorem itakeZ_ok:SOK Tryz.prog glb 20 (itakeZ_s inV puE puN addI tkE tkN tkO):=by
 refine ⟨fok Tryz.func20 (by kernel_rfl) (by kernel_rfl),?_⟩
 intro xs pre r h hp
 unfold itakeZ_s at h
 split at h
 ·simp only [Option.some.injEq,Prod.mk.injEq] at h
  obtain ⟨h1,h2⟩:=h
  subst h1 h2
  exact fnK_sound tyNil (by exact specOK rfl rfl ⟨(ivalid_ok),trivial⟩ ⟨(iall_ok glb),trivial⟩ (d:=qsOf rfl ⟨(iput_ok),trivial⟩)) (by kernel_rfl) Tryz.func20 rfl (itakeZ_v  _ _ _ _ hp)
 ·cases h
def smR (nm:ByteArray) (rd:LLA):Bool:=decide ((nm.size:Int)≤40)&&decide ((rd.length:Int)≤40)
def dsmall_s:Sp
 | [.agg [.int .i64 k,.str n,.int .i64 t,.int .i64 f,.int .i64 a,.int .i64 b,.int .i64 c,.sl 2 h rd]]=>some (RdsP rd,.bool (smR n rd))
 | _=>none
def dsmall_T:Prop :=
  ∀ (gl:Glob) (k t f a b c:Int) (n:ByteArray) (rd:List (List AV)) (h:Bool),RdsP rd→(IR9 k)∧n.size.le (9223372036854775807:Nat)∧(IR9 t)∧(IR9 f)∧((-9223372036854775808:Int)≤a∧a ≤
 (9223372036854775807:Int))∧(IR9 b)∧(IR9 c)∧True∧True→bif decide ((↑n.size:Int)≤(40:Int)) then decide ((↑rd.length:Int)≤(40:Int))=smR n rd else false=smR n rd
theorem dsmall_P:dsmall_T:=by
 unfold dsmall_T
 intro gl k t f a b c n rd h hp
 intros
 refine csx (fun h1=>?_) (fun h1=>?_)
 ·unfold smR; rw [decide_eq_true h1]; rfl
 ·unfold smR; rw [decide_eq_false h1]; rfl
def dsmall_S:Prop:=∀ (gl:Glob) (k t f a b c:Int) (n:ByteArray) (rd:List (List AV)) (h:Bool),RdsP rd→fnK Tryz.prog { glob:=gl,spec:=lk [],specH:=lk [],nowf:=true } { nt:=13,drop:=drp [(1,8184)] } (fun _ _=>none) 6 Tryz.f5 [.agg [.int .i64 k,.str n,.int .i64 t,.int .i64 f,.int .i64 a,.int .i64 b,.int .i64 c,.sl 2 h rd]] (.bool (smR n rd))
theorem dsmall_e:dsmall_T=dsmall_S:=by kernel_rfl
theorem dsmall_v:dsmall_S:=Eq.mp (dsmall_e ..) (dsmall_P)
theorem dsmall_ok (gl:Glob):SOK Tryz.prog gl 5 dsmall_s:=by
 refine ⟨fok Tryz.func5 (by kernel_rfl) (by kernel_rfl),?_⟩
 intro xs pre r h hp
 unfold dsmall_s at h
 split at h
 ·simp only [Option.some.injEq,Prod.mk.injEq] at h
  obtain ⟨h1,h2⟩:=h
  subst h1 h2
  exact fnK_sound tyNil (by exact specOK rfl rfl trivial trivial) (by kernel_rfl) Tryz.func5 rfl (dsmall_v gl _ _ _ _ _ _ _ _ _ hp)
 ·cases h
def smP (r:List AV):Bool:=smR (match r with | _::.str s::_=>s | _=>⟨#[]⟩) (itRd r)
def smB (l:LLA) (n:Int):Bool:=decide ((l.length:Int)≤n)&&l.all smP
structure SmI (l:LLA) (i:Int):Prop where
 fi:0≤i∧i≤l.length
 fa:∀ j:Nat,(j:Int) < i→smP (l.getD j [])=true
def sm4i (l:LLA) (f:Bool) (n:Int):LInv:=⟨Int,fun i=>⟨[(0,.sl 10 f l),(4,.bool false),(5,.int .i64 i)],[]⟩,SmI l,fun i=>(l.length - i).toNat,none⟩
def dsitems_s (smR:ByteArray→LLA→Bool) (smB:LLA→Int→Bool):Sp
 | [.sl 10 f l,.int .i64 n]=>some (ItsP l,.bool (smB l n))
 | _=>none
def dsitems_T (smR:ByteArray→LLA→Bool) (smB:LLA→Int→Bool):Prop :=
  ∀ (gl:Glob) (l:List (List AV)) (f:Bool) (n:Int),ItsP l→True→IR9 n→bif decide (n < (↑l.length:Int)) then false=smB l n else (∃ x,SmI l x∧(((bif f then f=true else True)∧l=l)∧false=false∧(0:Int)=x∧True)∧True)∧∀ (x:Int),SmI l x→bif decide (x < (↑l.length:Int)) then bif decide (0≤x∧x < (↑l.length:Int)) then ∃ n_1 s n_2 n_3 n_4 n_5
 n_6 xs,List.take [AV.int .i64 n_1,.str s,.int .i64 n_2,.int .i64 n_3,.int .i64 n_4,.int .i64 n_5,.int .i64 n_6,.sl (2:Nat) false xs].length (List.drop (0:Nat) (l.getD x.toNat []))=[AV.int .i64 n_1,.str s,.int .i64 n_2,.int .i64 n_3,.int .i64 n_4,.int .i64 n_5,.int .i64 n_6,.sl (2:Nat) false xs]∧RdsP xs∧bif !YtgnnafneglannaaGreatDoor.smR s xs then false=smB l n else bif decide (rng .i64 (x +
 (1:Int))) then ∃ y,SmI l y∧(sm4i l f n).m y < (sm4i l f n).m x∧(((bif f then f=true else True)∧l=l)∧false=false∧x+(1:Int)=y∧True)∧True else False else False else true=smB l n
theorem dsitems_P:dsitems_T smR smB:=by
 unfold dsitems_T
 intro gl l f n hp _ _
 have hl:=hp.fl
 have bf:cond f (f=true) True:=by cases f <;> trivial
 refine csx (fun q=>?_) (fun q=>⟨⟨0,⟨by omega,fun j hj=>by omega⟩,by (repeat' (first | exact trivial | exact rfl | assumption | apply And.intro))⟩,?_⟩)
 ·unfold smB; rw [decide_eq_false (show ¬ (l.length:Int)≤n by omega)]; rfl
 rintro i ⟨⟨i0,i1⟩,ia⟩
 refine csx (fun hi=>cd1 (by omega) ?_) (fun hi=>?_)
 ·obtain ⟨k,nm,t,f1,a,b,c,rd,co,ar,h1,hrd⟩:=hp.fr i.toNat (by omega)
  have hs:smP (l.getD i.toNat [])=smR nm rd:=by rw [h1]; rfl
  refine ⟨k,nm,t,f1,a,b,c,rd,by rw [h1]; rfl,hrd,csplit (fun h=>?_) (fun h=>cdI (by omega) ⟨i+1,⟨by omega,fun j hj=>?_⟩,by simp only [sm4i]; omega,by (repeat' (first | exact trivial | exact rfl | assumption | apply And.intro))⟩)⟩
  ·have h:smR nm rd=false:=by simpa using h
   have:l.all smP=false:=List.all_eq_false.2 ⟨l.getD i.toNat [],by rw [getD_lt (by omega)]; exact List.getElem_mem _,by rw [hs,h]; simp⟩
   unfold smB
   rw [this,Bool.and_false]
  ·have h:smR nm rd=true:=by simpa using h
   by_cases q2:(j:Int) < i
   ·exact ia j q2
   ·rw [show j=i.toNat by omega,hs]; exact h
 ·have:l.all smP=true:=List.all_eq_true.2 fun r hr=>by
   obtain ⟨j,hj,rfl⟩:=List.mem_iff_getElem.1 hr
   have:=ia j (by omega)
   rw [getD_lt hj] at this
   exact this
  unfold smB
  rw [this,decide_eq_true (show (l.length:Int)≤n by omega)]; rfl
def dsitems_S (smR:ByteArray→LLA→Bool) (smB:LLA→Int→Bool):Prop:=∀ (gl:Glob) (l:List (List AV)) (f:Bool) (n:Int),ItsP l→fnK Tryz.prog { glob:=gl,spec:=lk [(5,dsmall_s)],specH:=lk [],shape:=[20],slz:=[(20,[2])],nowf:=true } { nt:=23,drop:=drp [(1,448),(4,7168),(5,49152),(6,4128768)] } (invs [(4,sm4i l f n)]) 6 Tryz.f4 [.sl 10 f l,.int .i64 n] (.bool (smB l n))
theorem dsitems_e (smR:ByteArray→LLA→Bool) (smB:LLA→Int→Bool):dsitems_T smR smB=dsitems_S smR smB:=by kernel_rfl
theorem dsitems_v:dsitems_S smR smB:=Eq.mp (dsitems_e ..) (dsitems_P)
theorem dsitems_ok (gl:Glob):SOK Tryz.prog gl 4 (dsitems_s smR smB):=by
 refine ⟨fok Tryz.func4 (by kernel_rfl) (by kernel_rfl),?_⟩
 intro xs pre r h hp
 unfold dsitems_s at h
 split at h
 ·simp only [Option.some.injEq,Prod.mk.injEq] at h
  obtain ⟨h1,h2⟩:=h
  subst h1 h2
  exact fnK_sound tyNil (by exact specOK rfl rfl ⟨(dsmall_ok gl),trivial⟩ trivial) (by kernel_rfl) Tryz.func4 rfl (dsitems_v gl _ _ _ hp)
 ·cases h
end Go.Proofs.YtgnnafneglannaaGreatDoor
namespace Go.Proofs.YtgnnafneglannaaGreatDoor
open Go
set_option linter.unusedVariables false
set_option linter.unusedSimpArgs false
theorem itm_gd {os:LLA} {n j:Int} (h:ItmQ n os j) (hn:n≤100):GdL os:=⟨fun r hr=>by
 obtain ⟨k,nm,t,f,a,b,c,ys,co,ar,h1,h2,_⟩:=(h.fr r hr).fr
 exact ⟨k,nm,t,f,a,b,c,ys,co,ar,h1,rdv_rds h2.fr,by have:=h2.fr.flen; omega⟩,by have:=h.fl; omega⟩
theorem rep_bnt {k:Int} {nm:ByteArray} {t f a b c:Int} {ys:LLA} {j:Int} (h:RepQ k nm t f a b c ys j):BntP ys c:=⟨rdv_rds h.fr,by have:=h.fr.flen; omega,by
 by_cases hk:k=1
 ·have:=h.fl hk; omega
 ·have:=(h.fp hk).1.wc; omega⟩
end Go.Proofs.YtgnnafneglannaaGreatDoor
namespace Go.Proofs.YtgnnafneglannaaGreatDoor
open Go
set_option linter.unusedVariables false
set_option linter.unusedSimpArgs false
theorem its_set {l:LLA} (h:ItsP l) {i:Nat} {k:Int} {nm:ByteArray} {t f a b c:Int} {rd:LLA} {co ar:Int} (hr:RdsP rd):ItsP (l.set i (itA k nm t f a b c rd co ar)):=⟨fun j hj=>by
 rw [List.length_set] at hj
 rw [List.getD_eq_getElem?_getD,List.getElem?_set]
 split
 ·next q =>
  subst q
  rw [if_pos hj]
  exact ⟨k,nm,t,f,a,b,c,rd,co,ar,rfl,hr⟩
 ·rw [← List.getD_eq_getElem?_getD]; exact h.fr j hj,by rw [List.length_set]; exact h.fl⟩
theorem set0 {l:LLA} {i:Nat} {k:Int} {nm:ByteArray} {t f a b c:Int} {rd:LLA} {co ar:Int} {k2:Int} {nm2:ByteArray} {t2 f2 a2 b2 c2:Int} {rd2:LLA} {co2 ar2:Int} (he:l.getD i []=itA k nm t f a b c rd co ar):setEl l i 0 [.int .i64 k2,.str nm2,.int .i64 t2,.int .i64 f2,.int .i64 a2,.int .i64 b2,.int .i64 c2,.sl 2 false rd2,.int .i64 co2,.int .i64 ar2]=l.set i (itA k2 nm2 t2 f2 a2 b2 c2 rd2 co2 ar2):=by
 unfold setEl spl; rw [he]; rfl
theorem set7 {l:LLA} {i:Nat} {k:Int} {nm:ByteArray} {t f a b c:Int} {rd:LLA} {co ar:Int} {k2:Int} {nm2:ByteArray} {t2 f2 a2 b2 c2:Int} {rd2:LLA} (he:l.getD i []=itA k nm t f a b c rd co ar):setEl l i 0 [.int .i64 k2,.str nm2,.int .i64 t2,.int .i64 f2,.int .i64 a2,.int .i64 b2,.int .i64 c2,.sl 2 false rd2]=l.set i (itA k2 nm2 t2 f2 a2 b2 c2 rd2 co ar):=by
 unfold setEl spl; rw [he]; rfl
theorem set8 {l:LLA} {i:Nat} {k:Int} {nm:ByteArray} {t f a b c:Int} {rd:LLA} {co ar x:Int} (he:l.getD i []=itA k nm t f a b c rd co ar):setEl l i 8 [.int .i64 x]=l.set i (itA k nm t f a b c rd x ar):=by
 unfold setEl spl; rw [he]; rfl
theorem set9 {l:LLA} {i:Nat} {k:Int} {nm:ByteArray} {t f a b c:Int} {rd:LLA} {co ar x:Int} (he:l.getD i []=itA k nm t f a b c rd co ar):setEl l i 9 [.int .i64 x]=l.set i (itA k nm t f a b c rd co x):=by
 unfold setEl spl; rw [he]; rfl
theorem its_nil:ItsP []:=⟨fun i h=>by simp at h,by simp⟩
theorem adO_p {l:LLA} {x:List AV} (h:inV l=0→GdL l) (hx:ItG x):ItsP (adO l x):=by
 unfold adO
 split
 ·next e =>
  have hv:inV l=0:=by
   unfold adE at e
   split at e
   ·next q=>exact q
   ·exact e
  have hp:puE l x=0:=by unfold adE at e; rw [if_pos hv] at e; exact e
  exact (addI_gd (h hv) hx hp (inV_ok hv).1).1.p
 ·exact its_nil
theorem tkO_p0 {l:LLA} (h:ItsP l):ItsP (tkO l [] 0 0):=by
 unfold tkO
 split
 ·exact h
 ·exact its_nil
theorem tkL_err (co ar:Int):∀ (rs l:LLA),(tkL co ar l rs).2≠0→(tkL co ar l rs).1=[]
 | [],l,h=>absurd rfl h
 | r::rs,l,h=>by
  unfold tkL at h ⊢
  split
  ·next q=>rw [if_pos q] at h; exact tkL_err co ar rs _ h
  ·rfl
theorem tk_err {l rs:LLA} {co ar:Int} (h:¬ tkE l rs co ar=0):tkN l rs co ar=0∧tkO l rs co ar=[]:=by
 refine ⟨by unfold tkN; rw [if_neg h],?_⟩
 unfold tkO
 split
 ·next q=>unfold tkE at h; rw [if_pos q] at h; exact tkL_err co ar rs l h
 ·rfl
theorem mrO_mg {l:LLA} (h:ItsP l) (fr to cut:Int):MgL (mrO l fr to cut):=by
 unfold mrO
 split
 ·next e =>
  have hv:inV l=0:=by
   unfold mrE at e
   split at e
   ·next q=>exact q
   ·exact e
  exact mr_mgl ⟨h,hv⟩
 ·exact ⟨fun i hi=>by simp at hi,by simp⟩
theorem ibO_mem2:∀ (l:LLA) (x:List AV),x ∈ ibO l→x ∈ l :=
 snoc_ind (fun x h=>by simp [ibO] at h) fun l y ih x h=>by
  rw [ibO_snoc] at h
  unfold ibS at h
  split at h
  ·next e =>
   unfold adO at h
   rw [if_pos e] at h
   unfold addI at h
   split at h
   ·exact List.mem_append_left _ (ih x h)
   ·rcases ins_mem.1 h with rfl | q
    ·simp
    ·exact List.mem_append_left _ (ih x q)
  ·exact List.mem_append_left _ (ih x h)
theorem itv_g2 {x:List AV} (h:ItV x):ItG x:=by
 obtain ⟨k,nm,t,f,a,b,c,ys,co,ar,h1,h2,_⟩:=h.fr
 exact ⟨k,nm,t,f,a,b,c,ys,co,ar,h1,rdv_rds h2.fr,by have:=h2.fr.flen; omega⟩
structure An18 (od:LLA × Int):Prop where
 fo:ItsP od.1
 fl:od.1.length≤150
 fj:0≤od.2
structure An19 (raw good od:LLA) (x:Int × Int × LLA):Prop where
 fi:0≤x.1∧x.1≤3
 fj:0≤x.2.1
 fl:x.2.2=[[.sl 10 false raw],[.sl 10 false good],[.sl 10 false od]]
structure An25 (Y:LLA) (x:Int × LLA):Prop where
 fi:0≤x.1∧x.1≤x.2.length
 fy:x.2=Y
structure An38 (i:Int):Prop where
 fi:0≤i∧i≤2
structure AnP (raw rd:LLA) (xs:List (List AV)):Prop where
 fx:IntsA xs
 fr:ItsP raw
 fd:RdsP rd
def anX (k:Int) (nm:ByteArray) (t f a b c:Int) (rd:LLA) (co ar:Int):List AV:=itA k nm t f a b c rd co ar
def an18 (raw:LLA) (k:Int) (nm:ByteArray) (t f a b c:Int) (rd:LLA) (co ar fr to cut:Int) (ys:LLA) (m:Int) (its good:LLA):LInv:=⟨LLA × Int,fun od=>⟨[(0,.sl 10 false raw),(5,.ptr 5 0),(6,.ptr 6 0),(9,.ptr 50 0),(10,.int .i64 m),(11,.sl 10 false its),(12,.sl 10 false good),(13,.rw 58 10 od.1.length)],[(5,.cells (anX k nm t f a b c rd co ar)),(6,.cells [.int .i64 fr,.int .i64 to,.int .i64 cut]),(50,.cells [.sl 1 false ys,.int .i64 od.2]),(58,.row 29 10 od.1)]⟩,An18,fun _=>0,none⟩
def an19 (k:Int) (nm:ByteArray) (t f a b c:Int) (rd:LLA) (co ar fr to cut:Int) (ys:LLA) (m:Int) (its raw good od:LLA):LInv:=⟨Int × Int × LLA,fun x=>⟨[(5,.ptr 5 0),(6,.ptr 6 0),(9,.ptr 50 0),(10,.int .i64 m),(11,.sl 10 false its),(115,.rw 115 1 3),(116,.int .i64 3),(117,.int .i64 x.1)],[(5,.cells (anX k nm t f a b c rd co ar)),(6,.cells [.int .i64 fr,.int .i64 to,.int .i64 cut]),(50,.cells [.sl 1 false ys,.int .i64 x.2.1]),(115,.row 22 1 x.2.2)]⟩,An19 raw good od,fun x=>(3 - x.1).toNat,none⟩
def an25 (k:Int) (nm:ByteArray) (t f a b c:Int) (rd:LLA) (co ar fr to cut:Int) (ys:LLA) (j m:Int) (its L:LLA) (i:Int) (bx Y:LLA):LInv:=⟨Int × LLA,fun x=>⟨[(5,.ptr 5 0),(6,.ptr 6 0),(9,.ptr 50 0),(10,.int .i64 m),(11,.sl 10 false its),(16,.sl 10 false bx),(115,.rw 115 1 3),(116,.int .i64 3),(117,.int .i64 i),(138,.rw 130 10 x.2.length),(139,.int .i64 x.2.length),(140,.int .i64 x.1)],[(5,.cells (anX k nm t f a b c rd co ar)),(6,.cells [.int .i64 fr,.int .i64 to,.int .i64 cut]),(50,.cells [.sl 1 false ys,.int .i64 j]),(115,.row 22 1 L),(130,.row 29 10 x.2)]⟩,An25 Y,fun x=>(x.2.length - x.1).toNat,none⟩
def an38 (k:Int) (nm:ByteArray) (t f a b c:Int) (rd:LLA) (co ar fr to cut:Int) (ys:LLA) (j m:Int) (its L:LLA) (i:Int) (bx W:LLA):LInv:=⟨Int,fun n=>⟨[(5,.ptr 5 0),(6,.ptr 6 0),(9,.ptr 50 0),(10,.int .i64 m),(11,.sl 10 false its),(16,.sl 10 false bx),(115,.rw 115 1 3),(116,.int .i64 3),(117,.int .i64 i),(225,.rw 225 3 2),(226,.int .i64 2),(227,.int .i64 n)],[(5,.cells (anX k nm t f a b c rd co ar)),(6,.cells [.int .i64 fr,.int .i64 to,.int .i64 cut]),(50,.cells [.sl 1 false ys,.int .i64 j]),(115,.row 22 1 L),(225,.row 31 3 W)]⟩,An38,fun n=>(2 - n).toNat,none⟩
def anJ (id:Nat) (st:St):Option LInv:=match lk st.heap 5,lk st.heap 6,lk st.heap 50,lk st.tmps 10,lk st.tmps 11 with
 | some (.cells [.int _ k,.str nm,.int _ t,.int _ f,.int _ a,.int _ b,.int _ c,.sl _ _ rd,.int _ co,.int _ ar]),some (.cells [.int _ fr,.int _ to,.int _ cut]),some (.cells [.sl _ _ ys,.int _ j]),some (.int _ m),some (.sl _ _ its)=>cond (Nat.beq id 100018) (match lk st.tmps 0,lk st.tmps 12 with
  | some (.sl _ _ raw),some (.sl _ _ good)=>some (an18 raw k nm t f a b c rd co ar fr to cut ys m its good)
  | _,_=>none) (cond (Nat.beq id 19) (match lk st.heap 115 with
  | some (.row _ _ [[.sl _ _ raw],[.sl _ _ good],[.sl _ _ od]])=>some (an19 k nm t f a b c rd co ar fr to cut ys m its raw good od)
  | _=>none) (cond (Nat.beq id 25) (match lk st.heap 115,lk st.tmps 117,lk st.tmps 16,lk st.heap 130 with
  | some (.row _ _ L),some (.int _ i),some (.sl _ _ bx),some (.row _ _ Y)=>some (an25 k nm t f a b c rd co ar fr to cut ys j m its L i bx Y)
  | _,_,_,_=>none) (cond (Nat.beq id 38) (match lk st.heap 115,lk st.tmps 117,lk st.tmps 16,lk st.heap 225 with
  | some (.row _ _ L),some (.int _ i),some (.sl _ _ bx),some (.row _ _ W)=>some (an38 k nm t f a b c rd co ar fr to cut ys j m its L i bx W)
  | _,_,_,_=>none) none)))
 | _,_,_,_,_=>none
def lanswers_s (mrE:LLA→Int→Int→Int) (mrO:LLA→Int→Int→Int→LLA) (ibO:LLA→LLA) (adE:LLA→List AV→Int) (adO:LLA→List AV→LLA) (smI:LLA→LLA→Bool) (inV:LLA→Int) (smB:LLA→Int→Bool) (smR:ByteArray→LLA→Bool) (tkE:LLA→LLA→Int→Int→Int) (tkN:LLA→LLA→Int→Int→Int) (tkO:LLA→LLA→Int→Int→LLA):Sp
 | [.sl 10 false raw,.agg [.int .i64 k,.str nm,.int .i64 t,.int .i64 f,.int .i64 a,.int .i64 b,.int .i64 c,.sl 2 false rd,.int .i64 co,.int .i64 ar],.agg [.int .i64 fr,.int .i64 to,.int .i64 cut],.sl 1 false xs]=>some (AnP raw rd xs,.bool true)
 | _=>none
def lanswers_T (mrE:LLA→Int→Int→Int) (mrO:LLA→Int→Int→Int→LLA) (ibO:LLA→LLA) (adE:LLA→List AV→Int) (adO:LLA→List AV→LLA) (smI:LLA→LLA→Bool) (inV:LLA→Int) (smB:LLA→Int→Bool) (smR:ByteArray→LLA→Bool) (tkE:LLA→LLA→Int→Int→Int) (tkN:LLA→LLA→Int→Int→Int) (tkO:LLA→LLA→Int→Int→LLA) (itC:List AV→List AV→Int) (itE:Int→ByteArray→Int→Int→Int→Int→Int→LLA→Int→Int→Int) (puE:LLA→List AV→Int) (puN:LLA→List AV→Int) (addI:LLA→List AV→LLA) (posI:LLA→List AV→Nat) (suC:Int→ByteArray→Int→Int→ByteArray→Int→Int) (ouL:LLA→LLA→LLA) (rdC:LLA→LLA→Int) (cmpI:Int→Int→Int) (cmpS:ByteArray→ByteArray→Int) (ctR:LLA→Int→ByteArray→Int→Int→LLA) (aw1:LLA):Prop :=
  ∀ (raw:List (List AV)) (k t f a b c co ar fr to cut:Int) (nm:ByteArray) (rd xs:List (List AV)),AnP raw rd xs→True→(IR9 k)∧nm.size.le (9223372036854775807:Nat)∧(IR9 t)∧(IR9 f)∧((-9223372036854775808:Int)≤a∧a ≤
 (9223372036854775807:Int))∧(IR9 b)∧(IR9 c)∧True∧(IR9 co)∧(IR9 ar)∧True→(IR9 fr)∧((-9223372036854775808:Int)≤to∧to ≤
 (9223372036854775807:Int))∧(IR9 cut)∧True→True→ItsP raw∧bif !smB raw (30:Int) then True∧true=true else RdsP rd∧bif !YtgnnafneglannaaGreatDoor.smR nm rd then True∧true=true else True∧SrcQ (List.take (2000:Nat) xs) (0:Int)∧∀ (m j:Int),MinQ m j→(SrcQ (List.take (2000:Nat) xs) j∧(0≤m∧m≤(52595999:Int))∧(0:Int)≤(8:Int)∧(8:Int) ≤
 (100:Int))∧∀ (os:List (List AV)) (j:Int),ItmQ (8:Int) os j→GdL os∧bif decide ((0:Nat)=0∧(0:Nat)+List.length (ibO os)≤(9223372036854775807:Nat)∧((0:Nat)+List.length (ibO os))*(104:Nat)≤(140737488355328:Nat)) then (bif decide ((0:Int) < (↑([]++ibO os).length:Int)) then SrcQ (List.take (2000:Nat) xs) j∧∀ (v j:Int),NumQ (↑([]++ibO os).length:Int) v j→SrcQ (List.take (2000:Nat) xs) j∧∀
 (v_1 j:Int),NumQ (4:Int) v_1 j→bif decide (v_1=(0:Int)) then bif decide ((0:Int)≤(0:Int)∧(0:Int) < (↑([]++ibO os).length:Int)) then bif decide (([]++ibO os).length=([]++ibO os).length∧(0:Nat) < ([]++ibO os).length) then ∃ n s n_1 n_2 n_3 n_4 n_5 xs_1 n_6 n_7,List.take [AV.int .i64 n,.str s,.int .i64 n_1,.int .i64 n_2,.int .i64 n_3,.int .i64 n_4,.int .i64 n_5,.sl (2:Nat) false xs_1,.int
 .i64 n_6,.int .i64 n_7].length (List.drop (0:Nat) (([]++ibO os).getD (0:Nat) []))=[AV.int .i64 n,.str s,.int .i64 n_1,.int .i64 n_2,.int .i64 n_3,.int .i64 n_4,.int .i64 n_5,.sl (2:Nat) false xs_1,.int .i64 n_6,.int .i64 n_7]∧bif decide (0≤v∧v < (↑([]++ibO os).length:Int)) then bif decide (([]++ibO os).length=([]++ibO os).length∧v.toNat < ([]++ibO os).length) then ∃ n_8 s_1 n_9
 n_10 n_11 n_12 n_13 xs_2 n_14 n_15,List.take [AV.int .i64 n_8,.str s_1,.int .i64 n_9,.int .i64 n_10,.int .i64 n_11,.int .i64 n_12,.int .i64 n_13,.sl (2:Nat) false xs_2,.int .i64 n_14,.int .i64 n_15].length (List.drop (0:Nat) (([]++ibO os).getD v.toNat []))=[AV.int .i64 n_8,.str s_1,.int .i64 n_9,.int .i64 n_10,.int .i64 n_11,.int .i64 n_12,.int .i64 n_13,.sl (2:Nat) false xs_2,.int .i64 n_14,.int
 .i64 n_15]∧bif decide (0≤v∧v < (↑([]++ibO os).length:Int)) then bif decide (([]++ibO os).length=([]++ibO os).length∧v.toNat < ([]++ibO os).length) then bif decide ((0:Int)≤(0:Int)∧(0:Int) < (↑([]++ibO os).length:Int)) then bif decide (([]++ibO os).length=(setEl ([]++ibO os) v.toNat (0:Nat) [AV.int .i64 n,.str s,.int .i64 n_1,.int .i64 n_2,.int .i64 n_3,.int .i64 n_4,.int
 .i64 n_5,.sl (2:Nat) false xs_1,.int .i64 n_6,.int .i64 n_7]).length∧(0:Nat) < (setEl ([]++ibO os) v.toNat (0:Nat) [AV.int .i64 n,.str s,.int .i64 n_1,.int .i64 n_2,.int .i64 n_3,.int .i64 n_4,.int .i64 n_5,.sl (2:Nat) false xs_1,.int .i64 n_6,.int .i64 n_7]).length) then ∃ x,An18 x∧((True∧raw=raw)∧(0:Nat)=0∧(0:Nat)=0∧(0:Nat)=0∧m=m∧(True∧os=os)∧(True∧ibO os=ibO os)∧([]++ibO
 os).length=List.length x.fst∧True)∧(k=k∧nm=nm∧t=t∧f=f∧a=a∧b=b∧c=c∧(True∧rd=rd)∧co=co∧ar=ar∧True)∧(fr=fr∧to=to∧cut=cut∧True)∧((True∧List.take (2000:Nat) xs=List.take (2000:Nat) xs)∧j=x.snd∧True)∧setEl (setEl ([]++ibO os) v.toNat (0:Nat) [AV.int .i64 n,.str s,.int .i64 n_1,.int .i64 n_2,.int .i64 n_3,.int .i64 n_4,.int .i64 n_5,.sl (2:Nat) false xs_1,.int .i64 n_6,.int .i64 n_7]) (0:Nat) (0:Nat)
 [AV.int .i64 n_8,.str s_1,.int .i64 n_9,.int .i64 n_10,.int .i64 n_11,.int .i64 n_12,.int .i64 n_13,.sl (2:Nat) false xs_2,.int .i64 n_14,.int .i64 n_15]=x.fst∧True else False else False else False else False else False else False else False else False else bif decide (v_1=(1:Int)) then (SrcQ (List.take (2000:Nat) xs) j∧(-1:Int)≤(27:Int)∧(-1000000000:Int)≤(-1:Int)∧(27:Int)≤(1000000000:Int))∧∀
 (v_2 j:Int),((-1:Int)≤v_2∧v_2≤(27:Int))∧0≤j→bif decide (0≤v∧v < (↑([]++ibO os).length:Int)) then bif decide (([]++ibO os).length=([]++ibO os).length∧v.toNat < ([]++ibO os).length) then ∃ x,An18 x∧((True∧raw=raw)∧(0:Nat)=0∧(0:Nat)=0∧(0:Nat)=0∧m=m∧(True∧os=os)∧(True∧ibO os=ibO os)∧([]++ibO os).length=List.length
 x.fst∧True)∧(k=k∧nm=nm∧t=t∧f=f∧a=a∧b=b∧c=c∧(True∧rd=rd)∧co=co∧ar=ar∧True)∧(fr=fr∧to=to∧cut=cut∧True)∧((True∧List.take (2000:Nat) xs=List.take (2000:Nat) xs)∧j=x.snd∧True)∧setEl ([]++ibO os) v.toNat (8:Nat) [AV.int .i64 v_2]=x.fst∧True else False else False else bif decide (v_1=(2:Int)) then (SrcQ (List.take (2000:Nat) xs) j∧((2:Nat)=2∧(1:Nat)≤(2:Nat)∧(2:Nat)≤(1000:Nat))∧IntsB [[AV.int .i64
 (-1:Int)],[AV.int .i64 (52596000:Int)]])∧∀ (v_2 j:Int),PickQ [[AV.int .i64 (-1:Int)],[AV.int .i64 (52596000:Int)]] (AV.int .i64 v_2) j→bif decide (0≤v∧v < (↑([]++ibO os).length:Int)) then bif decide (([]++ibO os).length=([]++ibO os).length∧v.toNat < ([]++ibO os).length) then ∃ x,An18 x∧((True∧raw=raw)∧(0:Nat)=0∧(0:Nat)=0∧(0:Nat)=0∧m=m∧(True∧os=os)∧(True∧ibO os=ibO os)∧([]++ibO
 os).length=List.length x.fst∧True)∧(k=k∧nm=nm∧t=t∧f=f∧a=a∧b=b∧c=c∧(True∧rd=rd)∧co=co∧ar=ar∧True)∧(fr=fr∧to=to∧cut=cut∧True)∧((True∧List.take (2000:Nat) xs=List.take (2000:Nat) xs)∧j=x.snd∧True)∧setEl ([]++ibO os) v.toNat (9:Nat) [AV.int .i64 v_2]=x.fst∧True else False else False else bif decide (0≤v∧v < (↑([]++ibO os).length:Int)) then bif decide (([]++ibO os).length=([]++ibO
 os).length∧v.toNat < ([]++ibO os).length) then ∃ n s n_1 n_2 n_3 n_4 n_5 xs_1,List.take [AV.int .i64 n,.str s,.int .i64 n_1,.int .i64 n_2,.int .i64 n_3,.int .i64 n_4,.int .i64 n_5,.sl (2:Nat) false xs_1].length (List.drop (0:Nat) (([]++ibO os).getD v.toNat []))=[AV.int .i64 n,.str s,.int .i64 n_1,.int .i64 n_2,.int .i64 n_3,.int .i64 n_4,.int .i64 n_5,.sl (2:Nat) false xs_1]∧(SrcQ (List.take
 (2000:Nat) xs) j∧BntP xs_1 n_5)∧∀ (k_1:Int) (nm_1:ByteArray) (t_1 f_1 a_10 b_1 c_1:Int) (zs:List (List AV)) (j:Int),BntQ zs j→bif decide (0≤v∧v < (↑([]++ibO os).length:Int)) then bif decide (([]++ibO os).length=([]++ibO os).length∧v.toNat < ([]++ibO os).length) then ∃ x,An18 x∧((True∧raw=raw)∧(0:Nat)=0∧(0:Nat)=0∧(0:Nat)=0∧m=m∧(True∧os=os)∧(True∧ibO os=ibO os)∧([]++ibO
 os).length=List.length x.fst∧True)∧(k=k∧nm=nm∧t=t∧f=f∧a=a∧b=b∧c=c∧(True∧rd=rd)∧co=co∧ar=ar∧True)∧(fr=fr∧to=to∧cut=cut∧True)∧((True∧List.take (2000:Nat) xs=List.take (2000:Nat) xs)∧j=x.snd∧True)∧setEl ([]++ibO os) v.toNat (0:Nat) [AV.int .i64 k_1,.str nm_1,.int .i64 t_1,.int .i64 f_1,.int .i64 a_10,.int .i64 b_1,.int .i64 c_1,.sl (2:Nat) false zs]=x.fst∧True else False else False else False else
 False else ∃ x,An18 x∧((True∧raw=raw)∧(0:Nat)=0∧(0:Nat)=0∧(0:Nat)=0∧m=m∧(True∧os=os)∧(True∧ibO os=ibO os)∧([]++ibO os).length=List.length x.fst∧True)∧(k=k∧nm=nm∧t=t∧f=f∧a=a∧b=b∧c=c∧(True∧rd=rd)∧co=co∧ar=ar∧True)∧(fr=fr∧to=to∧cut=cut∧True)∧((True∧List.take (2000:Nat) xs=List.take (2000:Nat) xs)∧j=x.snd∧True)∧[]++ibO os=x.fst∧True)∧∀ (x:LLA × Int),An18 x→bif decide (List.length
 x.fst=List.length x.fst) then (∃ x_1,An19 raw (ibO os) x.fst x_1∧((0:Nat)=0∧(0:Nat)=0∧(0:Nat)=0∧m=m∧(True∧os=os)∧(3:Nat)=3∧(3:Int)=3∧(0:Int)=x_1.fst∧True)∧(k=k∧nm=nm∧t=t∧f=f∧a=a∧b=b∧c=c∧(True∧rd=rd)∧co=co∧ar=ar∧True)∧(fr=fr∧to=to∧cut=cut∧True)∧((True∧List.take (2000:Nat) xs=List.take (2000:Nat) xs)∧x.snd=x_1.snd.fst∧True)∧[[AV.sl (10:Nat) false raw],[AV.sl (10:Nat) false (ibO os)],[AV.sl (10:Nat)
 false x.fst]]=x_1.snd.snd∧True)∧∀ (x_1:Int × Int × LLA),An19 raw (ibO os) x.fst x_1→bif decide (x_1.fst < (3:Int)) then bif decide (0≤x_1.fst∧x_1.fst < (3:Int)) then bif decide ((3:Nat)=List.length x_1.snd.snd∧x_1.fst.toNat < List.length x_1.snd.snd) then ∃ xs_1,List.take [AV.sl (10:Nat) false xs_1].length (List.drop (0:Nat) (List.getD x_1.snd.snd x_1.fst.toNat []))=[AV.sl (10:Nat) false
 xs_1]∧ItsP xs_1∧ItsP xs_1∧bif decide ¬inV xs_1=inV xs_1 then false=true else (SrcQ (List.take (2000:Nat) xs) x_1.snd.fst∧(0≤m∧m≤(52595999:Int))∧(0:Int)≤(2:Int)∧(2:Int)≤(100:Int))∧∀ (os_1:List (List AV)) (j:Int),ItmQ (2:Int) os_1 j→bif decide ((1:Nat)=[[AV.int .i64 k,.str nm,.int .i64 t,.int .i64 f,.int .i64 a,.int .i64 b,.int .i64 c,.sl (2:Nat) false rd,.int .i64 co,.int .i64
 ar]].length∧[[AV.int .i64 k,.str nm,.int .i64 t,.int .i64 f,.int .i64 a,.int .i64 b,.int .i64 c,.sl (2:Nat) false rd,.int .i64 co,.int .i64 ar]].length+os_1.length≤(9223372036854775807:Nat)∧([[AV.int .i64 k,.str nm,.int .i64 t,.int .i64 f,.int .i64 a,.int .i64 b,.int .i64 c,.sl (2:Nat) false rd,.int .i64 co,.int .i64 ar]].length+os_1.length)*(104:Nat)≤(140737488355328:Nat)) then bif
 decide (0≤min (1:Int) (↑os.length:Int)∧min (1:Int) (↑os.length:Int)≤(↑os.length:Int)) then bif decide ((0:Int)≤(0:Int)∧0≤min (1:Int) (↑os.length:Int)) then bif decide (([[AV.int .i64 k,.str nm,.int .i64 t,.int .i64 f,.int .i64 a,.int .i64 b,.int .i64 c,.sl (2:Nat) false rd,.int .i64 co,.int .i64 ar]]++os_1).length=([[AV.int .i64 k,.str nm,.int .i64 t,.int .i64 f,.int .i64
 a,.int .i64 b,.int .i64 c,.sl (2:Nat) false rd,.int .i64 co,.int .i64 ar]]++os_1).length∧([[AV.int .i64 k,.str nm,.int .i64 t,.int .i64 f,.int .i64 a,.int .i64 b,.int .i64 c,.sl (2:Nat) false rd,.int .i64 co,.int .i64 ar]]++os_1).length+(List.drop (0:Nat) (List.take (min (1:Int) (↑os.length:Int)).toNat os)).length≤(9223372036854775807:Nat)∧(([[AV.int .i64 k,.str nm,.int .i64 t,.int .i64
 f,.int .i64 a,.int .i64 b,.int .i64 c,.sl (2:Nat) false rd,.int .i64 co,.int .i64 ar]]++os_1).length+(List.drop (0:Nat) (List.take (min (1:Int) (↑os.length:Int)).toNat os)).length)*(104:Nat)≤(140737488355328:Nat)) then (∃ x,An25 ([[AV.int .i64 k,.str nm,.int .i64 t,.int .i64 f,.int .i64 a,.int .i64 b,.int .i64 c,.sl (2:Nat) false rd,.int .i64 co,.int .i64 ar]]++os_1++List.drop (0:Nat)
 (List.take (min (1:Int) (↑os.length:Int)).toNat os)) x∧((0:Nat)=0∧(0:Nat)=0∧(0:Nat)=0∧m=m∧(True∧os=os)∧(True∧xs_1=xs_1)∧(3:Nat)=3∧(3:Int)=3∧x_1.fst=x_1.fst∧([[AV.int .i64 k,.str nm,.int .i64 t,.int .i64 f,.int .i64 a,.int .i64 b,.int .i64 c,.sl (2:Nat) false rd,.int .i64 co,.int .i64 ar]]++os_1++List.drop (0:Nat) (List.take (min (1:Int) (↑os.length:Int)).toNat os)).length=List.length
 x.snd∧(↑([[AV.int .i64 k,.str nm,.int .i64 t,.int .i64 f,.int .i64 a,.int .i64 b,.int .i64 c,.sl (2:Nat) false rd,.int .i64 co,.int .i64 ar]]++os_1++List.drop (0:Nat) (List.take (min (1:Int) (↑os.length:Int)).toNat os)).length:Int)=(↑(List.length x.snd):Int)∧(0:Int)=x.fst∧True)∧(k=k∧nm=nm∧t=t∧f=f∧a=a∧b=b∧c=c∧(True∧rd=rd)∧co=co∧ar=ar∧True)∧(fr=fr∧to=to∧cut=cut∧True)∧((True∧List.take (2000:Nat)
 xs=List.take (2000:Nat) xs)∧j=j∧True)∧x_1.snd.snd=x_1.snd.snd∧[[AV.int .i64 k,.str nm,.int .i64 t,.int .i64 f,.int .i64 a,.int .i64 b,.int .i64 c,.sl (2:Nat) false rd,.int .i64 co,.int .i64 ar]]++os_1++List.drop (0:Nat) (List.take (min (1:Int) (↑os.length:Int)).toNat os)=x.snd∧True)∧∀ (x_2:Int × LLA),An25 ([[AV.int .i64 k,.str nm,.int .i64 t,.int .i64 f,.int .i64 a,.int .i64 b,.int .i64 c,.sl
 (2:Nat) false rd,.int .i64 co,.int .i64 ar]]++os_1++List.drop (0:Nat) (List.take (min (1:Int) (↑os.length:Int)).toNat os)) x_2→bif decide (x_2.fst < (↑(List.length x_2.snd):Int)) then bif decide (0≤x_2.fst∧x_2.fst < (↑(List.length x_2.snd):Int)) then bif decide (List.length x_2.snd=List.length x_2.snd∧x_2.fst.toNat < List.length x_2.snd) then ∃ n s n_1 n_2 n_3 n_4 n_5 xs_2 n_6
 n_7,List.take [AV.int .i64 n,.str s,.int .i64 n_1,.int .i64 n_2,.int .i64 n_3,.int .i64 n_4,.int .i64 n_5,.sl (2:Nat) false xs_2,.int .i64 n_6,.int .i64 n_7].length (List.drop (0:Nat) (List.getD x_2.snd x_2.fst.toNat []))=[AV.int .i64 n,.str s,.int .i64 n_1,.int .i64 n_2,.int .i64 n_3,.int .i64 n_4,.int .i64 n_5,.sl (2:Nat) false xs_2,.int .i64 n_6,.int .i64 n_7]∧AdP xs_1 xs_2∧AdP xs_1 xs_2∧bif
 decide ¬adE xs_1 (itA n s n_1 n_2 n_3 n_4 n_5 xs_2 n_6 n_7)=adE xs_1 (itA n s n_1 n_2 n_3 n_4 n_5 xs_2 n_6 n_7) then false=true else (ItsP (adO xs_1 (itA n s n_1 n_2 n_3 n_4 n_5 xs_2 n_6 n_7))∧ItsP (adO xs_1 (itA n s n_1 n_2 n_3 n_4 n_5 xs_2 n_6 n_7)))∧bif !smI (adO xs_1 (itA n s n_1 n_2 n_3 n_4 n_5 xs_2 n_6 n_7)) (adO xs_1 (itA n s n_1 n_2 n_3 n_4 n_5 xs_2 n_6 n_7)) then false=true else bif decide
 (rng .i64 (x_2.fst+(1:Int))) then ∃ y,An25 ([[AV.int .i64 k,.str nm,.int .i64 t,.int .i64 f,.int .i64 a,.int .i64 b,.int .i64 c,.sl (2:Nat) false rd,.int .i64 co,.int .i64 ar]]++os_1++List.drop (0:Nat) (List.take (min (1:Int) (↑os.length:Int)).toNat os)) y∧(an25 k nm t f a b c rd co ar fr to cut (List.take (2000:Nat) xs) j m os x_1.snd.snd x_1.fst xs_1 ([[AV.int .i64 k,.str nm,.int .i64
 t,.int .i64 f,.int .i64 a,.int .i64 b,.int .i64 c,.sl (2:Nat) false rd,.int .i64 co,.int .i64 ar]]++os_1++List.drop (0:Nat) (List.take (min (1:Int) (↑os.length:Int)).toNat os))).m y < (an25 k nm t f a b c rd co ar fr to cut (List.take (2000:Nat) xs) j m os x_1.snd.snd x_1.fst xs_1 ([[AV.int .i64 k,.str nm,.int .i64 t,.int .i64 f,.int .i64 a,.int .i64 b,.int .i64 c,.sl (2:Nat) false rd,.int .i64
 co,.int .i64 ar]]++os_1++List.drop (0:Nat) (List.take (min (1:Int) (↑os.length:Int)).toNat os))).m x_2∧((0:Nat)=0∧(0:Nat)=0∧(0:Nat)=0∧m=m∧(True∧os=os)∧(True∧xs_1=xs_1)∧(3:Nat)=3∧(3:Int)=3∧x_1.fst=x_1.fst∧List.length x_2.snd=List.length y.snd∧(↑(List.length x_2.snd):Int)=(↑(List.length y.snd):Int)∧x_2.fst +
 (1:Int)=y.fst∧True)∧(k=k∧nm=nm∧t=t∧f=f∧a=a∧b=b∧c=c∧(True∧rd=rd)∧co=co∧ar=ar∧True)∧(fr=fr∧to=to∧cut=cut∧True)∧((True∧List.take (2000:Nat) xs=List.take (2000:Nat) xs)∧j=j∧True)∧x_1.snd.snd=x_1.snd.snd∧x_2.snd=y.snd∧True else False else False else False else (SrcQ (List.take (2000:Nat) xs) j∧0≤m∧m≤(52595999:Int))∧∀ (k_1:Int) (nm_1:ByteArray) (t_1 f_1 a_12 b_1 c_1:Int) (ys:List (List AV))
 (j:Int),RepQ k_1 nm_1 t_1 f_1 a_12 b_1 c_1 ys j→(SrcQ (List.take (2000:Nat) xs) j∧(-1:Int)≤(27:Int)∧(-1000000000:Int)≤(-1:Int)∧(27:Int)≤(1000000000:Int))∧∀ (v j:Int),((-1:Int)≤v∧v≤(27:Int))∧0≤j→TkP xs_1 [[AV.int .i64 k_1,.str nm_1,.int .i64 t_1,.int .i64 f_1,.int .i64 a_12,.int .i64 b_1,.int .i64 c_1,.sl (2:Nat) false ys],[AV.int .i64 k,.str nm,.int .i64 t,.int .i64 f,.int .i64
 a,.int .i64 b,.int .i64 c,.sl (2:Nat) false rd]]∧TrP xs_1 []∧TkP xs_1 []∧bif decide ¬tkE xs_1 [] (0:Int) (0:Int)=tkE xs_1 [] (0:Int) (0:Int) then false=true else bif decide ¬tkN xs_1 [] (0:Int) (0:Int)=tkN xs_1 [] (0:Int) (0:Int) then false=true else (ItsP (tkO xs_1 [] (0:Int) (0:Int))∧ItsP (tkO xs_1 [] (0:Int) (0:Int)))∧bif !smI (tkO xs_1 [] (0:Int) (0:Int)) (tkO xs_1 [] (0:Int) (0:Int)) then
 false=true else bif decide ¬tkE xs_1 [[AV.int .i64 k_1,.str nm_1,.int .i64 t_1,.int .i64 f_1,.int .i64 a_12,.int .i64 b_1,.int .i64 c_1,.sl (2:Nat) false ys],[AV.int .i64 k,.str nm,.int .i64 t,.int .i64 f,.int .i64 a,.int .i64 b,.int .i64 c,.sl (2:Nat) false rd]] v m=(0:Int) then bif decide ¬tkN xs_1 [[AV.int .i64 k_1,.str nm_1,.int .i64 t_1,.int .i64 f_1,.int .i64 a_12,.int .i64 b_1,.int .i64
 c_1,.sl (2:Nat) false ys],[AV.int .i64 k,.str nm,.int .i64 t,.int .i64 f,.int .i64 a,.int .i64 b,.int .i64 c,.sl (2:Nat) false rd]] v m=(0:Int) then false=true else bif decide ¬(↑(List.length (tkO xs_1 [[AV.int .i64 k_1,.str nm_1,.int .i64 t_1,.int .i64 f_1,.int .i64 a_12,.int .i64 b_1,.int .i64 c_1,.sl (2:Nat) false ys],[AV.int .i64 k,.str nm,.int .i64 t,.int .i64 f,.int .i64 a,.int .i64 b,.int
 .i64 c,.sl (2:Nat) false rd]] v m)):Int)=(0:Int) then false=true else (SrcQ (List.take (2000:Nat) xs) j∧0≤m∧m≤(52595999:Int))∧∀ (fr_1 to_1 cut_1 j:Int),WinQ m fr_1 to_1 cut_1 j→(∃ x,An38
 x∧((0:Nat)=0∧(0:Nat)=0∧(0:Nat)=0∧m=m∧(True∧os=os)∧(True∧xs_1=xs_1)∧(3:Nat)=3∧(3:Int)=3∧x_1.fst=x_1.fst∧(2:Nat)=2∧(2:Int)=2∧(0:Int)=x∧True)∧(k=k∧nm=nm∧t=t∧f=f∧a=a∧b=b∧c=c∧(True∧rd=rd)∧co=co∧ar=ar∧True)∧(fr=fr∧to=to∧cut=cut∧True)∧((True∧List.take (2000:Nat) xs=List.take (2000:Nat) xs)∧j=j∧True)∧x_1.snd.snd=x_1.snd.snd∧[[AV.int .i64 fr,.int .i64 to,.int .i64 cut],[AV.int .i64 fr_1,.int .i64 to_1,.int
 .i64 cut_1]]=[[AV.int .i64 fr,.int .i64 to,.int .i64 cut],[AV.int .i64 fr_1,.int .i64 to_1,.int .i64 cut_1]]∧True)∧∀ (x_3:Int),An38 x_3→bif decide (x_3 < (2:Int)) then bif decide (0≤x_3∧x_3 < (2:Int)) then bif decide ((2:Nat)=[[AV.int .i64 fr,.int .i64 to,.int .i64 cut],[AV.int .i64 fr_1,.int .i64 to_1,.int .i64 cut_1]].length∧x_3.toNat < [[AV.int .i64 fr,.int .i64 to,.int .i64 cut],[AV.int
 .i64 fr_1,.int .i64 to_1,.int .i64 cut_1]].length) then ∃ n n_1 n_2,List.take [AV.int .i64 n,.int .i64 n_1,.int .i64 n_2].length (List.drop (0:Nat) ([[AV.int .i64 fr,.int .i64 to,.int .i64 cut],[AV.int .i64 fr_1,.int .i64 to_1,.int .i64 cut_1]].getD x_3.toNat []))=[AV.int .i64 n,.int .i64 n_1,.int .i64 n_2]∧ItsP xs_1∧ItsP xs_1∧bif decide ¬mrE xs_1 n n_1=mrE xs_1 n n_1 then false=true else (MgL (mrO
 xs_1 n n_1 n_2)∧mrO xs_1 n n_1 n_2=mrO xs_1 n n_1 n_2)∧bif decide (rng .i64 (x_3+(1:Int))) then ∃ y,An38 y∧(an38 k nm t f a b c rd co ar fr to cut (List.take (2000:Nat) xs) j m os x_1.snd.snd x_1.fst xs_1 [[AV.int .i64 fr,.int .i64 to,.int .i64 cut],[AV.int .i64 fr_1,.int .i64 to_1,.int .i64 cut_1]]).m y < (an38 k nm t f a b c rd co ar fr to cut (List.take (2000:Nat) xs) j m os x_1.snd.snd
 x_1.fst xs_1 [[AV.int .i64 fr,.int .i64 to,.int .i64 cut],[AV.int .i64 fr_1,.int .i64 to_1,.int .i64 cut_1]]).m x_3∧((0:Nat)=0∧(0:Nat)=0∧(0:Nat)=0∧m=m∧(True∧os=os)∧(True∧xs_1=xs_1)∧(3:Nat)=3∧(3:Int)=3∧x_1.fst=x_1.fst∧(2:Nat)=2∧(2:Int)=2∧x_3+(1:Int)=y∧True)∧(k=k∧nm=nm∧t=t∧f=f∧a=a∧b=b∧c=c∧(True∧rd=rd)∧co=co∧ar=ar∧True)∧(fr=fr∧to=to∧cut=cut∧True)∧((True∧List.take (2000:Nat) xs=List.take (2000:Nat)
 xs)∧j=j∧True)∧x_1.snd.snd=x_1.snd.snd∧[[AV.int .i64 fr,.int .i64 to,.int .i64 cut],[AV.int .i64 fr_1,.int .i64 to_1,.int .i64 cut_1]]=[[AV.int .i64 fr,.int .i64 to,.int .i64 cut],[AV.int .i64 fr_1,.int .i64 to_1,.int .i64 cut_1]]∧True else False else False else False else bif decide (rng .i64 (x_1.fst+(1:Int))) then ∃ y,An19 raw (ibO os) x.fst y∧(an19 k nm t f a b c rd co ar fr to cut (List.take
 (2000:Nat) xs) m os raw (ibO os) x.fst).m y < (an19 k nm t f a b c rd co ar fr to cut (List.take (2000:Nat) xs) m os raw (ibO os) x.fst).m x_1∧((0:Nat)=0∧(0:Nat)=0∧(0:Nat)=0∧m=m∧(True∧os=os)∧(3:Nat)=3∧(3:Int)=3∧x_1.fst+(1:Int)=y.fst∧True)∧(k=k∧nm=nm∧t=t∧f=f∧a=a∧b=b∧c=c∧(True∧rd=rd)∧co=co∧ar=ar∧True)∧(fr=fr∧to=to∧cut=cut∧True)∧((True∧List.take (2000:Nat) xs=List.take (2000:Nat)
 xs)∧j=y.snd.fst∧True)∧x_1.snd.snd=y.snd.snd∧True else False else (SrcQ (List.take (2000:Nat) xs) j∧0≤m∧m≤(52595999:Int))∧∀ (fr_1 to_1 cut_1 j:Int),WinQ m fr_1 to_1 cut_1 j→(∃ x,An38
 x∧((0:Nat)=0∧(0:Nat)=0∧(0:Nat)=0∧m=m∧(True∧os=os)∧(True∧xs_1=xs_1)∧(3:Nat)=3∧(3:Int)=3∧x_1.fst=x_1.fst∧(2:Nat)=2∧(2:Int)=2∧(0:Int)=x∧True)∧(k=k∧nm=nm∧t=t∧f=f∧a=a∧b=b∧c=c∧(True∧rd=rd)∧co=co∧ar=ar∧True)∧(fr=fr∧to=to∧cut=cut∧True)∧((True∧List.take (2000:Nat) xs=List.take (2000:Nat) xs)∧j=j∧True)∧x_1.snd.snd=x_1.snd.snd∧[[AV.int .i64 fr,.int .i64 to,.int .i64 cut],[AV.int .i64 fr_1,.int .i64 to_1,.int
 .i64 cut_1]]=[[AV.int .i64 fr,.int .i64 to,.int .i64 cut],[AV.int .i64 fr_1,.int .i64 to_1,.int .i64 cut_1]]∧True)∧∀ (x_3:Int),An38 x_3→bif decide (x_3 < (2:Int)) then bif decide (0≤x_3∧x_3 < (2:Int)) then bif decide ((2:Nat)=[[AV.int .i64 fr,.int .i64 to,.int .i64 cut],[AV.int .i64 fr_1,.int .i64 to_1,.int .i64 cut_1]].length∧x_3.toNat < [[AV.int .i64 fr,.int .i64 to,.int .i64 cut],[AV.int
 .i64 fr_1,.int .i64 to_1,.int .i64 cut_1]].length) then ∃ n n_1 n_2,List.take [AV.int .i64 n,.int .i64 n_1,.int .i64 n_2].length (List.drop (0:Nat) ([[AV.int .i64 fr,.int .i64 to,.int .i64 cut],[AV.int .i64 fr_1,.int .i64 to_1,.int .i64 cut_1]].getD x_3.toNat []))=[AV.int .i64 n,.int .i64 n_1,.int .i64 n_2]∧ItsP xs_1∧ItsP xs_1∧bif decide ¬mrE xs_1 n n_1=mrE xs_1 n n_1 then false=true else (MgL (mrO
 xs_1 n n_1 n_2)∧mrO xs_1 n n_1 n_2=mrO xs_1 n n_1 n_2)∧bif decide (rng .i64 (x_3+(1:Int))) then ∃ y,An38 y∧(an38 k nm t f a b c rd co ar fr to cut (List.take (2000:Nat) xs) j m os x_1.snd.snd x_1.fst xs_1 [[AV.int .i64 fr,.int .i64 to,.int .i64 cut],[AV.int .i64 fr_1,.int .i64 to_1,.int .i64 cut_1]]).m y < (an38 k nm t f a b c rd co ar fr to cut (List.take (2000:Nat) xs) j m os x_1.snd.snd
 x_1.fst xs_1 [[AV.int .i64 fr,.int .i64 to,.int .i64 cut],[AV.int .i64 fr_1,.int .i64 to_1,.int .i64 cut_1]]).m x_3∧((0:Nat)=0∧(0:Nat)=0∧(0:Nat)=0∧m=m∧(True∧os=os)∧(True∧xs_1=xs_1)∧(3:Nat)=3∧(3:Int)=3∧x_1.fst=x_1.fst∧(2:Nat)=2∧(2:Int)=2∧x_3+(1:Int)=y∧True)∧(k=k∧nm=nm∧t=t∧f=f∧a=a∧b=b∧c=c∧(True∧rd=rd)∧co=co∧ar=ar∧True)∧(fr=fr∧to=to∧cut=cut∧True)∧((True∧List.take (2000:Nat) xs=List.take (2000:Nat)
 xs)∧j=j∧True)∧x_1.snd.snd=x_1.snd.snd∧[[AV.int .i64 fr,.int .i64 to,.int .i64 cut],[AV.int .i64 fr_1,.int .i64 to_1,.int .i64 cut_1]]=[[AV.int .i64 fr,.int .i64 to,.int .i64 cut],[AV.int .i64 fr_1,.int .i64 to_1,.int .i64 cut_1]]∧True else False else False else False else bif decide (rng .i64 (x_1.fst+(1:Int))) then ∃ y,An19 raw (ibO os) x.fst y∧(an19 k nm t f a b c rd co ar fr to cut (List.take
 (2000:Nat) xs) m os raw (ibO os) x.fst).m y < (an19 k nm t f a b c rd co ar fr to cut (List.take (2000:Nat) xs) m os raw (ibO os) x.fst).m x_1∧((0:Nat)=0∧(0:Nat)=0∧(0:Nat)=0∧m=m∧(True∧os=os)∧(3:Nat)=3∧(3:Int)=3∧x_1.fst+(1:Int)=y.fst∧True)∧(k=k∧nm=nm∧t=t∧f=f∧a=a∧b=b∧c=c∧(True∧rd=rd)∧co=co∧ar=ar∧True)∧(fr=fr∧to=to∧cut=cut∧True)∧((True∧List.take (2000:Nat) xs=List.take (2000:Nat)
 xs)∧j=y.snd.fst∧True)∧x_1.snd.snd=y.snd.snd∧True else False else False else False else False else False else False else False else True∧true=true else False else False
theorem lanswers_P:lanswers_T mrE mrO ibO adE adO smI inV smB smR tkE tkN tkO itC itE puE puN addI posI suC ouL rdC cmpI cmpS ctR aw1:=by
 unfold lanswers_T
 intro raw k t f a b c co ar fr to cut nm rd xs hp
 intros
 obtain ⟨fx,fr0,fd⟩:=hp
 refine ⟨fr0,csplit (fun _=>⟨trivial,rfl⟩) (fun h30=>⟨fd,csplit (fun _=>⟨trivial,rfl⟩) (fun hsm=>?_)⟩)⟩
 have hrawl:raw.length≤30:=by
  have h:smB raw 30=true:=by simpa using h30
  unfold smB at h
  rw [Bool.and_eq_true] at h
  have:=of_decide_eq_true h.1
  omega
 have hrdl:rd.length≤40:=by
  have h:smR nm rd=true:=by simpa using hsm
  unfold smR at h
  rw [Bool.and_eq_true] at h
  have:=of_decide_eq_true h.2
  omega
 have hs:SrcI (List.take 2000 xs):=SrcI.take fx
 refine ⟨trivial,⟨hs,by decide⟩,fun m j q1=>⟨⟨⟨hs,q1.fj⟩,q1.fm,by decide,by decide⟩,fun os j q2=>⟨itm_gd q2 (by decide),?_⟩⟩⟩
 have hm:=q1.fm
 have hosl:=q2.fl
 have hib:=ibO_ok os (itm_gd q2 (by decide)).fg
 have hgl:(ibO os).length≤150:=(inV_ok hib.fv).1
 have hgp:=hib.fg.p
 have hgm:∀ i:Nat,i < (ibO os).length→ItV ((ibO os).getD i []):=fun i hi=>by
  rw [getD_lt hi]; exact q2.fr _ (ibO_mem2 os _ (List.getElem_mem hi))
 clear hib
 rw [List.nil_append]
 generalize ibO os=good at *
 refine cd1 ⟨rfl,by omega,by omega⟩ ⟨?_,?_⟩
 ·refine csx (fun hg=>?_) (fun _=>⟨(good,j),⟨hgp,hgl,q2.fj⟩,by (repeat' (first | exact trivial | exact rfl | assumption | apply And.intro))⟩)
  refine ⟨⟨hs,q2.fj⟩,fun v j q3=>⟨⟨hs,q3.fj⟩,fun w j q4=>?_⟩⟩
  have hv:=q3.fv (by omega)
  obtain ⟨k1,nm1,t1,f1,a1,b1,c1,rd1,co1,ar1,h1,q5,_⟩:=(hgm v.toNat (by omega)).fr
  obtain ⟨k2,nm2,t2,f2,a2,b2,c2,rd2,co2,ar2,h2,q6,_⟩:=(hgm 0 (by omega)).fr
  have hr1:=rdv_rds q5.fr
  have hr2:=rdv_rds q6.fr
  have i2:IntsB [[.int .i64 (-1)],[.int .i64 52596000]]:=ints_of [-1,52596000] fun n hn=>by
   simp only [List.mem_cons,List.not_mem_nil,or_false] at hn
   show _∧_
   omega
  have fin:∀ (od:LLA) (j:Int),ItsP od→od.length=good.length→0≤j→An18 (od,j):=fun od j h1 h2 h3=>⟨h1,by simp only; omega,h3⟩
  refine csx (fun _=>cd1 (by omega) (cd1 ⟨rfl,by omega⟩ ⟨k2,nm2,t2,f2,a2,b2,c2,rd2,co2,ar2,by rw [h2]; rfl,cd1 (by omega) (cd1 ⟨rfl,by omega⟩ ⟨k1,nm1,t1,f1,a1,b1,c1,rd1,co1,ar1,by rw [h1]; rfl,cd1 (by omega) (cd1 ⟨rfl,by omega⟩ (cd1 (by omega) ?_))⟩)⟩)) (fun _=>csx (fun _=>⟨⟨⟨hs,q4.fj⟩,by decide,by decide,by decide⟩,fun x j q7=>cd1 (by omega) (cd1 ⟨rfl,by omega⟩ ?_)⟩) (fun _=>csx (fun _=>⟨⟨⟨hs,q4.fj⟩,⟨rfl,by decide,by decide⟩,i2⟩,fun x j q7=>cd1 (by omega) (cd1 ⟨rfl,by omega⟩ ?_)⟩) (fun _=>cd1 (by omega) (cd1 ⟨rfl,by omega⟩ ⟨k1,nm1,t1,f1,a1,b1,c1,rd1,by rw [h1]; rfl,⟨⟨hs,q4.fj⟩,rep_bnt q5⟩,fun k3 nm3 t3 f3 a3 b3 c3 rd3 j q7=>cd1 (by omega) (cd1 ⟨rfl,by omega⟩ ?_)⟩))))
  ·rw [set0 h1]
   have hl1:(good.set v.toNat (itA k2 nm2 t2 f2 a2 b2 c2 rd2 co2 ar2)).length=good.length:=List.length_set
   have hp1:ItsP (good.set v.toNat (itA k2 nm2 t2 f2 a2 b2 c2 rd2 co2 ar2)):=its_set hgp hr2
   obtain ⟨k4,nm4,t4,f4,a4,b4,c4,rd4,co4,ar4,h4,_⟩:=hp1.fr 0 (by omega)
   rw [set0 h4]
   refine cd1 ⟨hl1.symm,by omega⟩ ⟨((good.set v.toNat (itA k2 nm2 t2 f2 a2 b2 c2 rd2 co2 ar2)).set 0 (itA k1 nm1 t1 f1 a1 b1 c1 rd1 co1 ar1),j),fin _ _ (its_set hp1 hr1) (by rw [List.length_set,hl1]) q4.fj,?_⟩
   have:good.length=((good.set v.toNat (itA k2 nm2 t2 f2 a2 b2 c2 rd2 co2 ar2)).set 0 (itA k1 nm1 t1 f1 a1 b1 c1 rd1 co1 ar1)).length:=by rw [List.length_set,hl1]
   (repeat' (first | exact trivial | exact rfl | assumption | apply And.intro))
  ·rw [set8 h1]
   have:good.length=(good.set v.toNat (itA k1 nm1 t1 f1 a1 b1 c1 rd1 x ar1)).length:=List.length_set.symm
   exact ⟨(good.set v.toNat (itA k1 nm1 t1 f1 a1 b1 c1 rd1 x ar1),j),fin _ _ (its_set hgp hr1) this.symm q7.2,by (repeat' (first | exact trivial | exact rfl | assumption | apply And.intro))⟩
  ·rw [set9 h1]
   have:good.length=(good.set v.toNat (itA k1 nm1 t1 f1 a1 b1 c1 rd1 co1 x)).length:=List.length_set.symm
   exact ⟨(good.set v.toNat (itA k1 nm1 t1 f1 a1 b1 c1 rd1 co1 x),j),fin _ _ (its_set hgp hr1) this.symm q7.fj,by (repeat' (first | exact trivial | exact rfl | assumption | apply And.intro))⟩
  ·rw [set7 h1]
   have:good.length=(good.set v.toNat (itA k3 nm3 t3 f3 a3 b3 c3 rd3 co1 ar1)).length:=List.length_set.symm
   exact ⟨(good.set v.toNat (itA k3 nm3 t3 f3 a3 b3 c3 rd3 co1 ar1),j),fin _ _ (its_set hgp q7.fr) this.symm q7.fj,by (repeat' (first | exact trivial | exact rfl | assumption | apply And.intro))⟩
 ·rintro ⟨od,j⟩ ⟨fo,fl,fj⟩
  simp only at fo fl fj
  dsimp only
  refine cd1 rfl ⟨⟨(0,j,[[.sl 10 false raw],[.sl 10 false good],[.sl 10 false od]]),⟨by simp only; omega,fj,rfl⟩,by (repeat' (first | exact trivial | exact rfl | assumption | apply And.intro))⟩,?_⟩
  rintro ⟨i,j,L⟩ ⟨⟨i0,i1⟩,j0,lL⟩
  simp only at i0 i1 j0 lL
  dsimp only
  have hLl:L.length=3:=by rw [lL]; rfl
  refine csx (fun hi=>cd1 (by omega) (cd1 ⟨hLl.symm,by omega⟩ ?_)) (fun _=>⟨trivial,rfl⟩)
  obtain ⟨bx,hb1,hb2,hb3⟩:∃ bx:LLA,L.getD i.toNat []=[.sl 10 false bx]∧ItsP bx∧bx.length≤150:=by
   have hi3:i=0∨i=1∨i=2:=by omega
   rw [lL]
   rcases hi3 with e | e | e
   ·subst e; exact ⟨raw,rfl,fr0,by omega⟩
   ·subst e; exact ⟨good,rfl,hgp,hgl⟩
   ·subst e; exact ⟨od,rfl,fo,fl⟩
  have hgd:inV bx=0→GdL bx:=fun h=>OkL.gd ⟨hb2,h⟩
  have hmg:=mrO_mg hb2
  refine ⟨bx,by rw [hb1]; rfl,hb2,hb2,csx (fun w=>absurd rfl w) (fun _=>⟨⟨⟨hs,j0⟩,hm,by decide,by decide⟩,fun os1 j1 p1=>?_⟩)⟩
  have hl1:=p1.fl
  have hDT:(List.drop 0 (List.take (min 1 (os.length:Int)).toNat os)).length≤1:=by rw [List.drop_zero,List.length_take]; omega
  have hDm:∀ r ∈ List.drop 0 (List.take (min 1 (os.length:Int)).toNat os),ItV r:=fun r hr=>by rw [List.drop_zero] at hr; exact q2.fr r (List.mem_of_mem_take hr)
  refine cd1 ⟨rfl,by rw [List.length_singleton]; omega,by rw [List.length_singleton]; omega⟩ (cd1 (by omega) (cd1 (by omega) (cd1 ⟨rfl,by rw [List.length_append,List.length_singleton]; omega,by rw [List.length_append,List.length_singleton]; omega⟩ ?_)))
  have hYg:∀ r ∈ [[AV.int .i64 k,.str nm,.int .i64 t,.int .i64 f,.int .i64 a,.int .i64 b,.int .i64 c,.sl 2 false rd,.int .i64 co,.int .i64 ar]]++os1++List.drop 0 (List.take (min 1 (os.length:Int)).toNat os),ItG r:=fun r hr=>by
   rcases List.mem_append.1 hr with h | h
   ·rcases List.mem_append.1 h with h | h
    ·rw [List.mem_singleton.1 h]
     exact ⟨k,nm,t,f,a,b,c,rd,co,ar,rfl,fd,by omega⟩
    ·exact itv_g2 (p1.fr r h)
   ·exact itv_g2 (hDm r h)
  have hYl:([[AV.int .i64 k,.str nm,.int .i64 t,.int .i64 f,.int .i64 a,.int .i64 b,.int .i64 c,.sl 2 false rd,.int .i64 co,.int .i64 ar]]++os1++List.drop 0 (List.take (min 1 (os.length:Int)).toNat os)).length≤100:=by
   rw [List.length_append,List.length_append,List.length_singleton]; omega
  generalize [[AV.int .i64 k,.str nm,.int .i64 t,.int .i64 f,.int .i64 a,.int .i64 b,.int .i64 c,.sl 2 false rd,.int .i64 co,.int .i64 ar]]++os1++List.drop 0 (List.take (min 1 (os.length:Int)).toNat os)=Y at *
  refine ⟨⟨(0,Y),⟨by simp only; omega,rfl⟩,by (repeat' (first | exact trivial | exact rfl | assumption | apply And.intro))⟩,?_⟩
  rintro ⟨u,Y2⟩ ⟨⟨u0,u1⟩,hy⟩
  simp only at u0 u1 hy
  subst hy
  dsimp only
  refine csx (fun hu=>cd1 (by omega) (cd1 ⟨rfl,by omega⟩ ?_)) (fun hu=>?_)
  ·have hgx:=hYg (Y2.getD u.toNat []) (by rw [getD_lt (by omega)]; exact List.getElem_mem _)
   obtain ⟨k2,nm2,t2,f2,a2,b2,c2,rd2,co2,ar2,h2,hr2,hl2⟩:=hgx.fr
   have hia:ItsP (adO bx (itA k2 nm2 t2 f2 a2 b2 c2 rd2 co2 ar2)):=adO_p hgd (by rw [← h2]; exact hgx)
   have had:AdP bx rd2:=⟨hb2,hgd,hr2,hl2⟩
   exact ⟨k2,nm2,t2,f2,a2,b2,c2,rd2,co2,ar2,by rw [h2]; rfl,had,had,csx (fun w=>absurd rfl w) (fun _=>⟨⟨hia,hia⟩,csplit (fun w=>by rw [smI_rfl] at w; cases w) (fun _=>cdI (by omega) ⟨(u+1,Y2),⟨by simp only; omega,rfl⟩,by simp only [an25]; omega,by (repeat' (first | exact trivial | exact rfl | assumption | apply And.intro))⟩)⟩)⟩
  ·refine ⟨⟨⟨hs,p1.fj⟩,hm.1,hm.2⟩,fun k3 nm3 t3 f3 a3 b3 c3 rd3 j p2=>⟨⟨⟨hs,p2.fj⟩,by decide,by decide,by decide⟩,fun x j p3=>?_⟩⟩
   have hrp:RpL [[.int .i64 k3,.str nm3,.int .i64 t3,.int .i64 f3,.int .i64 a3,.int .i64 b3,.int .i64 c3,.sl 2 false rd3],[.int .i64 k,.str nm,.int .i64 t,.int .i64 f,.int .i64 a,.int .i64 b,.int .i64 c,.sl 2 false rd]]:=⟨fun z hz=>by
    have hz2:z=0∨z=1:=by simp at hz; omega
    rcases hz2 with e | e
    ·subst e; exact ⟨k3,nm3,t3,f3,a3,b3,c3,rd3,rfl,rdv_rds p2.fr,by have:=p2.fr.flen; omega⟩
    ·subst e; exact ⟨k,nm,t,f,a,b,c,rd,rfl,fd,by omega⟩,by simp⟩
   have hr0:RpL []:=⟨fun z hz=>by simp at hz,by simp⟩
   have hi0:=tkO_p0 hb2
   refine ⟨⟨hb2,hgd,hrp⟩,⟨hb2,by omega,hgd,hr0⟩,⟨hb2,hgd,hr0⟩,csx (fun w=>absurd rfl w) (fun _=>csx (fun w=>absurd rfl w) (fun _=>⟨⟨hi0,hi0⟩,csplit (fun w=>by rw [smI_rfl] at w; cases w) (fun _=>csx (fun he=>?_) (fun _=>?_))⟩))⟩
   ·obtain ⟨e1,e2⟩:=tk_err he
    rw [e1,e2]
    refine csx (fun w=>absurd rfl w) (fun _=>csx (fun w=>absurd rfl w) (fun _=>?_))
    refine ⟨⟨⟨hs,p3.2⟩,hm.1,hm.2⟩,fun fr1 to1 cut1 j p4=>⟨⟨0,⟨by decide,by decide⟩,by (repeat' (first | exact trivial | exact rfl | assumption | apply And.intro))⟩,?_⟩⟩
    rintro z ⟨z0,z1⟩
    refine csx (fun hz=>cd1 (by omega) (cd1 ⟨rfl,by simp only [List.length_cons,List.length_nil]; omega⟩ ?_)) (fun hz=>cdI (by omega) ⟨(i+1,j,L),⟨by simp only; omega,p4.fj,lL⟩,by simp only [an19]; omega,by (repeat' (first | exact trivial | exact rfl | assumption | apply And.intro))⟩)
    obtain ⟨w1,w2,w3,hw⟩:∃ w1 w2 w3:Int,List.getD [[AV.int .i64 fr,.int .i64 to,.int .i64 cut],[.int .i64 fr1,.int .i64 to1,.int .i64 cut1]] z.toNat []=[.int .i64 w1,.int .i64 w2,.int .i64 w3]:=by
     have hz2:z=0∨z=1:=by omega
     rcases hz2 with e | e <;> subst e <;> exact ⟨_,_,_,rfl⟩
    exact ⟨w1,w2,w3,by rw [hw]; rfl,hb2,hb2,csx (fun w=>absurd rfl w) (fun _=>⟨⟨hmg _ _ _,rfl⟩,cdI (by omega) ⟨z+1,⟨by omega,by omega⟩,by simp only [an38]; omega,by (repeat' (first | exact trivial | exact rfl | assumption | apply And.intro))⟩⟩)⟩
   ·refine ⟨⟨⟨hs,p3.2⟩,hm.1,hm.2⟩,fun fr1 to1 cut1 j p4=>⟨⟨0,⟨by decide,by decide⟩,by (repeat' (first | exact trivial | exact rfl | assumption | apply And.intro))⟩,?_⟩⟩
    rintro z ⟨z0,z1⟩
    refine csx (fun hz=>cd1 (by omega) (cd1 ⟨rfl,by simp only [List.length_cons,List.length_nil]; omega⟩ ?_)) (fun hz=>cdI (by omega) ⟨(i+1,j,L),⟨by simp only; omega,p4.fj,lL⟩,by simp only [an19]; omega,by (repeat' (first | exact trivial | exact rfl | assumption | apply And.intro))⟩)
    obtain ⟨w1,w2,w3,hw⟩:∃ w1 w2 w3:Int,List.getD [[AV.int .i64 fr,.int .i64 to,.int .i64 cut],[.int .i64 fr1,.int .i64 to1,.int .i64 cut1]] z.toNat []=[.int .i64 w1,.int .i64 w2,.int .i64 w3]:=by
     have hz2:z=0∨z=1:=by omega
     rcases hz2 with e | e <;> subst e <;> exact ⟨_,_,_,rfl⟩
    exact ⟨w1,w2,w3,by rw [hw]; rfl,hb2,hb2,csx (fun w=>absurd rfl w) (fun _=>⟨⟨hmg _ _ _,rfl⟩,cdI (by omega) ⟨z+1,⟨by omega,by omega⟩,by simp only [an38]; omega,by (repeat' (first | exact trivial | exact rfl | assumption | apply And.intro))⟩⟩)⟩
def lanswers_S (mrE:LLA→Int→Int→Int) (mrO:LLA→Int→Int→Int→LLA) (ibO:LLA→LLA) (adE:LLA→List AV→Int) (adO:LLA→List AV→LLA) (smI:LLA→LLA→Bool) (inV:LLA→Int) (smB:LLA→Int→Bool) (smR:ByteArray→LLA→Bool) (tkE:LLA→LLA→Int→Int→Int) (tkN:LLA→LLA→Int→Int→Int) (tkO:LLA→LLA→Int→Int→LLA) (itC:List AV→List AV→Int) (itE:Int→ByteArray→Int→Int→Int→Int→Int→LLA→Int→Int→Int) (puE:LLA→List AV→Int) (puN:LLA→List AV→Int) (addI:LLA→List AV→LLA) (posI:LLA→List AV→Nat) (suC:Int→ByteArray→Int→Int→ByteArray→Int→Int) (ouL:LLA→LLA→LLA) (rdC:LLA→LLA→Int) (cmpI:Int→Int→Int) (cmpS:ByteArray→ByteArray→Int) (ctR:LLA→Int→ByteArray→Int→Int→LLA) (aw1:LLA):Prop:=∀ (raw:List (List AV)) (k t f a b c co ar fr to cut:Int) (nm:ByteArray) (rd:List (List AV)) (xs:List (List AV)),AnP raw rd xs→fnK Tryz.prog { glob:=glb,spec:=lk [(4,(dsitems_s smR smB)),(5,dsmall_s),(10,(qinbox_s ibO adE adO)),(15,(ivalid_s inV itC itE)),(16,(ivalidR_s inV itC itE)),(17,(iadd_s inV puE puN addI adE adO)),(18,(radd_s posI inV itC itE adE adO)),(19,(isame_s itC smI)),(20,(orSp (itake_s inV puE puN addI tkE tkN tkO) (itakeZ_s inV puE puN addI tkE tkN tkO))),(22,(rtake_s inV adE adO tkE tkN tkO)),(24,(imerge_s inV suC ouL mrE mrO)),(25,(rmerge_s inV rdC cmpI cmpS mrE mrO ctR)),(26,(rsmm_s rdC cmpI cmpS)),(6,(iawake_s aw1 mrE mrO adE adO))],specH:=lk [(7,newsrc_s)],specQ:=lk [(8,qminute_s),(9,qitems_s),(11,qn_s),(12,qrange_s),(13,qpick_s),(14,qbent_s),(21,qreport_s),(23,qwindow_s)],shape:=[77,88,92,120,143,230],slz:=[(77,[2]),(88,[2]),(92,[2]),(120,[10]),(143,[2])],nowf:=true } { nt:=255,drop:=drp [(1,140187732541440),(2,281474976710656),(3,1688849860263936),(4,6755399441055744),(5,63050394783186944),(6,216172782113783808),(7,2017612633061982208),(8,6917529027641081856),(9,276701161105643274240),(10,295147905179352825856),(11,2416671047608540938108928),(12,4835703278458516698824704),(13,39604409850575251763374325760),(14,79228162514264337593543950336),(15,9982748476797306536786537742336),(16,20282409603651670423947251286016),(17,5151732039327524287682601826648064),(18,36346078009743793399713474304540672),(20,1993841993677373809355710590420516864),(21,39876839873547476187114211808410337280),(23,595494142111642311060905563005594370048),(24,347768578993199109659568848795267112108032),(26,16725558898897967356151788704486271129485312),(27,1404946947507429257916750251176846774876766208),(28,89916604640475472506672016075318193592113037312),(29,23292682344961265258871227021415760625766424903680),(31,46768052394588893382517914646921056628989841375232),(32,3064897545626988538929929018471324525124220264684453888),(33,389253867379935770023020144896178532639159737034634952704),(34,24716088083085055507603420853880186513403024562577135894528),(35,1684996641588508045619965387595569224271655861999364002212837588992),(37,50549900000907449615000653288161807513069645792263573402069269217280),(39,2588154880046461420288033448353884544669165864563894958185946583924736),(40,217405009923902759304194809661726301752209932623367176487619513049677824),(41,13913920635129776595468467818350483312141435687895499295207648835179380736),(42,3604368012147904032349926901515553772288067149626262674568076650636944343040),(44,7237005577332262213973186563042994240829374041602535252466099000494570602496),(45,14474011154664524427946373126085988481658748083205070504932198000989141204992),(46,28948022309329048855892746252171976963317496166410141009864396001978282409984)],frz:=fun id=>cond (Nat.beq id 18) [13] [] } (anJ) 6 Tryz.f3 [.sl 10 false raw,.agg [.int .i64 k,.str nm,.int .i64 t,.int .i64 f,.int .i64 a,.int .i64 b,.int .i64 c,.sl 2 false rd,.int .i64 co,.int .i64 ar],.agg [.int .i64 fr,.int .i64 to,.int .i64 cut],.sl 1 false xs] (.bool true)
theorem lanswers_e (mrE:LLA→Int→Int→Int) (mrO:LLA→Int→Int→Int→LLA) (ibO:LLA→LLA) (adE:LLA→List AV→Int) (adO:LLA→List AV→LLA) (smI:LLA→LLA→Bool) (inV:LLA→Int) (smB:LLA→Int→Bool) (smR:ByteArray→LLA→Bool) (tkE:LLA→LLA→Int→Int→Int) (tkN:LLA→LLA→Int→Int→Int) (tkO:LLA→LLA→Int→Int→LLA) (itC:List AV→List AV→Int) (itE:Int→ByteArray→Int→Int→Int→Int→Int→LLA→Int→Int→Int) (puE:LLA→List AV→Int) (puN:LLA→List AV→Int) (addI:LLA→List AV→LLA) (posI:LLA→List AV→Nat) (suC:Int→ByteArray→Int→Int→ByteArray→Int→Int) (ouL:LLA→LLA→LLA) (rdC:LLA→LLA→Int) (cmpI:Int→Int→Int) (cmpS:ByteArray→ByteArray→Int) (ctR:LLA→Int→ByteArray→Int→Int→LLA) (aw1:LLA):lanswers_T mrE mrO ibO adE adO smI inV smB smR tkE tkN tkO itC itE puE puN addI posI suC ouL rdC cmpI cmpS ctR aw1=lanswers_S mrE mrO ibO adE adO smI inV smB smR tkE tkN tkO itC itE puE puN addI posI suC ouL rdC cmpI cmpS ctR aw1:=by kernel_rfl
theorem lanswers_v:lanswers_S mrE mrO ibO adE adO smI inV smB smR tkE tkN tkO itC itE puE puN addI posI suC ouL rdC cmpI cmpS ctR aw1:=Eq.mp (lanswers_e ..) (lanswers_P)
theorem lanswers_ok:SOK Tryz.prog glb 3 (lanswers_s mrE mrO ibO adE adO smI inV smB smR tkE tkN tkO):=by
 refine ⟨fok Tryz.func3 (by kernel_rfl) (by kernel_rfl),?_⟩
 intro xs pre r h hp
 unfold lanswers_s at h
 split at h
 ·simp only [Option.some.injEq,Prod.mk.injEq] at h
  obtain ⟨h1,h2⟩:=h
  subst h1 h2
  exact fnK_sound tyNil (by exact specOK rfl rfl ⟨(dsitems_ok glb),(dsmall_ok glb),(qinbox_ok glb),(ivalid_ok),(ivalidR_ok glb),(iadd_ok),(radd_ok glb),(isame_ok glb),(SOK.or (itake_ok) (itakeZ_ok)),(rtake_ok glb),(imerge_ok),(rmerge_ok glb),(rsmm_ok glb),(iawake_ok),trivial⟩ ⟨(newsrc_ok glb),trivial⟩ (d:=qsOf rfl ⟨(qminute_ok glb),(qitems_ok glb),(qn_ok glb),(qrange_ok glb),(qpick_ok glb),(qbent_ok glb),(qreport_ok glb),(qwindow_ok glb),trivial⟩)) (by kernel_rfl) Tryz.func3 rfl (lanswers_v  _ _ _ _ _ _ _ _ _ _ _ _ _ _ _ hp)
 ·cases h
end Go.Proofs.YtgnnafneglannaaGreatDoor
namespace Go.Proofs.YtgnnafneglannaaGreatDoor
open Go
set_option linter.unusedVariables false
set_option linter.unusedSimpArgs false
theorem rds_of {xs:List (List AV)} (hl:xs.length≤9223372036854775807) (h:∀ x ∈ xs,∃ ys2 zs2,(∃ z3,rng .i64 z3∧ys2=[.int .i64 z3])∧(∃ ys4 zs4,(∃ z5,rng .i64 z5∧ys4=[.int .i64 z5])∧(zs4=[])∧zs2=ys4++zs4)∧x=ys2++zs2):RdsP xs:=⟨fun i hi=>by
 have:=h _ (List.getElem_mem hi)
 rw [← getD_lt hi] at this
 generalize xs.getD i []=y at this
 obtain ⟨_,_,⟨a_0,h_0,rfl⟩,⟨_,_,⟨a_1,h_1,rfl⟩,rfl,rfl⟩,rfl⟩:=this
 exact ⟨_,_,rfl,h_0,h_1⟩,hl⟩
theorem its_of {xs:List (List AV)} (hl:xs.length≤9223372036854775807) (h:∀ x ∈ xs,∃ ys2 zs2,(∃ ys4 zs4,(∃ z5,rng .i64 z5∧ys4=[.int .i64 z5])∧(∃ ys6 zs6,(∃ s7:ByteArray,s7.size≤9223372036854775807∧ys6=[.str s7])∧(∃ ys8 zs8,(∃ z9,rng .i64 z9∧ys8=[.int .i64 z9])∧(∃ ys10 zs10,(∃ ys12 zs12,(∃ z13,rng .i64 z13∧ys12=[.int .i64 z13])∧(∃ ys14 zs14,(∃ z15,rng .i64 z15∧ys14=[.int .i64 z15])∧(∃ ys16 zs16,(∃ z17,rng .i64 z17∧ys16=[.int .i64 z17])∧(∃ ys18 zs18,(∃ z19,rng .i64 z19∧ys18=[.int .i64 z19])∧(zs18=[])∧zs16=ys18++zs18)∧zs14=ys16++zs16)∧zs12=ys14++zs14)∧ys10=ys12++zs12)∧(∃ ys21 zs21,(∃ xs22:List (List AV),xs22.length≤9223372036854775807∧(∀ x22 ∈ xs22,∃ ys24 zs24,(∃ z25,rng .i64 z25∧ys24=[.int .i64 z25])∧(∃ ys26 zs26,(∃ z27,rng .i64 z27∧ys26=[.int .i64 z27])∧(zs26=[])∧zs24=ys26++zs26)∧x22=ys24++zs24)∧ys21=[.sl 2 false xs22])∧(zs21=[])∧zs10=ys21++zs21)∧zs8=ys10++zs10)∧zs6=ys8++zs8)∧zs4=ys6++zs6)∧ys2=ys4++zs4)∧(∃ ys30 zs30,(∃ z31,rng .i64 z31∧ys30=[.int .i64 z31])∧(∃ ys32 zs32,(∃ z33,rng .i64 z33∧ys32=[.int .i64 z33])∧(zs32=[])∧zs30=ys32++zs32)∧zs2=ys30++zs30)∧x=ys2++zs2):ItsP xs:=⟨fun i hi=>by
 have:=h _ (List.getElem_mem hi)
 rw [← getD_lt hi] at this
 generalize xs.getD i []=y at this
 obtain ⟨_,_,⟨_,_,⟨a_0_0,h_0_0,rfl⟩,⟨_,_,⟨a_0_1,h_0_1,rfl⟩,⟨_,_,⟨a_0_2,h_0_2,rfl⟩,⟨_,_,⟨_,_,⟨a_0_3_0,h_0_3_0,rfl⟩,⟨_,_,⟨a_0_3_1,h_0_3_1,rfl⟩,⟨_,_,⟨a_0_3_2,h_0_3_2,rfl⟩,⟨_,_,⟨a_0_3_3,h_0_3_3,rfl⟩,rfl,rfl⟩,rfl⟩,rfl⟩,rfl⟩,⟨_,_,⟨a_0_4,h_0_4L,h_0_4,rfl⟩,rfl,rfl⟩,rfl⟩,rfl⟩,rfl⟩,rfl⟩,⟨_,_,⟨a_1,h_1,rfl⟩,⟨_,_,⟨a_2,h_2,rfl⟩,rfl,rfl⟩,rfl⟩,rfl⟩:=this
 exact ⟨_,_,_,_,_,_,_,_,_,_,rfl,rds_of h_0_4L h_0_4⟩,hl⟩
end Go.Proofs.YtgnnafneglannaaGreatDoor
namespace Go.Proofs.YtgnnafneglannaaGreatDoor
open Go
open Go.ChangeShapes Go.WideShapes
open Go.RowKit (Below)
set_option linter.unusedVariables false
set_option linter.unusedSimpArgs false
def pinAll (w:World):Pin:=fun b o=>match w.cell? ⟨b,o,none⟩ with | some v=>cond v.oneCell' (some v) none | none=>none
theorem pinAll_some {w:World} {b o:Nat} {v:Value} (h:w.cell? ⟨b,o,none⟩=some v) (k:v.oneCell'=true):pinAll w b o=some v:=by simp [pinAll,h,k]
theorem agree_all (w:World):Agree (pinAll w) w:=by
 intro b o v h
 unfold pinAll at h
 split at h
 ·next u e =>
  cases hk:u.oneCell' with
  | true=>rw [hk] at h; simp only [cond_true,Option.some.injEq] at h; subst h; exact ⟨e,hk⟩
  | false=>rw [hk] at h; cases h
 ·cases h
def tiles (P:Program):List Field→Nat→Nat→Bool
 | [],o,n=>Nat.beq o n
 | f::fs,o,n=>Nat.beq f.offset o&&tiles P fs (o+P.cellsOf f.type) n
def supp (P:Program):Nat→TypeId→Bool
 | 0,_=>false
 | n+1,t=>match P.underlying t with
  | some .bool=>true
  | some (.int _)=>true
  | some .string=>true
  | some (.slice e)=>Nat.blt 0 (P.cellsOf e)&&supp P n e
  | some (.struct fs)=>tiles P fs.toList 0 (P.cellsOf t)&&fs.toList.all fun f=>supp P n f.type
  | some (.array m e)=>Nat.beq (m*P.cellsOf e) (P.cellsOf t)&&supp P n e
  | _=>false
def ShF (P:Program) (sh:TypeId→List AV→Prop):List Field→List AV→Prop
 | [],cs=>cs=[]
 | f::fs,cs=>∃ ys zs,sh f.type ys∧ShF P sh fs zs∧cs=ys++zs
def ShE (sh:List AV→Prop):Nat→List AV→Prop
 | 0,cs=>cs=[]
 | n+1,cs=>∃ ys zs,sh ys∧ShE sh n zs∧cs=ys++zs
def Sh (P:Program):Nat→TypeId→List AV→Prop
 | 0,_,_=>False
 | n+1,t,cs=>match P.underlying t with
  | some .bool=>∃ b,cs=[.bool b]
  | some (.int k)=>∃ z,rng k z∧cs=[.int k z]
  | some .string=>∃ s:ByteArray,s.size≤9223372036854775807∧cs=[.str s]
  | some (.slice e)=>∃ xs:List (List AV),xs.length≤9223372036854775807∧(∀ x ∈ xs,Sh P n e x)∧cs=[.sl (P.cellsOf e) false xs]
  | some (.struct fs)=>ShF P (Sh P n) fs.toList cs
  | some (.array m e)=>ShE (Sh P n e) m cs
  | _=>False
theorem shF_of {P:Program} {S:Pin} {sh:TypeId→List AV→Prop} {vs:List Value}:∀ (fs:List Field) (o tot:Nat),tiles P fs o tot=true→vs.length=tot →
  (∀ f ∈ fs,∃ ys,sh f.type ys∧allOne ys=true∧CVl S ys noNm ((vs.drop f.offset).take (P.cellsOf f.type)))→∃ cs,ShF P sh fs cs∧allOne cs=true∧CVl S cs noNm (vs.drop o)
 | [],o,tot,ht,hl,_=>by
  simp only [tiles] at ht
  have:=Nat.eq_of_beq_eq_true ht
  exact ⟨[],rfl,rfl,by simp only [CVl]; exact List.drop_eq_nil_of_le (by omega)⟩
 | f::fs,o,tot,ht,hl,h=>by
  simp only [tiles,Bool.and_eq_true] at ht
  obtain ⟨ho,ht⟩:=ht
  have ho:=Nat.eq_of_beq_eq_true ho
  obtain ⟨ys,h1,h2,h3⟩:=h f (List.mem_cons_self ..)
  obtain ⟨zs,k1,k2,k3⟩:=shF_of fs _ tot ht hl (fun g hg=>h g (List.mem_cons_of_mem _ hg))
  refine ⟨ys++zs,⟨ys,zs,h1,k1,rfl⟩,allOne_append h2 k2,?_⟩
  rw [ho] at h3
  have e:vs.drop o=(vs.drop o).take (P.cellsOf f.type)++vs.drop (o+P.cellsOf f.type):=by
   rw [← List.drop_drop]; exact (List.take_append_drop _ _).symm
  rw [e]
  exact CVl.append h3 k3
where allOne_append:∀ {xs ys:List AV},allOne xs=true→allOne ys=true→allOne (xs++ys)=true
 | [],ys,_,h=>h
 | x::xs,ys,h,k=>by
  simp only [allOne,Bool.and_eq_true,List.cons_append] at h ⊢
  exact ⟨h.1,allOne_append h.2 k⟩
theorem shE_of {S:Pin} {sh:List AV→Prop} {s:Nat}:∀ (n:Nat) (vs:List Value),vs.length=n*s→(∀ i,i < n→∃ ys,sh ys∧allOne ys=true∧CVl S ys noNm ((vs.drop (i*s)).take s)) →
  ∃ cs,ShE sh n cs∧allOne cs=true∧CVl S cs noNm vs
 | 0,vs,hl,_=>⟨[],rfl,rfl,by simp only [CVl]; exact List.eq_nil_of_length_eq_zero (by omega)⟩
 | n+1,vs,hl,h=>by
  obtain ⟨ys,h1,h2,h3⟩:=h 0 (by omega)
  have hl':vs.length=n*s+s:=by rw [hl,Nat.succ_mul]
  obtain ⟨zs,k1,k2,k3⟩:=shE_of n (vs.drop s) (by rw [List.length_drop,hl',Nat.add_sub_cancel]) (fun i hi=>by
   obtain ⟨q,q1,q2,q3⟩:=h (i+1) (by omega)
   refine ⟨q,q1,q2,?_⟩
   rw [List.drop_drop,show s+i*s=(i+1)*s by rw [Nat.succ_mul]; omega]
   exact q3)
  refine ⟨ys++zs,⟨ys,zs,h1,k1,rfl⟩,shF_of.allOne_append h2 k2,?_⟩
  rw [Nat.zero_mul,List.drop_zero] at h3
  have e:vs=vs.take s++vs.drop s:=(List.take_append_drop _ _).symm
  rw [e]
  exact CVl.append h3 k3
theorem list_of {α:Type} {p:Nat→α→Prop}:∀ (n:Nat),(∀ i,i < n→∃ x,p i x)→∃ xs:List α,xs.length=n∧∀ i x,xs[i]?=some x→p i x
 | 0,_=>⟨[],rfl,by simp⟩
 | n+1,h=>by
  obtain ⟨xs,h1,h2⟩:=list_of n (fun i hi=>h i (by omega))
  obtain ⟨x,hx⟩:=h n (by omega)
  refine ⟨xs++[x],by simp [h1],fun i y hy=>?_⟩
  rcases Nat.lt_or_ge i xs.length with hi | hi
  ·rw [List.getElem?_append_left hi] at hy; exact h2 i y hy
  ·rw [List.getElem?_append_right hi] at hy
   rcases Nat.eq_zero_or_pos (i - xs.length) with h0 | h0
   ·rw [h0] at hy
    simp only [List.getElem?_cons_zero,Option.some.injEq] at hy
    rw [← hy,show i=n by omega]; exact hx
   ·rw [List.getElem?_eq_none (by simp; omega)] at hy; cases hy
section
variable {H:Type} {enc:TypeId × Value→H} {P:Program} {w:World} {base:Nat} {held:Bool}
theorem rng_wf {k:IntKind} {z:Int} (h:(Lit.int k z).wf=true):rng k z:=by
 rw [rng_iff]
 simp only [Lit.wf,Bool.and_eq_true,decide_eq_true_eq] at h
 exact h
theorem in_of_trod:∀ (n:Nat) (t:TypeId) (fuel:Nat) (vs:List Value) (x:DataW H × List MemPlace),supp P n t=true→DataW.trod enc P w base (fun _=>true) held fuel t vs=some x →
  ∃ cs,Sh P n t cs∧allOne cs=true∧CVl (pinAll w) cs noNm vs
 | 0,t,_,_,_,hs,_=>by simp [supp] at hs
 | n+1,t,fuel,vs,x,hs,h=>by
  unfold supp at hs
  unfold Sh
  split at hs
  ·next ht =>
   obtain ⟨b,rfl,_⟩:=DataW.trod_bool ht h
   exact ⟨[.bool b],⟨b,rfl⟩,rfl,_,_,rfl,rfl,rfl⟩
  ·next k ht =>
   obtain ⟨z,rfl,_,hw⟩:=DataW.trod_int ht h
   exact ⟨[.int k z],⟨z,rng_wf hw,rfl⟩,rfl,_,_,rfl,⟨rfl,rng_wf hw⟩,rfl⟩
  ·next ht =>
   obtain ⟨s,rfl,_,hw⟩:=DataW.trod_string ht h
   exact ⟨[.str s],⟨s,hw,rfl⟩,rfl,_,_,rfl,⟨rfl,hw⟩,rfl⟩
  ·next e ht =>
   simp only [Bool.and_eq_true] at hs
   have hs0:0 < P.cellsOf e:=by have:=hs.1; simp [Nat.blt] at this; omega
   rcases DataW.trod_slice ht h with ⟨rfl,_⟩ | ⟨a,len,cap,elems,rest,m,_,rfl,_,hb,hl,hc,hlen,hel,hsp,hns⟩
   ·refine ⟨[.sl (P.cellsOf e) false []],⟨[],by simp,by simp,rfl⟩,rfl,_,_,rfl,⟨none,0,rfl,by simp,by simp,(fun h=>by cases h),(fun _=>rfl),(fun a ha=>by cases ha)⟩,rfl⟩
   ·have each:∀ i,i < len→∃ x,(Sh P n e x)∧∃ cs',w.cells? base (a.add (i*P.cellsOf e)) (P.cellsOf e)=some cs'∧allOne x=true∧CVl (pinAll w) x noNm cs':=by
     intro i hi
     have h1:=hel i hi
     have hx:elems[i]?=some (elems[i]'(by omega)):=List.getElem?_eq_getElem (by omega)
     rw [hx,Option.bind_eq_some_iff] at h1
     obtain ⟨cs',h2,h3⟩:=h1
     obtain ⟨y,k1,k2,k3⟩:=in_of_trod n e m cs' _ hs.2 h3
     exact ⟨y,k1,cs',h2,k2,k3⟩
    obtain ⟨xs,hx1,hx2⟩:=list_of len each
    have hmem:∀ x ∈ xs,Sh P n e x:=by
     intro x hx
     obtain ⟨i,hi⟩:=List.getElem?_of_mem hx
     exact (hx2 i x hi).1
    refine ⟨[.sl (P.cellsOf e) false xs],⟨xs,by unfold maxLen at hc; omega,hmem,rfl⟩,rfl,_,_,rfl,⟨some a,cap,by rw [hx1],by omega,hc,(fun h=>by cases h),(fun h=>by cases h),fun a' ha=>?_⟩,rfl⟩
    cases ha
    have key:∀ (j:Nat) (x:List AV),xs[j]?=some x→∃ cs':List Value,cs'.length=P.cellsOf e∧CVl (pinAll w) x noNm cs'∧allOne x=true∧∀ i,i < P.cellsOf e→w.cell? ((a.add (j*P.cellsOf e)).add i)=cs'[i]?:=by
     intro j x hj
     obtain ⟨_,cs',h2,h3,h4⟩:=hx2 j x hj
     obtain ⟨_,q1,q2⟩:=World.cells?_some h2
     exact ⟨cs',q1,h4,h3,q2⟩
    have spot:cap≠0→a.spot=none:=by
     intro h0
     have h1:∃ cs',w.cells? base (a.add (0*P.cellsOf e)) (P.cellsOf e)=some cs':=by
      rcases Nat.eq_zero_or_pos len with hl0 | hl0
      ·obtain ⟨hr,hr2⟩:=hsp rfl
       have h1:=hr2 0 (by omega)
       have hx:rest[0]?=some (rest[0]'(by omega)):=List.getElem?_eq_getElem (by omega)
       rw [hx,Option.bind_eq_some_iff] at h1
       obtain ⟨cs',h2,_⟩:=h1
       exact ⟨cs',by rw [← h2,hl0]⟩
      ·have h1:=hel 0 hl0
       have hx:elems[0]?=some (elems[0]'(by omega)):=List.getElem?_eq_getElem (by omega)
       rw [hx,Option.bind_eq_some_iff] at h1
       obtain ⟨cs',h2,_⟩:=h1
       exact ⟨cs',h2⟩
     obtain ⟨cs',h2⟩:=h1
     obtain ⟨_,q1,q2⟩:=World.cells?_some h2
     have h3:=q2 0 hs0
     rw [List.getElem?_eq_getElem (by omega)] at h3
     have h4:=World.cell?_spot h3
     simpa [Addr.add] using h4
    refine ⟨spot,CE.mk fun j x hj=>?_⟩
    obtain ⟨cs',k1,k2,k3,k4⟩:=key j x hj
    have hxl:x.length=P.cellsOf e:=by rw [← k1]; exact (CVl.len k2).symm
    refine ⟨hxl,CC.mk fun i y hy=>?_⟩
    obtain ⟨u,hu,hcv⟩:=CVl.get k2 hy
    have hi:i < P.cellsOf e:=by have:=(List.getElem?_eq_some_iff.1 hy).1; omega
    have hj':j < len:=by have:=(List.getElem?_eq_some_iff.1 hj).1; omega
    have hsp:=spot (by omega)
    obtain ⟨b,o,sp⟩:=a
    simp only at hsp
    subst hsp
    have h5:=k4 i hi
    rw [add_none,add_none,hu] at h5
    exact ⟨u,pinAll_some h5 (allOne_cv k2 k3 u (List.mem_of_getElem? hu)),hcv⟩
  ·next fs ht =>
   simp only [Bool.and_eq_true,List.all_eq_true] at hs
   obtain ⟨xs,m,_,_,hl,hxl,hf⟩:=DataW.trod_struct ht h
   obtain ⟨cs,k1,k2,k3⟩:=shF_of (S:=pinAll w) (sh:=Sh P n) (vs:=vs) fs.toList 0 _ hs.1 hl (fun f hfm=>by
    obtain ⟨i,hi⟩:=List.getElem?_of_mem hfm
    have h1:=hf i f (by simpa using hi)
    have hi':i < fs.size:=by have:=(List.getElem?_eq_some_iff.1 hi).1; simpa using this
    rw [List.getElem?_eq_getElem (by omega:i < xs.length)] at h1
    exact in_of_trod n f.type m _ _ (hs.2 f hfm) h1)
   exact ⟨cs,k1,k2,by simpa using k3⟩
  ·next m e ht =>
   simp only [Bool.and_eq_true] at hs
   obtain ⟨xs,q,_,_,hl,hxl,hf⟩:=DataW.trod_array ht h
   have hsz:=Nat.eq_of_beq_eq_true hs.1
   exact shE_of (S:=pinAll w) (sh:=Sh P n e) (s:=P.cellsOf e) m vs (by omega) (fun i hi=>by
    have h1:=hf i hi
    rw [List.getElem?_eq_getElem (by omega:i < xs.length)] at h1
    exact in_of_trod n e q _ _ hs.2 h1)
  ·cases hs
def mkA (P:Program) (t:TypeId) (cs:List AV):AV:=cond (isAg P t) (.agg cs) (match cs with | [x]=>x | _=>.dead)
def ShAll (P:Program):List TypeId→(List AV→Prop)→Prop
 | [],K=>K []
 | t::ts,K=>∀ cs,Sh P 50 t cs→ShAll P ts fun xs=>K (mkA P t cs::xs)
theorem in_one {r:Reach} {b0 n:Nat} {t:TypeId} {v:Value} {fuel:Nat} {x:DataW H × List MemPlace} (hs:supp P n t=true) (hv:Value.okWide P w r b0 t v) (h:DataW.trod enc P w base (fun _=>true) held fuel t v.cells.toList=some x) :
  ∃ cs,Sh P n t cs∧CV (pinAll w) (mkA P t cs) noNm v:=by
 obtain ⟨cs,h1,h2,h3⟩:=in_of_trod n t fuel _ x hs h
 refine ⟨cs,h1,?_⟩
 have one:isAg P t=false→v.cells=#[v]→CV (pinAll w) (mkA P t cs) noNm v:=by
  intro ha hc
  rw [hc] at h3
  unfold mkA
  rw [ha]
  match cs,h3 with
  | [y],h3 =>
   simp only [CVl] at h3
   obtain ⟨u,us,e,hy,hn⟩:=h3
   simp at e
   rw [e.1]; exact hy
  | [],h3=>simp [CVl] at h3
  | _::_::_,h3 =>
   simp [CVl] at h3
   obtain ⟨u,us,⟨_,e⟩,_,u',us',e',_⟩:=h3
   rw [e] at e'; cases e'
 have agg:isAg P t=true→∀ us,v=.agg us→CV (pinAll w) (mkA P t cs) noNm v:=by
  intro ha us e
  subst e
  unfold mkA
  rw [ha]
  exact ⟨us,rfl,h3⟩
 unfold Value.okWide at hv
 cases n with
 | zero=>simp [supp] at hs
 | succ n =>
  unfold supp at hs
  split at hs
  ·next ht =>
   rw [ht] at hv
   simp only [Cell.okWide,Cell.ok,ht] at hv
   refine one (by unfold isAg; rw [ht]) ?_
   split at hv <;> first | rfl | (split at hv <;> first | rfl | cases hv) | cases hv
  ·next k ht =>
   rw [ht] at hv
   simp only [Cell.okWide,Cell.ok,ht] at hv
   refine one (by unfold isAg; rw [ht]) ?_
   split at hv <;> first | rfl | (split at hv <;> first | rfl | cases hv) | cases hv
  ·next ht =>
   rw [ht] at hv
   simp only [Cell.okWide,Cell.ok,ht] at hv
   refine one (by unfold isAg; rw [ht]) ?_
   split at hv <;> first | rfl | (split at hv <;> first | rfl | cases hv) | cases hv
  ·next e ht =>
   rw [ht] at hv
   simp only [Cell.okWide,Cell.ok,ht] at hv
   refine one (by unfold isAg; rw [ht]) ?_
   split at hv <;> first | rfl | (split at hv <;> first | rfl | cases hv) | cases hv
  ·next fs ht =>
   rw [ht] at hv
   obtain ⟨us,e,_⟩:=hv
   exact agg (by unfold isAg; rw [ht]) us e
  ·next m e ht =>
   rw [ht] at hv
   obtain ⟨us,e,_⟩:=hv
   exact agg (by unfold isAg; rw [ht]) us e
  ·cases hs
theorem in_all {r:Reach} {b0:Nat}:∀ (ts:List TypeId) (vs:List Value) (ds:List (DataW H)) (ps:List MemPlace) (K:List AV→Prop),(ts.all fun t=>supp P 50 t)=true→DataW.TrodAll enc P w base (fun _=>true) held ts vs ds ps →
  (∀ (j:Nat) t v,ts[j]?=some t→vs[j]?=some v→Value.okWide P w r b0 t v)→ShAll P ts K→∃ xs,K xs∧CVl (pinAll w) xs noNm vs
 | [],[],[],ps,K,_,h,_,hK=>⟨[],hK,by simp only [CVl]⟩
 | t::ts,v::vs,d::ds,ps,K,hs,h,hv,hK=>by
  simp only [List.all_cons,Bool.and_eq_true] at hs
  obtain ⟨p,q,⟨fuel,h1⟩,h2,_⟩:=h
  obtain ⟨cs,k1,k2⟩:=in_one hs.1 (hv 0 t v rfl rfl) h1
  obtain ⟨xs,q1,q2⟩:=in_all ts vs ds q (fun xs=>K (mkA P t cs::xs)) hs.2 h2 (fun j t v ht hv'=>hv (j+1) t v (by simpa using ht) (by simpa using hv')) (hK cs k1)
  exact ⟨_,q1,by simp only [CVl]; exact ⟨v,vs,rfl,k2,q2⟩⟩
 | [],v::vs,ds,ps,K,_,h,_,_=>by cases ds <;> simp [DataW.TrodAll] at h
 | [],[],d::ds,ps,K,_,h,_,_=>by simp [DataW.TrodAll] at h
 | t::ts,[],ds,ps,K,_,h,_,_=>by cases ds <;> simp [DataW.TrodAll] at h
 | t::ts,v::vs,[],ps,K,_,h,_,_=>by simp [DataW.TrodAll] at h
theorem law_calls {gl:Glob} {f:FuncId} {r:Reach} {b0:Nat} {ts:List TypeId} {args:Array Value} {ds:List (DataW H)} {ps:List MemPlace} (hs:(ts.all fun t=>supp P 50 t)=true) (hg:GOKg gl (pinAll w))
  (h:ShAll P ts fun xs=>PureC P gl f xs (.bool true)) (hA:DataW.TrodAll enc P w base (fun _=>true) held ts args.toList ds ps)
  (hv:∀ (j:Nat) t v,ts[j]?=some t→args.toList[j]?=some v→Value.okWide P w r b0 t v) :
  Calls P f args w fun e w'=>e=.returned (.bool true)∧Below w.heap.size w w':=by
 obtain ⟨xs,h1,h2⟩:=in_all ts _ ds ps _ hs hA hv h
 refine (h1 w (pinAll w) args hg (agree_all w) h2).mono fun e w' h=>?_
 obtain ⟨u,S',h3,h4,_,_,_,h5⟩:=h
 simp only [CV] at h5
 exact ⟨by rw [h3,h5],h4⟩
theorem trodAll_stay (hl:laidOutB P=true) {w':World} (hb:Below w.heap.size w w'):∀ (ts:List TypeId) (vs:List Value) (ds:List (DataW H)) (ps:List MemPlace),(ts.all fun t=>P.readableRec t&&decide (t < P.types.size))=true →
  DataW.TrodAll enc P w 0 (fun _=>true) true ts vs ds ps→DataW.TrodAll enc P w' 0 (fun b=>decide (b < w.heap.size)) true ts vs ds ps
 | [],[],[],ps,_,h=>h
 | t::ts,v::vs,d::ds,ps,hs,h=>by
  simp only [List.all_cons,Bool.and_eq_true,decide_eq_true_eq] at hs
  obtain ⟨p,q,h1,h2,h3⟩:=h
  have hlt:∀ x ∈ p,x.block < w.heap.size:=by obtain ⟨m,hm⟩:=h1; exact DataW.trod_lt m _ _ _ hm
  exact ⟨p,q,Below.trod hl hs.1.1 hs.1.2 h1 hb hlt,trodAll_stay hl hb ts vs ds q hs.2 h2,h3⟩
 | [],v::vs,ds,ps,_,h=>by cases ds <;> simp [DataW.TrodAll] at h
 | [],[],d::ds,ps,_,h=>by simp [DataW.TrodAll] at h
 | t::ts,[],ds,ps,_,h=>by cases ds <;> simp [DataW.TrodAll] at h
 | t::ts,v::vs,[],ps,_,h=>by simp [DataW.TrodAll] at h
def suppG (P:Program):Nat→TypeId→Bool
 | 0,_=>false
 | n+1,t=>match P.underlying t with
  | some .bool=>true
  | some (.int _)=>true
  | some .string=>true
  | some (.struct fs)=>tiles P fs.toList 0 (P.cellsOf t)&&fs.toList.all fun f=>suppG P n f.type
  | some (.array m e)=>Nat.beq (m*P.cellsOf e) (P.cellsOf t)&&suppG P n e
  | _=>false
mutual
def flatD:DataW H→List AV
 | .lit (.bool b)=>[.bool b]
 | .lit (.int k z)=>[.int k z]
 | .lit (.string l)=>[.str ⟨l.toArray⟩]
 | .agg ds=>flatDs ds
 | _=>[.dead]
def flatDs:List (DataW H)→List AV
 | []=>[]
 | d::ds=>flatD d++flatDs ds
end
theorem flatF {S:Pin} {vs:List Value}:∀ (fs:List Field) (ds:List (DataW H)) (o tot:Nat),tiles P fs o tot=true→vs.length=tot→ds.length=fs.length →
  (∀ (i:Nat) (f:Field) (d:DataW H),fs[i]?=some f→ds[i]?=some d→CVl S (flatD d) noNm ((vs.drop f.offset).take (P.cellsOf f.type)))→CVl S (flatDs ds) noNm (vs.drop o)
 | [],[],o,tot,ht,hl,_,_=>by
  simp only [tiles] at ht
  have:=Nat.eq_of_beq_eq_true ht
  simp only [flatDs,CVl]; exact List.drop_eq_nil_of_le (by omega)
 | f::fs,d::ds,o,tot,ht,hl,hd,h=>by
  simp only [tiles,Bool.and_eq_true] at ht
  obtain ⟨ho,ht⟩:=ht
  have ho:=Nat.eq_of_beq_eq_true ho
  have h1:=h 0 f d rfl rfl
  have h2:=flatF fs ds _ tot ht hl (by simpa using hd) (fun i g d' hg hd'=>h (i+1) g d' (by simpa using hg) (by simpa using hd'))
  rw [ho] at h1
  have e:vs.drop o=(vs.drop o).take (P.cellsOf f.type)++vs.drop (o+P.cellsOf f.type):=by
   rw [← List.drop_drop]; exact (List.take_append_drop _ _).symm
  rw [e]
  simp only [flatDs]
  exact CVl.append h1 h2
 | [],_::_,_,_,_,_,hd,_=>by simp at hd
 | _::_,[],_,_,_,_,hd,_=>by simp at hd
theorem flatE {S:Pin} {s:Nat}:∀ (ds:List (DataW H)) (vs:List Value),vs.length=ds.length*s→(∀ (i:Nat) (d:DataW H),ds[i]?=some d→CVl S (flatD d) noNm ((vs.drop (i*s)).take s))→CVl S (flatDs ds) noNm vs
 | [],vs,hl,_=>by simp only [flatDs,CVl]; exact List.eq_nil_of_length_eq_zero (by simpa using hl)
 | d::ds,vs,hl,h=>by
  have h1:=h 0 d rfl
  have hl':vs.length=ds.length*s+s:=by rw [hl,List.length_cons,Nat.succ_mul]
  have h2:=flatE (S:=S) (s:=s) ds (vs.drop s) (by rw [List.length_drop]; omega) (fun i d' hd=>by
   have:=h (i+1) d' (by simpa using hd)
   rw [List.drop_drop,show s+i*s=(i+1)*s by rw [Nat.succ_mul]; omega]
   exact this)
  rw [Nat.zero_mul,List.drop_zero] at h1
  have e:vs=vs.take s++vs.drop s:=(List.take_append_drop _ _).symm
  rw [e]
  simp only [flatDs]
  exact CVl.append h1 h2
theorem flat_of_trod {S:Pin} {spare:Nat→Bool}:∀ (n:Nat) (t:TypeId) (fuel:Nat) (vs:List Value) (x:DataW H × List MemPlace),suppG P n t=true→DataW.trod enc P w base spare held fuel t vs=some x→CVl S (flatD x.1) noNm vs
 | 0,t,_,_,_,hs,_=>by simp [suppG] at hs
 | n+1,t,fuel,vs,x,hs,h=>by
  unfold suppG at hs
  split at hs
  ·next ht =>
   obtain ⟨b,rfl,rfl⟩:=DataW.trod_bool ht h
   exact ⟨_,_,rfl,rfl,rfl⟩
  ·next k ht =>
   obtain ⟨z,rfl,rfl,hw⟩:=DataW.trod_int ht h
   exact ⟨_,_,rfl,⟨rfl,rng_wf hw⟩,rfl⟩
  ·next ht =>
   obtain ⟨s,rfl,rfl,hw⟩:=DataW.trod_string ht h
   exact ⟨_,_,rfl,⟨by simp,by simpa using hw⟩,rfl⟩
  ·next fs ht =>
   simp only [Bool.and_eq_true,List.all_eq_true] at hs
   obtain ⟨xs,m,_,rfl,hl,hxl,hf⟩:=DataW.trod_struct ht h
   have:=flatF (S:=S) (vs:=vs) fs.toList (xs.map (·.1)) 0 _ hs.1 hl (by simpa using hxl) (fun i f d hi hd=>by
    have h1:=hf i f (by simpa using hi)
    rw [List.getElem?_map] at hd
    cases hx:xs[i]? with
    | none=>rw [hx] at hd; cases hd
    | some y =>
     rw [hx] at hd h1
     simp only [Option.map_some,Option.some.injEq] at hd
     subst hd
     exact flat_of_trod n f.type m _ _ (hs.2 f (List.mem_of_getElem? hi)) h1)
   simpa [flatD] using this
  ·next m e ht =>
   simp only [Bool.and_eq_true] at hs
   obtain ⟨xs,q,_,rfl,hl,hxl,hf⟩:=DataW.trod_array ht h
   have hsz:=Nat.eq_of_beq_eq_true hs.1
   have:=flatE (S:=S) (s:=P.cellsOf e) (xs.map (·.1)) vs (by simp only [List.length_map]; rw [hxl]; omega) (fun i d hd=>by
    rw [List.getElem?_map] at hd
    cases hx:xs[i]? with
    | none=>rw [hx] at hd; cases hd
    | some y =>
     have hi:i < m:=by have:=(List.getElem?_eq_some_iff.1 hx).1; omega
     have h1:=hf i hi
     rw [hx] at hd h1
     simp only [Option.map_some,Option.some.injEq] at hd
     subst hd
     exact flat_of_trod n e q _ _ hs.2 h1)
   simpa [flatD] using this
  ·cases hs
end
theorem intsA_of {xs:List (List AV)} (h:∀ x ∈ xs,∃ z,rng .i64 z∧x=[.int .i64 z]):IntsA xs:=fun x hx=>by
 obtain ⟨z,h1,h2⟩:=h x hx
 exact ⟨z,h2,h1⟩
theorem glob_cells {W:World} {g:Nat} {cs:Array Value} {az:List AV} (hc:∀ i,W.cell? ⟨g,i,none⟩=cs[i]?) (h:CVl (pinAll W) az noNm cs.toList) (h1:allOne az=true):CC (pinAll W) az g 0:=by
 refine CC.mk fun j x hx=>?_
 obtain ⟨u,hu,hcv⟩:=CVl.get h hx
 have h2:=hc j
 rw [show cs[j]?=some u by simpa using hu] at h2
 rw [Nat.zero_add]
 exact ⟨u,pinAll_some h2 (allOne_cv h h1 u (List.mem_of_getElem? hu)),hcv⟩
end Go.Proofs.YtgnnafneglannaaGreatDoor
