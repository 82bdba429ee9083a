import Derived.Test.YtldiagnbagpliaaDoorRCc
import Derived.LoopN
import Derived.KernelRfl
import Derived.Test.YtldiagnbagpliaaDoorProg
set_option maxRecDepth 100000
namespace Go.Proofs.YtldiagnbagpliaaDoor
open Go
open Go.RowKit (Below)
set_option linter.unusedVariables false
set_option linter.unusedSimpArgs false
theorem setK_pt:∀ {cs:List AV} {n:Nat} {x:AV} {k:List AV→Prop},setK cs n x k→∃ l,k l∧∀ k':List AV→Prop,k' l→setK cs n x k'
 | c::cs,0,x,k,h=>by simp only [setK] at h; exact ⟨_,h,fun k' h'=>by simp only [setK]; exact h'⟩
 | c::cs,n+1,x,k,h=>by
  simp only [setK] at h
  obtain ⟨l,h1,h2⟩:=setK_pt h
  exact ⟨_,h1,fun k' h'=>by simp only [setK]; exact h2 _ h'⟩
 | [],_,_,_,h=>by simp [setK] at h
theorem rnmK_pt {kp:List Nat} {st:St} {t k:Nat} {K:St→Prop} (h:rnmK kp st t k K):∃ st',K st'∧∀ K':St→Prop,K' st'→rnmK kp st t k K':=by
 unfold rnmK at h
 split at h
 ·rename_i j s n ht
  split at h
  ·rename_i e s' xs hj
   obtain ⟨he,h⟩:=cond_F h
   rw [forceS_eq] at h
   obtain ⟨hc,h⟩:=cond_F h
   simp only [insK_ins] at h
   refine ⟨_,h,fun K' h'=>?_⟩
   unfold rnmK
   rw [ht]
   simp only
   rw [hj]
   simp only
   rw [he,cond_true,forceS_eq,hc,cond_true]
   simp only [insK_ins]
   exact h'
  ·exact h.elim
 ·exact h.elim
theorem rnmC_pt {kp:List Nat} {st:St} {b n k:Nat} {cs:List AV} {K:St→Prop} (h:rnmC kp st b cs n k K):∃ st',K st'∧∀ K':St→Prop,K' st'→rnmC kp st b cs n k K':=by
 unfold rnmC at h
 split at h
 ·rename_i j s q hrw
  split at h
  ·rename_i e s' xs hj
   obtain ⟨he,h⟩:=cond_F h
   rw [forceS_eq] at h
   obtain ⟨hc,h⟩:=cond_F h
   split at h
   ·rename_i cs1 hcs1
    obtain ⟨l2,h1,h2⟩:=setK_pt h
    simp only [insK_ins] at h1
    refine ⟨_,h1,fun K' h'=>?_⟩
    unfold rnmC
    rw [hrw]
    simp only
    rw [hj]
    simp only
    rw [he,cond_true,forceS_eq,hc,cond_true,hcs1]
    refine h2 _ ?_
    simp only [insK_ins]
    exact h'
   ·exact h.elim
  ·exact h.elim
 ·exact h.elim
theorem empN_pt {kp:List Nat}:∀ (l:List (Nat × Nat × Nat × Nat)) (st:St) (K:St→Prop),empN kp l st K→∃ st',K st'∧empN kp l st (fun s=>s=st')
 | [],st,K,h=>⟨st,h,rfl⟩
 | (t,k,e,s)::l,⟨tm,hp⟩,K,h=>by
  simp only [empN] at h ⊢
  cases hb1:Nat.ble 1000000 t with
  | true =>
   rw [hb1] at h
   simp only [cond_true] at h ⊢
   split at h
   ·rename_i cs hcs
    cases hb:(nilAt cs (Nat.mod t 100)&&fresh kp ⟨tm,hp⟩ k&&!(Nat.beq k (Nat.div (Nat.sub t 1000000) 100))) with
    | false =>
     rw [hb] at h
     simp only [cond_false] at h ⊢
     cases hb3:nilAt cs (Nat.mod t 100) with
     | false =>
      rw [hb3] at h
      simp only [cond_false] at h ⊢
      cases hb4:rwOth cs (Nat.mod t 100) k with
      | false=>rw [hb4] at h; simp only [cond_false] at h ⊢; exact empN_pt l _ K h
      | true =>
       rw [hb4] at h
       simp only [cond_true] at h ⊢
       obtain ⟨s1,h1,e1⟩:=rnmC_pt h
       obtain ⟨st',h2,e2⟩:=empN_pt l s1 K h1
       exact ⟨st',h2,e1 _ e2⟩
     | true=>rw [hb3] at h; simp only [cond_true,forceS_eq] at h ⊢; exact empN_pt l _ K h
    | true =>
    rw [hb] at h
    simp only [cond_true] at h ⊢
    obtain ⟨l2,h1,h2⟩:=setK_pt h
    simp only [insK_ins] at h1
    obtain ⟨st',h3,h4⟩:=empN_pt l _ K h1
    refine ⟨st',h3,?_⟩
    refine h2 _ ?_
    simp only [insK_ins]
    exact h4
   ·exact h.elim
  | false =>
   rw [hb1] at h
   simp only [cond_false] at h ⊢
   cases hb:(isNils (St.get ⟨tm,hp⟩ t)&&fresh kp ⟨tm,hp⟩ k) with
   | false =>
    rw [hb] at h
    simp only [cond_false] at h ⊢
    obtain ⟨s1,h1,e1⟩:=rnmK_pt h
    obtain ⟨st',h2,e2⟩:=empN_pt l s1 K h1
    exact ⟨st',h2,e1 _ e2⟩
   | true =>
   rw [hb] at h
   simp only [cond_true] at h ⊢
   simp only [insK_ins] at h
   obtain ⟨st',h1,h2⟩:=empN_pt l _ K h
   exact ⟨st',h1,by simp only [insK_ins]; exact h2⟩
mutual
theorem strip_pt:∀ (x:AV) (k:AV→Prop),strip x k→∃ y,k y∧∀ k':AV→Prop,k' y→strip x k'
 | .acc a s xs,k,h=>by simp only [strip] at h; exact ⟨_,h,fun k' h'=>by simp only [strip]; exact h'⟩
 | .int a b,k,h=>by simp only [strip] at h; exact ⟨_,h,fun k' h'=>by simp only [strip]; exact h'⟩
 | .bool a,k,h=>by simp only [strip] at h; exact ⟨_,h,fun k' h'=>by simp only [strip]; exact h'⟩
 | .str a,k,h=>by simp only [strip] at h; exact ⟨_,h,fun k' h'=>by simp only [strip]; exact h'⟩
 | .sl a b c,k,h=>by simp only [strip] at h; exact ⟨_,h,fun k' h'=>by simp only [strip]; exact h'⟩
 | .nils,k,h=>by simp only [strip] at h; exact ⟨_,h,fun k' h'=>by simp only [strip]; exact h'⟩
 | .ro a,k,h=>by simp only [strip] at h; exact ⟨_,h,fun k' h'=>by simp only [strip]; exact h'⟩
 | .nilp,k,h=>by simp only [strip] at h; exact ⟨_,h,fun k' h'=>by simp only [strip]; exact h'⟩
 | .undef,k,h=>by simp only [strip] at h; exact ⟨_,h,fun k' h'=>by simp only [strip]; exact h'⟩
 | .dead,k,h=>by simp only [strip] at h; exact ⟨_,h,fun k' h'=>by simp only [strip]; exact h'⟩
 | .agg cs,k,h=>by
  simp only [strip] at h
  obtain ⟨l,h1,h2⟩:=stripL_pt cs _ h
  exact ⟨_,h1,fun k' h'=>by simp only [strip]; exact h2 _ h'⟩
 | .tup cs,k,h=>by
  simp only [strip] at h
  obtain ⟨l,h1,h2⟩:=stripL_pt cs _ h
  exact ⟨_,h1,fun k' h'=>by simp only [strip]; exact h2 _ h'⟩
 | .fn f cs,k,h=>by
  simp only [strip] at h
  obtain ⟨l,h1,h2⟩:=stripL_pt cs _ h
  exact ⟨_,h1,fun k' h'=>by simp only [strip]; exact h2 _ h'⟩
 | .frz a s n xs,k,h=>by
  simp only [strip] at h
  obtain ⟨hn,h⟩:=chk_iff.1 h
  exact ⟨_,h,fun k' h'=>by simp only [strip]; exact chk_iff.2 ⟨hn,h'⟩⟩
 | .ptr _ _,_,h=>by simp [strip] at h
 | .ms _ _ _ _ _,_,h=>by simp [strip] at h
 | .rw _ _ _,_,h=>by simp [strip] at h
 | .mw _ _ _ _ _ _,_,h=>by simp [strip] at h
 | .prw _ _ _ _ _,_,h=>by simp [strip] at h
 | .mpv _,_,h=>by simp [strip] at h
theorem stripL_pt:∀ (xs:List AV) (k:List AV→Prop),stripL xs k→∃ ys,k ys∧∀ k':List AV→Prop,k' ys→stripL xs k'
 | [],k,h=>by simp only [stripL] at h; exact ⟨_,h,fun k' h'=>by simp only [stripL]; exact h'⟩
 | x::xs,k,h=>by
  simp only [stripL] at h
  obtain ⟨y,h1,h2⟩:=strip_pt x _ h
  obtain ⟨l,h3,h4⟩:=stripL_pt xs _ h1
  exact ⟨_,h3,fun k' h'=>by simp only [stripL]; exact h2 _ (h4 _ h')⟩
end
theorem stripLL_pt:∀ (xs:List (List AV)) (k:List (List AV)→Prop),stripLL xs k→∃ ys,k ys∧∀ k':List (List AV)→Prop,k' ys→stripLL xs k'
 | [],k,h=>by simp only [stripLL] at h; exact ⟨_,h,fun k' h'=>by simp only [stripLL]; exact h'⟩
 | x::xs,k,h=>by
  simp only [stripLL] at h
  obtain ⟨y,h1,h2⟩:=stripL_pt x _ h
  obtain ⟨l,h3,h4⟩:=stripLL_pt xs _ h1
  exact ⟨_,h3,fun k' h'=>by simp only [stripLL]; exact h2 _ (h4 _ h')⟩
theorem closeK_pt {st:St} {k:Nat} {K:St→Prop} (h:closeK st k K):∃ st',K st'∧∀ K':St→Prop,K' st'→closeK st k K':=by
 unfold closeK at h
 split at h
 ·rename_i e s xs hk
  cases hb:Nat.blt e 2000000 with
  | true =>
   rw [hb] at h
   exact ⟨st,h,fun K' h'=>by unfold closeK; rw [hk]; simp only [hb,cond_true]; exact h'⟩
  | false =>
   rw [hb] at h
   obtain ⟨h3,h⟩:=cond_F h
   obtain ⟨ys,h1,h2⟩:=stripLL_pt _ _ h
   exact ⟨_,h1,fun K' h'=>by unfold closeK; rw [hk]; simp only [hb,h3,cond_true,cond_false]; exact h2 _ h'⟩
 ·rename_i hk
  refine ⟨st,h,fun K' h'=>?_⟩
  unfold closeK
  split
  ·rename_i e s xs hk'
   exact absurd hk' (hk e s xs)
  ·exact h'
theorem openK_pt {st:St} {k:Nat} {K:St→Prop} (h:openK st k K):∃ st',K st'∧∀ K':St→Prop,K' st'→openK st k K':=by
 unfold openK at h
 split at h
 ·rename_i e s xs hk
  cases hb:Nat.blt e 1000000 with
  | true =>
   rw [hb] at h
   exact ⟨_,h,fun K' h'=>by unfold openK; rw [hk]; simp only [hb,cond_true]; exact h'⟩
  | false =>
   rw [hb] at h
   exact ⟨st,h,fun K' h'=>by unfold openK; rw [hk]; simp only [hb,cond_false]; exact h'⟩
 ·rename_i hk
  refine ⟨st,h,fun K' h'=>?_⟩
  unfold openK
  split
  ·rename_i e s xs hk'
   exact absurd hk' (hk e s xs)
  ·exact h'
theorem frzK_pt {kp:List Nat} {st:St} {k:Nat} {K:St→Prop} (h:frzK kp st k K):∃ st',K st'∧∀ K':St→Prop,K' st'→frzK kp st k K':=by
 unfold frzK at h
 split at h
 ·rename_i e s xs hk
  cases hi:(inL k kp||!(Nat.blt e 2000000)) with
  | true=>rw [hi] at h; exact h.elim
  | false =>
   rw [hi] at h
   exact ⟨_,h,fun K' h'=>by unfold frzK; rw [hk]; simp only [hi,cond_false]; exact h'⟩
 ·exact h.elim
theorem frzN_pt {kp:List Nat}:∀ (l:List Nat) (st:St) (K:St→Prop),frzN kp l st K→∃ st',K st'∧frzN kp l st (fun s=>s=st')
 | [],st,K,h=>⟨st,h,rfl⟩
 | k::l,st,K,h=>by
  simp only [frzN] at h ⊢
  cases hc:Nat.ble 2000000 k with
  | true =>
   rw [hc] at h
   simp only [cond_true] at h ⊢
   cases hc4:Nat.ble 4000000 k with
   | true =>
    rw [hc4] at h
    simp only [cond_true] at h ⊢
    obtain ⟨s1,h1,e1⟩:=openK_pt h
    obtain ⟨s3,h3,e3⟩:=frzN_pt l _ K h1
    exact ⟨s3,h3,e1 _ e3⟩
   | false =>
    rw [hc4] at h
    simp only [cond_false] at h ⊢
    obtain ⟨s1,h1,e1⟩:=closeK_pt h
    obtain ⟨s3,h3,e3⟩:=frzN_pt l _ K h1
    exact ⟨s3,h3,e1 _ e3⟩
  | false =>
  rw [hc] at h
  simp only [cond_false] at h ⊢
  cases hb:isRowB (lk st.heap k) with
  | false =>
   rw [hb] at h
   exact frzN_pt l st K h
  | true =>
   rw [hb] at h
   simp only [cond_true] at h ⊢
   obtain ⟨s1,h1,e1⟩:=closeK_pt h
   obtain ⟨s2,h2,e2⟩:=frzK_pt h1
   rw [forceS_eq] at h2
   obtain ⟨s3,h3,e3⟩:=frzN_pt l _ K h2
   exact ⟨s3,h3,e1 _ (e2 _ (by rw [forceS_eq]; exact e3))⟩
theorem killN_pt {kp:List Nat}:∀ (l:List Nat) (st:St) (K:St→Prop),killN kp l st K→∃ st',K st'∧killN kp l st (fun s=>s=st')
 | [],st,K,h=>⟨st,h,rfl⟩
 | k::l,st,K,h=>by
  simp only [killN] at h ⊢
  cases hb:fresh kp st k with
  | true=>rw [hb] at h; exact killN_pt l st K h
  | false =>
   rw [hb] at h
   simp only [cond_false,forceS_eq] at h ⊢
   exact killN_pt l _ K h
theorem dropK_pt {d:Nat} {st:St} {K:St→Prop} (h:dropK d st K):∃ st',K st'∧dropK d st (fun s=>s=st'):=by
 obtain ⟨tm,hp⟩:=st
 simp only [dropK,dropT_eq] at h ⊢
 exact ⟨_,h,rfl⟩
theorem empN_det {kp:List Nat} {l:List (Nat × Nat × Nat × Nat)} {st:St} {K:St→Prop} (h:empN kp l st K):∃ st',K st'∧Same kp st st':=by
 obtain ⟨st',h1,h2⟩:=empN_pt l st K h
 refine ⟨st',h1,fun G a w S m hR=>?_⟩
 obtain ⟨s,S',m',rfl,h3⟩:=empN_sound _ _ S m _ h2 hR
 exact ⟨S',m',h3⟩
theorem frzN_det {kp:List Nat} {l:List Nat} {st:St} {K:St→Prop} (h:frzN kp l st K):∃ st',K st'∧Same kp st st':=by
 obtain ⟨st',h1,h2⟩:=frzN_pt l st K h
 refine ⟨st',h1,fun G a w S m hR=>?_⟩
 obtain ⟨s,S',m',rfl,h3⟩:=frzN_sound _ _ S m _ h2 hR
 exact ⟨S',m',h3⟩
theorem killN_det {kp:List Nat} {l:List Nat} {st:St} {K:St→Prop} (h:killN kp l st K):∃ st',K st'∧Same kp st st':=by
 obtain ⟨st',h1,h2⟩:=killN_pt l st K h
 refine ⟨st',h1,fun G a w S m hR=>?_⟩
 obtain ⟨s,rfl,h3⟩:=killN_sound _ _ _ h2 hR
 exact ⟨S,m,h3⟩
theorem dropK_det {kp:List Nat} {d:Nat} {st:St} {K:St→Prop} (h:dropK d st K):∃ st',K st'∧Same kp st st':=by
 obtain ⟨st',h1,h2⟩:=dropK_pt h
 refine ⟨st',h1,fun G a w S m hR=>?_⟩
 obtain ⟨s,rfl,h3⟩:=dropK_sound h2 hR
 exact ⟨S,m,h3⟩
theorem dropS_det {kp:List Nat} {C:Cx} {id:Nat} {st:St} {K:St→Prop} (h:dropS C id st K):∃ st',K st'∧Same kp st st':=by
 obtain ⟨s1,h1,r1⟩:=dropK_det (kp:=kp) h
 obtain ⟨s2,h2,r2⟩:=spnK_same _ _ _ h1
 exact ⟨s2,h2,fun G a w S m hR=>by
  obtain ⟨S',m',hR'⟩:=r1 G a w S m hR
  exact ⟨S',m',r2 _ _ _ _ _ _ hR'⟩⟩
theorem astep_nw {P:Program} {E:Env} {C:Cx} {o:Oper} {st:St} {K:AV→List (Nat × Blk)→List Nat→Prop} (hw:E.nowf=true) (h:astep P E C true o st K):astep P E C false o st K:=by
 unfold astep at h ⊢
 rw [hw] at h
 simp only [Bool.not_true,Bool.and_false,Bool.false_and] at h ⊢
 exact h
theorem arun_det {P:Program} {E:Env} {C:Cx} (hw:E.nowf=true) (hz0:E.nq=false) (hT:TyOK P C.tys) (hS:SpecOK P E) {ops:Array Oper} :
  ∀ (l:List Oper) (st:St) (k:St→Prop),arun P E C ops l st k→∃ fin,k fin∧∀ (G:Gh) (Q:Exit→Act→World→Prop),GOK E G.S0→∀ (a:Act) (w:World) (S:Pin) (m:Nm),Rel G C.kp st a w S m→a.tmps.size=C.nt →
   (∀ a' w' S' m',Rel G C.kp fin a' w' S' m'→a'.tmps.size=C.nt→Q .normal a' w')→wpList P ops Q l a w
 | [],st,k,h=>⟨st,h,fun G Q hG a w S m hR hn hQ=>hQ a w S m hR hn⟩
 | o::rest,st,k,h=>by
  have ex:∀ (st:St),astep P E C true o st (fun r u _=>forceE E.eager o.op r fun r=>updK st o.dst r u fun st'=>arun P E C ops rest st' k)→∃ fin,k fin∧∀ (G:Gh) (Q:Exit→Act→World→Prop),GOK E G.S0→∀ (a:Act) (w:World) (S:Pin) (m:Nm),Rel G C.kp st a w S m→a.tmps.size=C.nt →
    (∀ a' w' S' m',Rel G C.kp fin a' w' S' m'→a'.tmps.size=C.nt→Q .normal a' w')→o.wp P a w (wpList P ops Q rest) Q:=by
   intro st h
   obtain ⟨r,u,rd,h1,h2,h3⟩:=astep_sound hT hS (astep_nw hw h)
   have h1:=h1 (fun e=>by cases e)
   rw [forceE_eq,updK_eq] at h1
   obtain ⟨fin,hk,hf⟩:=arun_det hw hz0 hT hS rest _ k h1
   refine ⟨fin,hk,fun G Q hG a w S m hR hn hQ=>?_⟩
   exact h2 G C.kp st a w S m _ Q hG hR hn (fun _ _=>rfl) (fun _ _=>rfl) h3 (fun v w' S' m' _ hR'=>hf G Q hG _ _ _ _ hR' (by rw [put_size]; exact hn) hQ)
  have sk:∀ (st:St),cond (dstOk C.nt o.dst) (updK st o.dst .undef [] fun st'=>arun P E C ops rest st' k) False→∃ fin,k fin∧∀ (G:Gh) (Q:Exit→Act→World→Prop),GOK E G.S0→∀ (a:Act) (w:World) (S:Pin) (m:Nm),Rel G C.kp st a w S m→a.tmps.size=C.nt →
    (∀ a' w' S' m',Rel G C.kp fin a' w' S' m'→a'.tmps.size=C.nt→Q .normal a' w')→wpList P ops Q rest (a.put o.dst undef) w:=by
   intro st h
   obtain ⟨hd,h⟩:=cond_F h
   rw [updK_eq] at h
   obtain ⟨fin,hk,hf⟩:=arun_det hw hz0 hT hS rest _ k h
   exact ⟨fin,hk,fun G Q hG a w S m hR hn hQ=>hf G Q hG _ _ _ _ (upd_undef hR (by rw [hn]; exact hd)) (by rw [put_size]; exact hn) hQ⟩
  simp only [arun] at h
  split at h
  ·rename_i hg
   rw [nilq_off hz0] at h
   simp only at h
   obtain ⟨s0,h,e0⟩:=frzN_det (kp:=C.kp) h
   obtain ⟨fin,hk,hf⟩:=ex s0 h
   refine ⟨fin,hk,fun G Q hG a w S m hR hn hQ=>?_⟩
   obtain ⟨S2,m2,hR⟩:=e0 G a w S m hR
   unfold wpList
   rw [if_pos (by simp [Region.wanted,hg])]
   exact .inl (hf G Q hG a w S2 m2 hR hn hQ)
  ·rename_i j want hg
   split at h
   ·rename_i t ht
    split at h
    ·rename_i c hc
     have hy:∀ {G:Gh} {a:Act} {w:World} {S:Pin} {m:Nm},Rel G C.kp st a w S m→yielded ops a.tmps j=some c:=fun hR=>by
      have hs:=guard_slot hR hc
      simp only [yielded,ht,Option.bind_some,hs]
     have doit:∀ (h:astep P E C true o (st.put t (.bool c)) (fun r u _=>forceE E.eager o.op r fun r=>updK (st.put t (.bool c)) o.dst r u fun st'=>arun P E C ops rest st' k)) (e:c=want),∃ fin,k fin∧∀ (G:Gh) (Q:Exit→Act→World→Prop),GOK E G.S0→∀ (a:Act) (w:World) (S:Pin) (m:Nm),Rel G C.kp st a w S m→a.tmps.size=C.nt →
       (∀ a' w' S' m',Rel G C.kp fin a' w' S' m'→a'.tmps.size=C.nt→Q .normal a' w')→wpList P ops Q (o::rest) a w:=by
      intro h e
      obtain ⟨fin,hk,hf⟩:=ex _ h
      refine ⟨fin,hk,fun G Q hG a w S m hR hn hQ=>?_⟩
      have:=hy hR
      unfold wpList
      rw [if_pos (by simp [Region.wanted,hg,this,e])]
      exact .inl (hf G Q hG a w S m (hR.known hc) hn hQ)
     have skip:∀ (h:cond (dstOk C.nt o.dst) (updK (st.put t (.bool c)) o.dst .undef [] fun st'=>arun P E C ops rest st' k) False) (e:c≠want),∃ fin,k fin∧∀ (G:Gh) (Q:Exit→Act→World→Prop),GOK E G.S0→∀ (a:Act) (w:World) (S:Pin) (m:Nm),Rel G C.kp st a w S m→a.tmps.size=C.nt →
       (∀ a' w' S' m',Rel G C.kp fin a' w' S' m'→a'.tmps.size=C.nt→Q .normal a' w')→wpList P ops Q (o::rest) a w:=by
      intro h e
      obtain ⟨fin,hk,hf⟩:=sk _ h
      refine ⟨fin,hk,fun G Q hG a w S m hR hn hQ=>?_⟩
      have:=hy hR
      unfold wpList
      rw [if_neg (by simp [Region.wanted,hg,this,e])]
      exact hf G Q hG a w S m (hR.known hc) hn hQ
     cases c with
     | true =>
      simp only [cond_true] at h
      rw [known_eq] at h
      cases want with
      | true=>exact doit h rfl
      | false=>exact skip h (by simp)
     | false =>
      simp only [cond_false] at h
      rw [known_eq] at h
      cases want with
      | true=>exact skip h (by simp)
      | false=>exact doit h rfl
    ·rename_i hc
     obtain ⟨fin,hk,hf⟩:=sk st h
     refine ⟨fin,hk,fun G Q hG a w S m hR hn hQ=>?_⟩
     have hs:=guard_undef hR hc
     have hy:yielded ops a.tmps j=none:=by
      unfold yielded
      rw [ht]
      simp only [Option.bind_some]
     unfold wpList
     rw [if_neg (by simp [Region.wanted,hg,hy])]
     exact hf G Q hG a w S m hR hn hQ
    ·exact h.elim
   ·exact h.elim
def Out (kn:St→Prop) (ke:Nat→St→Prop) (kr:St→Prop):Exit→St→Prop
 | .normal,st=>kn st
 | .exit i,st=>ke i st
 | .ret,st=>kr st
 | _,_=>False
def Leads (P:Program) (E:Env) (C:Cx) (c:Code) (st:St) (o:Exit) (fin:St):Prop :=
 ∀ (G:Gh),GOK E G.S0→∀ (a:Act) (w:World) (S:Pin) (m:Nm),Rel G C.kp st a w S m→a.tmps.size=C.nt →
  c.wp P (fun e a' w'=>e=o∧∃ S' m',Rel G C.kp fin a' w' S' m'∧a'.tmps.size=C.nt) a w
theorem Leads.le {P:Program} {E:Env} {C:Cx} {c:Code} {st st':St} {o:Exit} {fin:St} (h:Leads P E C c st' o fin) (hl:leS st st'):Leads P E C c st o fin :=
 fun G hG a w S m hR hn=>h G hG a w S m (hR.le hl) hn
theorem Leads.same {P:Program} {E:Env} {C:Cx} {c:Code} {st st':St} {o:Exit} {fin:St} (h:Leads P E C c st' o fin) (hl:Same C.kp st st'):Leads P E C c st o fin :=
 fun G hG a w S m hR hn=>by obtain ⟨S',m',hR'⟩:=hl G a w S m hR; exact h G hG a w S' m' hR' hn
theorem Leads.fin {P:Program} {E:Env} {C:Cx} {c:Code} {st fin fin':St} {o:Exit} (h:Leads P E C c st o fin) (hl:Same C.kp fin fin'):Leads P E C c st o fin' :=
 fun G hG a w S m hR hn=>Go.wp_mono (h G hG a w S m hR hn) fun e a' w' ⟨he,S',m',hR',hn'⟩=>by
  obtain ⟨S2,m2,hR2⟩:=hl G a' w' S' m' hR'
  exact ⟨he,S2,m2,hR2,hn'⟩
theorem le_same {kp:List Nat} {st st':St} (h:leS st st'):Same kp st st':=fun G a w S m hR=>⟨S,m,hR.le h⟩
theorem leads_seq {P:Program} {E:Env} {C:Cx} {x y:Code} {st mid fin:St} {o:Exit} (h:Leads P E C x st .normal mid) (k:Leads P E C y mid o fin):Leads P E C (.seq x y) st o fin :=
 fun G hG a w S m hR hn=>wp_seq (Go.wp_mono (h G hG a w S m hR hn) fun e a' w' ⟨he,S',m',hR',hn'⟩=>by
  subst he
  exact k G hG a' w' S' m' hR' hn')
theorem leads_seq' {P:Program} {E:Env} {C:Cx} {x y:Code} {st fin:St} {o:Exit} (h:Leads P E C x st o fin) (ho:o≠.normal):Leads P E C (.seq x y) st o fin :=
 fun G hG a w S m hR hn=>wp_seq (Go.wp_mono (h G hG a w S m hR hn) fun e a' w' ⟨he,hq⟩=>by
  subst he
  cases e with
  | normal=>exact absurd rfl ho
  | _=>exact ⟨rfl,hq⟩)
def LeadsR (P:Program) (E:Env) (C:Cx) (b:Code) (st:St) (o:Exit) (fin:St):Prop :=
 ∃ n:Nat,∀ (G:Gh),GOK E G.S0→∀ (a:Act) (w:World) (S:Pin) (m:Nm),Rel G C.kp st a w S m→a.tmps.size=C.nt →
  Code.rounds P b (fun e a' w'=>e=o∧∃ S' m',Rel G C.kp fin a' w' S' m'∧a'.tmps.size=C.nt) n a w
theorem leadsR_one {P:Program} {E:Env} {C:Cx} {b:Code} {st fin:St} {o:Exit} (h:Leads P E C b st o fin) (ho:o≠.normal):LeadsR P E C b st o fin :=
 ⟨1,fun G hG a w S m hR hn=>by
  rw [rounds_succ]
  exact Go.wp_mono (h G hG a w S m hR hn) fun e a' w' ⟨he,hq⟩=>by
   subst he
   cases e with
   | normal=>exact absurd rfl ho
   | _=>exact ⟨rfl,hq⟩⟩
theorem leadsR_more {P:Program} {E:Env} {C:Cx} {b:Code} {st mid fin:St} {o:Exit} (h:Leads P E C b st .normal mid) (k:LeadsR P E C b mid o fin):LeadsR P E C b st o fin:=by
 obtain ⟨n,hk⟩:=k
 refine ⟨n+1,fun G hG a w S m hR hn=>?_⟩
 rw [rounds_succ]
 exact Go.wp_mono (h G hG a w S m hR hn) fun e a' w' ⟨he,S',m',hR',hn'⟩=>by
  subst he
  exact hk G hG a' w' S' m' hR' hn'
theorem leadsR_same {P:Program} {E:Env} {C:Cx} {b:Code} {st st' fin:St} {o:Exit} (h:LeadsR P E C b st' o fin) (hl:Same C.kp st st'):LeadsR P E C b st o fin:=by
 obtain ⟨n,hk⟩:=h
 exact ⟨n,fun G hG a w S m hR hn=>by obtain ⟨S',m',hR'⟩:=hl G a w S m hR; exact hk G hG a w S' m' hR' hn⟩
theorem leadsR_loop {P:Program} {E:Env} {C:Cx} {b:Code} {st fin:St} {o:Exit} (h:LeadsR P E C b st o fin):Leads P E C (.loop b) st o fin:=by
 obtain ⟨n,hk⟩:=h
 exact fun G hG a w S m hR hn=>wp_loop_rounds n (hk G hG a w S m hR hn)
theorem tested_det {E:Env} {kp:List Nat} {st:St} {c:Operand} {b:Bool} {k:St→Prop} (h:tested st c b k) (e:evO E st c=.bool b):∃ st',k st'∧Same kp st st':=by
 unfold tested at h
 split at h
 ·rw [known_eq] at h
  exact ⟨_,h,fun G a w S m hR=>⟨S,m,hR.known e⟩⟩
 ·exact ⟨st,h,fun G a w S m hR=>⟨S,m,hR⟩⟩
theorem acode_det {P:Program} {E:Env} {C:Cx} {inv:Nat→St→Option LInv} {fuel:Nat} (hw:E.nowf=true) (hz0:E.nq=false) (hT:TyOK P C.tys) (hS:SpecOK P E) (hM:P.follows .mixedOrders=true) :
  ∀ (c:Code) (st:St) (kn:St→Prop) (ke:Nat→St→Prop) (kr:St→Prop),acode P E C inv fuel c st kn ke kr→∃ o fin,Out kn ke kr o fin∧Leads P E C c st o fin
 | .skip,st,kn,ke,kr,h=>⟨.normal,st,h,fun G hG a w S m hR hn=>wp_skip ⟨rfl,S,m,hR,hn⟩⟩
 | .label _,st,kn,ke,kr,h=>⟨.normal,st,h,fun G hG a w S m hR hn=>wp_label ⟨rfl,S,m,hR,hn⟩⟩
 | .region id ops draw,st,kn,ke,kr,h=>by
  simp only [acode] at h
  obtain ⟨s0,h,e0⟩:=casK_det h
  obtain ⟨s1,h,e1⟩:=empN_det h
  obtain ⟨s2,h,e2⟩:=frzN_det h
  obtain ⟨s3,h,e3⟩:=killN_det h
  have e:=((e0.trans e1).trans e2).trans e3
  cases draw with
  | true =>
   simp only [cond_true] at h
   unfold adraw at h
   obtain ⟨gs,fin,htr,hk⟩:=arunD_tr hT hS _ _ _ _ h
   simp only [List.nil_append] at hk
   obtain ⟨hord,hk⟩:=cond_F hk
   obtain ⟨s4,h4,e4⟩:=dropS_det (kp:=C.kp) hk
   refine ⟨.normal,s4,h4,(Leads.same ?_ e).fin e4⟩
   exact fun G hG a w S m hR hn=>wp_region_any hM (adraw_core hG htr hord hR hn fun a' w' S' m' hR' hn'=>⟨rfl,S',m',hR',hn'⟩)
  | false =>
   simp only [cond_false] at h
   obtain ⟨fin,hk,hf⟩:=arun_det hw hz0 hT hS _ _ _ h
   obtain ⟨s4,h4,e4⟩:=dropS_det (kp:=C.kp) hk
   refine ⟨.normal,s4,h4,(Leads.same ?_ e).fin e4⟩
   exact fun G hG a w S m hR hn=>wp_region_list (hf G _ hG a w S m hR hn fun a' w' S' m' hR' hn'=>⟨rfl,S',m',hR',hn'⟩)
 | .seq x y,st,kn,ke,kr,h=>by
  simp only [acode] at h
  split at h
  ·rename_i L hL
   obtain ⟨h1,h2⟩:=h
   obtain ⟨o,mid,ho,hl⟩:=acode_det hw hz0 hT hS hM x st _ ke kr h1
   cases o with
   | normal =>
    obtain ⟨z,hp,hle⟩:=ho
    obtain ⟨o,fin,ho,hl2⟩:=acode_det hw hz0 hT hS hM y (L.S z) kn ke kr (LInv.all_get h2 z hp)
    exact ⟨o,fin,ho,leads_seq hl (hl2.le hle)⟩
   | exit i=>exact ⟨.exit i,mid,ho,leads_seq' hl (by simp)⟩
   | ret=>exact ⟨.ret,mid,ho,leads_seq' hl (by simp)⟩
   | _=>exact ho.elim
  ·obtain ⟨o,mid,ho,hl⟩:=acode_det hw hz0 hT hS hM x st _ ke kr h
   cases o with
   | normal =>
    obtain ⟨o,fin,ho,hl2⟩:=acode_det hw hz0 hT hS hM y mid kn ke kr ho
    exact ⟨o,fin,ho,leads_seq hl hl2⟩
   | exit i=>exact ⟨.exit i,mid,ho,leads_seq' hl (by simp)⟩
   | ret=>exact ⟨.ret,mid,ho,leads_seq' hl (by simp)⟩
   | _=>exact ho.elim
 | .cond c x y,st,kn,ke,kr,h=>by
  simp only [acode] at h
  split at h
  ·rename_i q hq
   have hc:∀ {G:Gh} {a:Act} {w:World} {S:Pin} {m:Nm},GOK E G.S0→Rel G C.kp st a w S m→a.eval c=.bool q:=fun hG hR=>by
    have:=evO_cv hG hR c
    rw [hq] at this
    simpa only [CV] using this
   cases q with
   | true =>
    obtain ⟨st',hk,hs⟩:=tested_det (E:=E) (kp:=C.kp) h hq
    obtain ⟨o,fin,ho,hl⟩:=acode_det hw hz0 hT hS hM x st' kn ke kr hk
    refine ⟨o,fin,ho,fun G hG a w S m hR hn=>wp_cond_true (hc hG hR) ?_⟩
    exact (hl.same hs) G hG a w S m hR hn
   | false =>
    obtain ⟨st',hk,hs⟩:=tested_det (E:=E) (kp:=C.kp) h hq
    obtain ⟨o,fin,ho,hl⟩:=acode_det hw hz0 hT hS hM y st' kn ke kr hk
    refine ⟨o,fin,ho,fun G hG a w S m hR hn=>wp_cond_false (hc hG hR) ?_⟩
    exact (hl.same hs) G hG a w S m hR hn
  ·exact h.elim
 | .block id b,st,kn,ke,kr,h=>by
  have fin1:∀ {o:Exit} {fin:St},Leads P E C b st o fin→(o=.normal∨o=.exit id)→Leads P E C (.block id b) st .normal fin:=by
   intro o fin hl ho G hG a w S m hR hn
   refine wp_block (Go.wp_mono (hl G hG a w S m hR hn) fun e a' w' ⟨he,hq⟩=>?_)
   subst he
   rcases ho with rfl | rfl
   ·exact ⟨rfl,hq⟩
   ·simp only [Exit.inBlock,if_true]; exact ⟨trivial,hq⟩
  have fin2:∀ {o:Exit} {fin:St},Leads P E C b st o fin→(o=.ret∨∃ i,o=.exit i∧i≠id)→Leads P E C (.block id b) st o fin:=by
   intro o fin hl ho G hG a w S m hR hn
   refine wp_block (Go.wp_mono (hl G hG a w S m hR hn) fun e a' w' ⟨he,hq⟩=>?_)
   subst he
   rcases ho with rfl | ⟨i,rfl,hi⟩
   ·exact ⟨rfl,hq⟩
   ·simp only [Exit.inBlock,if_neg hi]; exact ⟨trivial,hq⟩
  simp only [acode] at h
  split at h
  ·rename_i L hL
   obtain ⟨h1,h2⟩:=h
   obtain ⟨o,fin,ho,hl⟩:=acode_det hw hz0 hT hS hM b st _ _ kr h1
   cases o with
   | normal =>
    obtain ⟨z,hp,hle⟩:=ho
    exact ⟨.normal,L.S z,LInv.all_get h2 z hp,(fin1 hl (.inl rfl)).fin (le_same hle)⟩
   | exit i =>
    simp only [Out] at ho
    by_cases hi:i=id
    ·subst hi
     rw [nbeq_self] at ho
     obtain ⟨z,hp,hle⟩:=ho
     exact ⟨.normal,L.S z,LInv.all_get h2 z hp,(fin1 hl (.inr rfl)).fin (le_same hle)⟩
    ·rw [nbeq_ne hi] at ho
     exact ⟨.exit i,fin,ho,fin2 hl (.inr ⟨i,rfl,hi⟩)⟩
   | ret=>exact ⟨.ret,fin,ho,fin2 hl (.inl rfl)⟩
   | _=>exact ho.elim
  ·obtain ⟨o,fin,ho,hl⟩:=acode_det hw hz0 hT hS hM b st _ _ kr h
   cases o with
   | normal=>exact ⟨.normal,fin,ho,fin1 hl (.inl rfl)⟩
   | exit i =>
    simp only [Out] at ho
    by_cases hi:i=id
    ·subst hi
     rw [nbeq_self] at ho
     exact ⟨.normal,fin,ho,fin1 hl (.inr rfl)⟩
    ·rw [nbeq_ne hi] at ho
     exact ⟨.exit i,fin,ho,fin2 hl (.inr ⟨i,rfl,hi⟩)⟩
   | ret=>exact ⟨.ret,fin,ho,fin2 hl (.inl rfl)⟩
   | _=>exact ho.elim
 | .loop b,st,kn,ke,kr,h=>by
  simp only [acode] at h
  split at h
  ·rename_i L hL
   obtain ⟨⟨x,hp,hle⟩,hround⟩:=h
   have key:∀ (n:Nat) (x:L.X),L.m x=n→L.p x→∃ o fin,Out kn ke kr o fin∧LeadsR P E C b (L.S x) o fin:=by
    intro n
    induction n using Nat.strongRecOn with
    | _ n ih =>
     intro x hx hp
     obtain ⟨o,mid,ho,hl⟩:=acode_det hw hz0 hT hS hM b (L.S x) _ ke kr (hround x hp)
     cases o with
     | normal =>
      obtain ⟨y,hy,hm,hle⟩:=ho
      obtain ⟨o,fin,ho,hr⟩:=ih (L.m y) (by omega) y rfl hy
      exact ⟨o,fin,ho,leadsR_more hl (leadsR_same hr (le_same hle))⟩
     | exit i=>exact ⟨.exit i,mid,ho,leadsR_one hl (by simp)⟩
     | ret=>exact ⟨.ret,mid,ho,leadsR_one hl (by simp)⟩
     | _=>exact ho.elim
   obtain ⟨o,fin,ho,hr⟩:=key _ x rfl hp
   exact ⟨o,fin,ho,leadsR_loop (leadsR_same hr (le_same hle))⟩
  ·have key:∀ (n:Nat) (st:St),unr (fun st k=>acode P E C inv fuel b st k ke kr) n st→∃ o fin,Out kn ke kr o fin∧LeadsR P E C b st o fin:=by
    intro n
    induction n with
    | zero=>intro st hu; exact hu.elim
    | succ n ih =>
     intro st hu
     obtain ⟨o,mid,ho,hl⟩:=acode_det hw hz0 hT hS hM b st _ ke kr hu
     cases o with
     | normal =>
      obtain ⟨o,fin,ho,hr⟩:=ih mid ho
      exact ⟨o,fin,ho,leadsR_more hl hr⟩
     | exit i=>exact ⟨.exit i,mid,ho,leadsR_one hl (by simp)⟩
     | ret=>exact ⟨.ret,mid,ho,leadsR_one hl (by simp)⟩
     | _=>exact ho.elim
   obtain ⟨o,fin,ho,hr⟩:=key _ st h
   exact ⟨o,fin,ho,leadsR_loop hr⟩
 | .exit id,st,kn,ke,kr,h=>⟨.exit id,st,h,fun G hG a w S m hR hn=>wp_exit ⟨rfl,S,m,hR,hn⟩⟩
 | .ret,st,kn,ke,kr,h=>⟨.ret,st,h,fun G hG a w S m hR hn=>wp_ret ⟨rfl,S,m,hR,hn⟩⟩
 | .goto _,st,kn,ke,kr,h=>by simp [acode] at h
 | .scope _,st,kn,ke,kr,h=>by simp [acode] at h
 | .rangeFunc _ _ _ _,st,kn,ke,kr,h=>by simp [acode] at h
 | .refuse _,st,kn,ke,kr,h=>by simp [acode] at h
theorem resL_det {P:Program} {E:Env} {C:Cx} {st:St} :
  ∀ (l:List ResultVar) (k:List AV→Prop),resL P E st l k→∃ rs,k rs∧∀ (G:Gh) (a:Act) (w:World) (S:Pin) (m:Nm),Rel G C.kp st a w S m→∃ vs,CVl S rs m vs∧vs.length=l.length ∧
   (l.mapM (resOne a.tmps)).run P w=.ok vs w
 | [],k,h=>⟨[],h,fun G a w S m hR=>⟨[],by simp only [CVl],rfl,by simp⟩⟩
 | .tmp t::l,k,h=>by
  simp only [resL] at h
  obtain ⟨rs,h1,hh⟩:=resL_det (C:=C) l _ h
  refine ⟨_,h1,fun G a w S m hR=>?_⟩
  obtain ⟨vs,h2,h3,h4⟩:=hh G a w S m hR
  refine ⟨a.tmps.getD t undef::vs,?_,by simp [h3],?_⟩
  ·simp only [CVl]; exact ⟨_,_,rfl,hR.tmps t,h2⟩
  ·simp only [List.mapM_cons,resOne,Sem.run_bind,Sem.run_pure,Result.andThen_ok]
   rw [h4]; rfl
 | .cell q t::l,k,h=>by
  simp only [resL] at h
  have get:∀ (K:AV→Prop),aload P E none t (st.get q) (lk st.heap) (fun r _ _=>K r)→∃ r,K r∧∀ (G:Gh) (a:Act) (w:World) (S:Pin) (m:Nm),Rel G C.kp st a w S m→∃ ad z,a.tmps.getD q undef=.pointer (some ad)∧(loadVar t ad).run P w=.ok z w∧CV S r m z:=by
   intro K H
   unfold aload at H
   split at H
   ·rename_i k off hx
    split at H
    ·rename_i cs hk
     obtain ⟨r,h1,h2⟩:=loadK_sound H
     refine ⟨r,h1,fun G a w S m hR=>?_⟩
     have hv:=hR.tmps q
     rw [hx] at hv
     simp only [CV] at hv
     obtain ⟨g,hm,hv⟩:=hv
     obtain ⟨g',arr,ty,e1,e2,e3,e4⟩:=hR.held k _ hk
     rw [hm] at e1
     injection e1 with e1
     injection e1 with e1
     injection e1 with e1
     injection e1 with e1
     subst e1
     obtain ⟨z,q1,q2⟩:=run_loads (w:=w) (g:=g) (o:=off) h2 (e3.drop off) (fun j v e=>by
      rw [List.getElem?_drop] at e
      rw [cell_of_row w g (off+j) arr ty (0,0) e2]
      simpa using e)
     refine ⟨⟨g,off,none⟩,z,hv,?_,q2⟩
     simpa [Instr.loadAt,Instr.sureAddr] using q1
    ·exact H.elim
   ·rename_i cs hx
    obtain ⟨r,h1,h2⟩:=loadK_sound H
    refine ⟨r,h1,fun G a w S m hR=>?_⟩
    have hv:=hR.tmps q
    rw [hx] at hv
    simp only [CV] at hv
    obtain ⟨b,off,hv,hc⟩:=hv
    obtain ⟨vs,e1,e2⟩:=hc.vals
    obtain ⟨z,q1,q2⟩:=run_loads (w:=w) (g:=b) (o:=off) h2 (e2.ext (Ext.refl S) (MLe.no m)) (fun j v e=>(hR.agree _ _ _ (e1 j v e)).1)
    refine ⟨⟨b,off,none⟩,z,hv,?_,q2⟩
    simpa [Instr.loadAt,Instr.sureAddr] using q1
   ·rename_i k s Q j fo hx
    split at H
    ·rename_i e s' xs hk
     obtain ⟨hs,H0⟩:=cond_F H
     have hs:=Nat.eq_of_beq_eq_true hs
     subst hs
     obtain ⟨⟨hQ,hj⟩,H1⟩:=chk_iff.1 H0
     obtain ⟨r,h1,h2⟩:=loadK_sound H1
     refine ⟨r,h1,fun G a w S m hR=>?_⟩
     have hv:=hR.tmps q
     rw [hx] at hv
     obtain ⟨g,cur,fr,hv,e2,vs,e6,e7⟩:=prw_at (hR.held k _ hk) hQ hj hv
     obtain ⟨z,q1,q2⟩:=run_loads (w:=w) (g:=g) (o:=j*s+fo) h2 ((e6.drop fo).ext (Ext.refl S) (rowNm_le e m)) (fun i v e=>by
      rw [List.getElem?_drop] at e
      rw [cell_of_row w g _ cur _ fr e2,Nat.add_assoc]
      exact e7 _ v e)
     refine ⟨⟨g,j*s+fo,none⟩,z,hv,?_,q2⟩
     simpa [Instr.loadAt,Instr.sureAddr] using q1
    ·rename_i e s' ks xs hk
     obtain ⟨hs,H0⟩:=cond_F H
     have hs:=Nat.eq_of_beq_eq_true hs
     subst hs
     obtain ⟨⟨hQ,hj⟩,H1⟩:=chk_iff.1 H0
     obtain ⟨r,h1,h2⟩:=loadK_sound H1
     refine ⟨r,h1,fun G a w S m hR=>?_⟩
     have hv:=hR.tmps q
     rw [hx] at hv
     obtain ⟨g,cur,fr,hv,e2,vs,e6,e7⟩:=prw_at (Held.open (hR.held k _ hk)) hQ hj hv
     obtain ⟨z,q1,q2⟩:=run_loads (w:=w) (g:=g) (o:=j*s+fo) h2 ((e6.drop fo).ext (Ext.refl S) (rowNm_le _ m)) (fun i v e=>by
      rw [List.getElem?_drop] at e
      rw [cell_of_row w g _ cur _ fr e2,Nat.add_assoc]
      exact e7 _ v e)
     refine ⟨⟨g,j*s+fo,none⟩,z,hv,?_,q2⟩
     simpa [Instr.loadAt,Instr.sureAddr] using q1
    ·exact H.elim
   ·exact H.elim
  obtain ⟨r,h,he⟩:=get _ h
  obtain ⟨rs,h1,hh⟩:=resL_det (C:=C) l _ h
  refine ⟨_,h1,fun G a w S m hR=>?_⟩
  obtain ⟨ad,z,e1,e2,e3⟩:=he G a w S m hR
  obtain ⟨vs,h2,h3,h4⟩:=hh G a w S m hR
  refine ⟨z::vs,?_,by simp [h3],?_⟩
  ·simp only [CVl]; exact ⟨_,_,rfl,e3,h2⟩
  ·simp only [List.mapM_cons,resOne,Sem.run_bind,e1,asAddr,Sem.run_pure,Result.andThen_ok,e2]
   rw [h4]; rfl
theorem resK_det {P:Program} {E:Env} {C:Cx} {st:St} {fn:Func} {k:AV→Prop} (h:resK P E st fn.results.toList k) :
  ∃ r,k r∧∀ (G:Gh) (a:Act) (w:World) (S:Pin) (m:Nm),Rel G C.kp st a w S m→∃ v,CV S r m v∧(results fn a.tmps).run P w=.ok v w:=by
 unfold resK at h
 obtain ⟨rs,h1,hh⟩:=resL_det (C:=C) _ _ h
 have hrun:∀ (a:Act) (w:World) (vs:List Value),(fn.results.toList.mapM (resOne a.tmps)).run P w=.ok vs w→(results fn a.tmps).run P w=.ok (if h:vs.toArray.size=1 then vs.toArray[0] else .tuple vs.toArray) w:=by
  intro a w vs h4
  rw [results_eq,Array.mapM_eq_mapM_toList]
  simp only [Sem.run_bind,Sem.run_map]
  rw [h4]
  rfl
 split at h1
 ·rename_i x
  refine ⟨x,h1,fun G a w S m hR=>?_⟩
  obtain ⟨vs,h2,h3,h4⟩:=hh G a w S m hR
  simp only [CVl] at h2
  obtain ⟨u,us,rfl,hu,rfl⟩:=h2
  exact ⟨u,hu,by rw [hrun a w _ h4]; simp⟩
 ·rename_i hne
  refine ⟨_,h1,fun G a w S m hR=>?_⟩
  obtain ⟨vs,h2,h3,h4⟩:=hh G a w S m hR
  have hl:=h2.len
  refine ⟨.tuple vs.toArray,by simp only [CV]; exact ⟨_,rfl,by simpa using h2⟩,?_⟩
  rw [hrun a w _ h4]
  have:¬ vs.toArray.size=1:=by
   intro e
   simp at e
   rw [e] at hl
   match rs,hl with
   | [x],_=>exact hne x rfl
  rw [dif_neg this]
def nilB (st:St) (t:Nat):Bool:=match lk st.heap (Nat.div (Nat.sub t 1000000) 100) with
 | some (.cells cs)=>nilAt cs (Nat.mod t 100)
 | _=>false
def empT (kp:List Nat):List (Nat × Nat × Nat × Nat)→St→(St→Prop)→Prop
 | [],st,K=>K st
 | p::l,st,K=>cond (nilB st p.1) (empN kp [p] st fun st=>empT kp l st K) (empT kp l st K)
theorem empT_det {kp:List Nat}:∀ {l:List (Nat × Nat × Nat × Nat)} {st:St} {K:St→Prop},empT kp l st K→∃ st',K st'∧Same kp st st'
 | [],st,K,h=>⟨st,h,fun G a w S m hR=>⟨S,m,hR⟩⟩
 | p::l,st,K,h=>by
  simp only [empT] at h
  cases hb:nilB st p.1 with
  | true =>
   rw [hb] at h
   simp only [cond_true] at h
   obtain ⟨s1,h1,e1⟩:=empN_det h
   obtain ⟨s2,h2,e2⟩:=empT_det h1
   exact ⟨s2,h2,e1.trans e2⟩
  | false =>
   rw [hb] at h
   exact empT_det h
def endQ (kp:List Nat) (F:AV→List Blk→Prop) (st:St) (x:AV):Prop :=
 (fun ks=>rnA (fun k=>idx k ks 0) x fun y=>blksOf (lk st.heap) ks fun bs=>rnBs (fun k=>idx k ks 0) bs fun cs=>F y cs) (foot (lk st.heap) 3 (dedup (nmsA x) kp))
@[irreducible] def fnQ (P:Program) (E:Env) (C:Cx) (inv:Nat→St→Option LInv) (fuel:Nat) (fn:Func) (xs:List AV) (bs:List Blk) (F:AV→List Blk→Prop):Prop :=
 match fn.body with
 | some c=>cond (Nat.beq C.nt fn.ntmps&&Nat.ble xs.length fn.ntmps&&beqNs C.kp (names0 0 bs.length)&&(E.nowf&&!E.nq))
   (acode P E C inv fuel c ⟨slots xs 0,blkSlots bs 0⟩ (fun st=>empT C.kp (C.emp 900000) st fun st=>resF2 P E C st fn.results.toList (endQ C.kp F)) (fun _ _=>False) (fun st=>empT C.kp (C.emp 900000) st fun st=>resF2 P E C st fn.results.toList (endQ C.kp F))) False
 | none=>False
theorem fnQ_sound {P:Program} {E:Env} {C:Cx} {inv:Nat→St→Option LInv} {fuel:Nat} (hT:TyOK P C.tys) (hS:SpecOK P E) (hM:P.follows .mixedOrders=true) {f:FuncId} {fn:Func} (hf:P.funcs[f]?=some fn) {xs:List AV} {bs:List Blk} {F:AV→List Blk→Prop}
    (h:fnQ P E C inv fuel fn xs bs F):∃ r bs',F r bs'∧HC P E.glob f xs bs r bs':=by
  unfold fnQ at h
  split at h
  · rename_i c hc
    obtain ⟨hb,h⟩:=cond_F h
    simp only [Bool.and_eq_true] at hb
    have hnt:=Nat.eq_of_beq_eq_true hb.1.1.1
    have hle:=Nat.le_of_ble_eq_true hb.1.1.2
    have hkp:=beqNs_eq hb.1.2
    have hnw:=hb.2.1
    have hnq:E.nq=false:=by simpa using hb.2.2
    have key:∃ o fin,(o=.normal∨o=.ret)∧empT C.kp (C.emp 900000) fin (fun st=>resF2 P E C st fn.results.toList (endQ C.kp F))∧Leads P E C c ⟨slots xs 0,blkSlots bs 0⟩ o fin:=by
      obtain ⟨o,fin,ho,hl⟩:=acode_det hnw hnq hT hS hM c _ _ _ _ h
      cases o with
      | normal=>exact ⟨.normal,fin,.inl rfl,ho,hl⟩
      | ret=>exact ⟨.ret,fin,.inr rfl,ho,hl⟩
      | exit _=>exact ho.elim
      | _=>exact ho.elim
    obtain ⟨o,fin0,ho,hk0,hl⟩:=key
    obtain ⟨fin1,hk0,hsame0⟩:=empT_det hk0
    unfold resF2 at hk0
    obtain ⟨st,hk,hsame1⟩:=frzN_det hk0
    have hsame:=hsame0.trans hsame1
    obtain ⟨x,h1,hres⟩:=resK_det (C:=C) hk
    unfold endQ at h1
    generalize hks:foot (lk st.heap) 3 (dedup (nmsA x) C.kp)=ks at h1
    have hknd:ks.Nodup:=by rw [← hks]; exact foot_nodup _ _ _ (dedup_nodup _ _ (by rw [hkp]; exact names0_nodup _ _))
    have hpre:∀ q,q < bs.length→ks[q]?=some q:=by
      intro q hq
      obtain ⟨t,ht⟩:=dedup_pre (nmsA x) C.kp
      obtain ⟨t',ht'⟩:=foot_pre (lk st.heap) 3 (dedup (nmsA x) C.kp)
      rw [← hks,ht',ht,hkp,List.append_assoc,List.getElem?_append_left (by rw [names0_len]; exact hq),names0_get _ _ _ hq,Nat.zero_add]
    obtain ⟨y,h4,hy⟩:=rnA_sound _ _ h1
    obtain ⟨cs,h5,hcl,hcs⟩:=blksOf_sound _ _ h4
    obtain ⟨ds,h6,hdl,hds⟩:=rnBs_sound _ _ h5
    refine ⟨y,ds,h6,?_⟩
    intro w S m vs hG hA hnm hheld hinj hv
    have hlen:=hv.len
    simp only [Array.length_toList] at hlen
    let G:Gh:=⟨w,S,m,Mof bs.length m⟩
    have hbl:∀ k b,lk (blkSlots bs 0) k=some b→bs[k]?=some b:=by
      intro k b e
      rw [blkSlots_lk] at e
      simpa using e
    have hbl2:∀ (k:Nat) (b:Blk),bs[k]?=some b→k < bs.length:=fun k b e=>(List.getElem?_eq_some_iff.1 e).1
    have hR0:Rel G C.kp ⟨slots xs 0,blkSlots bs 0⟩ { tmps:=vs++Array.replicate (fn.ntmps - vs.size) undef,defers:=[] } w S m :=
      { defers:=rfl
        pin0:=Ext.refl S
        pinNew:=fun _ _ _ _=>rfl
        agree:=hA
        tmps:=fun t=>by
          unfold St.get
          rw [slots_lk]
          simp only [Nat.zero_le,if_true,Nat.sub_zero]
          cases e:xs[t]? with
          | none=>simp only [CV]
          | some x =>
            obtain ⟨v,hv1,hv2⟩:=hv.get e
            have hlt:t < vs.size:=by have:=(List.getElem?_eq_some_iff.1 hv1).1; simpa using this
            have:vs[t]?=some v:=by simpa using hv1
            simp only [Array.getD_eq_getD_getElem?,Array.getElem?_append_left hlt,this,Option.getD_some]
            exact hv2
        held:=fun k b hk=>hheld k b (hbl k b hk)
        inj:=fun k k' b b' u u' g hk hk' hne hu hu' hg=>hinj k k' u u' g (hbl2 k b (hbl k b hk)) (hbl2 k' b' (hbl k' b' hk')) hne hu hu' hg
        own:=fun k b u g hk hu hg=>.inr ⟨k,u,hbl2 k b (hbl k b hk),hu,hg⟩
        os:=rfl
        tape:=rfl
        output:=rfl
        size:=Nat.le_refl _
        frame:=fun _ _ _=>rfl
        m0:=MLe.refl _
        keep:=fun k u e=>by
          have hlt:=hnm k u e
          rw [hkp]
          exact List.mem_of_getElem? (by rw [names0_get _ 0 k hlt,Nat.zero_add]) }
    refine calls_of_wp hf hc (Go.wp_mono (hl G hG _ w S m hR0 ?_) ?_)
    · simp; omega
    · have fin:∀ a w' S0 m0,Rel G C.kp fin0 a w' S0 m0→a.defers=[]∧∃ v,(results fn a.tmps).run P w'=.ok v w' ∧
          ∃ u S' m',Ending.returned v=.returned u∧w'.os=w.os∧w'.tape=w.tape∧w'.output=w.output∧w.heap.size≤w'.heap.size∧Ext S S' ∧
      (∀ b,b < w.heap.size→¬ Mof bs.length m b→w'.heap[b]?=w.heap[b]?∧∀ o,S' b o=S b o)∧Agree S' w' ∧
      (∀ (q:Nat) (b:Blk),ds[q]?=some b→Held S' m' w' q b)∧InjB ds.length m'∧(∀ q u g,q < ds.length→m' q=some u→bk u=some g→w.heap.size≤g∨Mof bs.length m g)∧MLe m m'∧CV S' y m' u:=by
        intro a w' S0 m0 hR0
        obtain ⟨S',m',hR⟩:=hsame G a w' S0 m0 hR0
        obtain ⟨v,h2,h3⟩:=hres G a w' S' m' hR
        let m2:Nm:=fun q=>(ks[q]?).bind m'
        have hRn:Rn (fun k=>idx k ks 0) m' m2:=by
          intro i j hij
          have:=(idx_get hij).2
          simp only [Nat.sub_zero] at this
          simp only [m2,this,Option.bind_some]
        have hm2:∀ q k,ks[q]?=some k→m2 q=m' k:=fun q k e=>by simp only [m2,e,Option.bind_some]
        have hlen':ds.length=ks.length:=by rw [hdl,hcl]
        have hkb:∀ (q k:Nat),ks[q]?=some k→∃ b,lk st.heap k=some b:=fun q k e=>by obtain ⟨b,_,hb⟩:=hcs q k e; exact ⟨b,hb⟩
        refine ⟨hR.defers,v,h3,v,S',m2,rfl,hR.os,hR.tape,hR.output,hR.size,hR.pin0,fun b hb hn=>⟨hR.frame b hb hn,fun o=>hR.pinNew b o hb hn⟩,hR.agree,?_,?_,?_,?_,hy S' m' m2 v hRn h2⟩
        · intro q b hb
          have hql:q < ks.length:=by rw [← hlen']; exact (List.getElem?_eq_some_iff.1 hb).1
          obtain ⟨c0,hc0,hh⟩:=hcs q ks[q] (by simp [hql])
          have hidx:idx ks[q] ks 0=some q:=by
            have key:∀ (l:List Nat) (q i:Nat) (h:q < l.length),l.Nodup→idx l[q] l i=some (i+q):=by
              intro l
              induction l with
              | nil=>intro q i h; simp at h
              | cons j l ih =>
                intro q i h hn
                rw [List.nodup_cons] at hn
                cases q with
                | zero=>simp [idx,nbeq_self]
                | succ q =>
                  simp at h
                  simp only [idx,List.getElem_cons_succ]
                  rw [nbeq_ne (fun e=>hn.1 (by rw [e]; exact List.getElem_mem h))]
                  simp only [cond_false]
                  rw [ih q (i+1) h hn.2]
                  congr 1; omega
            simpa using key ks q 0 hql hknd
          exact hds q c0 b hc0 hb S' m' m2 w' ks[q] q hRn hidx (hR.held _ _ hh)
        · intro q q' u u' g hq hq' hne hu hu' hg
          rw [hlen'] at hq hq'
          rw [hm2 q ks[q] (by simp [hq])] at hu
          rw [hm2 q' ks[q'] (by simp [hq'])] at hu'
          obtain ⟨b,hb⟩:=hkb q ks[q] (by simp [hq])
          obtain ⟨b',hb'⟩:=hkb q' ks[q'] (by simp [hq'])
          exact hR.inj _ _ b b' u u' g hb hb' (fun e=>hne (nodup_inj (k:=ks[q]) hknd (p:=q) (q:=q') (by simp [hq]) (by rw [e]; simp [hq']))) hu hu' hg
        · intro q u g hq hu hg
          rw [hlen'] at hq
          rw [hm2 q ks[q] (by simp [hq])] at hu
          obtain ⟨b,hb⟩:=hkb q ks[q] (by simp [hq])
          exact hR.own _ b u g hb hu hg
        · intro k u hu
          obtain ⟨u',h9,h10⟩:=hR.m0 k u hu
          exact ⟨u',by rw [hm2 k k (hpre k (hnm k u hu))]; exact h9,h10⟩
      intro e a w' he
      obtain ⟨rfl,S',m',hR,_⟩:=he
      rcases ho with rfl | rfl
      · exact fin a w' S' m' hR
      · exact fin a w' S' m' hR
  · exact h.elim
end Go.Proofs.YtldiagnbagpliaaDoor
namespace Go.Proofs.YtldiagnbagpliaaDoor
open Go
set_option linter.unusedVariables false
set_option linter.unusedSimpArgs false
def drp:List (Nat × Nat)→Nat→Nat
 | [],_=>0
 | (j,m)::l,i=>cond (Nat.beq j i) m (drp l i)
theorem c0 {b:Bool} {A B:Prop} (h:b=false) (k:B):cond b A B:=by rw [h]; exact k
theorem c1 {b:Bool} {A B:Prop} (h:b=true) (k:A):cond b A B:=by rw [h]; exact k
theorem cd0 {p:Prop} [Decidable p] {A B:Prop} (h:¬ p) (k:B):cond (decide p) A B:=c0 (decide_eq_false h) k
theorem cd1 {p:Prop} [Decidable p] {A B:Prop} (h:p) (k:A):cond (decide p) A B:=c1 (decide_eq_true h) k
theorem cdR {k:IntKind} {n:Int} {A B:Prop} (h:rng k n) (K:A):cond (decide (rng k n)) A B:=c1 (decide_eq_true h) K
theorem cdI {n:Int} {A B:Prop} (h:-9223372036854775808≤n∧n≤9223372036854775807) (K:A):cond (decide (rng .i64 n)) A B:=cdR h K
theorem csplit {b:Bool} {A B:Prop} (h:b=true→A) (k:b=false→B):cond b A B:=by cases b; exact k rfl; exact h rfl
def invs:List (Nat × LInv)→Nat→St→Option LInv
 | [],_,_=>none
 | (j,L)::l,i,st=>cond (Nat.beq j i) (some L) (invs l i st)
def invsN:List (Nat × Nat × (Int→LInv))→Nat→St→Option LInv
 | [],_,_=>none
 | (j,s,L)::l,i,st=>cond (Nat.beq j i) (match lk st.tmps s with
  | some (.int _ n)=>some (L n)
  | _=>none) (invsN l i st)
theorem ccond {b:Bool} {A B:Prop}:cond b A B↔((b=true→A)∧(b=false→B)):=by cases b <;> simp
theorem cdec {p:Prop} [Decidable p] {A B:Prop}:cond (decide p) A B↔((p→A)∧(¬p→B)):=by
 by_cases h:p <;> simp [h]
theorem cdecF {p:Prop} [Decidable p] {A:Prop}:cond (decide p) A False↔(p∧A):=by
 by_cases h:p <;> simp [h]
theorem fok {P:Program} {f:FuncId} {fn:Func} (hf:P.funcs[f]?=some fn) (hn:(fn.name == "runtime.NumGoroutine")=false) (hb:fn.body.isSome=true):Fok P f :=
 ⟨fn,hf,fun e=>by rw [e] at hn; simp at hn,fun e=>by rw [e] at hb; simp at hb⟩
abbrev Sp:=List AV→Option (Prop × AV)
abbrev SpH:=List AV→List Blk→Option (Prop × AV × List Blk)
def SOK (P:Program) (gl:Glob) (f:FuncId) (sp:Sp):Prop:=Fok P f∧∀ xs pre r,sp xs=some (pre,r)→pre→PureC P gl f xs r
def HOK (P:Program) (gl:Glob) (f:FuncId) (sp:SpH):Prop:=Fok P f∧∀ xs bs pre r bs',sp xs bs=some (pre,r,bs')→pre→HC P gl f xs bs r bs'
def AllS (P:Program) (gl:Glob):List (Nat × Sp)→Prop
 | []=>True
 | (f,sp)::l=>SOK P gl f sp∧AllS P gl l
def AllH (P:Program) (gl:Glob):List (Nat × SpH)→Prop
 | []=>True
 | (f,sp)::l=>HOK P gl f sp∧AllH P gl l
theorem AllS.get {P:Program} {gl:Glob}:∀ {l:List (Nat × Sp)} {f:Nat} {sp:Sp},AllS P gl l→lk l f=some sp→SOK P gl f sp
 | [],f,sp,_,e=>by simp [lk] at e
 | (j,s)::l,f,sp,h,e=>by
  simp only [lk] at e
  cases hj:Nat.beq j f with
  | true =>
   rw [hj] at e
   simp only [cond_true,Option.some.injEq] at e
   have hj:=Nat.eq_of_beq_eq_true hj
   subst hj; subst e; exact h.1
  | false=>rw [hj] at e; simp only [cond_false] at e; exact AllS.get h.2 e
theorem AllH.get {P:Program} {gl:Glob}:∀ {l:List (Nat × SpH)} {f:Nat} {sp:SpH},AllH P gl l→lk l f=some sp→HOK P gl f sp
 | [],f,sp,_,e=>by simp [lk] at e
 | (j,s)::l,f,sp,h,e=>by
  simp only [lk] at e
  cases hj:Nat.beq j f with
  | true =>
   rw [hj] at e
   simp only [cond_true,Option.some.injEq] at e
   have hj:=Nat.eq_of_beq_eq_true hj
   subst hj; subst e; exact h.1
  | false=>rw [hj] at e; simp only [cond_false] at e; exact AllH.get h.2 e
abbrev SpQ:=List AV→List Blk→Option ((AV→List Blk→Prop)→Prop)
def QOK (P:Program) (gl:Glob) (f:FuncId) (sp:SpQ):Prop:=Fok P f∧∀ xs bs T,sp xs bs=some T→∀ K,T K→∃ r bs',K r bs'∧HC P gl f xs bs r bs'
def AllQ (P:Program) (gl:Glob):List (Nat × SpQ)→Prop
 | []=>True
 | (f,sp)::l=>QOK P gl f sp∧AllQ P gl l
theorem AllQ.get {P:Program} {gl:Glob}:∀ {l:List (Nat × SpQ)} {f:Nat} {sp:SpQ},AllQ P gl l→lk l f=some sp→QOK P gl f sp
 | [],f,sp,_,e=>by simp [lk] at e
 | (j,s)::l,f,sp,h,e=>by
  simp only [lk] at e
  cases hj:Nat.beq j f with
  | true =>
   rw [hj] at e
   simp only [cond_true,Option.some.injEq] at e
   have hj:=Nat.eq_of_beq_eq_true hj
   subst hj; subst e; exact h.1
  | false=>rw [hj] at e; simp only [cond_false] at e; exact AllQ.get h.2 e
def QsOK (P:Program) (E:Env):Prop:=∀ f sp,E.specQ f=some sp→QOK P E.glob f sp
theorem qsNone {P:Program} {E:Env} (h:E.specQ=fun _=>none):QsOK P E:=fun f sp e=>by rw [h] at e; cases e
theorem qsOf {P:Program} {E:Env} {l:List (Nat × SpQ)} (h:E.specQ=lk l) (a:AllQ P E.glob l):QsOK P E:=fun f sp e=>a.get (by rw [← h]; exact e)
theorem specOK {P:Program} {E:Env} {l:List (Nat × Sp)} {l':List (Nat × SpH)} (h1:E.spec=lk l) (h2:E.specH=lk l') (a:AllS P E.glob l) (b:AllH P E.glob l') (c:XOK P E.add64:=by exact trivial) (d:QsOK P E:=by exact qsNone rfl) (e0:P=Tryd.prog:=by exact rfl):SpecOK P E :=
 ⟨fun f sp e=>a.get (by rw [← h1]; exact e),fun f sp e=>b.get (by rw [← h2]; exact e),c,d,e0⟩
theorem HC.le {P:Program} {gl:Glob} {f:FuncId} {xs:List AV} {bs:List Blk} {r r':AV} {bs' bs2:List Blk} (h:HC P gl f xs bs r bs') (h1:le r r') (h2:leBs bs' bs2):HC P gl f xs bs r' bs2:=by
 intro w S m vs hG hA hnm hheld hinj hv
 refine (h w S m vs hG hA hnm hheld hinj hv).mono ?_
 rintro e w' ⟨u,S',m',he,h3,h4,h5,h6,h7,h8,h9,h10,h11,h12,h13,h14⟩
 have hlen:=leBs_len h2
 refine ⟨u,S',m',he,h3,h4,h5,h6,h7,h8,h9,fun q b hb=>?_,hlen ▸ h11,hlen ▸ h12,h13,le_sound _ _ _ _ h1 h14⟩
 obtain ⟨d,hd,hle⟩:=leBs_get h2 hb
 exact leB_held hle (h10 q d hd)
def orSp (a b:Sp):Sp:=fun xs=>match a xs with | some r=>some r | none=>b xs
theorem SOK.or {P:Program} {gl:Glob} {f:FuncId} {a b:Sp} (h:SOK P gl f a) (k:SOK P gl f b):SOK P gl f (orSp a b) :=
 ⟨h.1,fun xs pre r e hp=>by
  unfold orSp at e
  split at e
  ·next q hq=>injection e with e; subst e; exact h.2 xs pre r hq hp
  ·exact k.2 xs pre r e hp⟩
def orSpH (a b:SpH):SpH:=fun xs bs=>match a xs bs with | some r=>some r | none=>b xs bs
theorem HOK.or {P:Program} {gl:Glob} {f:FuncId} {a b:SpH} (h:HOK P gl f a) (k:HOK P gl f b):HOK P gl f (orSpH a b) :=
 ⟨h.1,fun xs bs pre r bs' e hp=>by
  unfold orSpH at e
  split at e
  ·next q hq=>injection e with e; subst e; exact h.2 xs bs pre r bs' hq hp
  ·exact k.2 xs bs pre r bs' e hp⟩
def orSpQ (a b:SpQ):SpQ:=fun xs bs=>match a xs bs with | some r=>some r | none=>b xs bs
theorem QOK.or {P:Program} {gl:Glob} {f:FuncId} {a b:SpQ} (h:QOK P gl f a) (k:QOK P gl f b):QOK P gl f (orSpQ a b) :=
 ⟨h.1,fun xs bs T e K hT=>by
  unfold orSpQ at e
  split at e
  ·next q hq=>injection e with e; subst e; exact h.2 xs bs _ hq K hT
  ·exact k.2 xs bs T e K hT⟩
theorem tyNil {P:Program}:TyOK P []:=by constructor <;> simp [inT]
theorem tyOf {P:Program} {l:List TypeId} (h:(l.all fun t=>!P.stoodInHeld t&&!P.eqGuardType P.depth t)=true):TyOK P l :=
 ⟨fun t ht=>by have:=List.all_eq_true.1 h t ht; simp at this; exact this.1,fun t ht=>by have:=List.all_eq_true.1 h t ht; simp at this; exact this.2⟩
def irow (zs:List Int):List (List AV):=zs.map fun n=>[.int .i64 n]
def cellI:List AV→Int
 | [.int _ n]=>n
 | _=>0
def IntsA (xs:List (List AV)):Prop:=∀ x ∈ xs,∃ n:Int,x=[.int .i64 n]∧rng .i64 n
structure SrcI (xs:List (List AV)):Prop where
 short:xs.length≤2000
 ints:IntsA xs
theorem SrcI.take {xs:List (List AV)} (h:IntsA xs):SrcI (xs.take 2000):=⟨by rw [List.length_take]; omega,fun x hx=>h x (List.mem_of_mem_take hx)⟩
def rawV (xs:List (List AV)) (i:Int):Int:=if (xs.length:Int)≤i then 0 else cellI (xs.getD i.toNat [])
def rawA (xs:List (List AV)) (i:Int):Int:=if (xs.length:Int)≤i then i else i+1
def modZ (x n:Int):Int:=if n < 1 then 0 else x % n
def srcN (xs:List (List AV)) (i n:Int):Int:=modZ (rawV xs i) n
theorem srcN_lt {xs:List (List AV)} {i n:Int} (h:1≤n):0≤srcN xs i n∧srcN xs i n < n:=by
 unfold srcN modZ
 rw [if_neg (by omega)]
 exact ⟨Int.emod_nonneg _ (by omega),Int.emod_lt_of_pos _ (by omega)⟩
theorem rawA_le {xs:List (List AV)} {i:Int} (h:0≤i):0≤rawA xs i:=by unfold rawA; split <;> omega
theorem modZ_go (x n:Int) (h:1≤n):(x.tmod n < 0→modZ x n=x.tmod n+n)∧(¬ x.tmod n < 0→modZ x n=x.tmod n):=by
 unfold modZ
 rw [if_neg (by omega),Int.emod_eq_tmod]
 have hn:(n.natAbs:Int)=n:=by omega
 constructor
 ·intro h1
  rw [if_neg,hn]
  rintro (h2 | h2)
  ·have:=Int.tmod_nonneg n h2; omega
  ·have:=Int.tmod_eq_zero_of_dvd h2; omega
 ·intro h1
  by_cases h2:0≤x∨n ∣ x
  ·rw [if_pos h2]; simp
  ·rw [if_neg h2]
   simp only [not_or] at h2
   exfalso
   have h3:x.tmod n=0:=by
    have h4:=Int.tmod_nonneg n (a:=-x) (by omega)
    rw [Int.neg_tmod] at h4
    omega
   exact h2.2 (Int.dvd_of_tmod_eq_zero h3)
theorem tmod_bd (x n:Int) (h:1≤n):-n < x.tmod n∧x.tmod n < n:=by
 have h1:=Int.tmod_lt_of_pos x (b:=n) (by omega)
 have h2:=modZ_go x n h
 have h3:0≤modZ x n:=by unfold modZ; rw [if_neg (by omega)]; exact Int.emod_nonneg _ (by omega)
 by_cases h4:x.tmod n < 0
 ·have h5:=h2.1 h4
  have h6:modZ x n < n:=by unfold modZ; rw [if_neg (by omega)]; exact Int.emod_lt_of_pos _ (by omega)
  by_cases h7:modZ x n=0
  ·exfalso
   have h8:x % n=0:=by unfold modZ at h7; rw [if_neg (by omega)] at h7; exact h7
   have:=Int.tmod_eq_zero_of_dvd (Int.dvd_of_emod_eq_zero h8)
   omega
  ·omega
 ·omega
end Go.Proofs.YtldiagnbagpliaaDoor
namespace Go.Proofs.YtldiagnbagpliaaDoor
open Go
set_option linter.unusedVariables false
set_option linter.unusedSimpArgs false
def mod_s:Sp
 | [.int .i64 x,.int .i64 n]=>some (True,.int .i64 (modZ x n))
 | _=>none
def mod_T:Prop :=
 ∀ (gl:Glob) (x n:Int),(-9223372036854775808:Int)≤x∧x≤(9223372036854775807:Int)→(-9223372036854775808:Int)≤n∧n≤(9223372036854775807:Int)→bif decide (n <
 (1:Int)) then (0:Int)=modZ x n else bif decide ¬n=(0:Int) then bif decide (x.tmod n < (0:Int)) then bif decide (rng IntKind.i64 (x.tmod n+n)) then x.tmod n+n=modZ
 x n else False else x.tmod n=modZ x n else False
theorem mod_P:mod_T:=by
 unfold mod_T
 intro gl x n hx hn
 rw [ccond]
 simp only [decide_eq_true_eq,decide_eq_false_iff_not]
 refine ⟨fun h=>by unfold modZ; rw [if_pos h],fun h=>?_⟩
 have h1:=modZ_go x n (by omega)
 have h2:=tmod_bd x n (by omega)
 simp only [↓cdecF,cdec]
 simp only [rng]
 refine ⟨by omega,fun h3=>⟨by omega,(h1.1 h3).symm⟩,fun h3=>(h1.2 h3).symm⟩
def mod_S:Prop:=∀ (gl:Glob) (x n:Int),fnK Tryd.prog { glob:=gl,spec:=lk [],specH:=lk [] } { nt:=16,drop:=drp [(1,32),(3,896),(4,1024),(5,28672),(6,32768)] } (fun _ _=>none) 6 Tryd.f13 [.int .i64 x,.int .i64 n] (.int .i64 (modZ x n))
theorem mod_e:mod_T=mod_S:=by kernel_rfl
theorem mod_v:mod_S:=Eq.mp (mod_e ..) (mod_P)
theorem mod_ok (gl:Glob):SOK Tryd.prog gl 13 mod_s:=by
 refine ⟨fok Tryd.func13 (by kernel_rfl) (by kernel_rfl),?_⟩
 intro xs pre r h hp
 unfold mod_s at h
 split at h
 ·simp only [Option.some.injEq,Prod.mk.injEq] at h
  obtain ⟨h1,h2⟩:=h
  subst h1 h2
  exact fnK_sound tyNil (by exact specOK rfl rfl trivial trivial) (by kernel_rfl) Tryd.func13 rfl (mod_v gl _ _)
 ·cases h
def raw_s:SpH
 | [.ptr 0 0],[.cells [.sl 1 false xs,.int .i64 i]]=>some (SrcI xs∧0≤i,.int .i64 (rawV xs i),[.cells [.sl 1 false xs,.int .i64 (rawA xs i)]])
 | _,_=>none
def raw_T:Prop :=
  ∀ (gl:Glob) (xs:List (List AV)) (i:Int),SrcI xs∧(0:Int)≤i→True→True→(-9223372036854775808:Int)≤i∧i≤(9223372036854775807:Int)→bif decide ((↑xs.length
 :Int)≤i) then (0:Int)=rawV xs i∧((True∧xs=xs)∧i=rawA xs i∧True)∧True else bif decide (rng IntKind.i64 (i+(1:Int))) then bif decide (rng IntKind.i64 (i+(1
 :Int) - (1:Int))) then bif decide ((0:Int)≤i+(1:Int) - (1:Int)∧i+(1:Int) - (1:Int) < (↑xs.length:Int)) then ∃ n,List.take [AV.int IntKind.i64 n].length
  (xs.getD (i+(1:Int) - (1:Int)).toNat [])=[AV.int IntKind.i64 n]∧n=rawV xs i∧((True∧xs=xs)∧i+(1:Int)=rawA xs i∧True)∧True else False else False else
  False
theorem raw_P:raw_T:=by
 unfold raw_T
 intro gl xs i ⟨h,h0⟩ _ _ hi
 simp only [↓cdecF,cdec]
 simp only [rng]
 refine ⟨fun h1=>⟨?_,?_,trivial⟩,fun h1=>?_⟩
 ·unfold rawV; rw [if_pos h1]
 ·exact ⟨⟨trivial,trivial⟩,by unfold rawA; rw [if_pos h1],trivial⟩
 ·have hl:=h.short
  have hlt:i.toNat < xs.length:=by omega
  obtain ⟨n,hn,hr⟩:=h.ints xs[i.toNat] (List.getElem_mem hlt)
  have hg:xs.getD i.toNat []=[.int .i64 n]:=by rw [List.getD_eq_getElem?_getD,List.getElem?_eq_getElem hlt,hn]; rfl
  refine ⟨by omega,by omega,by omega,n,?_,?_,⟨⟨trivial,trivial⟩,?_,trivial⟩,trivial⟩
  ·rw [show i+1 - 1=i by omega,hg]; rfl
  ·unfold rawV; rw [if_neg h1,hg]; rfl
  ·unfold rawA; rw [if_neg h1]
def raw_S:Prop:=∀ (gl:Glob) (xs:List (List AV)) (i:Int),SrcI xs∧0≤i→fnH Tryd.prog { glob:=gl,spec:=lk [],specH:=lk [],shape:=[30] } { nt:=31,drop:=drp [(1,4088),(3,1040384),(4,2146435072)],fr:=1000,kp:=[0] } (fun _ _=>none) 6 Tryd.f14 [.ptr 0 0] [.cells [.sl 1 false xs,.int .i64 i]] (.int .i64 (rawV xs i)) [.cells [.sl 1 false xs,.int .i64 (rawA xs i)]]
theorem raw_e:raw_T=raw_S:=by kernel_rfl
theorem raw_v:raw_S:=Eq.mp (raw_e ..) (raw_P)
theorem raw_ok (gl:Glob):HOK Tryd.prog gl 14 raw_s:=by
 refine ⟨fok Tryd.func14 (by kernel_rfl) (by kernel_rfl),?_⟩
 intro xs bs pre r bs2 h hp
 unfold raw_s at h
 split at h
 ·simp only [Option.some.injEq,Prod.mk.injEq] at h
  obtain ⟨h1,h2,h3⟩:=h
  subst h1 h2 h3
  exact fnH_sound tyNil (by exact specOK rfl rfl trivial trivial) (by kernel_rfl) Tryd.func14 (raw_v gl _ _ hp)
 ·cases h
def srcn_s:SpH
 | [.ptr 0 0,.int .i64 n],[.cells [.sl 1 false xs,.int .i64 i]]=>some (SrcI xs∧0≤i,.int .i64 (srcN xs i n),[.cells [.sl 1 false xs,.int .i64 (rawA xs i)]])
 | _,_=>none
def srcn_T:Prop :=
  ∀ (gl:Glob) (xs:List (List AV)) (i n:Int),SrcI xs∧(0:Int)≤i→True→(-9223372036854775808:Int)≤n∧n≤(9223372036854775807:Int)→True→(-9223372036854775808
 :Int)≤i∧i≤(9223372036854775807:Int)→(SrcI xs∧(0:Int)≤i)∧((-9223372036854775808:Int)≤rawV xs i∧rawV xs i≤(9223372036854775807:Int)→True ∧
  ((-9223372036854775808:Int)≤modZ (rawV xs i) n∧modZ (rawV xs i) n≤(9223372036854775807:Int)→modZ (rawV xs i) n=srcN xs i n∧((True∧xs=xs)∧rawA xs i=rawA xs i
 ∧True)∧True))
theorem srcn_P:srcn_T:=by
 unfold srcn_T
 intro gl xs i n h _ hn _ hi
 exact ⟨h,fun _=>⟨trivial,fun _=>⟨rfl,⟨⟨trivial,rfl⟩,rfl,trivial⟩,trivial⟩⟩⟩
def srcn_S:Prop:=∀ (gl:Glob) (xs:List (List AV)) (i n:Int),SrcI xs∧0≤i→fnH Tryd.prog { glob:=gl,spec:=lk [(13,mod_s)],specH:=lk [(14,raw_s)] } { nt:=9,drop:=drp [(1,480)],fr:=1000,kp:=[0] } (fun _ _=>none) 6 Tryd.f5 [.ptr 0 0,.int .i64 n] [.cells [.sl 1 false xs,.int .i64 i]] (.int .i64 (srcN xs i n)) [.cells [.sl 1 false xs,.int .i64 (rawA xs i)]]
theorem srcn_e:srcn_T=srcn_S:=by kernel_rfl
theorem srcn_v:srcn_S:=Eq.mp (srcn_e ..) (srcn_P)
theorem srcn_ok (gl:Glob):HOK Tryd.prog gl 5 srcn_s:=by
 refine ⟨fok Tryd.func5 (by kernel_rfl) (by kernel_rfl),?_⟩
 intro xs bs pre r bs2 h hp
 unfold srcn_s at h
 split at h
 ·simp only [Option.some.injEq,Prod.mk.injEq] at h
  obtain ⟨h1,h2,h3⟩:=h
  subst h1 h2 h3
  exact fnH_sound tyNil (by exact specOK rfl rfl ⟨(mod_ok gl),trivial⟩ ⟨(raw_ok gl),trivial⟩) (by kernel_rfl) Tryd.func5 (srcn_v gl _ _ _ hp)
 ·cases h
def newsrc_s:SpH
 | [.sl 1 false xs],[]=>some (True,.ptr 0 0,[.cells [.sl 1 false (xs.take 2000),.int .i64 0]])
 | _,_=>none
def newsrc_T:Prop :=
 ∀ (gl:Glob) (xs:List (List AV)),True→bif decide ((0:Int)≤min (↑xs.length:Int) (2000:Int)∧min (↑xs.length:Int) (2000:Int)≤(↑xs.length:Int)) then bif decide
 ((0:Int)≤(0:Int)∧(0:Int)≤min (↑xs.length:Int) (2000:Int)) then (0:Nat)=(0:Nat)∧((True∧List.drop (0:Nat) (List.take (min (↑xs.length:Int) (2000 :
 Int)).toNat xs)=List.take (2000:Nat) xs)∧(0:Int)=(0:Int)∧True)∧True else False else False
theorem newsrc_P:newsrc_T:=by
 unfold newsrc_T
 intro gl xs _
 simp only [↓cdecF]
 refine ⟨by omega,by omega,by trivial,⟨⟨trivial,?_⟩,by trivial,trivial⟩,trivial⟩
 rw [List.drop_zero]
 by_cases h:xs.length≤2000
 ·rw [List.take_of_length_le (by omega),List.take_of_length_le h]
 ·rw [show (min (xs.length:Int) 2000).toNat=2000 by omega]
def newsrc_S:Prop:=∀ (gl:Glob) (xs:List (List AV)),fnH Tryd.prog { glob:=gl,spec:=lk [],specH:=lk [] } { nt:=10,drop:=drp [(1,1016)],fr:=1000,kp:=[] } (fun _ _=>none) 6 Tryd.f4 [.sl 1 false xs] [] (.ptr 0 0) [.cells [.sl 1 false (xs.take 2000),.int .i64 0]]
theorem newsrc_e:newsrc_T=newsrc_S:=by kernel_rfl
theorem newsrc_v:newsrc_S:=Eq.mp (newsrc_e ..) (newsrc_P)
theorem newsrc_ok (gl:Glob):HOK Tryd.prog gl 4 newsrc_s:=by
 refine ⟨fok Tryd.func4 (by kernel_rfl) (by kernel_rfl),?_⟩
 intro xs bs pre r bs2 h hp
 unfold newsrc_s at h
 split at h
 ·simp only [Option.some.injEq,Prod.mk.injEq] at h
  obtain ⟨h1,h2,h3⟩:=h
  subst h1 h2 h3
  exact fnH_sound tyNil (by exact specOK rfl rfl trivial trivial) (by kernel_rfl) Tryd.func4 (newsrc_v gl _)
 ·cases h
end Go.Proofs.YtldiagnbagpliaaDoor
namespace Go.Proofs.YtldiagnbagpliaaDoor
open Go
set_option linter.unusedVariables false
set_option linter.unusedSimpArgs false
structure SrcQ (xs:List (List AV)) (i:Int):Prop where
 s:SrcI xs
 lo:0≤i
structure RawQ (v j:Int):Prop where
 fv:-9223372036854775808≤v∧v≤9223372036854775807
 fj:0≤j
structure NumQ (n v j:Int):Prop where
 fv:1≤n→0≤v∧v < n
 fz:n < 1→v=0
 fj:0≤j
def qn_s:SpQ
 | [.ptr 0 0,.int .i64 n],[.cells [.sl 1 false xs,.int .i64 i]]=>some (fun K=>SrcQ xs i∧∀ v j:Int,NumQ n v j→K (.int .i64 v) [.cells [.sl 1 false xs,.int .i64 j]])
 | _,_=>none
theorem qn_ok (gl:Glob):QOK Tryd.prog gl 5 qn_s:=by
 refine ⟨(srcn_ok gl).1,fun xs bs T h K hT=>?_⟩
 unfold qn_s at h
 split at h
 ·simp only [Option.some.injEq] at h
  subst h
  obtain ⟨hp,hK⟩:=hT
  refine ⟨_,_,hK _ _ ⟨fun h=>srcN_lt h,fun h=>?_,rawA_le hp.lo⟩,(srcn_ok gl).2 _ _ _ _ _ rfl ⟨hp.s,hp.lo⟩⟩
  unfold srcN modZ
  rw [if_pos h]
 ·cases h
def qrange_s:SpQ
 | [.ptr 0 0,.int .i64 lo,.int .i64 hi],[.cells [.sl 1 false xs,.int .i64 i]]=>some (fun K=>(SrcQ xs i∧lo≤hi∧-1000000000≤lo∧hi≤1000000000)∧(∀ (v j:Int),((lo≤v∧v≤hi)∧0≤j)→K (.int .i64 v) [.cells [.sl 1 false xs,.int .i64 j]]))
 | _,_=>none
def qrange_T:Prop :=
  ∀ (gl:Glob) (xs:List (List AV)) (i lo hi:Int),SrcQ xs i∧lo≤hi∧(-1000000000:Int)≤lo∧hi≤(1000000000:Int)→bif decide (rng .i64 (hi - lo)) then bif decide (rng .i64 (hi - lo+(1:Int))) then SrcQ xs i∧∀ (v j:Int),NumQ (hi - lo+(1:Int)) v j→bif decide (rng .i64 (lo+v)) then ∃ v_1 j_1,((lo≤v_1∧v_1≤hi)∧0≤j_1)∧lo+v=v_1∧((True∧xs=xs)∧j=j_1∧True)∧True else False else False else
 False
theorem qrange_P:qrange_T:=by
 unfold qrange_T
 intro gl xs i lo hi ⟨hs,h1,h2,h3⟩
 refine cdI (by omega) (cdI (by omega) ⟨hs,fun v j hq=>?_⟩)
 have hv:=hq.fv (by omega)
 have hj:=hq.fj
 exact cdI (by omega) ⟨_,_,⟨by omega,hj⟩,rfl,⟨⟨trivial,rfl⟩,rfl,trivial⟩,trivial⟩
def qrange_S:Prop:=∀ (gl:Glob) (xs:List (List AV)) (i lo hi:Int),SrcQ xs i∧lo≤hi∧-1000000000≤lo∧hi≤1000000000→fnQ Tryd.prog { glob:=gl,spec:=lk [],specH:=lk [],specQ:=lk [(5,qn_s)],nowf:=true } { nt:=15,drop:=drp [(1,32640)],fr:=1000,kp:=[0] } (fun _ _=>none) 6 Tryd.f28 [.ptr 0 0,.int .i64 lo,.int .i64 hi] [.cells [.sl 1 false xs,.int .i64 i]] (fun r2 bs2=>∃ (v j:Int),((lo≤v∧v≤hi)∧0≤j)∧le r2 (.int .i64 v)∧leBs bs2 [.cells [.sl 1 false xs,.int .i64 j]])
theorem qrange_e:qrange_T=qrange_S:=by kernel_rfl
theorem qrange_v:qrange_S:=Eq.mp (qrange_e ..) (qrange_P)
theorem qrange_ok (gl:Glob):QOK Tryd.prog gl 28 qrange_s:=by
 refine ⟨fok Tryd.func28 (by kernel_rfl) (by kernel_rfl),?_⟩
 intro xs bs T h K hT
 unfold qrange_s at h
 split at h
 ·simp only [Option.some.injEq] at h
  subst h
  obtain ⟨hp,hK⟩:=hT
  obtain ⟨r,bs2,⟨o0,o1,hq,hl,hb⟩,hC⟩:=fnQ_sound tyNil (by exact specOK rfl rfl trivial trivial (d:=qsOf rfl ⟨(qn_ok gl),trivial⟩)) (by kernel_rfl) Tryd.func28 (qrange_v gl _ _ _ _ hp)
  exact ⟨_,_,hK o0 o1 hq,hC.le hl hb⟩
 ·cases h
structure IntsB (ys:List (List AV)):Prop where
 fi:∀ x ∈ ys,∃ n:Int,x=[.int .i64 n]∧rng .i64 n
structure PickQ (ys:List (List AV)) (v:AV) (j:Int):Prop where
 fm:[v] ∈ ys
 fj:0≤j
def qpick_s:SpQ
 | [.ptr 0 0,.rw 1 1 n],[.cells [.sl 1 false xs,.int .i64 i],.row 3 1 ys]=>some (fun K=>(SrcQ xs i∧(n=ys.length∧1≤n∧n≤1000)∧IntsB ys)∧(∀ (v j:Int),(PickQ ys (.int .i64 v) j)→K (.int .i64 v) [.cells [.sl 1 false xs,.int .i64 j],.row 3 1 ys]))
 | _,_=>none
def qpick_T:Prop :=
  ∀ (gl:Glob) (xs ys:List (List AV)) (i:Int) (n:Nat),SrcQ xs i∧(n=ys.length∧1≤n∧n≤(1000:Nat))∧IntsB ys→SrcQ xs i∧∀ (v j:Int),NumQ (↑n:Int) v j→bif decide (0≤v∧v < (↑n:Int)) then bif decide (n=ys.length∧v.toNat < ys.length) then ∃ n,List.take [AV.int .i64 n].length (List.drop (0:Nat) (ys.getD v.toNat []))=[AV.int .i64 n]∧∃ v j_1,PickQ ys (AV.int .i64 v)
 j_1∧n=v∧((True∧xs=xs)∧j=j_1∧True)∧ys=ys∧True else False else False
theorem qpick_P:qpick_T:=by
 unfold qpick_T
 intro gl xs ys i n ⟨hs,⟨h1,h2,h3⟩,hi⟩
 refine ⟨hs,fun v j hq=>?_⟩
 have hv:=hq.fv (by omega)
 have hj:=hq.fj
 have hl:v.toNat < ys.length:=by omega
 have hm:ys.getD v.toNat [] ∈ ys:=by
  rw [List.getD_eq_getElem?_getD,List.getElem?_eq_getElem hl]; exact List.getElem_mem hl
 obtain ⟨z,hz,hr⟩:=hi.fi _ hm
 refine cd1 (by omega) (cd1 ⟨h1,hl⟩ ⟨z,by rw [hz]; rfl,z,j,⟨by rw [← hz]; exact hm,hj⟩,rfl,⟨⟨trivial,rfl⟩,rfl,trivial⟩,rfl,trivial⟩)
def qpick_S:Prop:=∀ (gl:Glob) (xs ys:List (List AV)) (i:Int) (n:Nat),SrcQ xs i∧(n=ys.length∧1≤n∧n≤1000)∧IntsB ys→fnQ Tryd.prog { glob:=gl,spec:=lk [],specH:=lk [],specQ:=lk [(5,qn_s)],shape:=[11],nowf:=true } { nt:=12,drop:=drp [(1,4064)],fr:=1000,kp:=[0,1] } (fun _ _=>none) 6 Tryd.f67 [.ptr 0 0,.rw 1 1 n] [.cells [.sl 1 false xs,.int .i64 i],.row 3 1 ys] (fun r2 bs2=>∃ (v j:Int),(PickQ ys (.int .i64 v) j)∧le r2 (.int .i64 v)∧leBs bs2 [.cells [.sl 1 false xs,.int .i64 j],.row 3 1 ys])
theorem qpick_e:qpick_T=qpick_S:=by kernel_rfl
theorem qpick_v:qpick_S:=Eq.mp (qpick_e ..) (qpick_P)
theorem qpick_ok (gl:Glob):QOK Tryd.prog gl 67 qpick_s:=by
 refine ⟨fok Tryd.func67 (by kernel_rfl) (by kernel_rfl),?_⟩
 intro xs bs T h K hT
 unfold qpick_s at h
 split at h
 ·simp only [Option.some.injEq] at h
  subst h
  obtain ⟨hp,hK⟩:=hT
  obtain ⟨r,bs2,⟨o0,o1,hq,hl,hb⟩,hC⟩:=fnQ_sound tyNil (by exact specOK rfl rfl trivial trivial (d:=qsOf rfl ⟨(qn_ok gl),trivial⟩)) (by kernel_rfl) Tryd.func67 (qpick_v gl _ _ _ _ hp)
  exact ⟨_,_,hK o0 o1 hq,hC.le hl hb⟩
 ·cases h
theorem pick_of (l:List Int) {v j:Int} (h:PickQ (irow l) (.int .i64 v) j):v ∈ l:=by
 have:=h.fm
 unfold irow at this
 simp only [List.mem_map] at this
 obtain ⟨n,hn,e⟩:=this
 simp only [List.cons.injEq,AV.int.injEq,true_and,and_true] at e
 exact e ▸ hn
theorem ints_of (l:List Int) (h:∀ n ∈ l,rng .i64 n):IntsB (irow l):=by
 refine ⟨fun x hx=>?_⟩
 unfold irow at hx
 simp only [List.mem_map] at hx
 obtain ⟨n,hn,rfl⟩:=hx
 exact ⟨n,rfl,h n hn⟩
end Go.Proofs.YtldiagnbagpliaaDoor
namespace Go.Proofs.YtldiagnbagpliaaDoor
open Go
def crnT:List Int:=[0,1,2,0,2,3,0,3,4,0,4,5,0,5,1,
 1,6,2,2,7,3,3,8,4,4,9,5,5,10,1,
 6,7,2,7,8,3,8,9,4,9,10,5,10,6,1,
 11,7,6,11,8,7,11,9,8,11,10,9,11,6,10]
def bndT:List Int:=[8000,11000,1800,3300,1800,3300,-1000,1000,-1000,1000,900,1700,2000,3200,2400,3400,2000,3000,4400,6200,2000,2900]
def glb:Glob:=fun g=>cond (Nat.beq g 0) (some (bndT.map (AV.int .i64))) (cond (Nat.beq g 1) (some (crnT.map (AV.int .i64))) none)
end Go.Proofs.YtldiagnbagpliaaDoor
namespace Go.Proofs.YtldiagnbagpliaaDoor
open Go
set_option linter.unusedVariables false
set_option linter.unusedSimpArgs false
theorem cs {p:Prop} [Decidable p] {A B:Prop} (h:p→A) (k:¬ p→B):cond (decide p) A B:=csplit (fun q=>h (of_decide_eq_true q)) (fun q=>k (of_decide_eq_false q))
def dgL:Nat→Int→List Int
 | 0,_=>[]
 | n+1,x=>dgL n (x / 10)++[48+x % 10]
def numR (s:ByteArray):Nat→Int
 | 0=>0
 | k+1=>10*numR s k+IntKind.u8.wrap (byteI s k - 48)
structure NumP (s:ByteArray) (x:Int × Int):Prop where
 lo:0≤x.1
 hi:x.1≤s.size
 v:x.2=numR s x.1.toNat
structure NumS (s:ByteArray):Prop where
 small:s.size≤8
def dgS (n:Int) (w:Nat):ByteArray:=strOfNums (dgL w n)
structure RdgP (n:Int) (w:Nat) (x:Int × Int × ByteArray):Prop where
 lo:0≤x.1
 hi:x.1≤w
 pos:0≤x.2.1
 big:x.2.1≤9999
 eq:dgS n w=strOfNums (dgL (w - x.1.toNat) x.2.1)++x.2.2
 sz:x.2.2.size=x.1.toNat
end Go.Proofs.YtldiagnbagpliaaDoor
namespace Go.Proofs.YtldiagnbagpliaaDoor
open Go
set_option linter.unusedVariables false
set_option linter.unusedSimpArgs false
def letC:ByteArray:=⟨#[80,84,68,69,78,65,66,70,71,74,75]⟩
def okC (c:Int):Bool:=decide (1≤c∧c≤11)
def inLo (c:Int):Int:=if okC c then bndT.getD (2*(c - 1).toNat) 0 else 0
def inHi (c:Int):Int:=if okC c then bndT.getD (2*(c - 1).toNat+1) 0 else 0
def iL (c:Int):ByteArray:=if okC c then Utf8.encode (byteI letC (c - 1).toNat) else ⟨#[]⟩
def inD (c:Int):Int:=if okC c then (if c=1 then 5 else 4) else 0
def inE (c:Int):Int:=if okC c then 0 else 4
theorem okC_cases {c:Int} (h:okC c=true):c=1∨c=2∨c=3∨c=4∨c=5∨c=6∨c=7∨c=8∨c=9∨c=10∨c=11:=by
 have:1≤c∧c≤11:=of_decide_eq_true h
 omega
def edesc_s (iL:Int→ByteArray) (inLo:Int→Int) (inHi:Int→Int) (inD:Int→Int) (inE:Int→Int):Sp
 | [.int .i64 c]=>some (True,.tup [.agg [.str (iL c),.int .i64 (inLo c),.int .i64 (inHi c),.int .i64 (inD c)],.int .i64 (inE c)])
 | _=>none
def edesc_T (iL:Int→ByteArray) (inLo:Int→Int) (inHi:Int→Int) (inD:Int→Int) (inE:Int→Int):Prop :=
  ∀ (c:Int),(-9223372036854775808:Int)≤c∧c≤(9223372036854775807:Int)→bif decide (c < (1:Int)) then ((⟨#[]⟩:ByteArray)=iL c∧(0:Int)=inLo c∧(0:Int)=inHi c
 ∧(0:Int)=inD c∧True)∧(4:Int)=inE c∧True else bif decide ((11:Int) < c) then ((⟨#[]⟩:ByteArray)=iL c∧(0:Int)=inLo c∧(0:Int)=inHi c∧(0:Int)=inD c ∧
  True)∧(4:Int)=inE c∧True else bif decide (rng IntKind.i64 (c - (1:Int))) then bif decide ((0:Int)≤c - (1:Int)∧c - (1:Int) < (11:Int)) then ∃ n n_1,List.take
  [AV.int IntKind.i64 n,AV.int IntKind.i64 n_1].length (List.drop ((c - (1:Int)).toNat*(2:Nat)) (List.map (AV.int IntKind.i64) bndT))=[AV.int IntKind.i64 n,AV.int
  IntKind.i64 n_1]∧bif decide (rng IntKind.i64 (c - (1:Int))) then bif decide ((0:Int)≤c - (1:Int)∧c - (1:Int) < (11:Int)) then bif decide (c=(1:Int)) then
  (Utf8.encode (byteI { data:=#[(80:UInt8),(84:UInt8),(68:UInt8),(69:UInt8),(78:UInt8),(65:UInt8),(66:UInt8),(70:UInt8),(71:UInt8),(74:UInt8),(75 :
  UInt8)] } (c - (1:Int)).toNat)=iL c∧n=inLo c∧n_1=inHi c∧(5:Int)=inD c∧True)∧(0:Int)=inE c∧True else (Utf8.encode (byteI { data:=#[(80:UInt8),(84 :
  UInt8),(68:UInt8),(69:UInt8),(78:UInt8),(65:UInt8),(66:UInt8),(70:UInt8),(71:UInt8),(74:UInt8),(75:UInt8)] } (c - (1:Int)).toNat)=iL c∧n=inLo c ∧
  n_1=inHi c∧(4:Int)=inD c∧True)∧(0:Int)=inE c∧True else False else False else False else False
theorem edesc_P:edesc_T iL inLo inHi inD inE:=by
 unfold edesc_T
 intro c hc
 have hn:okC c=false→((⟨#[]⟩:ByteArray)=iL c∧0=inLo c∧0=inHi c∧0=inD c∧True)∧4=inE c∧True:=by
  intro h; unfold iL inLo inHi inD inE; rw [h]; exact ⟨⟨rfl,rfl,rfl,rfl,trivial⟩,rfl,trivial⟩
 refine cs (fun h=>hn (decide_eq_false (by omega))) (fun h1=>cs (fun h=>hn (decide_eq_false (by omega))) (fun h2=>?_))
 have hk:okC c=true:=decide_eq_true (by omega)
 refine cdI (by omega) (cd1 (by omega) ⟨inLo c,inHi c,?_,cdI (by omega) (cd1 (by omega) ?_)⟩)
 ·rcases okC_cases hk with rfl | rfl | rfl | rfl | rfl | rfl | rfl | rfl | rfl | rfl | rfl <;> rfl
 ·unfold iL inD inE
  rw [hk]
  simp only [if_true]
  refine cs (fun h=>?_) (fun h=>?_)
  ·rw [if_pos h]; exact (by repeat' (first | apply And.intro | exact trivial | exact rfl))
  ·rw [if_neg h]; exact (by repeat' (first | apply And.intro | exact trivial | exact rfl))
def edesc_S (iL:Int→ByteArray) (inLo:Int→Int) (inHi:Int→Int) (inD:Int→Int) (inE:Int→Int):Prop:=∀ (c:Int),fnK Tryd.prog { glob:=glb,spec:=lk [],specH:=lk [],shape:=[16],nowf:=true } { nt:=30,drop:=drp [(1,1984),(2,4096),(3,122880),(4,66977792),(5,67108864),(6,268435456),(7,536870912)] } (fun _ _=>none) 6 Tryd.f47 [.int .i64 c] (.tup [.agg [.str (iL c),.int .i64 (inLo c),.int .i64 (inHi c),.int .i64 (inD c)],.int .i64 (inE c)])
theorem edesc_e (iL:Int→ByteArray) (inLo:Int→Int) (inHi:Int→Int) (inD:Int→Int) (inE:Int→Int):edesc_T iL inLo inHi inD inE=edesc_S iL inLo inHi inD inE:=by kernel_rfl
theorem edesc_v:edesc_S iL inLo inHi inD inE:=Eq.mp (edesc_e ..) (edesc_P)
theorem edesc_ok:SOK Tryd.prog glb 47 (edesc_s iL inLo inHi inD inE):=by
 refine ⟨fok Tryd.func47 (by kernel_rfl) (by kernel_rfl),?_⟩
 intro xs pre r h hp
 unfold edesc_s at h
 split at h
 ·simp only [Option.some.injEq,Prod.mk.injEq] at h
  obtain ⟨h1,h2⟩:=h
  subst h1 h2
  exact fnK_sound tyNil (by exact specOK rfl rfl trivial trivial) (by kernel_rfl) Tryd.func47 rfl (edesc_v  _)
 ·cases h
def ck (e v:Int):Int:=if okC e then (if v < inLo e∨inHi e < v then 1 else 0) else 4
def echeck_s (ck:Int→Int→Int):Sp
 | [.agg [.int .i64 e,.int .i64 v]]=>some (True,.int .i64 (ck e v))
 | _=>none
def echeck_T (ck:Int→Int→Int) (iL:Int→ByteArray) (inLo:Int→Int) (inHi:Int→Int) (inD:Int→Int) (inE:Int→Int):Prop :=
 ∀ (e v:Int),((-9223372036854775808:Int)≤e∧e≤(9223372036854775807:Int))∧((-9223372036854775808:Int)≤v∧v≤(9223372036854775807:Int))∧True→True∧bif
 decide (inE e=(0:Int)) then bif decide (v < inLo e) then (1:Int)=ck e v else bif decide (inHi e < v) then (1:Int)=ck e v else inE e=ck e v else inE e=ck e v
theorem echeck_P:echeck_T ck iL inLo inHi inD inE:=by
 unfold echeck_T
 intro e v h
 refine ⟨trivial,?_⟩
 unfold ck inE
 cases hk:okC e with
 | false=>exact cd0 (by decide) rfl
 | true =>
  simp only [if_true]
  refine cd1 (by trivial) (cs (fun q=>?_) (fun q=>cs (fun r=>?_) (fun r=>?_)))
  ·rw [if_pos (.inl q)]
  ·rw [if_pos (.inr r)]
  ·rw [if_neg (by omega)]
def echeck_S (ck:Int→Int→Int) (iL:Int→ByteArray) (inLo:Int→Int) (inHi:Int→Int) (inD:Int→Int) (inE:Int→Int):Prop:=∀ (e v:Int),fnK Tryd.prog { glob:=glb,spec:=lk [(47,(edesc_s iL inLo inHi inD inE))],specH:=lk [],nowf:=true } { nt:=28,drop:=drp [(1,2016),(2,67106816),(4,134217728)] } (fun _ _=>none) 6 Tryd.f72 [.agg [.int .i64 e,.int .i64 v]] (.int .i64 (ck e v))
theorem echeck_e (ck:Int→Int→Int) (iL:Int→ByteArray) (inLo:Int→Int) (inHi:Int→Int) (inD:Int→Int) (inE:Int→Int):echeck_T ck iL inLo inHi inD inE=echeck_S ck iL inLo inHi inD inE:=by kernel_rfl
theorem echeck_v:echeck_S ck iL inLo inHi inD inE:=Eq.mp (echeck_e ..) (echeck_P)
theorem echeck_ok:SOK Tryd.prog glb 72 (echeck_s ck):=by
 refine ⟨fok Tryd.func72 (by kernel_rfl) (by kernel_rfl),?_⟩
 intro xs pre r h hp
 unfold echeck_s at h
 split at h
 ·simp only [Option.some.injEq,Prod.mk.injEq] at h
  obtain ⟨h1,h2⟩:=h
  subst h1 h2
  exact fnK_sound tyNil (by exact specOK rfl rfl ⟨(edesc_ok),trivial⟩ trivial) (by kernel_rfl) Tryd.func72 rfl (echeck_v  _ _)
 ·cases h
def idxP (p:List AV→Bool) (xs:List (List AV)):Int:=if xs.any p then (xs.findIdx p:Int) else -1
theorem idx_some {p:List AV→Bool} {xs:List (List AV)} {i:Nat} (hi:i < xs.length) (h:p (xs.getD i [])=true) (hn:∀ j,j < i→p (xs.getD j [])=false):(i:Int)=idxP p xs:=by
 have e:∀ j (hj:j < xs.length),xs.getD j []=xs[j]:=fun j hj=>by rw [List.getD_eq_getElem?_getD,List.getElem?_eq_getElem hj]; rfl
 unfold idxP
 rw [if_pos (List.any_eq_true.2 ⟨xs[i],List.getElem_mem hi,by rw [← e i hi]; exact h⟩)]
 rw [(List.findIdx_eq hi).2 ⟨by rw [← e i hi]; exact h,fun j hj=>by rw [← e j (by omega)]; exact hn j hj⟩]
theorem idx_none {p:List AV→Bool} {xs:List (List AV)} (hn:∀ j,j < xs.length→p (xs.getD j [])=false):-1=idxP p xs:=by
 unfold idxP
 rw [if_neg]
 intro h
 obtain ⟨x,hx,hp⟩:=List.any_eq_true.1 h
 obtain ⟨j,hj,rfl⟩:=List.mem_iff_getElem.1 hx
 have:=hn j hj
 rw [List.getD_eq_getElem?_getD,List.getElem?_eq_getElem hj] at this
 rw [show (some xs[j]).getD []=xs[j] from rfl,hp] at this
 cases this
theorem idx_ge {p:List AV→Bool} {xs:List (List AV)}:decide (0≤idxP p xs)=xs.any p:=by
 unfold idxP
 cases h:xs.any p with
 | true=>rw [if_pos rfl]; exact decide_eq_true (by omega)
 | false=>rw [if_neg (by simp)]; rfl
structure RdsP (xs:List (List AV)):Prop where
 row:∀ i,i < xs.length→∃ e v:Int,xs.getD i []=[.int .i64 e,.int .i64 v]∧rng .i64 e∧rng .i64 v
 sm:xs.length≤9223372036854775807
def rE (r:List AV):Int:=cellI (r.take 1)
def rV (r:List AV):Int:=cellI (r.drop 1)
def ckP (bad:Int) (r:List AV):Bool:=decide (ck (rE r) (rV r)=bad)
def cdP (code:Int) (r:List AV):Bool:=decide (rE r=code)
def ckI (bad:Int) (xs:List (List AV)):Int:=idxP (ckP bad) xs
def ckA (bad:Int) (xs:List (List AV)):Bool:=xs.any (ckP bad)
def cdI' (code:Int) (xs:List (List AV)):Int:=idxP (cdP code) xs
def evc29_s (ck:Int→Int→Int):SpH
 | [.agg [.int .i64 e,.int .i64 v],.ptr 0 0],[.cells [.int .i64 bad]]=>some (True,.bool (decide (ck e v=bad)),[.cells [.int .i64 bad]])
 | _,_=>none
def evc29_T (ck:Int→Int→Int):Prop :=
 ∀ (e v bad:Int),((-9223372036854775808:Int)≤e∧e≤(9223372036854775807:Int))∧((-9223372036854775808:Int)≤v∧v≤(9223372036854775807:Int))∧True→True →
 (-9223372036854775808:Int)≤bad∧bad≤(9223372036854775807:Int)→True∧decide (ck e v=bad)=decide (ck e v=bad)∧(bad=bad∧True)∧True
theorem evc29_P:evc29_T ck:=by
 unfold evc29_T
 intro e v bad h _ hb
 exact ⟨trivial,rfl,⟨rfl,trivial⟩,trivial⟩
def evc29_S (ck:Int→Int→Int):Prop:=∀ (e v bad:Int),fnH Tryd.prog { glob:=glb,spec:=lk [(72,(echeck_s ck))],specH:=lk [],nowf:=true } { nt:=8,drop:=drp [(1,240)],fr:=1000,kp:=[0] } (fun _ _=>none) 6 Tryd.f71 [.agg [.int .i64 e,.int .i64 v],.ptr 0 0] [.cells [.int .i64 bad]] (.bool (decide (ck e v=bad))) [.cells [.int .i64 bad]]
theorem evc29_e (ck:Int→Int→Int):evc29_T ck=evc29_S ck:=by kernel_rfl
theorem evc29_v:evc29_S ck:=Eq.mp (evc29_e ..) (evc29_P)
theorem evc29_ok:HOK Tryd.prog glb 71 (evc29_s ck):=by
 refine ⟨fok Tryd.func71 (by kernel_rfl) (by kernel_rfl),?_⟩
 intro xs bs pre r bs2 h hp
 unfold evc29_s at h
 split at h
 ·simp only [Option.some.injEq,Prod.mk.injEq] at h
  obtain ⟨h1,h2,h3⟩:=h
  subst h1 h2 h3
  exact fnH_sound tyNil (by exact specOK rfl rfl ⟨(echeck_ok),trivial⟩ trivial) (by kernel_rfl) Tryd.func71 (evc29_v  _ _ _)
 ·cases h
structure IdxI (p:List AV→Bool) (xs:List (List AV)) (i:Int):Prop where
 lo:0≤i
 hi:i≤xs.length
 no:∀ j:Nat,(j:Int) < i→p (xs.getD j [])=false
def ixI (k:Nat) (p:List AV→Bool) (f:Bool) (bad:Int) (xs:List (List AV)):LInv:=⟨Int,fun i=>⟨[(0,.sl 2 f xs),(1,.fn k [.ptr 0 0]),(7,.int .i64 xs.length),(8,.int .i64 i)],[(0,.cells [.int .i64 bad])]⟩,IdxI p xs,fun i=>(xs.length - i).toNat,none⟩
def eix_s (ck:Int→Int→Int) (ckI:Int→List (List AV)→Int):SpH
 | [.sl 2 f xs,.fn 71 [.ptr 0 0]],[.cells [.int .i64 bad]]=>some (RdsP xs,.int .i64 (ckI bad xs),[.cells [.int .i64 bad]])
 | _,_=>none
def eix_T (ck:Int→Int→Int) (ckI:Int→List (List AV)→Int):Prop :=
 ∀ (f:Bool) (xs:List (List AV)) (bad:Int),RdsP xs→True→True→(-9223372036854775808:Int)≤bad∧bad≤(9223372036854775807:Int)→(∃ x,IdxI (ckP bad) xs x∧(((bif
 f then f=true else True)∧xs=xs)∧((0:Nat)=(0:Nat)∧True)∧(↑xs.length:Int)=(↑xs.length:Int)∧(0:Int)=x∧True)∧(bad=bad∧True)∧True)∧∀ (x:Int),
 IdxI (ckP bad) xs x→bif decide (x < (↑xs.length:Int)) then bif decide ((0:Int)≤x∧x < (↑xs.length:Int)) then ∃ n n_1,List.take [AV.int IntKind.i64 n,AV.int IntKind.i64
 n_1].length (xs.getD x.toNat [])=[AV.int IntKind.i64 n,AV.int IntKind.i64 n_1]∧True∧bif decide (ck n n_1=bad) then x=ckI bad xs∧(bad=bad∧True)∧True else bif
 decide (rng IntKind.i64 (x+(1:Int))) then ∃ y,IdxI (ckP bad) xs y∧(ixI (71:Nat) (ckP bad) f bad xs).m y < (ixI (71:Nat) (ckP bad) f bad xs).m x∧(((bif f then f=true
 else True)∧xs=xs)∧((0:Nat)=(0:Nat)∧True)∧(↑xs.length:Int)=(↑xs.length:Int)∧x+(1:Int)=y∧True)∧(bad=bad∧True)∧True else False else False else
 (-1:Int)=ckI bad xs∧(bad=bad∧True)∧True
theorem eix_P:eix_T ck ckI:=by
 unfold eix_T
 intro f xs bad ⟨hr,hs⟩ _ _ hb
 have bf:cond f (f=true) True:=by cases f <;> trivial
 refine ⟨⟨0,⟨by decide,by omega,fun j h=>by omega⟩,⟨⟨bf,rfl⟩,⟨rfl,trivial⟩,rfl,rfl,trivial⟩,⟨rfl,trivial⟩,trivial⟩,?_⟩
 rintro i ⟨h0,h1,hn⟩
 have ei:((i.toNat:Nat):Int)=i:=by omega
 refine cs (fun hl=>?_) (fun hl=>?_)
 ·obtain ⟨e,v,he,_,_⟩:=hr i.toNat (by omega)
  refine cd1 ⟨h0,hl⟩ ⟨e,v,by rw [he]; rfl,trivial,cs (fun q=>?_) (fun q=>?_)⟩
  ·have:=idx_some (p:=ckP bad) (xs:=xs) (i:=i.toNat) (by omega) (by rw [he]; exact decide_eq_true q) (fun j hj=>hn j (by omega))
   exact ⟨ei.symm.trans this,⟨rfl,trivial⟩,trivial⟩
  ·refine cdI (by omega) ⟨i+1,⟨by omega,by omega,fun j hj=>?_⟩,by simp only [ixI]; omega,⟨⟨bf,rfl⟩,⟨rfl,trivial⟩,rfl,rfl,trivial⟩,⟨rfl,trivial⟩,trivial⟩
   rcases Nat.lt_or_ge j i.toNat with k | k
   ·exact hn j (by omega)
   ·rw [show j=i.toNat by omega,he]; exact decide_eq_false q
 ·exact ⟨idx_none fun j hj=>hn j (by omega),⟨rfl,trivial⟩,trivial⟩
def eix_S (ck:Int→Int→Int) (ckI:Int→List (List AV)→Int):Prop:=∀ (f:Bool) (xs:List (List AV)) (bad:Int),RdsP xs→fnH Tryd.prog { glob:=glb,spec:=lk [],specH:=lk [(71,(evc29_s ck))],shape:=[15],nowf:=true } { nt:=19,drop:=drp [(1,64),(3,1024),(4,63488),(5,131072),(6,262144)],fr:=1000,kp:=[0] } (invs [(2,ixI 71 (ckP bad) f bad xs)]) 6 Tryd.f88 [.sl 2 f xs,.fn 71 [.ptr 0 0]] [.cells [.int .i64 bad]] (.int .i64 (ckI bad xs)) [.cells [.int .i64 bad]]
theorem eix_e (ck:Int→Int→Int) (ckI:Int→List (List AV)→Int):eix_T ck ckI=eix_S ck ckI:=by kernel_rfl
theorem eix_v:eix_S ck ckI:=Eq.mp (eix_e ..) (eix_P)
theorem eix_ok:HOK Tryd.prog glb 88 (eix_s ck ckI):=by
 refine ⟨fok Tryd.func88 (by kernel_rfl) (by kernel_rfl),?_⟩
 intro xs bs pre r bs2 h hp
 unfold eix_s at h
 split at h
 ·simp only [Option.some.injEq,Prod.mk.injEq] at h
  obtain ⟨h1,h2,h3⟩:=h
  subst h1 h2 h3
  exact fnH_sound tyNil (by exact specOK rfl rfl trivial ⟨(evc29_ok),trivial⟩) (by kernel_rfl) Tryd.func88 (eix_v  _ _ _ hp)
 ·cases h
def ecf_s (ckA:Int→List (List AV)→Bool):SpH
 | [.sl 2 f xs,.fn 71 [.ptr 0 0]],[.cells [.int .i64 bad]]=>some (RdsP xs,.bool (ckA bad xs),[.cells [.int .i64 bad]])
 | _,_=>none
def ecf_T (ckA:Int→List (List AV)→Bool) (ck:Int→Int→Int) (ckI:Int→List (List AV)→Int):Prop :=
 ∀ (f:Bool) (xs:List (List AV)) (bad:Int),RdsP xs→True→True→(-9223372036854775808:Int)≤bad∧bad≤(9223372036854775807:Int)→RdsP xs∧decide ((0:Int)≤ckI
 bad xs)=ckA bad xs∧(bad=bad∧True)∧True
theorem ecf_P:ecf_T ckA ck ckI:=by
 unfold ecf_T
 intro f xs bad h _ _ hb
 exact ⟨h,idx_ge,⟨rfl,trivial⟩,trivial⟩
def ecf_S (ckA:Int→List (List AV)→Bool) (ck:Int→Int→Int) (ckI:Int→List (List AV)→Int):Prop:=∀ (f:Bool) (xs:List (List AV)) (bad:Int),RdsP xs→fnH Tryd.prog { glob:=glb,spec:=lk [],specH:=lk [(88,(eix_s ck ckI))],nowf:=true } { nt:=9,drop:=drp [(1,480)],fr:=1000,kp:=[0] } (fun _ _=>none) 6 Tryd.f70 [.sl 2 f xs,.fn 71 [.ptr 0 0]] [.cells [.int .i64 bad]] (.bool (ckA bad xs)) [.cells [.int .i64 bad]]
theorem ecf_e (ckA:Int→List (List AV)→Bool) (ck:Int→Int→Int) (ckI:Int→List (List AV)→Int):ecf_T ckA ck ckI=ecf_S ckA ck ckI:=by kernel_rfl
theorem ecf_v:ecf_S ckA ck ckI:=Eq.mp (ecf_e ..) (ecf_P)
theorem ecf_ok:HOK Tryd.prog glb 70 (ecf_s ckA):=by
 refine ⟨fok Tryd.func70 (by kernel_rfl) (by kernel_rfl),?_⟩
 intro xs bs pre r bs2 h hp
 unfold ecf_s at h
 split at h
 ·simp only [Option.some.injEq,Prod.mk.injEq] at h
  obtain ⟨h1,h2,h3⟩:=h
  subst h1 h2 h3
  exact fnH_sound tyNil (by exact specOK rfl rfl trivial ⟨(eix_ok),trivial⟩) (by kernel_rfl) Tryd.func70 (ecf_v  _ _ _ hp)
 ·cases h
def evc27_s:SpH
 | [.int .i64 bad,.ptr 0 0],[.cells [.sl 2 f xs]]=>some (RdsP xs,.bool (ckA bad xs),[.cells [.sl 2 f xs]])
 | _,_=>none
def evc27_T (ckA:Int→List (List AV)→Bool):Prop :=
 ∀ (f:Bool) (xs:List (List AV)) (bad:Int),RdsP xs→(-9223372036854775808:Int)≤bad∧bad≤(9223372036854775807:Int)→True→True→RdsP xs∧ckA bad xs=ckA bad xs ∧
 (((bif f then f=true else True)∧xs=xs)∧True)∧True
theorem evc27_P:evc27_T ckA:=by
 unfold evc27_T
 intro f xs bad h _ _ _
 have bf:cond f (f=true) True:=by cases f <;> trivial
 exact ⟨h,rfl,⟨⟨bf,rfl⟩,trivial⟩,trivial⟩
def evc27_S (ckA:Int→List (List AV)→Bool):Prop:=∀ (f:Bool) (xs:List (List AV)) (bad:Int),RdsP xs→fnH Tryd.prog { glob:=glb,spec:=lk [],specH:=lk [(70,(ecf_s ckA))],nowf:=true } { nt:=7,drop:=drp [(1,112)],fr:=1000,kp:=[0] } (fun _ _=>none) 6 Tryd.f69 [.int .i64 bad,.ptr 0 0] [.cells [.sl 2 f xs]] (.bool (ckA bad xs)) [.cells [.sl 2 f xs]]
theorem evc27_e (ckA:Int→List (List AV)→Bool):evc27_T ckA=evc27_S ckA:=by kernel_rfl
theorem evc27_v:evc27_S ckA:=Eq.mp (evc27_e ..) (evc27_P)
theorem evc27_ok:HOK Tryd.prog glb 69 evc27_s:=by
 refine ⟨fok Tryd.func69 (by kernel_rfl) (by kernel_rfl),?_⟩
 intro xs bs pre r bs2 h hp
 unfold evc27_s at h
 split at h
 ·simp only [Option.some.injEq,Prod.mk.injEq] at h
  obtain ⟨h1,h2,h3⟩:=h
  subst h1 h2 h3
  exact fnH_sound tyNil (by exact specOK rfl rfl trivial ⟨(ecf_ok),trivial⟩) (by kernel_rfl) Tryd.func69 (evc27_v  _ _ _ hp)
 ·cases h
def ascB (xs:List (List AV)):Bool:=decide (∀ j,j < xs.length→j=0∨rE (xs.getD (j - 1) []) < rE (xs.getD j []))
def vdE (xs:List (List AV)):Int:=if ckA 4 xs then 4 else if ckA 1 xs then 1 else if ascB xs then 0 else 8
structure AscI (xs:List (List AV)) (i:Int):Prop where
 lo:1≤i
 hi:i≤xs.length∨i=1
 asc:∀ j:Nat,(j:Int) < i→j < xs.length→j=0∨rE (xs.getD (j - 1) []) < rE (xs.getD j [])
def ascL (f:Bool) (xs:List (List AV)):LInv:=⟨Int,fun i=>⟨[(1,.ptr 1 0),(4,.int .i64 i)],[(1,.cells [.sl 2 f xs])]⟩,AscI xs,fun i=>(xs.length+1 - i).toNat,none⟩
def evalid_s (vdE:List (List AV)→Int):Sp
 | [.sl 2 f xs]=>some (RdsP xs,.int .i64 (vdE xs))
 | _=>none
def evalid_T (vdE:List (List AV)→Int):Prop :=
 ∀ (f:Bool) (xs:List (List AV)),RdsP xs→True→RdsP xs∧bif ckA (4:Int) xs then (4:Int)=vdE xs else RdsP xs∧bif ckA (1:Int) xs then (1:Int)=vdE xs else (∃ x,
 AscI xs x∧((0:Nat)=(0:Nat)∧(1:Int)=x∧True)∧(((bif f then f=true else True)∧xs=xs)∧True)∧True)∧∀ (x:Int),AscI xs x→bif decide (x < (↑xs.length :
 Int)) then bif decide (rng IntKind.i64 (x - (1:Int))) then bif decide ((0:Int)≤x - (1:Int)∧x - (1:Int) < (↑xs.length:Int)) then ∃ n,List.take [AV.int IntKind.i64
 n].length (List.drop (0:Nat) (xs.getD (x - (1:Int)).toNat []))=[AV.int IntKind.i64 n]∧bif decide ((0:Int)≤x∧x < (↑xs.length:Int)) then ∃ n_1,List.take [AV.int
 IntKind.i64 n_1].length (List.drop (0:Nat) (xs.getD x.toNat []))=[AV.int IntKind.i64 n_1]∧bif decide (n_1≤n) then (8:Int)=vdE xs else bif decide (rng IntKind.i64 (x +
 (1:Int))) then ∃ y,AscI xs y∧(ascL f xs).m y < (ascL f xs).m x∧((0:Nat)=(0:Nat)∧x+(1:Int)=y∧True)∧(((bif f then f=true else True)∧xs=xs)∧True) ∧
 True else False else False else False else False else (0:Int)=vdE xs
theorem evalid_P:evalid_T vdE:=by
 unfold evalid_T
 intro f xs ⟨hr,hs⟩ _
 have bf:cond f (f=true) True:=by cases f <;> trivial
 refine ⟨⟨hr,hs⟩,csplit (fun h4=>?_) (fun h4=>⟨⟨hr,hs⟩,csplit (fun h1=>?_) (fun h1=>?_)⟩)⟩
 ·unfold vdE; rw [h4]; rfl
 ·unfold vdE; rw [h4,h1]; rfl
 have hv:vdE xs=if ascB xs then 0 else 8:=by unfold vdE; rw [h4,h1]; rfl
 rw [hv]
 refine ⟨⟨1,⟨by decide,.inr rfl,fun j hj _=>.inl (by omega)⟩,⟨rfl,rfl,trivial⟩,⟨⟨bf,rfl⟩,trivial⟩,trivial⟩,?_⟩
 rintro i ⟨h0,h2,hn⟩
 refine cs (fun hl=>?_) (fun hl=>?_)
 ·obtain ⟨e,v,he,_,_⟩:=hr (i - 1).toNat (by omega)
  obtain ⟨e',v',he',_,_⟩:=hr i.toNat (by omega)
  have hi:i.toNat - 1=(i - 1).toNat:=by omega
  have q1:rE (xs.getD (i.toNat - 1) [])=e:=by rw [hi,he]; rfl
  have q2:rE (xs.getD i.toNat [])=e':=by rw [he']; rfl
  refine cdI (by omega) (cd1 (by omega) ⟨e,by rw [he]; rfl,cd1 (by omega) ⟨e',by rw [he']; rfl,cs (fun q=>?_) (fun q=>?_)⟩⟩)
  ·have:ascB xs=false:=by
    refine decide_eq_false fun h=>?_
    rcases h i.toNat (by omega) with k | k
    ·omega
    ·rw [q1,q2] at k; omega
   rw [this]; rfl
  ·refine cdI (by omega) ⟨i+1,⟨by omega,.inl (by omega),fun j hj hlj=>?_⟩,by simp only [ascL]; omega,⟨rfl,rfl,trivial⟩,⟨⟨bf,rfl⟩,trivial⟩,trivial⟩
   rcases Nat.lt_or_ge j i.toNat with k | k
   ·exact hn j (by omega) hlj
   ·rw [show j=i.toNat by omega,q1,q2]; exact .inr (by omega)
 ·have:ascB xs=true:=decide_eq_true fun j hj=>hn j (by omega) hj
  rw [this]; rfl
def evalid_S (vdE:List (List AV)→Int):Prop:=∀ (f:Bool) (xs:List (List AV)),RdsP xs→fnK Tryd.prog { glob:=glb,spec:=lk [],specH:=lk [(69,evc27_s)],shape:=[23,28],nowf:=true } { nt:=30,drop:=drp [(1,32),(2,384),(4,3072),(7,28672),(8,196608),(9,536608768)] } (invs [(7,ascL f xs)]) 6 Tryd.f32 [.sl 2 f xs] (.int .i64 (vdE xs))
theorem evalid_e (vdE:List (List AV)→Int):evalid_T vdE=evalid_S vdE:=by kernel_rfl
theorem evalid_v:evalid_S vdE:=Eq.mp (evalid_e ..) (evalid_P)
theorem evalid_ok:SOK Tryd.prog glb 32 (evalid_s vdE):=by
 refine ⟨fok Tryd.func32 (by kernel_rfl) (by kernel_rfl),?_⟩
 intro xs pre r h hp
 unfold evalid_s at h
 split at h
 ·simp only [Option.some.injEq,Prod.mk.injEq] at h
  obtain ⟨h1,h2⟩:=h
  subst h1 h2
  exact fnK_sound tyNil (by exact specOK rfl rfl trivial ⟨(evc27_ok),trivial⟩) (by kernel_rfl) Tryd.func32 rfl (evalid_v  _ _ hp)
 ·cases h
def efc_s:SpH
 | [.agg [.int .i64 e,.int .i64 v],.ptr 0 0],[.cells [.int .i64 code]]=>some (True,.bool (decide (e=code)),[.cells [.int .i64 code]])
 | _,_=>none
def efc_T:Prop :=
 ∀ (gl:Glob) (e v code:Int),((-9223372036854775808:Int)≤e∧e≤(9223372036854775807:Int))∧((-9223372036854775808:Int)≤v∧v≤(9223372036854775807:Int))∧True →
 True→(-9223372036854775808:Int)≤code∧code≤(9223372036854775807:Int)→decide (e=code)=decide (e=code)∧(code=code∧True)∧True
theorem efc_P:efc_T:=by
 unfold efc_T
 intro gl e v code h _ hb
 exact ⟨rfl,⟨rfl,trivial⟩,trivial⟩
def efc_S:Prop:=∀ (gl:Glob) (e v code:Int),fnH Tryd.prog { glob:=gl,spec:=lk [],specH:=lk [],nowf:=true } { nt:=8,drop:=drp [(1,240)],fr:=1000,kp:=[0] } (fun _ _=>none) 6 Tryd.f92 [.agg [.int .i64 e,.int .i64 v],.ptr 0 0] [.cells [.int .i64 code]] (.bool (decide (e=code))) [.cells [.int .i64 code]]
theorem efc_e:efc_T=efc_S:=by kernel_rfl
theorem efc_v:efc_S:=Eq.mp (efc_e ..) (efc_P)
theorem efc_ok (gl:Glob):HOK Tryd.prog gl 92 efc_s:=by
 refine ⟨fok Tryd.func92 (by kernel_rfl) (by kernel_rfl),?_⟩
 intro xs bs pre r bs2 h hp
 unfold efc_s at h
 split at h
 ·simp only [Option.some.injEq,Prod.mk.injEq] at h
  obtain ⟨h1,h2,h3⟩:=h
  subst h1 h2 h3
  exact fnH_sound tyNil (by exact specOK rfl rfl trivial trivial) (by kernel_rfl) Tryd.func92 (efc_v gl _ _ _)
 ·cases h
def eixF_s (cdI':Int→List (List AV)→Int):SpH
 | [.sl 2 f xs,.fn 92 [.ptr 0 0]],[.cells [.int .i64 code]]=>some (RdsP xs,.int .i64 (cdI' code xs),[.cells [.int .i64 code]])
 | _,_=>none
def eixF_T (cdI':Int→List (List AV)→Int):Prop :=
  ∀ (gl:Glob) (f:Bool) (xs:List (List AV)) (code:Int),RdsP xs→True→True→(-9223372036854775808:Int)≤code∧code≤(9223372036854775807:Int)→(∃ x,IdxI (cdP
  code) xs x∧(((bif f then f=true else True)∧xs=xs)∧((0:Nat)=(0:Nat)∧True)∧(↑xs.length:Int)=(↑xs.length:Int)∧(0:Int)=x∧True)∧(code=code∧True)
 ∧True)∧∀ (x:Int),IdxI (cdP code) xs x→bif decide (x < (↑xs.length:Int)) then bif decide ((0:Int)≤x∧x < (↑xs.length:Int)) then ∃ n n_1,List.take [AV.int
  IntKind.i64 n,AV.int IntKind.i64 n_1].length (xs.getD x.toNat [])=[AV.int IntKind.i64 n,AV.int IntKind.i64 n_1]∧True∧bif decide (n=code) then x=cdI' code xs∧(code =
  code∧True)∧True else bif decide (rng IntKind.i64 (x+(1:Int))) then ∃ y,IdxI (cdP code) xs y∧(ixI (92:Nat) (cdP code) f code xs).m y < (ixI (92:Nat) (cdP code) f code
  xs).m x∧(((bif f then f=true else True)∧xs=xs)∧((0:Nat)=(0:Nat)∧True)∧(↑xs.length:Int)=(↑xs.length:Int)∧x+(1:Int)=y∧True)∧(code=code∧True)
 ∧True else False else False else (-1:Int)=cdI' code xs∧(code=code∧True)∧True
theorem eixF_P:eixF_T cdI':=by
 unfold eixF_T
 intro gl f xs bad ⟨hr,hs⟩ _ _ hb
 have bf:cond f (f=true) True:=by cases f <;> trivial
 refine ⟨⟨0,⟨by decide,by omega,fun j h=>by omega⟩,⟨⟨bf,rfl⟩,⟨rfl,trivial⟩,rfl,rfl,trivial⟩,⟨rfl,trivial⟩,trivial⟩,?_⟩
 rintro i ⟨h0,h1,hn⟩
 have ei:((i.toNat:Nat):Int)=i:=by omega
 refine cs (fun hl=>?_) (fun hl=>?_)
 ·obtain ⟨e,v,he,_,_⟩:=hr i.toNat (by omega)
  refine cd1 ⟨h0,hl⟩ ⟨e,v,by rw [he]; rfl,trivial,cs (fun q=>?_) (fun q=>?_)⟩
  ·have:=idx_some (p:=cdP bad) (xs:=xs) (i:=i.toNat) (by omega) (by rw [he]; exact decide_eq_true q) (fun j hj=>hn j (by omega))
   exact ⟨ei.symm.trans this,⟨rfl,trivial⟩,trivial⟩
  ·refine cdI (by omega) ⟨i+1,⟨by omega,by omega,fun j hj=>?_⟩,by simp only [ixI]; omega,⟨⟨bf,rfl⟩,⟨rfl,trivial⟩,rfl,rfl,trivial⟩,⟨rfl,trivial⟩,trivial⟩
   rcases Nat.lt_or_ge j i.toNat with k | k
   ·exact hn j (by omega)
   ·rw [show j=i.toNat by omega,he]; exact decide_eq_false q
 ·exact ⟨idx_none fun j hj=>hn j (by omega),⟨rfl,trivial⟩,trivial⟩
def eixF_S (cdI':Int→List (List AV)→Int):Prop:=∀ (gl:Glob) (f:Bool) (xs:List (List AV)) (code:Int),RdsP xs→fnH Tryd.prog { glob:=gl,spec:=lk [],specH:=lk [(92,efc_s)],shape:=[15],nowf:=true } { nt:=19,drop:=drp [(1,64),(3,1024),(4,63488),(5,131072),(6,262144)],fr:=1000,kp:=[0] } (invs [(2,ixI 92 (cdP code) f code xs)]) 6 Tryd.f88 [.sl 2 f xs,.fn 92 [.ptr 0 0]] [.cells [.int .i64 code]] (.int .i64 (cdI' code xs)) [.cells [.int .i64 code]]
theorem eixF_e (cdI':Int→List (List AV)→Int):eixF_T cdI'=eixF_S cdI':=by kernel_rfl
theorem eixF_v:eixF_S cdI':=Eq.mp (eixF_e ..) (eixF_P)
theorem eixF_ok (gl:Glob):HOK Tryd.prog gl 88 (eixF_s cdI'):=by
 refine ⟨fok Tryd.func88 (by kernel_rfl) (by kernel_rfl),?_⟩
 intro xs bs pre r bs2 h hp
 unfold eixF_s at h
 split at h
 ·simp only [Option.some.injEq,Prod.mk.injEq] at h
  obtain ⟨h1,h2,h3⟩:=h
  subst h1 h2 h3
  exact fnH_sound tyNil (by exact specOK rfl rfl trivial ⟨(efc_ok gl),trivial⟩) (by kernel_rfl) Tryd.func88 (eixF_v gl _ _ _ hp)
 ·cases h
def fdB (xs:List (List AV)) (code:Int):Bool:=decide (0≤cdI' code xs)
def fdV (xs:List (List AV)) (code:Int):Int:=if fdB xs code then rV (xs.getD (cdI' code xs).toNat []) else 0
def efind_s (fdV:List (List AV)→Int→Int) (fdB:List (List AV)→Int→Bool):Sp
 | [.sl 2 f xs,.int .i64 code]=>some (RdsP xs,.tup [.int .i64 (fdV xs code),.bool (fdB xs code)])
 | _=>none
def efind_T (fdV:List (List AV)→Int→Int) (fdB:List (List AV)→Int→Bool) (cdI':Int→List (List AV)→Int):Prop :=
 ∀ (gl:Glob) (f:Bool) (xs:List (List AV)) (code:Int),RdsP xs→True→(-9223372036854775808:Int)≤code∧code≤(9223372036854775807:Int)→RdsP xs∧bif decide (cdI'
 code xs < (0:Int)) then (0:Int)=fdV xs code∧false=fdB xs code∧True else bif decide ((0:Int)≤cdI' code xs∧cdI' code xs < (↑xs.length:Int)) then ∃ n,List.take
 [AV.int IntKind.i64 n].length (List.drop (1:Nat) (xs.getD (cdI' code xs).toNat []))=[AV.int IntKind.i64 n]∧n=fdV xs code∧true=fdB xs code∧True else False
theorem efind_P:efind_T fdV fdB cdI':=by
 unfold efind_T
 intro gl f xs code ⟨hr,hs⟩ _ _
 refine ⟨⟨hr,hs⟩,cs (fun q=>?_) (fun q=>?_)⟩
 ·have:fdB xs code=false:=decide_eq_false (by omega)
  unfold fdV; rw [this]; exact ⟨rfl,rfl,trivial⟩
 ·have hb:fdB xs code=true:=decide_eq_true (by omega)
  have hl:cdI' code xs < (xs.length:Int):=by
   unfold cdI' idxP
   split
   ·next h=>have:=List.findIdx_lt_length_of_exists (p:=cdP code) (xs:=xs) (by simpa [List.any_eq_true] using h); omega
   ·omega
  obtain ⟨e,v,he,_,_⟩:=hr (cdI' code xs).toNat (by omega)
  refine cd1 ⟨by omega,hl⟩ ⟨v,by rw [he]; rfl,?_,hb.symm,trivial⟩
  unfold fdV; rw [if_pos hb,he]; rfl
def efind_S (fdV:List (List AV)→Int→Int) (fdB:List (List AV)→Int→Bool) (cdI':Int→List (List AV)→Int):Prop:=∀ (gl:Glob) (f:Bool) (xs:List (List AV)) (code:Int),RdsP xs→fnK Tryd.prog { glob:=gl,spec:=lk [],specH:=lk [(88,(eixF_s cdI'))],shape:=[16],nowf:=true } { nt:=17,drop:=drp [(1,896),(2,1024),(4,126976)] } (fun _ _=>none) 6 Tryd.f74 [.sl 2 f xs,.int .i64 code] (.tup [.int .i64 (fdV xs code),.bool (fdB xs code)])
theorem efind_e (fdV:List (List AV)→Int→Int) (fdB:List (List AV)→Int→Bool) (cdI':Int→List (List AV)→Int):efind_T fdV fdB cdI'=efind_S fdV fdB cdI':=by kernel_rfl
theorem efind_v:efind_S fdV fdB cdI':=Eq.mp (efind_e ..) (efind_P)
theorem efind_ok (gl:Glob):SOK Tryd.prog gl 74 (efind_s fdV fdB):=by
 refine ⟨fok Tryd.func74 (by kernel_rfl) (by kernel_rfl),?_⟩
 intro xs pre r h hp
 unfold efind_s at h
 split at h
 ·simp only [Option.some.injEq,Prod.mk.injEq] at h
  obtain ⟨h1,h2⟩:=h
  subst h1 h2
  exact fnK_sound tyNil (by exact specOK rfl rfl trivial ⟨(eixF_ok gl),trivial⟩) (by kernel_rfl) Tryd.func74 rfl (efind_v gl _ _ _ hp)
 ·cases h
end Go.Proofs.YtldiagnbagpliaaDoor
namespace Go.Proofs.YtldiagnbagpliaaDoor
open Go
set_option linter.unusedVariables false
set_option linter.unusedSimpArgs false
def rdesc_s (iL:Int→ByteArray) (inLo:Int→Int) (inHi:Int→Int) (inD:Int→Int) (inE:Int→Int):Sp
 | [.int .i64 c]=>some (True,.tup [.agg [.str (iL c),.int .i64 (inLo c),.int .i64 (inHi c),.int .i64 (inD c)],.int .i64 (inE c)])
 | _=>none
def rdesc_T (iL:Int→ByteArray) (inLo:Int→Int) (inHi:Int→Int) (inD:Int→Int) (inE:Int→Int):Prop :=
  ∀ (gl:Glob) (c:Int),IR9 c→bif decide (c < (1:Int)) then ((⟨#[]⟩:ByteArray)=iL c∧(0:Int)=inLo c∧(0:Int)=inHi c∧(0:Int)=inD c∧True)∧(4:Int)=inE c∧True else bif decide (11 < c) then ((⟨#[]⟩:ByteArray)=iL c∧(0:Int)=inLo c∧(0:Int)=inHi c∧(0:Int)=inD c∧True)∧(4:Int)=inE c∧True else bif decide (rng .i64 (c - (1:Int))) then bif decide
 (0≤c - (1:Int)∧c - (1:Int) < (11:Int)) then bif decide ((11:Nat)=11∧(c - (1:Int)).toNat < (11:Nat)) then ∃ s n n_1 n_2,List.take [AV.str s,.int .i64 n,.int .i64 n_1,.int .i64 n_2].length (List.drop (0:Nat) ([[AV.str { data:=#[(80:UInt8)] },.int .i64 (8000:Int),.int .i64 (11000:Int),.int .i64 (5:Int)],[AV.str { data:=#[(84:UInt8)] },.int .i64 (1800:Int),.int .i64 (3300:Int),.int .i64
 (4:Int)],[AV.str { data:=#[(68:UInt8)] },.int .i64 (1800:Int),.int .i64 (3300:Int),.int .i64 (4:Int)],[AV.str { data:=#[(69:UInt8)] },.int .i64 (-1000:Int),.int .i64 (1000:Int),.int .i64 (4:Int)],[AV.str { data:=#[(78:UInt8)] },.int .i64 (-1000:Int),.int .i64 (1000:Int),.int .i64 (4:Int)],[AV.str { data:=#[(65:UInt8)] },.int .i64 (900:Int),.int .i64 (1700:Int),.int .i64
 (4:Int)],[AV.str { data:=#[(66:UInt8)] },.int .i64 (2000:Int),.int .i64 (3200:Int),.int .i64 (4:Int)],[AV.str { data:=#[(70:UInt8)] },.int .i64 (2400:Int),.int .i64 (3400:Int),.int .i64 (4:Int)],[AV.str { data:=#[(71:UInt8)] },.int .i64 (2000:Int),.int .i64 (3000:Int),.int .i64 (4:Int)],[AV.str { data:=#[(74:UInt8)] },.int .i64 (4400:Int),.int .i64 (6200:Int),.int .i64
 (4:Int)],[AV.str { data:=#[(75:UInt8)] },.int .i64 (2000:Int),.int .i64 (2900:Int),.int .i64 (4:Int)]].getD (c - (1:Int)).toNat []))=[AV.str s,.int .i64 n,.int .i64 n_1,.int .i64 n_2]∧(s=iL c∧n=inLo c∧n_1=inHi c∧n_2=inD c∧True)∧(0:Int)=inE c∧True else False else False else False
theorem rdesc_P:rdesc_T iL inLo inHi inD inE:=by
 unfold rdesc_T
 intro gl c hc
 have hn:okC c=false→((⟨#[]⟩:ByteArray)=iL c∧0=inLo c∧0=inHi c∧0=inD c∧True)∧4=inE c∧True:=by
  intro h; unfold iL inLo inHi inD inE; rw [h]; exact ⟨⟨rfl,rfl,rfl,rfl,trivial⟩,rfl,trivial⟩
 refine cs (fun h=>hn (decide_eq_false (by omega))) (fun h1=>cs (fun h=>hn (decide_eq_false (by omega))) (fun h2=>?_))
 have hk:okC c=true:=decide_eq_true (by omega)
 refine cdI (by omega) (cd1 (by omega) (cd1 (by omega) ⟨iL c,inLo c,inHi c,inD c,?_,⟨rfl,rfl,rfl,rfl,trivial⟩,?_,trivial⟩))
 ·rcases okC_cases hk with rfl | rfl | rfl | rfl | rfl | rfl | rfl | rfl | rfl | rfl | rfl <;> kernel_rfl
 ·unfold inE; rw [hk]; rfl
def rdesc_S (iL:Int→ByteArray) (inLo:Int→Int) (inHi:Int→Int) (inD:Int→Int) (inE:Int→Int):Prop:=∀ (gl:Glob) (c:Int),fnK Tryd.prog { glob:=gl,spec:=lk [],specH:=lk [],shape:=[26],nowf:=true } { nt:=27,drop:=drp [(1,496),(2,1024),(3,134215680)] } (fun _ _=>none) 6 Tryd.f68 [.int .i64 c] (.tup [.agg [.str (iL c),.int .i64 (inLo c),.int .i64 (inHi c),.int .i64 (inD c)],.int .i64 (inE c)])
theorem rdesc_e (iL:Int→ByteArray) (inLo:Int→Int) (inHi:Int→Int) (inD:Int→Int) (inE:Int→Int):rdesc_T iL inLo inHi inD inE=rdesc_S iL inLo inHi inD inE:=by kernel_rfl
theorem rdesc_v:rdesc_S iL inLo inHi inD inE:=Eq.mp (rdesc_e ..) (rdesc_P)
theorem rdesc_ok (gl:Glob):SOK Tryd.prog gl 68 (rdesc_s iL inLo inHi inD inE):=by
 refine ⟨fok Tryd.func68 (by kernel_rfl) (by kernel_rfl),?_⟩
 intro xs pre r h hp
 unfold rdesc_s at h
 split at h
 ·simp only [Option.some.injEq,Prod.mk.injEq] at h
  obtain ⟨h1,h2⟩:=h
  subst h1 h2
  exact fnK_sound tyNil (by exact specOK rfl rfl trivial trivial) (by kernel_rfl) Tryd.func68 rfl (rdesc_v gl _)
 ·cases h
structure RviI (p:List AV→Bool) (xs:List (List AV)) (i:Int):Prop where
 lo:0≤i
 hi:i≤xs.length
 no:∀ j:Nat,(j:Int) < i→p (xs.getD j [])=false
structure NoK (xs:List (List AV)) (u:Unit):Prop where
 no:∀ j:Nat,j < xs.length→ckP 4 (xs.getD j [])=false
end Go.Proofs.YtldiagnbagpliaaDoor
namespace Go.Proofs.YtldiagnbagpliaaDoor
open Go
set_option linter.unusedVariables false
set_option linter.unusedSimpArgs false
def crn (f:Int) (k:Nat):Int:=crnT.getD (3*f.toNat+k) 0
def fcs:List Int:=[0,1,2,3,4,5,6,7,8,9,10,11,12,13,14,15,16,17,18,19]
def allN:List Int→(Int→Prop)→Prop
 | [],_=>True
 | x::l,p=>p x∧allN l p
theorem allN_get {p:Int→Prop}:∀ {l:List Int} {f:Int},allN l p→f ∈ l→p f
 | [],f,_,h=>by simp at h
 | x::l,f,h,hf=>by
  simp only [allN] at h
  rcases List.mem_cons.1 hf with rfl | hf
  ·exact h.1
  ·exact allN_get h.2 hf
theorem mem_fcs {f:Int} (h:0≤f∧f < 20):f ∈ fcs:=by
 simp only [fcs,List.mem_cons,List.not_mem_nil,or_false]; omega
def fac (n:Int):Bool:=decide (0≤n∧n < 20)
structure Vld (f a b c:Int):Prop where
 face:0≤f∧f < 20
 wa:0≤a∧a≤840
 wb:0≤b∧b≤840
 wc:0≤c∧c≤840
 sum:a+b+c=840
theorem vld_iff (f a b c:Int):Vld f a b c↔(0≤f∧f < 20)∧(0≤a∧a≤840)∧(0≤b∧b≤840)∧(0≤c∧c≤840)∧a+b+c=840 :=
 ⟨fun h=>⟨h.1,h.2,h.3,h.4,h.5⟩,fun h=>⟨h.1,h.2.1,h.2.2.1,h.2.2.2.1,h.2.2.2.2⟩⟩
instance (f a b c:Int):Decidable (Vld f a b c):=decidable_of_iff _ (vld_iff f a b c).symm
def vld (f a b c:Int):Bool:=decide (Vld f a b c)
def wt (f a b c v:Int):Int:=if crn f 2=v then c else if crn f 1=v then b else if crn f 0=v then a else 0
def sel (ws:List Int) (i:Int):Int:=ws.getD i.toNat 0
def face_s:Sp
 | [.int .i64 n]=>some (True,.bool (fac n))
 | _=>none
def face_T:Prop :=
 ∀ (gl:Glob) (n:Int),IR9 n→bif decide (0≤n) then decide (n < (20:Int))=fac n else false=fac n
theorem face_P:face_T:=by
 unfold face_T
 intro gl n hn
 unfold fac
 simp only [cdec,decide_eq_decide,Bool.true_eq,Bool.false_eq,decide_eq_true_eq,decide_eq_false_iff_not]
 omega
def face_S:Prop:=∀ (gl:Glob) (n:Int),fnK Tryd.prog { glob:=gl,spec:=lk [],specH:=lk [] } { nt:=9,drop:=drp [(1,504)] } (fun _ _=>none) 6 Tryd.f98 [.int .i64 n] (.bool (fac n))
theorem face_e:face_T=face_S:=by kernel_rfl
theorem face_v:face_S:=Eq.mp (face_e ..) (face_P)
theorem face_ok (gl:Glob):SOK Tryd.prog gl 98 face_s:=by
 refine ⟨fok Tryd.func98 (by kernel_rfl) (by kernel_rfl),?_⟩
 intro xs pre r h hp
 unfold face_s at h
 split at h
 ·simp only [Option.some.injEq,Prod.mk.injEq] at h
  obtain ⟨h1,h2⟩:=h
  subst h1 h2
  exact fnK_sound tyNil (by exact specOK rfl rfl trivial trivial) (by kernel_rfl) Tryd.func98 rfl (face_v gl _)
 ·cases h
def valid_s (vld:Int→Int→Int→Int→Bool):Sp
 | [.agg [.int .i64 f,.int .i64 a,.int .i64 b,.int .i64 c]]=>some (True,.bool (vld f a b c))
 | _=>none
def valid_T (vld:Int→Int→Int→Int→Bool):Prop :=
  ∀ (gl:Glob) (f a b c:Int),(IR9 f)∧(IR9 a)∧(IR9 b)∧(IR9 c)∧True→bif decide (a < (0:Int)) then false=vld f a b c else bif decide (840 < a) then false=vld f a b c else bif
 decide (b < (0:Int)) then false=vld f a b c else bif decide (840 < b) then false=vld f a b c else bif decide (c < (0:Int)) then false=vld f a b c else bif decide (840 < c) then false=vld f a b c else True∧(True→bif fac f then bif decide (rng .i64 (a+b)) then bif decide (rng .i64 (a+b+c)) then decide (a+b+c=(840:Int))=vld f a b c else False else False else false=vld f a b c)
theorem valid_P:valid_T vld:=by
 unfold valid_T
 intro gl f a b c h
 simp only [↓cdecF,cdec,vld,fac]
 simp only [rng,decide_eq_decide,Bool.false_eq,decide_eq_false_iff_not,vld_iff]
 repeat' (first | exact trivial | intro _ | apply And.intro)
 all_goals omega
def valid_S (vld:Int→Int→Int→Int→Bool):Prop:=∀ (gl:Glob) (f a b c:Int),fnK Tryd.prog { glob:=gl,spec:=lk [(98,face_s)],specH:=lk [] } { nt:=36,drop:=drp [(1,2016),(3,16384),(4,1015808),(6,2097152),(7,68715282432)] } (fun _ _=>none) 6 Tryd.f89 [.agg [.int .i64 f,.int .i64 a,.int .i64 b,.int .i64 c]] (.bool (vld f a b c))
theorem valid_e (vld:Int→Int→Int→Int→Bool):valid_T vld=valid_S vld:=by kernel_rfl
theorem valid_v:valid_S vld:=Eq.mp (valid_e ..) (valid_P)
theorem valid_ok (gl:Glob):SOK Tryd.prog gl 89 (valid_s vld):=by
 refine ⟨fok Tryd.func89 (by kernel_rfl) (by kernel_rfl),?_⟩
 intro xs pre r h hp
 unfold valid_s at h
 split at h
 ·simp only [Option.some.injEq,Prod.mk.injEq] at h
  obtain ⟨h1,h2⟩:=h
  subst h1 h2
  exact fnK_sound tyNil (by exact specOK rfl rfl ⟨(face_ok gl),trivial⟩ trivial) (by kernel_rfl) Tryd.func89 rfl (valid_v gl _ _ _ _)
 ·cases h
def of_s:Sp
 | [.agg [.int .i64 f,.int .i64 a,.int .i64 b,.int .i64 c]]=>some (0≤f∧f < 20,.agg [.int .i64 (wt f a b c 0),.int .i64 (wt f a b c 1),.int .i64 (wt f a b c 2),.int .i64 (wt f a b c 3),.int .i64 (wt f a b c 4),.int .i64 (wt f a b c 5),.int .i64 (wt f a b c 6),.int .i64 (wt f a b c 7),.int .i64 (wt f a b c 8),.int .i64 (wt f a b c 9),.int .i64 (wt f a b c 10),.int .i64 (wt f a b c 11)])
 | _=>none
def on_s:Sp
 | [.int .i64 n,.agg [.int .i64 w0,.int .i64 w1,.int .i64 w2,.int .i64 w3,.int .i64 w4,.int .i64 w5,.int .i64 w6,.int .i64 w7,.int .i64 w8,.int .i64 w9,.int .i64 w10,.int .i64 w11]]=>some (0≤n∧n < 20,.tup [.agg [.int .i64 n,.int .i64 (sel [w0,w1,w2,w3,w4,w5,w6,w7,w8,w9,w10,w11] (crn n 0)),.int .i64 (sel [w0,w1,w2,w3,w4,w5,w6,w7,w8,w9,w10,w11] (crn n 1)),.int .i64 (sel [w0,w1,w2,w3,w4,w5,w6,w7,w8,w9,w10,w11] (crn n 2))],.bool (vld n (sel [w0,w1,w2,w3,w4,w5,w6,w7,w8,w9,w10,w11] (crn n 0)) (sel [w0,w1,w2,w3,w4,w5,w6,w7,w8,w9,w10,w11] (crn n 1)) (sel [w0,w1,w2,w3,w4,w5,w6,w7,w8,w9,w10,w11] (crn n 2)))])
 | _=>none
def of20_T:Prop :=
  ∀ (a b c:Int),(((-9223372036854775808:Int)≤(0:Int)∧(0:Int)≤(9223372036854775807:Int))∧(IR9 a)∧(IR9 b)∧(IR9 c)∧True→a=wt (0:Int) a b c (0:Int)∧b=wt (0:Int) a b c (1:Int)∧c=wt (0:Int) a b c (2:Int)∧(0:Int)=wt (0:Int) a b c
 (3:Int)∧(0:Int)=wt (0:Int) a b c (4:Int)∧(0:Int)=wt (0:Int) a b c (5:Int)∧(0:Int)=wt (0:Int) a b c (6:Int)∧(0:Int)=wt (0:Int) a b c (7:Int)∧(0:Int)=wt (0:Int) a b c (8:Int)∧(0:Int)=wt (0:Int) a b c (9:Int)∧(0:Int)=wt (0:Int) a b c (10:Int)∧(0:Int)=wt (0:Int) a b c (11:Int)∧True)∧(((-9223372036854775808:Int)≤(1:Int)∧(1:Int)≤(9223372036854775807:Int))∧((-9223372036854775808:Int)≤a∧a ≤
 (9223372036854775807:Int))∧(IR9 b)∧(IR9 c)∧True→a=wt (1:Int) a b c (0:Int)∧(0:Int)=wt (1:Int) a b c (1:Int)∧b=wt (1:Int) a b c (2:Int)∧c=wt (1:Int) a b c (3:Int)∧(0:Int)=wt (1:Int) a b c (4:Int)∧(0:Int)=wt (1:Int) a b c (5:Int)∧(0:Int)=wt (1:Int) a b c (6:Int)∧(0:Int)=wt (1:Int) a b c
 (7:Int)∧(0:Int)=wt (1:Int) a b c (8:Int)∧(0:Int)=wt (1:Int) a b c (9:Int)∧(0:Int)=wt (1:Int) a b c (10:Int)∧(0:Int)=wt (1:Int) a b c (11:Int)∧True)∧(((-9223372036854775808:Int)≤(2:Int)∧(2:Int)≤(9223372036854775807:Int))∧(IR9 a)∧(IR9 b)∧((-9223372036854775808:Int)≤c∧c ≤
 (9223372036854775807:Int))∧True→a=wt (2:Int) a b c (0:Int)∧(0:Int)=wt (2:Int) a b c (1:Int)∧(0:Int)=wt (2:Int) a b c (2:Int)∧b=wt (2:Int) a b c (3:Int)∧c=wt (2:Int) a b c (4:Int)∧(0:Int)=wt (2:Int) a b c (5:Int)∧(0:Int)=wt (2:Int) a b c (6:Int)∧(0:Int)=wt (2:Int) a b c (7:Int)∧(0:Int)=wt (2:Int) a b c (8:Int)∧(0:Int)=wt (2:Int) a b c (9:Int)∧(0:Int)=wt (2:Int) a b c (10:Int)∧(0:Int)=wt (2:Int) a b
 c (11:Int)∧True)∧(((-9223372036854775808:Int)≤(3:Int)∧(3:Int)≤(9223372036854775807:Int))∧(IR9 a)∧(IR9 b)∧(IR9 c)∧True→a=wt (3:Int) a b c (0:Int)∧(0:Int)=wt (3:Int) a b c (1:Int)∧(0:Int)=wt (3:Int) a b c (2:Int)∧(0:Int)=wt (3:Int) a
 b c (3:Int)∧b=wt (3:Int) a b c (4:Int)∧c=wt (3:Int) a b c (5:Int)∧(0:Int)=wt (3:Int) a b c (6:Int)∧(0:Int)=wt (3:Int) a b c (7:Int)∧(0:Int)=wt (3:Int) a b c (8:Int)∧(0:Int)=wt (3:Int) a b c (9:Int)∧(0:Int)=wt (3:Int) a b c (10:Int)∧(0:Int)=wt (3:Int) a b c (11:Int)∧True)∧(((-9223372036854775808:Int)≤(4:Int)∧(4:Int)≤(9223372036854775807:Int))∧((-9223372036854775808:Int)≤a∧a ≤
 (9223372036854775807:Int))∧(IR9 b)∧(IR9 c)∧True→a=wt (4:Int) a b c (0:Int)∧c=wt (4:Int) a b c (1:Int)∧(0:Int)=wt (4:Int) a b c (2:Int)∧(0:Int)=wt (4:Int) a b c (3:Int)∧(0:Int)=wt (4:Int) a b c (4:Int)∧b=wt (4:Int) a b c (5:Int)∧(0:Int)=wt (4:Int) a b c (6:Int)∧(0:Int)=wt (4:Int) a b c
 (7:Int)∧(0:Int)=wt (4:Int) a b c (8:Int)∧(0:Int)=wt (4:Int) a b c (9:Int)∧(0:Int)=wt (4:Int) a b c (10:Int)∧(0:Int)=wt (4:Int) a b c (11:Int)∧True)∧(((-9223372036854775808:Int)≤(5:Int)∧(5:Int)≤(9223372036854775807:Int))∧(IR9 a)∧(IR9 b)∧((-9223372036854775808:Int)≤c∧c ≤
 (9223372036854775807:Int))∧True→(0:Int)=wt (5:Int) a b c (0:Int)∧a=wt (5:Int) a b c (1:Int)∧c=wt (5:Int) a b c (2:Int)∧(0:Int)=wt (5:Int) a b c (3:Int)∧(0:Int)=wt (5:Int) a b c (4:Int)∧(0:Int)=wt (5:Int) a b c (5:Int)∧b=wt (5:Int) a b c (6:Int)∧(0:Int)=wt (5:Int) a b c (7:Int)∧(0:Int)=wt (5:Int) a b c (8:Int)∧(0:Int)=wt (5:Int) a b c (9:Int)∧(0:Int)=wt (5:Int) a b c (10:Int)∧(0:Int)=wt (5:Int) a b
 c (11:Int)∧True)∧(((-9223372036854775808:Int)≤(6:Int)∧(6:Int)≤(9223372036854775807:Int))∧(IR9 a)∧(IR9 b)∧(IR9 c)∧True→(0:Int)=wt (6:Int) a b c (0:Int)∧(0:Int)=wt (6:Int) a b c (1:Int)∧a=wt (6:Int) a b c (2:Int)∧c=wt (6:Int) a b c
 (3:Int)∧(0:Int)=wt (6:Int) a b c (4:Int)∧(0:Int)=wt (6:Int) a b c (5:Int)∧(0:Int)=wt (6:Int) a b c (6:Int)∧b=wt (6:Int) a b c (7:Int)∧(0:Int)=wt (6:Int) a b c (8:Int)∧(0:Int)=wt (6:Int) a b c (9:Int)∧(0:Int)=wt (6:Int) a b c (10:Int)∧(0:Int)=wt (6:Int) a b c (11:Int)∧True)∧(((-9223372036854775808:Int)≤(7:Int)∧(7:Int)≤(9223372036854775807:Int))∧((-9223372036854775808:Int)≤a∧a ≤
 (9223372036854775807:Int))∧(IR9 b)∧(IR9 c)∧True→(0:Int)=wt (7:Int) a b c (0:Int)∧(0:Int)=wt (7:Int) a b c (1:Int)∧(0:Int)=wt (7:Int) a b c (2:Int)∧a=wt (7:Int) a b c (3:Int)∧c=wt (7:Int) a b c (4:Int)∧(0:Int)=wt (7:Int) a b c (5:Int)∧(0:Int)=wt (7:Int) a b c (6:Int)∧(0:Int)=wt (7:Int) a b c
 (7:Int)∧b=wt (7:Int) a b c (8:Int)∧(0:Int)=wt (7:Int) a b c (9:Int)∧(0:Int)=wt (7:Int) a b c (10:Int)∧(0:Int)=wt (7:Int) a b c (11:Int)∧True)∧(((-9223372036854775808:Int)≤(8:Int)∧(8:Int)≤(9223372036854775807:Int))∧(IR9 a)∧(IR9 b)∧((-9223372036854775808:Int)≤c∧c ≤
 (9223372036854775807:Int))∧True→(0:Int)=wt (8:Int) a b c (0:Int)∧(0:Int)=wt (8:Int) a b c (1:Int)∧(0:Int)=wt (8:Int) a b c (2:Int)∧(0:Int)=wt (8:Int) a b c (3:Int)∧a=wt (8:Int) a b c (4:Int)∧c=wt (8:Int) a b c (5:Int)∧(0:Int)=wt (8:Int) a b c (6:Int)∧(0:Int)=wt (8:Int) a b c (7:Int)∧(0:Int)=wt (8:Int) a b c (8:Int)∧b=wt (8:Int) a b c (9:Int)∧(0:Int)=wt (8:Int) a b c (10:Int)∧(0:Int)=wt (8:Int) a b
 c (11:Int)∧True)∧(((-9223372036854775808:Int)≤(9:Int)∧(9:Int)≤(9223372036854775807:Int))∧(IR9 a)∧(IR9 b)∧(IR9 c)∧True→(0:Int)=wt (9:Int) a b c (0:Int)∧c=wt (9:Int) a b c (1:Int)∧(0:Int)=wt (9:Int) a b c (2:Int)∧(0:Int)=wt (9:Int) a
 b c (3:Int)∧(0:Int)=wt (9:Int) a b c (4:Int)∧a=wt (9:Int) a b c (5:Int)∧(0:Int)=wt (9:Int) a b c (6:Int)∧(0:Int)=wt (9:Int) a b c (7:Int)∧(0:Int)=wt (9:Int) a b c (8:Int)∧(0:Int)=wt (9:Int) a b c (9:Int)∧b=wt (9:Int) a b c (10:Int)∧(0:Int)=wt (9:Int) a b c (11:Int)∧True)∧(((-9223372036854775808:Int)≤(10:Int)∧(10:Int)≤(9223372036854775807:Int))∧((-9223372036854775808:Int)≤a∧a ≤
 (9223372036854775807:Int))∧(IR9 b)∧(IR9 c)∧True→(0:Int)=wt (10:Int) a b c (0:Int)∧(0:Int)=wt (10:Int) a b c (1:Int)∧c=wt (10:Int) a b c (2:Int)∧(0:Int)=wt (10:Int) a b c (3:Int)∧(0:Int)=wt (10:Int) a b c (4:Int)∧(0:Int)=wt (10:Int) a b c (5:Int)∧a=wt (10:Int) a b c (6:Int)∧b=wt (10:Int) a b
 c (7:Int)∧(0:Int)=wt (10:Int) a b c (8:Int)∧(0:Int)=wt (10:Int) a b c (9:Int)∧(0:Int)=wt (10:Int) a b c (10:Int)∧(0:Int)=wt (10:Int) a b c (11:Int)∧True)∧(((-9223372036854775808:Int)≤(11:Int)∧(11:Int)≤(9223372036854775807:Int))∧(IR9 a)∧(IR9 b)∧((-9223372036854775808:Int)≤c∧c ≤
 (9223372036854775807:Int))∧True→(0:Int)=wt (11:Int) a b c (0:Int)∧(0:Int)=wt (11:Int) a b c (1:Int)∧(0:Int)=wt (11:Int) a b c (2:Int)∧c=wt (11:Int) a b c (3:Int)∧(0:Int)=wt (11:Int) a b c (4:Int)∧(0:Int)=wt (11:Int) a b c (5:Int)∧(0:Int)=wt (11:Int) a b c (6:Int)∧a=wt (11:Int) a b c (7:Int)∧b=wt (11:Int) a b c (8:Int)∧(0:Int)=wt (11:Int) a b c (9:Int)∧(0:Int)=wt (11:Int) a b c (10:Int)∧(0:Int)=wt
 (11:Int) a b c (11:Int)∧True)∧(((-9223372036854775808:Int)≤(12:Int)∧(12:Int)≤(9223372036854775807:Int))∧(IR9 a)∧(IR9 b)∧(IR9 c)∧True→(0:Int)=wt (12:Int) a b c (0:Int)∧(0:Int)=wt (12:Int) a b c (1:Int)∧(0:Int)=wt (12:Int) a b c
 (2:Int)∧(0:Int)=wt (12:Int) a b c (3:Int)∧c=wt (12:Int) a b c (4:Int)∧(0:Int)=wt (12:Int) a b c (5:Int)∧(0:Int)=wt (12:Int) a b c (6:Int)∧(0:Int)=wt (12:Int) a b c (7:Int)∧a=wt (12:Int) a b c (8:Int)∧b=wt (12:Int) a b c (9:Int)∧(0:Int)=wt (12:Int) a b c (10:Int)∧(0:Int)=wt (12:Int) a b c (11:Int)∧True)∧(((-9223372036854775808:Int)≤(13:Int)∧(13:Int) ≤
 (9223372036854775807:Int))∧(IR9 a)∧(IR9 b)∧(IR9 c)∧True→(0:Int)=wt (13:Int) a b c (0:Int)∧(0:Int)=wt (13:Int) a b c (1:Int)∧(0:Int)=wt (13:Int) a b c (2:Int)∧(0:Int)=wt (13:Int) a b c (3:Int)∧(0:Int)=wt (13:Int) a b c (4:Int)∧c=wt
 (13:Int) a b c (5:Int)∧(0:Int)=wt (13:Int) a b c (6:Int)∧(0:Int)=wt (13:Int) a b c (7:Int)∧(0:Int)=wt (13:Int) a b c (8:Int)∧a=wt (13:Int) a b c (9:Int)∧b=wt (13:Int) a b c (10:Int)∧(0:Int)=wt (13:Int) a b c (11:Int)∧True)∧(((-9223372036854775808:Int)≤(14:Int)∧(14:Int)≤(9223372036854775807:Int))∧(IR9 a)∧((-9223372036854775808:Int)≤b∧b ≤
 (9223372036854775807:Int))∧(IR9 c)∧True→(0:Int)=wt (14:Int) a b c (0:Int)∧c=wt (14:Int) a b c (1:Int)∧(0:Int)=wt (14:Int) a b c (2:Int)∧(0:Int)=wt (14:Int) a b c (3:Int)∧(0:Int)=wt (14:Int) a b c (4:Int)∧(0:Int)=wt (14:Int) a b c (5:Int)∧b=wt (14:Int) a b c (6:Int)∧(0:Int)=wt (14:Int) a b c (7:Int)∧(0:Int)=wt (14:Int) a b c (8:Int)∧(0:Int)=wt
 (14:Int) a b c (9:Int)∧a=wt (14:Int) a b c (10:Int)∧(0:Int)=wt (14:Int) a b c (11:Int)∧True)∧(((-9223372036854775808:Int)≤(15:Int)∧(15:Int)≤(9223372036854775807:Int))∧(IR9 a)∧(IR9 b)∧(IR9 c)∧True→(0:Int)=wt (15:Int) a b c
 (0:Int)∧(0:Int)=wt (15:Int) a b c (1:Int)∧(0:Int)=wt (15:Int) a b c (2:Int)∧(0:Int)=wt (15:Int) a b c (3:Int)∧(0:Int)=wt (15:Int) a b c (4:Int)∧(0:Int)=wt (15:Int) a b c (5:Int)∧c=wt (15:Int) a b c (6:Int)∧b=wt (15:Int) a b c (7:Int)∧(0:Int)=wt (15:Int) a b c (8:Int)∧(0:Int)=wt (15:Int) a b c (9:Int)∧(0:Int)=wt (15:Int) a b c (10:Int)∧a=wt (15:Int) a b c (11:Int)∧True)∧(((-9223372036854775808:Int)
≤(16:Int)∧(16:Int)≤(9223372036854775807:Int))∧(IR9 a)∧(IR9 b)∧(IR9 c)∧True→(0:Int)=wt (16:Int) a b c (0:Int)∧(0:Int)=wt (16:Int) a b c (1:Int)∧(0:Int)=wt (16:Int) a b c (2:Int)∧(0:Int)=wt (16:Int) a b c (3:Int)∧(0:Int)=wt (16:Int) a
 b c (4:Int)∧(0:Int)=wt (16:Int) a b c (5:Int)∧(0:Int)=wt (16:Int) a b c (6:Int)∧c=wt (16:Int) a b c (7:Int)∧b=wt (16:Int) a b c (8:Int)∧(0:Int)=wt (16:Int) a b c (9:Int)∧(0:Int)=wt (16:Int) a b c (10:Int)∧a=wt (16:Int) a b c (11:Int)∧True)∧(((-9223372036854775808:Int)≤(17:Int)∧(17:Int)≤(9223372036854775807:Int))∧((-9223372036854775808:Int)≤a∧a ≤
 (9223372036854775807:Int))∧(IR9 b)∧(IR9 c)∧True→(0:Int)=wt (17:Int) a b c (0:Int)∧(0:Int)=wt (17:Int) a b c (1:Int)∧(0:Int)=wt (17:Int) a b c (2:Int)∧(0:Int)=wt (17:Int) a b c (3:Int)∧(0:Int)=wt (17:Int) a b c (4:Int)∧(0:Int)=wt (17:Int) a b c (5:Int)∧(0:Int)=wt (17:Int) a b c
 (6:Int)∧(0:Int)=wt (17:Int) a b c (7:Int)∧c=wt (17:Int) a b c (8:Int)∧b=wt (17:Int) a b c (9:Int)∧(0:Int)=wt (17:Int) a b c (10:Int)∧a=wt (17:Int) a b c (11:Int)∧True)∧(((-9223372036854775808:Int)≤(18:Int)∧(18:Int)≤(9223372036854775807:Int))∧(IR9 a)∧(IR9 b)∧((-9223372036854775808:Int) ≤
 c∧c≤(9223372036854775807:Int))∧True→(0:Int)=wt (18:Int) a b c (0:Int)∧(0:Int)=wt (18:Int) a b c (1:Int)∧(0:Int)=wt (18:Int) a b c (2:Int)∧(0:Int)=wt (18:Int) a b c (3:Int)∧(0:Int)=wt (18:Int) a b c (4:Int)∧(0:Int)=wt (18:Int) a b c (5:Int)∧(0:Int)=wt (18:Int) a b c (6:Int)∧(0:Int)=wt (18:Int) a b c (7:Int)∧(0:Int)=wt (18:Int) a b c (8:Int)∧c=wt (18:Int) a b c (9:Int)∧b=wt (18:Int) a b c
 (10:Int)∧a=wt (18:Int) a b c (11:Int)∧True)∧(((-9223372036854775808:Int)≤(19:Int)∧(19:Int)≤(9223372036854775807:Int))∧(IR9 a)∧(IR9 b)∧(IR9 c)∧True→(0:Int)=wt (19:Int) a b c (0:Int)∧(0:Int)=wt (19:Int) a b c (1:Int)∧(0:Int)=wt
 (19:Int) a b c (2:Int)∧(0:Int)=wt (19:Int) a b c (3:Int)∧(0:Int)=wt (19:Int) a b c (4:Int)∧(0:Int)=wt (19:Int) a b c (5:Int)∧b=wt (19:Int) a b c (6:Int)∧(0:Int)=wt (19:Int) a b c (7:Int)∧(0:Int)=wt (19:Int) a b c (8:Int)∧(0:Int)=wt (19:Int) a b c (9:Int)∧c=wt (19:Int) a b c (10:Int)∧a=wt (19:Int) a b c (11:Int)∧True)∧True
theorem of20_P:of20_T:=by
 unfold of20_T
 intro a b c
 repeat' (first | exact trivial | intro _ | rfl | apply And.intro)
def of20_S:Prop:=∀ a b c:Int,allN fcs fun f=>fnK Tryd.prog { glob:=glb } { nt:=25 } (fun _ _=>none) 6 Tryd.f90 [.agg [.int .i64 f,.int .i64 a,.int .i64 b,.int .i64 c]] (.agg [.int .i64 (wt f a b c 0),.int .i64 (wt f a b c 1),.int .i64 (wt f a b c 2),.int .i64 (wt f a b c 3),.int .i64 (wt f a b c 4),.int .i64 (wt f a b c 5),.int .i64 (wt f a b c 6),.int .i64 (wt f a b c 7),.int .i64 (wt f a b c 8),.int .i64 (wt f a b c 9),.int .i64 (wt f a b c 10),.int .i64 (wt f a b c 11)])
theorem of20_e:of20_T=of20_S:=by kernel_rfl
theorem of20:of20_S:=@Eq.mp (of20_T) (of20_S) (of20_e) (of20_P)
def on20_T:Prop :=
  ∀ (w0 w1 w2 w3 w4 w5 w6 w7 w8 w9 w10 w11:Int),((-9223372036854775808:Int)≤(0:Int)∧(0:Int)≤(9223372036854775807:Int)→(IR9 w0)∧(IR9 w1)∧(IR9 w2)∧((-9223372036854775808:Int)≤w3∧w3 ≤
 (9223372036854775807:Int))∧(IR9 w4)∧(IR9 w5)∧(IR9 w6)∧(IR9 w7)∧(IR9 w8)∧((-9223372036854775808:Int)≤w9∧w9 ≤
 (9223372036854775807:Int))∧(IR9 w10)∧(IR9 w11)∧True→True∧((0:Int)=0∧w0=sel [w0,w1,w2,w3,w4,w5,w6,w7,w8,w9,w10,w11] (0:Int)∧w1=sel [w0,w1,w2,w3,w4,w5,w6,w7,w8,w9,w10,w11] (1:Int)∧w2=sel [w0,w1,w2,w3,w4,w5,w6,w7,w8,w9,w10,w11] (2:Int)∧True)∧vld (0:Int) w0 w1 w2=vld (0:Int) (sel
 [w0,w1,w2,w3,w4,w5,w6,w7,w8,w9,w10,w11] (0:Int)) (sel [w0,w1,w2,w3,w4,w5,w6,w7,w8,w9,w10,w11] (1:Int)) (sel [w0,w1,w2,w3,w4,w5,w6,w7,w8,w9,w10,w11] (2:Int))∧True)∧((-9223372036854775808:Int)≤(1:Int)∧(1:Int)≤(9223372036854775807:Int)→(IR9 w0)∧(IR9 w1)∧((-9223372036854775808:Int) ≤
 w2∧w2≤(9223372036854775807:Int))∧(IR9 w3)∧(IR9 w4)∧(IR9 w5)∧(IR9 w6)∧(IR9 w7)∧((-9223372036854775808:Int)≤w8∧w8 ≤
 (9223372036854775807:Int))∧(IR9 w9)∧(IR9 w10)∧(IR9 w11)∧True→True∧((1:Int)=1∧w0=sel [w0,w1,w2,w3,w4,w5,w6,w7,w8,w9,w10,w11] (0:Int)∧w2=sel [w0,w1,w2,w3,w4,w5,w6,w7,w8,w9,w10,w11] (2:Int)∧w3=sel
 [w0,w1,w2,w3,w4,w5,w6,w7,w8,w9,w10,w11] (3:Int)∧True)∧vld (1:Int) w0 w2 w3=vld (1:Int) (sel [w0,w1,w2,w3,w4,w5,w6,w7,w8,w9,w10,w11] (0:Int)) (sel [w0,w1,w2,w3,w4,w5,w6,w7,w8,w9,w10,w11] (2:Int)) (sel [w0,w1,w2,w3,w4,w5,w6,w7,w8,w9,w10,w11] (3:Int))∧True)∧((-9223372036854775808:Int)≤(2:Int)∧(2:Int)≤(9223372036854775807:Int)→((-9223372036854775808:Int)≤w0∧w0 ≤
 (9223372036854775807:Int))∧(IR9 w1)∧(IR9 w2)∧(IR9 w3)∧(IR9 w4)∧(IR9 w5)∧((-9223372036854775808:Int)≤w6∧w6 ≤
 (9223372036854775807:Int))∧(IR9 w7)∧(IR9 w8)∧(IR9 w9)∧(IR9 w10)∧(IR9 w11)∧True→True∧((2:Int)=2∧w0=sel
 [w0,w1,w2,w3,w4,w5,w6,w7,w8,w9,w10,w11] (0:Int)∧w3=sel [w0,w1,w2,w3,w4,w5,w6,w7,w8,w9,w10,w11] (3:Int)∧w4=sel [w0,w1,w2,w3,w4,w5,w6,w7,w8,w9,w10,w11] (4:Int)∧True)∧vld (2:Int) w0 w3 w4=vld (2:Int) (sel [w0,w1,w2,w3,w4,w5,w6,w7,w8,w9,w10,w11] (0:Int)) (sel [w0,w1,w2,w3,w4,w5,w6,w7,w8,w9,w10,w11] (3:Int)) (sel [w0,w1,w2,w3,w4,w5,w6,w7,w8,w9,w10,w11] (4:Int))∧True)∧((-9223372036854775808:Int) ≤
 (3:Int)∧(3:Int)≤(9223372036854775807:Int)→(IR9 w0)∧(IR9 w1)∧(IR9 w2)∧(IR9 w3)∧(IR9 w4)∧((-9223372036854775808:Int) ≤
 w5∧w5≤(9223372036854775807:Int))∧(IR9 w6)∧(IR9 w7)∧(IR9 w8)∧(IR9 w9)∧(IR9 w10)∧((-9223372036854775808:Int)≤w11∧w11 ≤
 (9223372036854775807:Int))∧True→True∧((3:Int)=3∧w0=sel [w0,w1,w2,w3,w4,w5,w6,w7,w8,w9,w10,w11] (0:Int)∧w4=sel [w0,w1,w2,w3,w4,w5,w6,w7,w8,w9,w10,w11] (4:Int)∧w5=sel [w0,w1,w2,w3,w4,w5,w6,w7,w8,w9,w10,w11] (5:Int)∧True)∧vld (3:Int) w0 w4 w5=vld (3:Int) (sel [w0,w1,w2,w3,w4,w5,w6,w7,w8,w9,w10,w11] (0:Int)) (sel [w0,w1,w2,w3,w4,w5,w6,w7,w8,w9,w10,w11] (4:Int)) (sel
 [w0,w1,w2,w3,w4,w5,w6,w7,w8,w9,w10,w11] (5:Int))∧True)∧((-9223372036854775808:Int)≤(4:Int)∧(4:Int)≤(9223372036854775807:Int)→(IR9 w0)∧(IR9 w1)∧(IR9 w2)∧((-9223372036854775808:Int)≤w3∧w3 ≤
 (9223372036854775807:Int))∧(IR9 w4)∧(IR9 w5)∧(IR9 w6)∧(IR9 w7)∧(IR9 w8)∧((-9223372036854775808:Int)≤w9∧w9 ≤
 (9223372036854775807:Int))∧(IR9 w10)∧(IR9 w11)∧True→True∧((4:Int)=4∧w0=sel [w0,w1,w2,w3,w4,w5,w6,w7,w8,w9,w10,w11] (0:Int)∧w5=sel [w0,w1,w2,w3,w4,w5,w6,w7,w8,w9,w10,w11] (5:Int)∧w1=sel [w0,w1,w2,w3,w4,w5,w6,w7,w8,w9,w10,w11] (1:Int)∧True)∧vld (4:Int) w0 w5 w1=vld (4:Int) (sel
 [w0,w1,w2,w3,w4,w5,w6,w7,w8,w9,w10,w11] (0:Int)) (sel [w0,w1,w2,w3,w4,w5,w6,w7,w8,w9,w10,w11] (5:Int)) (sel [w0,w1,w2,w3,w4,w5,w6,w7,w8,w9,w10,w11] (1:Int))∧True)∧((-9223372036854775808:Int)≤(5:Int)∧(5:Int)≤(9223372036854775807:Int)→(IR9 w0)∧(IR9 w1)∧((-9223372036854775808:Int) ≤
 w2∧w2≤(9223372036854775807:Int))∧(IR9 w3)∧(IR9 w4)∧(IR9 w5)∧(IR9 w6)∧(IR9 w7)∧((-9223372036854775808:Int)≤w8∧w8 ≤
 (9223372036854775807:Int))∧(IR9 w9)∧(IR9 w10)∧(IR9 w11)∧True→True∧((5:Int)=5∧w1=sel [w0,w1,w2,w3,w4,w5,w6,w7,w8,w9,w10,w11] (1:Int)∧w6=sel [w0,w1,w2,w3,w4,w5,w6,w7,w8,w9,w10,w11] (6:Int)∧w2=sel
 [w0,w1,w2,w3,w4,w5,w6,w7,w8,w9,w10,w11] (2:Int)∧True)∧vld (5:Int) w1 w6 w2=vld (5:Int) (sel [w0,w1,w2,w3,w4,w5,w6,w7,w8,w9,w10,w11] (1:Int)) (sel [w0,w1,w2,w3,w4,w5,w6,w7,w8,w9,w10,w11] (6:Int)) (sel [w0,w1,w2,w3,w4,w5,w6,w7,w8,w9,w10,w11] (2:Int))∧True)∧((-9223372036854775808:Int)≤(6:Int)∧(6:Int)≤(9223372036854775807:Int)→((-9223372036854775808:Int)≤w0∧w0 ≤
 (9223372036854775807:Int))∧(IR9 w1)∧(IR9 w2)∧(IR9 w3)∧(IR9 w4)∧(IR9 w5)∧((-9223372036854775808:Int)≤w6∧w6 ≤
 (9223372036854775807:Int))∧(IR9 w7)∧(IR9 w8)∧(IR9 w9)∧(IR9 w10)∧(IR9 w11)∧True→True∧((6:Int)=6∧w2=sel
 [w0,w1,w2,w3,w4,w5,w6,w7,w8,w9,w10,w11] (2:Int)∧w7=sel [w0,w1,w2,w3,w4,w5,w6,w7,w8,w9,w10,w11] (7:Int)∧w3=sel [w0,w1,w2,w3,w4,w5,w6,w7,w8,w9,w10,w11] (3:Int)∧True)∧vld (6:Int) w2 w7 w3=vld (6:Int) (sel [w0,w1,w2,w3,w4,w5,w6,w7,w8,w9,w10,w11] (2:Int)) (sel [w0,w1,w2,w3,w4,w5,w6,w7,w8,w9,w10,w11] (7:Int)) (sel [w0,w1,w2,w3,w4,w5,w6,w7,w8,w9,w10,w11] (3:Int))∧True)∧((-9223372036854775808:Int) ≤
 (7:Int)∧(7:Int)≤(9223372036854775807:Int)→(IR9 w0)∧(IR9 w1)∧(IR9 w2)∧(IR9 w3)∧(IR9 w4)∧((-9223372036854775808:Int) ≤
 w5∧w5≤(9223372036854775807:Int))∧(IR9 w6)∧(IR9 w7)∧(IR9 w8)∧(IR9 w9)∧(IR9 w10)∧((-9223372036854775808:Int)≤w11∧w11 ≤
 (9223372036854775807:Int))∧True→True∧((7:Int)=7∧w3=sel [w0,w1,w2,w3,w4,w5,w6,w7,w8,w9,w10,w11] (3:Int)∧w8=sel [w0,w1,w2,w3,w4,w5,w6,w7,w8,w9,w10,w11] (8:Int)∧w4=sel [w0,w1,w2,w3,w4,w5,w6,w7,w8,w9,w10,w11] (4:Int)∧True)∧vld (7:Int) w3 w8 w4=vld (7:Int) (sel [w0,w1,w2,w3,w4,w5,w6,w7,w8,w9,w10,w11] (3:Int)) (sel [w0,w1,w2,w3,w4,w5,w6,w7,w8,w9,w10,w11] (8:Int)) (sel
 [w0,w1,w2,w3,w4,w5,w6,w7,w8,w9,w10,w11] (4:Int))∧True)∧((-9223372036854775808:Int)≤(8:Int)∧(8:Int)≤(9223372036854775807:Int)→(IR9 w0)∧(IR9 w1)∧(IR9 w2)∧((-9223372036854775808:Int)≤w3∧w3 ≤
 (9223372036854775807:Int))∧(IR9 w4)∧(IR9 w5)∧(IR9 w6)∧(IR9 w7)∧(IR9 w8)∧((-9223372036854775808:Int)≤w9∧w9 ≤
 (9223372036854775807:Int))∧(IR9 w10)∧(IR9 w11)∧True→True∧((8:Int)=8∧w4=sel [w0,w1,w2,w3,w4,w5,w6,w7,w8,w9,w10,w11] (4:Int)∧w9=sel [w0,w1,w2,w3,w4,w5,w6,w7,w8,w9,w10,w11] (9:Int)∧w5=sel [w0,w1,w2,w3,w4,w5,w6,w7,w8,w9,w10,w11] (5:Int)∧True)∧vld (8:Int) w4 w9 w5=vld (8:Int) (sel
 [w0,w1,w2,w3,w4,w5,w6,w7,w8,w9,w10,w11] (4:Int)) (sel [w0,w1,w2,w3,w4,w5,w6,w7,w8,w9,w10,w11] (9:Int)) (sel [w0,w1,w2,w3,w4,w5,w6,w7,w8,w9,w10,w11] (5:Int))∧True)∧((-9223372036854775808:Int)≤(9:Int)∧(9:Int)≤(9223372036854775807:Int)→(IR9 w0)∧(IR9 w1)∧((-9223372036854775808:Int) ≤
 w2∧w2≤(9223372036854775807:Int))∧(IR9 w3)∧(IR9 w4)∧(IR9 w5)∧(IR9 w6)∧(IR9 w7)∧((-9223372036854775808:Int)≤w8∧w8 ≤
 (9223372036854775807:Int))∧(IR9 w9)∧(IR9 w10)∧(IR9 w11)∧True→True∧((9:Int)=9∧w5=sel [w0,w1,w2,w3,w4,w5,w6,w7,w8,w9,w10,w11] (5:Int)∧w10=sel [w0,w1,w2,w3,w4,w5,w6,w7,w8,w9,w10,w11] (10:Int)∧w1=sel
 [w0,w1,w2,w3,w4,w5,w6,w7,w8,w9,w10,w11] (1:Int)∧True)∧vld (9:Int) w5 w10 w1=vld (9:Int) (sel [w0,w1,w2,w3,w4,w5,w6,w7,w8,w9,w10,w11] (5:Int)) (sel [w0,w1,w2,w3,w4,w5,w6,w7,w8,w9,w10,w11] (10:Int)) (sel [w0,w1,w2,w3,w4,w5,w6,w7,w8,w9,w10,w11] (1:Int))∧True)∧((-9223372036854775808:Int)≤(10:Int)∧(10:Int)≤(9223372036854775807:Int)→((-9223372036854775808:Int)≤w0∧w0 ≤
 (9223372036854775807:Int))∧(IR9 w1)∧(IR9 w2)∧(IR9 w3)∧(IR9 w4)∧(IR9 w5)∧((-9223372036854775808:Int)≤w6∧w6 ≤
 (9223372036854775807:Int))∧(IR9 w7)∧(IR9 w8)∧(IR9 w9)∧(IR9 w10)∧(IR9 w11)∧True→True∧((10:Int)=10∧w6=sel
 [w0,w1,w2,w3,w4,w5,w6,w7,w8,w9,w10,w11] (6:Int)∧w7=sel [w0,w1,w2,w3,w4,w5,w6,w7,w8,w9,w10,w11] (7:Int)∧w2=sel [w0,w1,w2,w3,w4,w5,w6,w7,w8,w9,w10,w11] (2:Int)∧True)∧vld (10:Int) w6 w7 w2=vld (10:Int) (sel [w0,w1,w2,w3,w4,w5,w6,w7,w8,w9,w10,w11] (6:Int)) (sel [w0,w1,w2,w3,w4,w5,w6,w7,w8,w9,w10,w11] (7:Int)) (sel [w0,w1,w2,w3,w4,w5,w6,w7,w8,w9,w10,w11] (2:Int))∧True)∧((-9223372036854775808:Int) ≤
 (11:Int)∧(11:Int)≤(9223372036854775807:Int)→(IR9 w0)∧(IR9 w1)∧(IR9 w2)∧(IR9 w3)∧(IR9 w4)∧((-9223372036854775808:Int) ≤
 w5∧w5≤(9223372036854775807:Int))∧(IR9 w6)∧(IR9 w7)∧(IR9 w8)∧(IR9 w9)∧(IR9 w10)∧((-9223372036854775808:Int)≤w11∧w11 ≤
 (9223372036854775807:Int))∧True→True∧((11:Int)=11∧w7=sel [w0,w1,w2,w3,w4,w5,w6,w7,w8,w9,w10,w11] (7:Int)∧w8=sel [w0,w1,w2,w3,w4,w5,w6,w7,w8,w9,w10,w11] (8:Int)∧w3=sel [w0,w1,w2,w3,w4,w5,w6,w7,w8,w9,w10,w11] (3:Int)∧True)∧vld (11:Int) w7 w8 w3=vld (11:Int) (sel [w0,w1,w2,w3,w4,w5,w6,w7,w8,w9,w10,w11] (7:Int)) (sel [w0,w1,w2,w3,w4,w5,w6,w7,w8,w9,w10,w11] (8:Int)) (sel
 [w0,w1,w2,w3,w4,w5,w6,w7,w8,w9,w10,w11] (3:Int))∧True)∧((-9223372036854775808:Int)≤(12:Int)∧(12:Int)≤(9223372036854775807:Int)→(IR9 w0)∧(IR9 w1)∧(IR9 w2)∧((-9223372036854775808:Int)≤w3∧w3 ≤
 (9223372036854775807:Int))∧(IR9 w4)∧(IR9 w5)∧(IR9 w6)∧(IR9 w7)∧(IR9 w8)∧((-9223372036854775808:Int)≤w9∧w9 ≤
 (9223372036854775807:Int))∧(IR9 w10)∧(IR9 w11)∧True→True∧((12:Int)=12∧w8=sel [w0,w1,w2,w3,w4,w5,w6,w7,w8,w9,w10,w11] (8:Int)∧w9=sel [w0,w1,w2,w3,w4,w5,w6,w7,w8,w9,w10,w11] (9:Int)∧w4=sel [w0,w1,w2,w3,w4,w5,w6,w7,w8,w9,w10,w11] (4:Int)∧True)∧vld (12:Int) w8 w9 w4=vld (12:Int) (sel
 [w0,w1,w2,w3,w4,w5,w6,w7,w8,w9,w10,w11] (8:Int)) (sel [w0,w1,w2,w3,w4,w5,w6,w7,w8,w9,w10,w11] (9:Int)) (sel [w0,w1,w2,w3,w4,w5,w6,w7,w8,w9,w10,w11] (4:Int))∧True)∧((-9223372036854775808:Int)≤(13:Int)∧(13:Int)≤(9223372036854775807:Int)→(IR9 w0)∧(IR9 w1)∧((-9223372036854775808:Int) ≤
 w2∧w2≤(9223372036854775807:Int))∧(IR9 w3)∧(IR9 w4)∧(IR9 w5)∧(IR9 w6)∧(IR9 w7)∧((-9223372036854775808:Int)≤w8∧w8 ≤
 (9223372036854775807:Int))∧(IR9 w9)∧(IR9 w10)∧(IR9 w11)∧True→True∧((13:Int)=13∧w9=sel [w0,w1,w2,w3,w4,w5,w6,w7,w8,w9,w10,w11] (9:Int)∧w10=sel [w0,w1,w2,w3,w4,w5,w6,w7,w8,w9,w10,w11] (10:Int)∧w5=sel
 [w0,w1,w2,w3,w4,w5,w6,w7,w8,w9,w10,w11] (5:Int)∧True)∧vld (13:Int) w9 w10 w5=vld (13:Int) (sel [w0,w1,w2,w3,w4,w5,w6,w7,w8,w9,w10,w11] (9:Int)) (sel [w0,w1,w2,w3,w4,w5,w6,w7,w8,w9,w10,w11] (10:Int)) (sel [w0,w1,w2,w3,w4,w5,w6,w7,w8,w9,w10,w11] (5:Int))∧True)∧((-9223372036854775808:Int)≤(14:Int)∧(14:Int)≤(9223372036854775807:Int)→((-9223372036854775808:Int)≤w0∧w0 ≤
 (9223372036854775807:Int))∧(IR9 w1)∧(IR9 w2)∧(IR9 w3)∧(IR9 w4)∧(IR9 w5)∧((-9223372036854775808:Int)≤w6∧w6 ≤
 (9223372036854775807:Int))∧(IR9 w7)∧(IR9 w8)∧(IR9 w9)∧(IR9 w10)∧(IR9 w11)∧True→True∧((14:Int)=14∧w10=sel
 [w0,w1,w2,w3,w4,w5,w6,w7,w8,w9,w10,w11] (10:Int)∧w6=sel [w0,w1,w2,w3,w4,w5,w6,w7,w8,w9,w10,w11] (6:Int)∧w1=sel [w0,w1,w2,w3,w4,w5,w6,w7,w8,w9,w10,w11] (1:Int)∧True)∧vld (14:Int) w10 w6 w1=vld (14:Int) (sel [w0,w1,w2,w3,w4,w5,w6,w7,w8,w9,w10,w11] (10:Int)) (sel [w0,w1,w2,w3,w4,w5,w6,w7,w8,w9,w10,w11] (6:Int)) (sel [w0,w1,w2,w3,w4,w5,w6,w7,w8,w9,w10,w11] (1:Int))∧True)∧((-9223372036854775808:Int) ≤
 (15:Int)∧(15:Int)≤(9223372036854775807:Int)→(IR9 w0)∧(IR9 w1)∧(IR9 w2)∧(IR9 w3)∧(IR9 w4)∧((-9223372036854775808:Int) ≤
 w5∧w5≤(9223372036854775807:Int))∧(IR9 w6)∧(IR9 w7)∧(IR9 w8)∧(IR9 w9)∧(IR9 w10)∧((-9223372036854775808:Int)≤w11∧w11 ≤
 (9223372036854775807:Int))∧True→True∧((15:Int)=15∧w11=sel [w0,w1,w2,w3,w4,w5,w6,w7,w8,w9,w10,w11] (11:Int)∧w7=sel [w0,w1,w2,w3,w4,w5,w6,w7,w8,w9,w10,w11] (7:Int)∧w6=sel [w0,w1,w2,w3,w4,w5,w6,w7,w8,w9,w10,w11] (6:Int)∧True)∧vld (15:Int) w11 w7 w6=vld (15:Int) (sel [w0,w1,w2,w3,w4,w5,w6,w7,w8,w9,w10,w11] (11:Int)) (sel [w0,w1,w2,w3,w4,w5,w6,w7,w8,w9,w10,w11] (7:Int)) (sel
 [w0,w1,w2,w3,w4,w5,w6,w7,w8,w9,w10,w11] (6:Int))∧True)∧((-9223372036854775808:Int)≤(16:Int)∧(16:Int)≤(9223372036854775807:Int)→(IR9 w0)∧(IR9 w1)∧(IR9 w2)∧((-9223372036854775808:Int)≤w3∧w3 ≤
 (9223372036854775807:Int))∧(IR9 w4)∧(IR9 w5)∧(IR9 w6)∧(IR9 w7)∧(IR9 w8)∧((-9223372036854775808:Int)≤w9∧w9 ≤
 (9223372036854775807:Int))∧(IR9 w10)∧(IR9 w11)∧True→True∧((16:Int)=16∧w11=sel [w0,w1,w2,w3,w4,w5,w6,w7,w8,w9,w10,w11] (11:Int)∧w8=sel [w0,w1,w2,w3,w4,w5,w6,w7,w8,w9,w10,w11] (8:Int)∧w7=sel [w0,w1,w2,w3,w4,w5,w6,w7,w8,w9,w10,w11] (7:Int)∧True)∧vld (16:Int) w11 w8 w7=vld (16:Int) (sel
 [w0,w1,w2,w3,w4,w5,w6,w7,w8,w9,w10,w11] (11:Int)) (sel [w0,w1,w2,w3,w4,w5,w6,w7,w8,w9,w10,w11] (8:Int)) (sel [w0,w1,w2,w3,w4,w5,w6,w7,w8,w9,w10,w11] (7:Int))∧True)∧((-9223372036854775808:Int)≤(17:Int)∧(17:Int)≤(9223372036854775807:Int)→(IR9 w0)∧(IR9 w1)∧((-9223372036854775808:Int) ≤
 w2∧w2≤(9223372036854775807:Int))∧(IR9 w3)∧(IR9 w4)∧(IR9 w5)∧(IR9 w6)∧(IR9 w7)∧((-9223372036854775808:Int)≤w8∧w8 ≤
 (9223372036854775807:Int))∧(IR9 w9)∧(IR9 w10)∧(IR9 w11)∧True→True∧((17:Int)=17∧w11=sel [w0,w1,w2,w3,w4,w5,w6,w7,w8,w9,w10,w11] (11:Int)∧w9=sel [w0,w1,w2,w3,w4,w5,w6,w7,w8,w9,w10,w11] (9:Int)∧w8=sel
 [w0,w1,w2,w3,w4,w5,w6,w7,w8,w9,w10,w11] (8:Int)∧True)∧vld (17:Int) w11 w9 w8=vld (17:Int) (sel [w0,w1,w2,w3,w4,w5,w6,w7,w8,w9,w10,w11] (11:Int)) (sel [w0,w1,w2,w3,w4,w5,w6,w7,w8,w9,w10,w11] (9:Int)) (sel [w0,w1,w2,w3,w4,w5,w6,w7,w8,w9,w10,w11] (8:Int))∧True)∧((-9223372036854775808:Int)≤(18:Int)∧(18:Int)≤(9223372036854775807:Int)→((-9223372036854775808:Int)≤w0∧w0 ≤
 (9223372036854775807:Int))∧(IR9 w1)∧(IR9 w2)∧(IR9 w3)∧(IR9 w4)∧(IR9 w5)∧((-9223372036854775808:Int)≤w6∧w6 ≤
 (9223372036854775807:Int))∧(IR9 w7)∧(IR9 w8)∧(IR9 w9)∧(IR9 w10)∧(IR9 w11)∧True→True∧((18:Int)=18∧w11=sel
 [w0,w1,w2,w3,w4,w5,w6,w7,w8,w9,w10,w11] (11:Int)∧w10=sel [w0,w1,w2,w3,w4,w5,w6,w7,w8,w9,w10,w11] (10:Int)∧w9=sel [w0,w1,w2,w3,w4,w5,w6,w7,w8,w9,w10,w11] (9:Int)∧True)∧vld (18:Int) w11 w10 w9=vld (18:Int) (sel [w0,w1,w2,w3,w4,w5,w6,w7,w8,w9,w10,w11] (11:Int)) (sel [w0,w1,w2,w3,w4,w5,w6,w7,w8,w9,w10,w11] (10:Int)) (sel [w0,w1,w2,w3,w4,w5,w6,w7,w8,w9,w10,w11] (9:Int))∧True)∧((-9223372036854775808:Int)
≤(19:Int)∧(19:Int)≤(9223372036854775807:Int)→(IR9 w0)∧(IR9 w1)∧(IR9 w2)∧(IR9 w3)∧(IR9 w4)∧((-9223372036854775808:Int)
≤w5∧w5≤(9223372036854775807:Int))∧(IR9 w6)∧(IR9 w7)∧(IR9 w8)∧(IR9 w9)∧(IR9 w10)∧((-9223372036854775808:Int)≤w11∧w11
≤(9223372036854775807:Int))∧True→True∧((19:Int)=19∧w11=sel [w0,w1,w2,w3,w4,w5,w6,w7,w8,w9,w10,w11] (11:Int)∧w6=sel [w0,w1,w2,w3,w4,w5,w6,w7,w8,w9,w10,w11] (6:Int)∧w10=sel [w0,w1,w2,w3,w4,w5,w6,w7,w8,w9,w10,w11] (10:Int)∧True)∧vld (19:Int) w11 w6 w10=vld (19:Int) (sel [w0,w1,w2,w3,w4,w5,w6,w7,w8,w9,w10,w11] (11:Int)) (sel [w0,w1,w2,w3,w4,w5,w6,w7,w8,w9,w10,w11] (6:Int)) (sel
 [w0,w1,w2,w3,w4,w5,w6,w7,w8,w9,w10,w11] (10:Int))∧True)∧True
theorem on20_P:on20_T:=by
 unfold on20_T
 intro w0 w1 w2 w3 w4 w5 w6 w7 w8 w9 w10 w11
 repeat' (first | exact trivial | intro _ | rfl | apply And.intro)
def on20_S:Prop:=∀ w0 w1 w2 w3 w4 w5 w6 w7 w8 w9 w10 w11:Int,allN fcs fun n=>fnK Tryd.prog { glob:=glb,spec:=lk [(89,valid_s vld)] } { nt:=28 } (fun _ _=>none) 6 Tryd.f91 [.int .i64 n,.agg [.int .i64 w0,.int .i64 w1,.int .i64 w2,.int .i64 w3,.int .i64 w4,.int .i64 w5,.int .i64 w6,.int .i64 w7,.int .i64 w8,.int .i64 w9,.int .i64 w10,.int .i64 w11]] (.tup [.agg [.int .i64 n,.int .i64 (sel [w0,w1,w2,w3,w4,w5,w6,w7,w8,w9,w10,w11] (crn n 0)),.int .i64 (sel [w0,w1,w2,w3,w4,w5,w6,w7,w8,w9,w10,w11] (crn n 1)),.int .i64 (sel [w0,w1,w2,w3,w4,w5,w6,w7,w8,w9,w10,w11] (crn n 2))],.bool (vld n (sel [w0,w1,w2,w3,w4,w5,w6,w7,w8,w9,w10,w11] (crn n 0)) (sel [w0,w1,w2,w3,w4,w5,w6,w7,w8,w9,w10,w11] (crn n 1)) (sel [w0,w1,w2,w3,w4,w5,w6,w7,w8,w9,w10,w11] (crn n 2)))])
theorem on20_e:on20_T=on20_S:=by kernel_rfl
theorem on20:on20_S:=@Eq.mp (on20_T) (on20_S) (on20_e) (on20_P)
theorem of_ok:SOK Tryd.prog glb 90 of_s:=by
 refine ⟨fok Tryd.func90 (by kernel_rfl) (by kernel_rfl),?_⟩
 intro xs pre r h hp
 unfold of_s at h
 split at h
 ·simp only [Option.some.injEq,Prod.mk.injEq] at h
  obtain ⟨h1,h2⟩:=h
  subst h1 h2
  exact fnK_sound tyNil (by exact specOK (l:=[]) (l':=[]) rfl rfl trivial trivial) (by kernel_rfl) Tryd.func90 rfl (allN_get (of20 _ _ _) (mem_fcs hp))
 ·cases h
theorem on_ok:SOK Tryd.prog glb 91 on_s:=by
 refine ⟨fok Tryd.func91 (by kernel_rfl) (by kernel_rfl),?_⟩
 intro xs pre r h hp
 unfold on_s at h
 split at h
 ·simp only [Option.some.injEq,Prod.mk.injEq] at h
  obtain ⟨h1,h2⟩:=h
  subst h1 h2
  exact fnK_sound tyNil (by exact specOK (l':=[]) rfl rfl ⟨valid_ok glb,trivial⟩ trivial) (by kernel_rfl) Tryd.func91 rfl (allN_get (on20 _ _ _ _ _ _ _ _ _ _ _ _) (mem_fcs hp))
 ·cases h
end Go.Proofs.YtldiagnbagpliaaDoor
namespace Go.Proofs.YtldiagnbagpliaaDoor
open Go
set_option linter.unusedVariables false
set_option linter.unusedSimpArgs false
def onW (f a b c n:Int) (k:Nat):Int:=wt f a b c (crn n k)
def onV (f a b c n:Int):Bool:=vld n (onW f a b c n 0) (onW f a b c n 1) (onW f a b c n 2)
def wts (f a b c:Int):List Int:=[wt f a b c 0,wt f a b c 1,wt f a b c 2,wt f a b c 3,wt f a b c 4,wt f a b c 5,wt f a b c 6,wt f a b c 7,wt f a b c 8,wt f a b c 9,wt f a b c 10,wt f a b c 11]
theorem sel_wts (f a b c:Int) {n:Int} (h:0≤n∧n < 20):sel (wts f a b c) (crn n 0)=onW f a b c n 0∧sel (wts f a b c) (crn n 1)=onW f a b c n 1∧sel (wts f a b c) (crn n 2)=onW f a b c n 2:=by
 refine allN_get (l:=fcs) (p:=fun n=>sel (wts f a b c) (crn n 0)=onW f a b c n 0∧sel (wts f a b c) (crn n 1)=onW f a b c n 1∧sel (wts f a b c) (crn n 2)=onW f a b c n 2) ?_ (mem_fcs h)
 simp only [allN,fcs]
 repeat' (first | exact trivial | rfl | apply And.intro)
def nrmL (f a b c:Int):List Int→Int × Int × Int × Int
 | []=>(f,a,b,c)
 | n::l=>if onV f a b c n then (n,onW f a b c n 0,onW f a b c n 1,onW f a b c n 2) else nrmL f a b c l
theorem nrmL_t {f a b c n:Int} {l:List Int} (h:onV f a b c n=true):nrmL f a b c (n::l)=(n,onW f a b c n 0,onW f a b c n 1,onW f a b c n 2):=by simp [nrmL,h]
theorem nrmL_f {f a b c n:Int} {l:List Int} (h:onV f a b c n=false):nrmL f a b c (n::l)=nrmL f a b c l:=by simp [nrmL,h]
def nrm (f a b c:Int):Int × Int × Int × Int:=if vld f a b c then nrmL f a b c fcs else (0,0,0,0)
def err (v:Bool):Int:=if v then 0 else 1
def sameW (f a b c f' a' b' c':Int):Bool:=decide (wts f a b c=wts f' a' b' c')
def normal_s (vld:Int→Int→Int→Int→Bool) (nrm:Int→Int→Int→Int→Int × Int × Int × Int):Sp
 | [.agg [.int .i64 f,.int .i64 a,.int .i64 b,.int .i64 c]]=>some (True,.tup [.agg [.int .i64 (nrm f a b c).1,.int .i64 (nrm f a b c).2.1,.int .i64 (nrm f a b c).2.2.1,.int .i64 (nrm f a b c).2.2.2],.int .i64 (err (vld f a b c))])
 | _=>none
def normal_T (vld:Int→Int→Int→Int→Bool) (nrm:Int→Int→Int→Int→Int × Int × Int × Int):Prop :=
  ∀ (f a b c:Int),(IR9 f)∧(IR9 a)∧(IR9 b)∧(IR9 c)∧True→True∧bif !YtldiagnbagpliaaDoor.vld f a b c then ((0:Int)=(nrm f a b c).fst∧(0:Int)=(nrm f a b c).snd.fst∧(0:Int)=(nrm f a b
 c).snd.snd.fst∧(0:Int)=(nrm f a b c).snd.snd.snd∧True)∧(1:Int)=err (vld f a b c)∧True else (0≤f∧f < (20:Int))∧((0:Int)≤(0:Int)∧(0:Int) < (20:Int))∧bif YtldiagnbagpliaaDoor.vld (0:Int) (sel [wt f a b c (0:Int),wt f a b c (1:Int),wt f a b c (2:Int),wt f a b c (3:Int),wt f a b c (4:Int),wt f a b c (5:Int),wt f a b c (6:Int),wt f a b c (7:Int),wt f a b c (8:Int),wt f a b c (9:Int),wt f a b c
 (10:Int),wt f a b c (11:Int)] (0:Int)) (sel [wt f a b c (0:Int),wt f a b c (1:Int),wt f a b c (2:Int),wt f a b c (3:Int),wt f a b c (4:Int),wt f a b c (5:Int),wt f a b c (6:Int),wt f a b c (7:Int),wt f a b c (8:Int),wt f a b c (9:Int),wt f a b c (10:Int),wt f a b c (11:Int)] (1:Int)) (sel [wt f a b c (0:Int),wt f a b c (1:Int),wt f a b c (2:Int),wt f a b c (3:Int),wt f a b c (4:Int),wt f a b c
 (5:Int),wt f a b c (6:Int),wt f a b c (7:Int),wt f a b c (8:Int),wt f a b c (9:Int),wt f a b c (10:Int),wt f a b c (11:Int)] (2:Int)) then ((0:Int)=(nrm f a b c).fst∧sel [wt f a b c (0:Int),wt f a b c (1:Int),wt f a b c (2:Int),wt f a b c (3:Int),wt f a b c (4:Int),wt f a b c (5:Int),wt f a b c (6:Int),wt f a b c (7:Int),wt f a b c (8:Int),wt f a b c (9:Int),wt f a b c (10:Int),wt f a b c (11:Int)]
 (0:Int)=(nrm f a b c).snd.fst∧sel [wt f a b c (0:Int),wt f a b c (1:Int),wt f a b c (2:Int),wt f a b c (3:Int),wt f a b c (4:Int),wt f a b c (5:Int),wt f a b c (6:Int),wt f a b c (7:Int),wt f a b c (8:Int),wt f a b c (9:Int),wt f a b c (10:Int),wt f a b c (11:Int)] (1:Int)=(nrm f a b c).snd.snd.fst∧sel [wt f a b c (0:Int),wt f a b c (1:Int),wt f a b c (2:Int),wt f a b c (3:Int),wt f a b c
 (4:Int),wt f a b c (5:Int),wt f a b c (6:Int),wt f a b c (7:Int),wt f a b c (8:Int),wt f a b c (9:Int),wt f a b c (10:Int),wt f a b c (11:Int)] (2:Int)=(nrm f a b c).snd.snd.snd∧True)∧(0:Int)=err (vld f a b c)∧True else ((0:Int)≤(1:Int)∧(1:Int) < (20:Int))∧bif YtldiagnbagpliaaDoor.vld (1:Int) (sel [wt f a b c (0:Int),wt f a b c (1:Int),wt f a b c (2:Int),wt f a b c (3:Int),wt f a b c (4:Int),wt f
 a b c (5:Int),wt f a b c (6:Int),wt f a b c (7:Int),wt f a b c (8:Int),wt f a b c (9:Int),wt f a b c (10:Int),wt f a b c (11:Int)] (0:Int)) (sel [wt f a b c (0:Int),wt f a b c (1:Int),wt f a b c (2:Int),wt f a b c (3:Int),wt f a b c (4:Int),wt f a b c (5:Int),wt f a b c (6:Int),wt f a b c (7:Int),wt f a b c (8:Int),wt f a b c (9:Int),wt f a b c (10:Int),wt f a b c (11:Int)] (2:Int)) (sel [wt f a b
 c (0:Int),wt f a b c (1:Int),wt f a b c (2:Int),wt f a b c (3:Int),wt f a b c (4:Int),wt f a b c (5:Int),wt f a b c (6:Int),wt f a b c (7:Int),wt f a b c (8:Int),wt f a b c (9:Int),wt f a b c (10:Int),wt f a b c (11:Int)] (3:Int)) then ((1:Int)=(nrm f a b c).fst∧sel [wt f a b c (0:Int),wt f a b c (1:Int),wt f a b c (2:Int),wt f a b c (3:Int),wt f a b c (4:Int),wt f a b c (5:Int),wt f a b c
 (6:Int),wt f a b c (7:Int),wt f a b c (8:Int),wt f a b c (9:Int),wt f a b c (10:Int),wt f a b c (11:Int)] (0:Int)=(nrm f a b c).snd.fst∧sel [wt f a b c (0:Int),wt f a b c (1:Int),wt f a b c (2:Int),wt f a b c (3:Int),wt f a b c (4:Int),wt f a b c (5:Int),wt f a b c (6:Int),wt f a b c (7:Int),wt f a b c (8:Int),wt f a b c (9:Int),wt f a b c (10:Int),wt f a b c (11:Int)] (2:Int)=(nrm f a b
 c).snd.snd.fst∧sel [wt f a b c (0:Int),wt f a b c (1:Int),wt f a b c (2:Int),wt f a b c (3:Int),wt f a b c (4:Int),wt f a b c (5:Int),wt f a b c (6:Int),wt f a b c (7:Int),wt f a b c (8:Int),wt f a b c (9:Int),wt f a b c (10:Int),wt f a b c (11:Int)] (3:Int)=(nrm f a b c).snd.snd.snd∧True)∧(0:Int)=err (vld f a b c)∧True else ((0:Int)≤(2:Int)∧(2:Int) < (20:Int))∧bif YtldiagnbagpliaaDoor.vld
 (2:Int) (sel [wt f a b c (0:Int),wt f a b c (1:Int),wt f a b c (2:Int),wt f a b c (3:Int),wt f a b c (4:Int),wt f a b c (5:Int),wt f a b c (6:Int),wt f a b c (7:Int),wt f a b c (8:Int),wt f a b c (9:Int),wt f a b c (10:Int),wt f a b c (11:Int)] (0:Int)) (sel [wt f a b c (0:Int),wt f a b c (1:Int),wt f a b c (2:Int),wt f a b c (3:Int),wt f a b c (4:Int),wt f a b c (5:Int),wt f a b c (6:Int),wt f a b
 c (7:Int),wt f a b c (8:Int),wt f a b c (9:Int),wt f a b c (10:Int),wt f a b c (11:Int)] (3:Int)) (sel [wt f a b c (0:Int),wt f a b c (1:Int),wt f a b c (2:Int),wt f a b c (3:Int),wt f a b c (4:Int),wt f a b c (5:Int),wt f a b c (6:Int),wt f a b c (7:Int),wt f a b c (8:Int),wt f a b c (9:Int),wt f a b c (10:Int),wt f a b c (11:Int)] (4:Int)) then ((2:Int)=(nrm f a b c).fst∧sel [wt f a b c
 (0:Int),wt f a b c (1:Int),wt f a b c (2:Int),wt f a b c (3:Int),wt f a b c (4:Int),wt f a b c (5:Int),wt f a b c (6:Int),wt f a b c (7:Int),wt f a b c (8:Int),wt f a b c (9:Int),wt f a b c (10:Int),wt f a b c (11:Int)] (0:Int)=(nrm f a b c).snd.fst∧sel [wt f a b c (0:Int),wt f a b c (1:Int),wt f a b c (2:Int),wt f a b c (3:Int),wt f a b c (4:Int),wt f a b c (5:Int),wt f a b c (6:Int),wt f a b c
 (7:Int),wt f a b c (8:Int),wt f a b c (9:Int),wt f a b c (10:Int),wt f a b c (11:Int)] (3:Int)=(nrm f a b c).snd.snd.fst∧sel [wt f a b c (0:Int),wt f a b c (1:Int),wt f a b c (2:Int),wt f a b c (3:Int),wt f a b c (4:Int),wt f a b c (5:Int),wt f a b c (6:Int),wt f a b c (7:Int),wt f a b c (8:Int),wt f a b c (9:Int),wt f a b c (10:Int),wt f a b c (11:Int)] (4:Int)=(nrm f a b
 c).snd.snd.snd∧True)∧(0:Int)=err (vld f a b c)∧True else ((0:Int)≤(3:Int)∧(3:Int) < (20:Int))∧bif YtldiagnbagpliaaDoor.vld (3:Int) (sel [wt f a b c (0:Int),wt f a b c (1:Int),wt f a b c (2:Int),wt f a b c (3:Int),wt f a b c (4:Int),wt f a b c (5:Int),wt f a b c (6:Int),wt f a b c (7:Int),wt f a b c (8:Int),wt f a b c (9:Int),wt f a b c (10:Int),wt f a b c (11:Int)] (0:Int)) (sel [wt f a b c
 (0:Int),wt f a b c (1:Int),wt f a b c (2:Int),wt f a b c (3:Int),wt f a b c (4:Int),wt f a b c (5:Int),wt f a b c (6:Int),wt f a b c (7:Int),wt f a b c (8:Int),wt f a b c (9:Int),wt f a b c (10:Int),wt f a b c (11:Int)] (4:Int)) (sel [wt f a b c (0:Int),wt f a b c (1:Int),wt f a b c (2:Int),wt f a b c (3:Int),wt f a b c (4:Int),wt f a b c (5:Int),wt f a b c (6:Int),wt f a b c (7:Int),wt f a b c
 (8:Int),wt f a b c (9:Int),wt f a b c (10:Int),wt f a b c (11:Int)] (5:Int)) then ((3:Int)=(nrm f a b c).fst∧sel [wt f a b c (0:Int),wt f a b c (1:Int),wt f a b c (2:Int),wt f a b c (3:Int),wt f a b c (4:Int),wt f a b c (5:Int),wt f a b c (6:Int),wt f a b c (7:Int),wt f a b c (8:Int),wt f a b c (9:Int),wt f a b c (10:Int),wt f a b c (11:Int)] (0:Int)=(nrm f a b c).snd.fst∧sel [wt f a b c (0:Int),wt
 f a b c (1:Int),wt f a b c (2:Int),wt f a b c (3:Int),wt f a b c (4:Int),wt f a b c (5:Int),wt f a b c (6:Int),wt f a b c (7:Int),wt f a b c (8:Int),wt f a b c (9:Int),wt f a b c (10:Int),wt f a b c (11:Int)] (4:Int)=(nrm f a b c).snd.snd.fst∧sel [wt f a b c (0:Int),wt f a b c (1:Int),wt f a b c (2:Int),wt f a b c (3:Int),wt f a b c (4:Int),wt f a b c (5:Int),wt f a b c (6:Int),wt f a b c
 (7:Int),wt f a b c (8:Int),wt f a b c (9:Int),wt f a b c (10:Int),wt f a b c (11:Int)] (5:Int)=(nrm f a b c).snd.snd.snd∧True)∧(0:Int)=err (vld f a b c)∧True else ((0:Int)≤(4:Int)∧(4:Int) < (20:Int))∧bif YtldiagnbagpliaaDoor.vld (4:Int) (sel [wt f a b c (0:Int),wt f a b c (1:Int),wt f a b c (2:Int),wt f a b c (3:Int),wt f a b c (4:Int),wt f a b c (5:Int),wt f a b c (6:Int),wt f a b c (7:Int),wt f
 a b c (8:Int),wt f a b c (9:Int),wt f a b c (10:Int),wt f a b c (11:Int)] (0:Int)) (sel [wt f a b c (0:Int),wt f a b c (1:Int),wt f a b c (2:Int),wt f a b c (3:Int),wt f a b c (4:Int),wt f a b c (5:Int),wt f a b c (6:Int),wt f a b c (7:Int),wt f a b c (8:Int),wt f a b c (9:Int),wt f a b c (10:Int),wt f a b c (11:Int)] (5:Int)) (sel [wt f a b c (0:Int),wt f a b c (1:Int),wt f a b c (2:Int),wt f a b
 c (3:Int),wt f a b c (4:Int),wt f a b c (5:Int),wt f a b c (6:Int),wt f a b c (7:Int),wt f a b c (8:Int),wt f a b c (9:Int),wt f a b c (10:Int),wt f a b c (11:Int)] (1:Int)) then ((4:Int)=(nrm f a b c).fst∧sel [wt f a b c (0:Int),wt f a b c (1:Int),wt f a b c (2:Int),wt f a b c (3:Int),wt f a b c (4:Int),wt f a b c (5:Int),wt f a b c (6:Int),wt f a b c (7:Int),wt f a b c (8:Int),wt f a b c
 (9:Int),wt f a b c (10:Int),wt f a b c (11:Int)] (0:Int)=(nrm f a b c).snd.fst∧sel [wt f a b c (0:Int),wt f a b c (1:Int),wt f a b c (2:Int),wt f a b c (3:Int),wt f a b c (4:Int),wt f a b c (5:Int),wt f a b c (6:Int),wt f a b c (7:Int),wt f a b c (8:Int),wt f a b c (9:Int),wt f a b c (10:Int),wt f a b c (11:Int)] (5:Int)=(nrm f a b c).snd.snd.fst∧sel [wt f a b c (0:Int),wt f a b c (1:Int),wt f a b
 c (2:Int),wt f a b c (3:Int),wt f a b c (4:Int),wt f a b c (5:Int),wt f a b c (6:Int),wt f a b c (7:Int),wt f a b c (8:Int),wt f a b c (9:Int),wt f a b c (10:Int),wt f a b c (11:Int)] (1:Int)=(nrm f a b c).snd.snd.snd∧True)∧(0:Int)=err (vld f a b c)∧True else ((0:Int)≤(5:Int)∧(5:Int) < (20:Int))∧bif YtldiagnbagpliaaDoor.vld (5:Int) (sel [wt f a b c (0:Int),wt f a b c (1:Int),wt f a b c (2:Int),wt
 f a b c (3:Int),wt f a b c (4:Int),wt f a b c (5:Int),wt f a b c (6:Int),wt f a b c (7:Int),wt f a b c (8:Int),wt f a b c (9:Int),wt f a b c (10:Int),wt f a b c (11:Int)] (1:Int)) (sel [wt f a b c (0:Int),wt f a b c (1:Int),wt f a b c (2:Int),wt f a b c (3:Int),wt f a b c (4:Int),wt f a b c (5:Int),wt f a b c (6:Int),wt f a b c (7:Int),wt f a b c (8:Int),wt f a b c (9:Int),wt f a b c (10:Int),wt f
 a b c (11:Int)] (6:Int)) (sel [wt f a b c (0:Int),wt f a b c (1:Int),wt f a b c (2:Int),wt f a b c (3:Int),wt f a b c (4:Int),wt f a b c (5:Int),wt f a b c (6:Int),wt f a b c (7:Int),wt f a b c (8:Int),wt f a b c (9:Int),wt f a b c (10:Int),wt f a b c (11:Int)] (2:Int)) then ((5:Int)=(nrm f a b c).fst∧sel [wt f a b c (0:Int),wt f a b c (1:Int),wt f a b c (2:Int),wt f a b c (3:Int),wt f a b c
 (4:Int),wt f a b c (5:Int),wt f a b c (6:Int),wt f a b c (7:Int),wt f a b c (8:Int),wt f a b c (9:Int),wt f a b c (10:Int),wt f a b c (11:Int)] (1:Int)=(nrm f a b c).snd.fst∧sel [wt f a b c (0:Int),wt f a b c (1:Int),wt f a b c (2:Int),wt f a b c (3:Int),wt f a b c (4:Int),wt f a b c (5:Int),wt f a b c (6:Int),wt f a b c (7:Int),wt f a b c (8:Int),wt f a b c (9:Int),wt f a b c (10:Int),wt f a b c
 (11:Int)] (6:Int)=(nrm f a b c).snd.snd.fst∧sel [wt f a b c (0:Int),wt f a b c (1:Int),wt f a b c (2:Int),wt f a b c (3:Int),wt f a b c (4:Int),wt f a b c (5:Int),wt f a b c (6:Int),wt f a b c (7:Int),wt f a b c (8:Int),wt f a b c (9:Int),wt f a b c (10:Int),wt f a b c (11:Int)] (2:Int)=(nrm f a b c).snd.snd.snd∧True)∧(0:Int)=err (vld f a b c)∧True else ((0:Int)≤(6:Int)∧(6:Int) < (20:Int))∧bif
 YtldiagnbagpliaaDoor.vld (6:Int) (sel [wt f a b c (0:Int),wt f a b c (1:Int),wt f a b c (2:Int),wt f a b c (3:Int),wt f a b c (4:Int),wt f a b c (5:Int),wt f a b c (6:Int),wt f a b c (7:Int),wt f a b c (8:Int),wt f a b c (9:Int),wt f a b c (10:Int),wt f a b c (11:Int)] (2:Int)) (sel [wt f a b c (0:Int),wt f a b c (1:Int),wt f a b c (2:Int),wt f a b c (3:Int),wt f a b c (4:Int),wt f a b c (5:Int),wt
 f a b c (6:Int),wt f a b c (7:Int),wt f a b c (8:Int),wt f a b c (9:Int),wt f a b c (10:Int),wt f a b c (11:Int)] (7:Int)) (sel [wt f a b c (0:Int),wt f a b c (1:Int),wt f a b c (2:Int),wt f a b c (3:Int),wt f a b c (4:Int),wt f a b c (5:Int),wt f a b c (6:Int),wt f a b c (7:Int),wt f a b c (8:Int),wt f a b c (9:Int),wt f a b c (10:Int),wt f a b c (11:Int)] (3:Int)) then ((6:Int)=(nrm f a b
 c).fst∧sel [wt f a b c (0:Int),wt f a b c (1:Int),wt f a b c (2:Int),wt f a b c (3:Int),wt f a b c (4:Int),wt f a b c (5:Int),wt f a b c (6:Int),wt f a b c (7:Int),wt f a b c (8:Int),wt f a b c (9:Int),wt f a b c (10:Int),wt f a b c (11:Int)] (2:Int)=(nrm f a b c).snd.fst∧sel [wt f a b c (0:Int),wt f a b c (1:Int),wt f a b c (2:Int),wt f a b c (3:Int),wt f a b c (4:Int),wt f a b c (5:Int),wt f a b
 c (6:Int),wt f a b c (7:Int),wt f a b c (8:Int),wt f a b c (9:Int),wt f a b c (10:Int),wt f a b c (11:Int)] (7:Int)=(nrm f a b c).snd.snd.fst∧sel [wt f a b c (0:Int),wt f a b c (1:Int),wt f a b c (2:Int),wt f a b c (3:Int),wt f a b c (4:Int),wt f a b c (5:Int),wt f a b c (6:Int),wt f a b c (7:Int),wt f a b c (8:Int),wt f a b c (9:Int),wt f a b c (10:Int),wt f a b c (11:Int)] (3:Int)=(nrm f a b
 c).snd.snd.snd∧True)∧(0:Int)=err (vld f a b c)∧True else ((0:Int)≤(7:Int)∧(7:Int) < (20:Int))∧bif YtldiagnbagpliaaDoor.vld (7:Int) (sel [wt f a b c (0:Int),wt f a b c (1:Int),wt f a b c (2:Int),wt f a b c (3:Int),wt f a b c (4:Int),wt f a b c (5:Int),wt f a b c (6:Int),wt f a b c (7:Int),wt f a b c (8:Int),wt f a b c (9:Int),wt f a b c (10:Int),wt f a b c (11:Int)] (3:Int)) (sel [wt f a b c
 (0:Int),wt f a b c (1:Int),wt f a b c (2:Int),wt f a b c (3:Int),wt f a b c (4:Int),wt f a b c (5:Int),wt f a b c (6:Int),wt f a b c (7:Int),wt f a b c (8:Int),wt f a b c (9:Int),wt f a b c (10:Int),wt f a b c (11:Int)] (8:Int)) (sel [wt f a b c (0:Int),wt f a b c (1:Int),wt f a b c (2:Int),wt f a b c (3:Int),wt f a b c (4:Int),wt f a b c (5:Int),wt f a b c (6:Int),wt f a b c (7:Int),wt f a b c
 (8:Int),wt f a b c (9:Int),wt f a b c (10:Int),wt f a b c (11:Int)] (4:Int)) then ((7:Int)=(nrm f a b c).fst∧sel [wt f a b c (0:Int),wt f a b c (1:Int),wt f a b c (2:Int),wt f a b c (3:Int),wt f a b c (4:Int),wt f a b c (5:Int),wt f a b c (6:Int),wt f a b c (7:Int),wt f a b c (8:Int),wt f a b c (9:Int),wt f a b c (10:Int),wt f a b c (11:Int)] (3:Int)=(nrm f a b c).snd.fst∧sel [wt f a b c (0:Int),wt
 f a b c (1:Int),wt f a b c (2:Int),wt f a b c (3:Int),wt f a b c (4:Int),wt f a b c (5:Int),wt f a b c (6:Int),wt f a b c (7:Int),wt f a b c (8:Int),wt f a b c (9:Int),wt f a b c (10:Int),wt f a b c (11:Int)] (8:Int)=(nrm f a b c).snd.snd.fst∧sel [wt f a b c (0:Int),wt f a b c (1:Int),wt f a b c (2:Int),wt f a b c (3:Int),wt f a b c (4:Int),wt f a b c (5:Int),wt f a b c (6:Int),wt f a b c
 (7:Int),wt f a b c (8:Int),wt f a b c (9:Int),wt f a b c (10:Int),wt f a b c (11:Int)] (4:Int)=(nrm f a b c).snd.snd.snd∧True)∧(0:Int)=err (vld f a b c)∧True else ((0:Int)≤(8:Int)∧(8:Int) < (20:Int))∧bif YtldiagnbagpliaaDoor.vld (8:Int) (sel [wt f a b c (0:Int),wt f a b c (1:Int),wt f a b c (2:Int),wt f a b c (3:Int),wt f a b c (4:Int),wt f a b c (5:Int),wt f a b c (6:Int),wt f a b c (7:Int),wt f
 a b c (8:Int),wt f a b c (9:Int),wt f a b c (10:Int),wt f a b c (11:Int)] (4:Int)) (sel [wt f a b c (0:Int),wt f a b c (1:Int),wt f a b c (2:Int),wt f a b c (3:Int),wt f a b c (4:Int),wt f a b c (5:Int),wt f a b c (6:Int),wt f a b c (7:Int),wt f a b c (8:Int),wt f a b c (9:Int),wt f a b c (10:Int),wt f a b c (11:Int)] (9:Int)) (sel [wt f a b c (0:Int),wt f a b c (1:Int),wt f a b c (2:Int),wt f a b
 c (3:Int),wt f a b c (4:Int),wt f a b c (5:Int),wt f a b c (6:Int),wt f a b c (7:Int),wt f a b c (8:Int),wt f a b c (9:Int),wt f a b c (10:Int),wt f a b c (11:Int)] (5:Int)) then ((8:Int)=(nrm f a b c).fst∧sel [wt f a b c (0:Int),wt f a b c (1:Int),wt f a b c (2:Int),wt f a b c (3:Int),wt f a b c (4:Int),wt f a b c (5:Int),wt f a b c (6:Int),wt f a b c (7:Int),wt f a b c (8:Int),wt f a b c
 (9:Int),wt f a b c (10:Int),wt f a b c (11:Int)] (4:Int)=(nrm f a b c).snd.fst∧sel [wt f a b c (0:Int),wt f a b c (1:Int),wt f a b c (2:Int),wt f a b c (3:Int),wt f a b c (4:Int),wt f a b c (5:Int),wt f a b c (6:Int),wt f a b c (7:Int),wt f a b c (8:Int),wt f a b c (9:Int),wt f a b c (10:Int),wt f a b c (11:Int)] (9:Int)=(nrm f a b c).snd.snd.fst∧sel [wt f a b c (0:Int),wt f a b c (1:Int),wt f a b
 c (2:Int),wt f a b c (3:Int),wt f a b c (4:Int),wt f a b c (5:Int),wt f a b c (6:Int),wt f a b c (7:Int),wt f a b c (8:Int),wt f a b c (9:Int),wt f a b c (10:Int),wt f a b c (11:Int)] (5:Int)=(nrm f a b c).snd.snd.snd∧True)∧(0:Int)=err (vld f a b c)∧True else ((0:Int)≤(9:Int)∧(9:Int) < (20:Int))∧bif YtldiagnbagpliaaDoor.vld (9:Int) (sel [wt f a b c (0:Int),wt f a b c (1:Int),wt f a b c (2:Int),wt
 f a b c (3:Int),wt f a b c (4:Int),wt f a b c (5:Int),wt f a b c (6:Int),wt f a b c (7:Int),wt f a b c (8:Int),wt f a b c (9:Int),wt f a b c (10:Int),wt f a b c (11:Int)] (5:Int)) (sel [wt f a b c (0:Int),wt f a b c (1:Int),wt f a b c (2:Int),wt f a b c (3:Int),wt f a b c (4:Int),wt f a b c (5:Int),wt f a b c (6:Int),wt f a b c (7:Int),wt f a b c (8:Int),wt f a b c (9:Int),wt f a b c (10:Int),wt f
 a b c (11:Int)] (10:Int)) (sel [wt f a b c (0:Int),wt f a b c (1:Int),wt f a b c (2:Int),wt f a b c (3:Int),wt f a b c (4:Int),wt f a b c (5:Int),wt f a b c (6:Int),wt f a b c (7:Int),wt f a b c (8:Int),wt f a b c (9:Int),wt f a b c (10:Int),wt f a b c (11:Int)] (1:Int)) then ((9:Int)=(nrm f a b c).fst∧sel [wt f a b c (0:Int),wt f a b c (1:Int),wt f a b c (2:Int),wt f a b c (3:Int),wt f a b c
 (4:Int),wt f a b c (5:Int),wt f a b c (6:Int),wt f a b c (7:Int),wt f a b c (8:Int),wt f a b c (9:Int),wt f a b c (10:Int),wt f a b c (11:Int)] (5:Int)=(nrm f a b c).snd.fst∧sel [wt f a b c (0:Int),wt f a b c (1:Int),wt f a b c (2:Int),wt f a b c (3:Int),wt f a b c (4:Int),wt f a b c (5:Int),wt f a b c (6:Int),wt f a b c (7:Int),wt f a b c (8:Int),wt f a b c (9:Int),wt f a b c (10:Int),wt f a b c
 (11:Int)] (10:Int)=(nrm f a b c).snd.snd.fst∧sel [wt f a b c (0:Int),wt f a b c (1:Int),wt f a b c (2:Int),wt f a b c (3:Int),wt f a b c (4:Int),wt f a b c (5:Int),wt f a b c (6:Int),wt f a b c (7:Int),wt f a b c (8:Int),wt f a b c (9:Int),wt f a b c (10:Int),wt f a b c (11:Int)] (1:Int)=(nrm f a b c).snd.snd.snd∧True)∧(0:Int)=err (vld f a b c)∧True else ((0:Int)≤(10:Int)∧(10:Int) < (20:Int))∧bif
 YtldiagnbagpliaaDoor.vld (10:Int) (sel [wt f a b c (0:Int),wt f a b c (1:Int),wt f a b c (2:Int),wt f a b c (3:Int),wt f a b c (4:Int),wt f a b c (5:Int),wt f a b c (6:Int),wt f a b c (7:Int),wt f a b c (8:Int),wt f a b c (9:Int),wt f a b c (10:Int),wt f a b c (11:Int)] (6:Int)) (sel [wt f a b c (0:Int),wt f a b c (1:Int),wt f a b c (2:Int),wt f a b c (3:Int),wt f a b c (4:Int),wt f a b c
 (5:Int),wt f a b c (6:Int),wt f a b c (7:Int),wt f a b c (8:Int),wt f a b c (9:Int),wt f a b c (10:Int),wt f a b c (11:Int)] (7:Int)) (sel [wt f a b c (0:Int),wt f a b c (1:Int),wt f a b c (2:Int),wt f a b c (3:Int),wt f a b c (4:Int),wt f a b c (5:Int),wt f a b c (6:Int),wt f a b c (7:Int),wt f a b c (8:Int),wt f a b c (9:Int),wt f a b c (10:Int),wt f a b c (11:Int)] (2:Int)) then ((10:Int)=(nrm f
 a b c).fst∧sel [wt f a b c (0:Int),wt f a b c (1:Int),wt f a b c (2:Int),wt f a b c (3:Int),wt f a b c (4:Int),wt f a b c (5:Int),wt f a b c (6:Int),wt f a b c (7:Int),wt f a b c (8:Int),wt f a b c (9:Int),wt f a b c (10:Int),wt f a b c (11:Int)] (6:Int)=(nrm f a b c).snd.fst∧sel [wt f a b c (0:Int),wt f a b c (1:Int),wt f a b c (2:Int),wt f a b c (3:Int),wt f a b c (4:Int),wt f a b c (5:Int),wt f
 a b c (6:Int),wt f a b c (7:Int),wt f a b c (8:Int),wt f a b c (9:Int),wt f a b c (10:Int),wt f a b c (11:Int)] (7:Int)=(nrm f a b c).snd.snd.fst∧sel [wt f a b c (0:Int),wt f a b c (1:Int),wt f a b c (2:Int),wt f a b c (3:Int),wt f a b c (4:Int),wt f a b c (5:Int),wt f a b c (6:Int),wt f a b c (7:Int),wt f a b c (8:Int),wt f a b c (9:Int),wt f a b c (10:Int),wt f a b c (11:Int)] (2:Int)=(nrm f a b
 c).snd.snd.snd∧True)∧(0:Int)=err (vld f a b c)∧True else ((0:Int)≤(11:Int)∧(11:Int) < (20:Int))∧bif YtldiagnbagpliaaDoor.vld (11:Int) (sel [wt f a b c (0:Int),wt f a b c (1:Int),wt f a b c (2:Int),wt f a b c (3:Int),wt f a b c (4:Int),wt f a b c (5:Int),wt f a b c (6:Int),wt f a b c (7:Int),wt f a b c (8:Int),wt f a b c (9:Int),wt f a b c (10:Int),wt f a b c (11:Int)] (7:Int)) (sel [wt f a b c
 (0:Int),wt f a b c (1:Int),wt f a b c (2:Int),wt f a b c (3:Int),wt f a b c (4:Int),wt f a b c (5:Int),wt f a b c (6:Int),wt f a b c (7:Int),wt f a b c (8:Int),wt f a b c (9:Int),wt f a b c (10:Int),wt f a b c (11:Int)] (8:Int)) (sel [wt f a b c (0:Int),wt f a b c (1:Int),wt f a b c (2:Int),wt f a b c (3:Int),wt f a b c (4:Int),wt f a b c (5:Int),wt f a b c (6:Int),wt f a b c (7:Int),wt f a b c
 (8:Int),wt f a b c (9:Int),wt f a b c (10:Int),wt f a b c (11:Int)] (3:Int)) then ((11:Int)=(nrm f a b c).fst∧sel [wt f a b c (0:Int),wt f a b c (1:Int),wt f a b c (2:Int),wt f a b c (3:Int),wt f a b c (4:Int),wt f a b c (5:Int),wt f a b c (6:Int),wt f a b c (7:Int),wt f a b c (8:Int),wt f a b c (9:Int),wt f a b c (10:Int),wt f a b c (11:Int)] (7:Int)=(nrm f a b c).snd.fst∧sel [wt f a b c
 (0:Int),wt f a b c (1:Int),wt f a b c (2:Int),wt f a b c (3:Int),wt f a b c (4:Int),wt f a b c (5:Int),wt f a b c (6:Int),wt f a b c (7:Int),wt f a b c (8:Int),wt f a b c (9:Int),wt f a b c (10:Int),wt f a b c (11:Int)] (8:Int)=(nrm f a b c).snd.snd.fst∧sel [wt f a b c (0:Int),wt f a b c (1:Int),wt f a b c (2:Int),wt f a b c (3:Int),wt f a b c (4:Int),wt f a b c (5:Int),wt f a b c (6:Int),wt f a b
 c (7:Int),wt f a b c (8:Int),wt f a b c (9:Int),wt f a b c (10:Int),wt f a b c (11:Int)] (3:Int)=(nrm f a b c).snd.snd.snd∧True)∧(0:Int)=err (vld f a b c)∧True else ((0:Int)≤(12:Int)∧(12:Int) < (20:Int))∧bif YtldiagnbagpliaaDoor.vld (12:Int) (sel [wt f a b c (0:Int),wt f a b c (1:Int),wt f a b c (2:Int),wt f a b c (3:Int),wt f a b c (4:Int),wt f a b c (5:Int),wt f a b c (6:Int),wt f a b c
 (7:Int),wt f a b c (8:Int),wt f a b c (9:Int),wt f a b c (10:Int),wt f a b c (11:Int)] (8:Int)) (sel [wt f a b c (0:Int),wt f a b c (1:Int),wt f a b c (2:Int),wt f a b c (3:Int),wt f a b c (4:Int),wt f a b c (5:Int),wt f a b c (6:Int),wt f a b c (7:Int),wt f a b c (8:Int),wt f a b c (9:Int),wt f a b c (10:Int),wt f a b c (11:Int)] (9:Int)) (sel [wt f a b c (0:Int),wt f a b c (1:Int),wt f a b c
 (2:Int),wt f a b c (3:Int),wt f a b c (4:Int),wt f a b c (5:Int),wt f a b c (6:Int),wt f a b c (7:Int),wt f a b c (8:Int),wt f a b c (9:Int),wt f a b c (10:Int),wt f a b c (11:Int)] (4:Int)) then ((12:Int)=(nrm f a b c).fst∧sel [wt f a b c (0:Int),wt f a b c (1:Int),wt f a b c (2:Int),wt f a b c (3:Int),wt f a b c (4:Int),wt f a b c (5:Int),wt f a b c (6:Int),wt f a b c (7:Int),wt f a b c
 (8:Int),wt f a b c (9:Int),wt f a b c (10:Int),wt f a b c (11:Int)] (8:Int)=(nrm f a b c).snd.fst∧sel [wt f a b c (0:Int),wt f a b c (1:Int),wt f a b c (2:Int),wt f a b c (3:Int),wt f a b c (4:Int),wt f a b c (5:Int),wt f a b c (6:Int),wt f a b c (7:Int),wt f a b c (8:Int),wt f a b c (9:Int),wt f a b c (10:Int),wt f a b c (11:Int)] (9:Int)=(nrm f a b c).snd.snd.fst∧sel [wt f a b c (0:Int),wt f a b
 c (1:Int),wt f a b c (2:Int),wt f a b c (3:Int),wt f a b c (4:Int),wt f a b c (5:Int),wt f a b c (6:Int),wt f a b c (7:Int),wt f a b c (8:Int),wt f a b c (9:Int),wt f a b c (10:Int),wt f a b c (11:Int)] (4:Int)=(nrm f a b c).snd.snd.snd∧True)∧(0:Int)=err (vld f a b c)∧True else ((0:Int)≤(13:Int)∧(13:Int) < (20:Int))∧bif YtldiagnbagpliaaDoor.vld (13:Int) (sel [wt f a b c (0:Int),wt f a b c
 (1:Int),wt f a b c (2:Int),wt f a b c (3:Int),wt f a b c (4:Int),wt f a b c (5:Int),wt f a b c (6:Int),wt f a b c (7:Int),wt f a b c (8:Int),wt f a b c (9:Int),wt f a b c (10:Int),wt f a b c (11:Int)] (9:Int)) (sel [wt f a b c (0:Int),wt f a b c (1:Int),wt f a b c (2:Int),wt f a b c (3:Int),wt f a b c (4:Int),wt f a b c (5:Int),wt f a b c (6:Int),wt f a b c (7:Int),wt f a b c (8:Int),wt f a b c
 (9:Int),wt f a b c (10:Int),wt f a b c (11:Int)] (10:Int)) (sel [wt f a b c (0:Int),wt f a b c (1:Int),wt f a b c (2:Int),wt f a b c (3:Int),wt f a b c (4:Int),wt f a b c (5:Int),wt f a b c (6:Int),wt f a b c (7:Int),wt f a b c (8:Int),wt f a b c (9:Int),wt f a b c (10:Int),wt f a b c (11:Int)] (5:Int)) then ((13:Int)=(nrm f a b c).fst∧sel [wt f a b c (0:Int),wt f a b c (1:Int),wt f a b c
 (2:Int),wt f a b c (3:Int),wt f a b c (4:Int),wt f a b c (5:Int),wt f a b c (6:Int),wt f a b c (7:Int),wt f a b c (8:Int),wt f a b c (9:Int),wt f a b c (10:Int),wt f a b c (11:Int)] (9:Int)=(nrm f a b c).snd.fst∧sel [wt f a b c (0:Int),wt f a b c (1:Int),wt f a b c (2:Int),wt f a b c (3:Int),wt f a b c (4:Int),wt f a b c (5:Int),wt f a b c (6:Int),wt f a b c (7:Int),wt f a b c (8:Int),wt f a b c
 (9:Int),wt f a b c (10:Int),wt f a b c (11:Int)] (10:Int)=(nrm f a b c).snd.snd.fst∧sel [wt f a b c (0:Int),wt f a b c (1:Int),wt f a b c (2:Int),wt f a b c (3:Int),wt f a b c (4:Int),wt f a b c (5:Int),wt f a b c (6:Int),wt f a b c (7:Int),wt f a b c (8:Int),wt f a b c (9:Int),wt f a b c (10:Int),wt f a b c (11:Int)] (5:Int)=(nrm f a b c).snd.snd.snd∧True)∧(0:Int)=err (vld f a b c)∧True else
 ((0:Int)≤(14:Int)∧(14:Int) < (20:Int))∧bif YtldiagnbagpliaaDoor.vld (14:Int) (sel [wt f a b c (0:Int),wt f a b c (1:Int),wt f a b c (2:Int),wt f a b c (3:Int),wt f a b c (4:Int),wt f a b c (5:Int),wt f a b c (6:Int),wt f a b c (7:Int),wt f a b c (8:Int),wt f a b c (9:Int),wt f a b c (10:Int),wt f a b c (11:Int)] (10:Int)) (sel [wt f a b c (0:Int),wt f a b c (1:Int),wt f a b c (2:Int),wt f a b c
 (3:Int),wt f a b c (4:Int),wt f a b c (5:Int),wt f a b c (6:Int),wt f a b c (7:Int),wt f a b c (8:Int),wt f a b c (9:Int),wt f a b c (10:Int),wt f a b c (11:Int)] (6:Int)) (sel [wt f a b c (0:Int),wt f a b c (1:Int),wt f a b c (2:Int),wt f a b c (3:Int),wt f a b c (4:Int),wt f a b c (5:Int),wt f a b c (6:Int),wt f a b c (7:Int),wt f a b c (8:Int),wt f a b c (9:Int),wt f a b c (10:Int),wt f a b c
 (11:Int)] (1:Int)) then ((14:Int)=(nrm f a b c).fst∧sel [wt f a b c (0:Int),wt f a b c (1:Int),wt f a b c (2:Int),wt f a b c (3:Int),wt f a b c (4:Int),wt f a b c (5:Int),wt f a b c (6:Int),wt f a b c (7:Int),wt f a b c (8:Int),wt f a b c (9:Int),wt f a b c (10:Int),wt f a b c (11:Int)] (10:Int)=(nrm f a b c).snd.fst∧sel [wt f a b c (0:Int),wt f a b c (1:Int),wt f a b c (2:Int),wt f a b c
 (3:Int),wt f a b c (4:Int),wt f a b c (5:Int),wt f a b c (6:Int),wt f a b c (7:Int),wt f a b c (8:Int),wt f a b c (9:Int),wt f a b c (10:Int),wt f a b c (11:Int)] (6:Int)=(nrm f a b c).snd.snd.fst∧sel [wt f a b c (0:Int),wt f a b c (1:Int),wt f a b c (2:Int),wt f a b c (3:Int),wt f a b c (4:Int),wt f a b c (5:Int),wt f a b c (6:Int),wt f a b c (7:Int),wt f a b c (8:Int),wt f a b c (9:Int),wt f a b
 c (10:Int),wt f a b c (11:Int)] (1:Int)=(nrm f a b c).snd.snd.snd∧True)∧(0:Int)=err (vld f a b c)∧True else ((0:Int)≤(15:Int)∧(15:Int) < (20:Int))∧bif YtldiagnbagpliaaDoor.vld (15:Int) (sel [wt f a b c (0:Int),wt f a b c (1:Int),wt f a b c (2:Int),wt f a b c (3:Int),wt f a b c (4:Int),wt f a b c (5:Int),wt f a b c (6:Int),wt f a b c (7:Int),wt f a b c (8:Int),wt f a b c (9:Int),wt f a b c
 (10:Int),wt f a b c (11:Int)] (11:Int)) (sel [wt f a b c (0:Int),wt f a b c (1:Int),wt f a b c (2:Int),wt f a b c (3:Int),wt f a b c (4:Int),wt f a b c (5:Int),wt f a b c (6:Int),wt f a b c (7:Int),wt f a b c (8:Int),wt f a b c (9:Int),wt f a b c (10:Int),wt f a b c (11:Int)] (7:Int)) (sel [wt f a b c (0:Int),wt f a b c (1:Int),wt f a b c (2:Int),wt f a b c (3:Int),wt f a b c (4:Int),wt f a b c
 (5:Int),wt f a b c (6:Int),wt f a b c (7:Int),wt f a b c (8:Int),wt f a b c (9:Int),wt f a b c (10:Int),wt f a b c (11:Int)] (6:Int)) then ((15:Int)=(nrm f a b c).fst∧sel [wt f a b c (0:Int),wt f a b c (1:Int),wt f a b c (2:Int),wt f a b c (3:Int),wt f a b c (4:Int),wt f a b c (5:Int),wt f a b c (6:Int),wt f a b c (7:Int),wt f a b c (8:Int),wt f a b c (9:Int),wt f a b c (10:Int),wt f a b c
 (11:Int)] (11:Int)=(nrm f a b c).snd.fst∧sel [wt f a b c (0:Int),wt f a b c (1:Int),wt f a b c (2:Int),wt f a b c (3:Int),wt f a b c (4:Int),wt f a b c (5:Int),wt f a b c (6:Int),wt f a b c (7:Int),wt f a b c (8:Int),wt f a b c (9:Int),wt f a b c (10:Int),wt f a b c (11:Int)] (7:Int)=(nrm f a b c).snd.snd.fst∧sel [wt f a b c (0:Int),wt f a b c (1:Int),wt f a b c (2:Int),wt f a b c (3:Int),wt f a b
 c (4:Int),wt f a b c (5:Int),wt f a b c (6:Int),wt f a b c (7:Int),wt f a b c (8:Int),wt f a b c (9:Int),wt f a b c (10:Int),wt f a b c (11:Int)] (6:Int)=(nrm f a b c).snd.snd.snd∧True)∧(0:Int)=err (vld f a b c)∧True else ((0:Int)≤(16:Int)∧(16:Int) < (20:Int))∧bif YtldiagnbagpliaaDoor.vld (16:Int) (sel [wt f a b c (0:Int),wt f a b c (1:Int),wt f a b c (2:Int),wt f a b c (3:Int),wt f a b c
 (4:Int),wt f a b c (5:Int),wt f a b c (6:Int),wt f a b c (7:Int),wt f a b c (8:Int),wt f a b c (9:Int),wt f a b c (10:Int),wt f a b c (11:Int)] (11:Int)) (sel [wt f a b c (0:Int),wt f a b c (1:Int),wt f a b c (2:Int),wt f a b c (3:Int),wt f a b c (4:Int),wt f a b c (5:Int),wt f a b c (6:Int),wt f a b c (7:Int),wt f a b c (8:Int),wt f a b c (9:Int),wt f a b c (10:Int),wt f a b c (11:Int)] (8:Int))
 (sel [wt f a b c (0:Int),wt f a b c (1:Int),wt f a b c (2:Int),wt f a b c (3:Int),wt f a b c (4:Int),wt f a b c (5:Int),wt f a b c (6:Int),wt f a b c (7:Int),wt f a b c (8:Int),wt f a b c (9:Int),wt f a b c (10:Int),wt f a b c (11:Int)] (7:Int)) then ((16:Int)=(nrm f a b c).fst∧sel [wt f a b c (0:Int),wt f a b c (1:Int),wt f a b c (2:Int),wt f a b c (3:Int),wt f a b c (4:Int),wt f a b c (5:Int),wt
 f a b c (6:Int),wt f a b c (7:Int),wt f a b c (8:Int),wt f a b c (9:Int),wt f a b c (10:Int),wt f a b c (11:Int)] (11:Int)=(nrm f a b c).snd.fst∧sel [wt f a b c (0:Int),wt f a b c (1:Int),wt f a b c (2:Int),wt f a b c (3:Int),wt f a b c (4:Int),wt f a b c (5:Int),wt f a b c (6:Int),wt f a b c (7:Int),wt f a b c (8:Int),wt f a b c (9:Int),wt f a b c (10:Int),wt f a b c (11:Int)] (8:Int)=(nrm f a b
 c).snd.snd.fst∧sel [wt f a b c (0:Int),wt f a b c (1:Int),wt f a b c (2:Int),wt f a b c (3:Int),wt f a b c (4:Int),wt f a b c (5:Int),wt f a b c (6:Int),wt f a b c (7:Int),wt f a b c (8:Int),wt f a b c (9:Int),wt f a b c (10:Int),wt f a b c (11:Int)] (7:Int)=(nrm f a b c).snd.snd.snd∧True)∧(0:Int)=err (vld f a b c)∧True else ((0:Int)≤(17:Int)∧(17:Int) < (20:Int))∧bif YtldiagnbagpliaaDoor.vld
 (17:Int) (sel [wt f a b c (0:Int),wt f a b c (1:Int),wt f a b c (2:Int),wt f a b c (3:Int),wt f a b c (4:Int),wt f a b c (5:Int),wt f a b c (6:Int),wt f a b c (7:Int),wt f a b c (8:Int),wt f a b c (9:Int),wt f a b c (10:Int),wt f a b c (11:Int)] (11:Int)) (sel [wt f a b c (0:Int),wt f a b c (1:Int),wt f a b c (2:Int),wt f a b c (3:Int),wt f a b c (4:Int),wt f a b c (5:Int),wt f a b c (6:Int),wt f a
 b c (7:Int),wt f a b c (8:Int),wt f a b c (9:Int),wt f a b c (10:Int),wt f a b c (11:Int)] (9:Int)) (sel [wt f a b c (0:Int),wt f a b c (1:Int),wt f a b c (2:Int),wt f a b c (3:Int),wt f a b c (4:Int),wt f a b c (5:Int),wt f a b c (6:Int),wt f a b c (7:Int),wt f a b c (8:Int),wt f a b c (9:Int),wt f a b c (10:Int),wt f a b c (11:Int)] (8:Int)) then ((17:Int)=(nrm f a b c).fst∧sel [wt f a b c
 (0:Int),wt f a b c (1:Int),wt f a b c (2:Int),wt f a b c (3:Int),wt f a b c (4:Int),wt f a b c (5:Int),wt f a b c (6:Int),wt f a b c (7:Int),wt f a b c (8:Int),wt f a b c (9:Int),wt f a b c (10:Int),wt f a b c (11:Int)] (11:Int)=(nrm f a b c).snd.fst∧sel [wt f a b c (0:Int),wt f a b c (1:Int),wt f a b c (2:Int),wt f a b c (3:Int),wt f a b c (4:Int),wt f a b c (5:Int),wt f a b c (6:Int),wt f a b c
 (7:Int),wt f a b c (8:Int),wt f a b c (9:Int),wt f a b c (10:Int),wt f a b c (11:Int)] (9:Int)=(nrm f a b c).snd.snd.fst∧sel [wt f a b c (0:Int),wt f a b c (1:Int),wt f a b c (2:Int),wt f a b c (3:Int),wt f a b c (4:Int),wt f a b c (5:Int),wt f a b c (6:Int),wt f a b c (7:Int),wt f a b c (8:Int),wt f a b c (9:Int),wt f a b c (10:Int),wt f a b c (11:Int)] (8:Int)=(nrm f a b
 c).snd.snd.snd∧True)∧(0:Int)=err (vld f a b c)∧True else ((0:Int)≤(18:Int)∧(18:Int) < (20:Int))∧bif YtldiagnbagpliaaDoor.vld (18:Int) (sel [wt f a b c (0:Int),wt f a b c (1:Int),wt f a b c (2:Int),wt f a b c (3:Int),wt f a b c (4:Int),wt f a b c (5:Int),wt f a b c (6:Int),wt f a b c (7:Int),wt f a b c (8:Int),wt f a b c (9:Int),wt f a b c (10:Int),wt f a b c (11:Int)] (11:Int)) (sel [wt f a b c
 (0:Int),wt f a b c (1:Int),wt f a b c (2:Int),wt f a b c (3:Int),wt f a b c (4:Int),wt f a b c (5:Int),wt f a b c (6:Int),wt f a b c (7:Int),wt f a b c (8:Int),wt f a b c (9:Int),wt f a b c (10:Int),wt f a b c (11:Int)] (10:Int)) (sel [wt f a b c (0:Int),wt f a b c (1:Int),wt f a b c (2:Int),wt f a b c (3:Int),wt f a b c (4:Int),wt f a b c (5:Int),wt f a b c (6:Int),wt f a b c (7:Int),wt f a b c
 (8:Int),wt f a b c (9:Int),wt f a b c (10:Int),wt f a b c (11:Int)] (9:Int)) then ((18:Int)=(nrm f a b c).fst∧sel [wt f a b c (0:Int),wt f a b c (1:Int),wt f a b c (2:Int),wt f a b c (3:Int),wt f a b c (4:Int),wt f a b c (5:Int),wt f a b c (6:Int),wt f a b c (7:Int),wt f a b c (8:Int),wt f a b c (9:Int),wt f a b c (10:Int),wt f a b c (11:Int)] (11:Int)=(nrm f a b c).snd.fst∧sel [wt f a b c
 (0:Int),wt f a b c (1:Int),wt f a b c (2:Int),wt f a b c (3:Int),wt f a b c (4:Int),wt f a b c (5:Int),wt f a b c (6:Int),wt f a b c (7:Int),wt f a b c (8:Int),wt f a b c (9:Int),wt f a b c (10:Int),wt f a b c (11:Int)] (10:Int)=(nrm f a b c).snd.snd.fst∧sel [wt f a b c (0:Int),wt f a b c (1:Int),wt f a b c (2:Int),wt f a b c (3:Int),wt f a b c (4:Int),wt f a b c (5:Int),wt f a b c (6:Int),wt f a b
 c (7:Int),wt f a b c (8:Int),wt f a b c (9:Int),wt f a b c (10:Int),wt f a b c (11:Int)] (9:Int)=(nrm f a b c).snd.snd.snd∧True)∧(0:Int)=err (vld f a b c)∧True else ((0:Int)≤(19:Int)∧(19:Int) < (20:Int))∧bif YtldiagnbagpliaaDoor.vld (19:Int) (sel [wt f a b c (0:Int),wt f a b c (1:Int),wt f a b c (2:Int),wt f a b c (3:Int),wt f a b c (4:Int),wt f a b c (5:Int),wt f a b c (6:Int),wt f a b c
 (7:Int),wt f a b c (8:Int),wt f a b c (9:Int),wt f a b c (10:Int),wt f a b c (11:Int)] (11:Int)) (sel [wt f a b c (0:Int),wt f a b c (1:Int),wt f a b c (2:Int),wt f a b c (3:Int),wt f a b c (4:Int),wt f a b c (5:Int),wt f a b c (6:Int),wt f a b c (7:Int),wt f a b c (8:Int),wt f a b c (9:Int),wt f a b c (10:Int),wt f a b c (11:Int)] (6:Int)) (sel [wt f a b c (0:Int),wt f a b c (1:Int),wt f a b c
 (2:Int),wt f a b c (3:Int),wt f a b c (4:Int),wt f a b c (5:Int),wt f a b c (6:Int),wt f a b c (7:Int),wt f a b c (8:Int),wt f a b c (9:Int),wt f a b c (10:Int),wt f a b c (11:Int)] (10:Int)) then ((19:Int)=(nrm f a b c).fst∧sel [wt f a b c (0:Int),wt f a b c (1:Int),wt f a b c (2:Int),wt f a b c (3:Int),wt f a b c (4:Int),wt f a b c (5:Int),wt f a b c (6:Int),wt f a b c (7:Int),wt f a b c
 (8:Int),wt f a b c (9:Int),wt f a b c (10:Int),wt f a b c (11:Int)] (11:Int)=(nrm f a b c).snd.fst∧sel [wt f a b c (0:Int),wt f a b c (1:Int),wt f a b c (2:Int),wt f a b c (3:Int),wt f a b c (4:Int),wt f a b c (5:Int),wt f a b c (6:Int),wt f a b c (7:Int),wt f a b c (8:Int),wt f a b c (9:Int),wt f a b c (10:Int),wt f a b c (11:Int)] (6:Int)=(nrm f a b c).snd.snd.fst∧sel [wt f a b c (0:Int),wt f a b
 c (1:Int),wt f a b c (2:Int),wt f a b c (3:Int),wt f a b c (4:Int),wt f a b c (5:Int),wt f a b c (6:Int),wt f a b c (7:Int),wt f a b c (8:Int),wt f a b c (9:Int),wt f a b c (10:Int),wt f a b c (11:Int)] (10:Int)=(nrm f a b c).snd.snd.snd∧True)∧(0:Int)=err (vld f a b c)∧True else (f=(nrm f a b c).fst∧a=(nrm f a b c).snd.fst∧b=(nrm f a b c).snd.snd.fst∧c=(nrm f a b c).snd.snd.snd∧True)∧(0:Int)=err
 (vld f a b c)∧True
theorem normal_P:normal_T vld nrm:=by
  unfold normal_T
  intro f a b c h
  refine ⟨trivial,?_⟩
  unfold nrm err
  cases hv:vld f a b c with
  | false=>exact ⟨⟨rfl,rfl,rfl,rfl,trivial⟩,rfl,trivial⟩
  | true =>
    have v:Vld f a b c:=of_decide_eq_true hv
    rw [if_pos rfl]
    refine ⟨v.face,?_⟩
    unfold fcs
    iterate 20
      (refine ⟨⟨by decide,by decide⟩,csplit (fun h=>?_) (fun h=>?_)⟩
       · rw [nrmL_t (f:=f) (a:=a) (b:=b) (c:=c) h]; exact ⟨⟨rfl,rfl,rfl,rfl,trivial⟩,rfl,trivial⟩
       rw [nrmL_f (f:=f) (a:=a) (b:=b) (c:=c) h])
    exact ⟨⟨rfl,rfl,rfl,rfl,trivial⟩,rfl,trivial⟩
def normal_S (vld:Int→Int→Int→Int→Bool) (nrm:Int→Int→Int→Int→Int × Int × Int × Int):Prop:=∀ (f a b c:Int),fnK Tryd.prog { glob:=glb,spec:=lk [(89,(valid_s Go.Proofs.YtldiagnbagpliaaDoor.vld)),(90,of_s),(91,on_s)],specH:=lk [],nowf:=true } { nt:=27,drop:=drp [(1,768),(2,2048),(3,12288),(6,65536),(7,8257536),(9,16777216),(10,33554432),(11,67108864)] } (fun _ _=>none) 21 Tryd.f73 [.agg [.int .i64 f,.int .i64 a,.int .i64 b,.int .i64 c]] (.tup [.agg [.int .i64 (nrm f a b c).1,.int .i64 (nrm f a b c).2.1,.int .i64 (nrm f a b c).2.2.1,.int .i64 (nrm f a b c).2.2.2],.int .i64 (err (vld f a b c))])
theorem normal_e (vld:Int→Int→Int→Int→Bool) (nrm:Int→Int→Int→Int→Int × Int × Int × Int):normal_T vld nrm=normal_S vld nrm:=by kernel_rfl
theorem normal_v:normal_S vld nrm:=Eq.mp (normal_e ..) (normal_P)
theorem normal_ok:SOK Tryd.prog glb 73 (normal_s vld nrm):=by
 refine ⟨fok Tryd.func73 (by kernel_rfl) (by kernel_rfl),?_⟩
 intro xs pre r h hp
 unfold normal_s at h
 split at h
 ·simp only [Option.some.injEq,Prod.mk.injEq] at h
  obtain ⟨h1,h2⟩:=h
  subst h1 h2
  exact fnK_sound tyNil (by exact specOK rfl rfl ⟨(valid_ok glb),(of_ok),(on_ok),trivial⟩ trivial) (by kernel_rfl) Tryd.func73 rfl (normal_v  _ _ _ _)
 ·cases h
end Go.Proofs.YtldiagnbagpliaaDoor
namespace Go.Proofs.YtldiagnbagpliaaDoor
open Go
set_option linter.unusedVariables false
set_option linter.unusedSimpArgs false
def onRow (f a b c n:Int):List AV:=[.int .i64 n,.int .i64 (onW f a b c n 0),.int .i64 (onW f a b c n 1),.int .i64 (onW f a b c n 2)]
def adrR (f a b c:Int):Nat→List (List AV)
 | 0=>[]
 | n+1=>if onV f a b c n then adrR f a b c n++[onRow f a b c n] else adrR f a b c n
def adr (f a b c:Int):List (List AV):=if vld f a b c then adrR f a b c 20 else []
structure AdrP (f a b c:Int) (x:Int × List (List AV)):Prop where
 lo:0≤x.1
 hi:x.1≤20
 row:x.2=adrR f a b c x.1.toNat
theorem adr_len (f a b c:Int):∀ n,(adrR f a b c n).length≤n
 | 0=>by simp [adrR]
 | n+1=>by
  have:=adr_len f a b c n
  simp only [adrR]
  split
  ·simp; omega
  ·omega
theorem adr_step {f a b c n:Int} (h:0≤n):adrR f a b c (n+1).toNat=if onV f a b c n then adrR f a b c n.toNat++[onRow f a b c n] else adrR f a b c n.toNat:=by
 rw [show (n+1).toNat=n.toNat+1 by omega]
 simp only [adrR]
 rw [show ((n.toNat:Nat):Int)=n by omega]
end Go.Proofs.YtldiagnbagpliaaDoor
namespace Go.Proofs.YtldiagnbagpliaaDoor
open Go
set_option linter.unusedVariables false
set_option linter.unusedSimpArgs false
theorem vld_t {f a b c:Int} (h:Vld f a b c):vld f a b c=true:=decide_eq_true h
def pos (f v:Int):Nat:=if crn f 2=v then 2 else if crn f 1=v then 1 else if crn f 0=v then 0 else 3
def sel3 (a b c:Int) (k:Nat):Int:=match k with | 0=>a | 1=>b | 2=>c | _=>0
theorem wt_pos (f a b c v:Int):wt f a b c v=sel3 a b c (pos f v):=by
 unfold wt pos
 split
 ·rfl
 ·split
  ·rfl
  ·split <;> rfl
def allF (p:Int→Int→Bool):Bool:=fcs.all fun f=>fcs.all fun n=>p f n
theorem allF_get {p:Int→Int→Bool} (h:allF p=true) {f n:Int} (hf:0≤f∧f < 20) (hn:0≤n∧n < 20):p f n=true:=by
 unfold allF at h
 rw [List.all_eq_true] at h
 have h1:=h f (mem_fcs hf)
 rw [List.all_eq_true] at h1
 exact h1 n (mem_fcs hn)
def vts:List Int:=[0,1,2,3,4,5,6,7,8,9,10,11]
def okF (f n:Int):Bool:=decide (pos n (crn n 0)=0)&&decide (pos n (crn n 1)=1)&&decide (pos n (crn n 2)=2) &&
 (vts.all fun v=>decide (pos f v≤3)&&(decide (pos n v=3)||decide (v=crn n (pos n v))) &&
  (decide (pos n v≠3)||decide (pos f v=3)||(decide (pos f (crn n 0)≠pos f v)&&decide (pos f (crn n 1)≠pos f v)&&decide (pos f (crn n 2)≠pos f v)))) &&
 (decide (pos f (crn n 0)=3)||(decide (pos f (crn n 0)≠pos f (crn n 1))&&decide (pos f (crn n 0)≠pos f (crn n 2))))&&(decide (pos f (crn n 1)=3)||decide (pos f (crn n 1)≠pos f (crn n 2))) &&
 decide (pos f (crn n 0)≤3)&&decide (pos f (crn n 1)≤3)&&decide (pos f (crn n 2)≤3)
theorem okF_all:allF okF=true:=by decide +kernel
theorem miss {a b c:Int} (ha:0≤a) (hb:0≤b) (hc:0≤c) (hs:a+b+c=840) {p q r j:Nat} (hp:p≤3) (hq:q≤3) (hr:r≤3) (hj:j≤3)
  (h1:p=3∨(p≠q∧p≠r)) (h2:q=3∨q≠r) (hsum:sel3 a b c p+sel3 a b c q+sel3 a b c r=840) (j3:j=3∨(p≠j∧q≠j∧r≠j)):sel3 a b c j=0:=by
 have e:∀ {k:Nat},k≤3→k=0∨k=1∨k=2∨k=3:=by intro k hk; omega
 rcases e hp with rfl | rfl | rfl | rfl <;> rcases e hq with rfl | rfl | rfl | rfl <;> rcases e hr with rfl | rfl | rfl | rfl <;> rcases e hj with rfl | rfl | rfl | rfl <;> simp only [sel3] at hsum ⊢ <;> omega
theorem row_wt {f a b c n:Int} (hv:Vld f a b c) (hn:0≤n∧n < 20) (ho:onV f a b c n=true) {v:Int} (hvv:v ∈ vts) :
  wt n (onW f a b c n 0) (onW f a b c n 1) (onW f a b c n 2) v=wt f a b c v:=by
 have hV:Vld n (onW f a b c n 0) (onW f a b c n 1) (onW f a b c n 2):=of_decide_eq_true ho
 have ok:=allF_get okF_all hv.face hn
 simp only [okF,Bool.and_eq_true,Bool.or_eq_true,decide_eq_true_eq,List.all_eq_true] at ok
 obtain ⟨⟨⟨⟨⟨⟨⟨⟨o0,o1⟩,o2⟩,oa⟩,ob⟩,oc⟩,l0⟩,l1⟩,l2⟩:=ok
 obtain ⟨⟨m1,m2⟩,m3⟩:=oa v hvv
 have hs:=hV.sum
 simp only [onW,wt_pos] at hs
 rw [wt_pos,wt_pos]
 have pk:pos n v=0∨pos n v=1∨pos n v=2∨pos n v=3:=by unfold pos; (repeat' split) <;> simp
 rcases pk with e | e | e | e
 ·rw [e] at m2 ⊢; simp only [sel3,onW]; rw [wt_pos]; rw [← (m2.resolve_left (by decide))]; rfl
 ·rw [e] at m2 ⊢; simp only [sel3,onW]; rw [wt_pos]; rw [← (m2.resolve_left (by decide))]; rfl
 ·rw [e] at m2 ⊢; simp only [sel3,onW]; rw [wt_pos]; rw [← (m2.resolve_left (by decide))]; rfl
 ·rw [e]
  show (0:Int)=_
  refine (miss hv.wa.1 hv.wb.1 hv.wc.1 hv.sum l0 l1 l2 m1 ?_ ?_ hs ?_).symm
  ·exact ob
  ·exact oc
  ·rcases m3 with (h | h) | h
   ·exact absurd e h
   ·exact .inl h
   ·exact .inr ⟨h.1.1,h.1.2,h.2⟩
theorem crn_vts {n:Int} (hn:0≤n∧n < 20):crn n 0 ∈ vts∧crn n 1 ∈ vts∧crn n 2 ∈ vts:=by
 have:(fcs.all fun n=>decide (crn n 0 ∈ vts)&&decide (crn n 1 ∈ vts)&&decide (crn n 2 ∈ vts))=true:=by decide +kernel
 rw [List.all_eq_true] at this
 have:=this n (mem_fcs hn)
 simpa [and_assoc] using this
theorem onW_congr {f a b c f' a' b' c' n:Int} (hn:0≤n∧n < 20) (h:∀ v ∈ vts,wt f a b c v=wt f' a' b' c' v):onW f a b c n 0=onW f' a' b' c' n 0∧onW f a b c n 1=onW f' a' b' c' n 1∧onW f a b c n 2=onW f' a' b' c' n 2:=by
 obtain ⟨h0,h1,h2⟩:=crn_vts hn
 exact ⟨h _ h0,h _ h1,h _ h2⟩
theorem onV_congr {f a b c f' a' b' c' n:Int} (hn:0≤n∧n < 20) (h:∀ v ∈ vts,wt f a b c v=wt f' a' b' c' v):onV f a b c n=onV f' a' b' c' n:=by
 obtain ⟨h0,h1,h2⟩:=onW_congr hn h
 unfold onV; rw [h0,h1,h2]
theorem own_row {f a b c:Int} (hv:Vld f a b c):onW f a b c f 0=a∧onW f a b c f 1=b∧onW f a b c f 2=c∧onV f a b c f=true:=by
 have ok:=allF_get okF_all hv.face hv.face
 simp only [okF,Bool.and_eq_true,Bool.or_eq_true,decide_eq_true_eq,List.all_eq_true] at ok
 obtain ⟨⟨⟨⟨⟨⟨⟨⟨o0,o1⟩,o2⟩,_⟩,_⟩,_⟩,_⟩,_⟩,_⟩:=ok
 have e0:onW f a b c f 0=a:=by simp only [onW,wt_pos,o0,sel3]
 have e1:onW f a b c f 1=b:=by simp only [onW,wt_pos,o1,sel3]
 have e2:onW f a b c f 2=c:=by simp only [onW,wt_pos,o2,sel3]
 refine ⟨e0,e1,e2,?_⟩
 unfold onV; rw [e0,e1,e2]; exact decide_eq_true hv
theorem nrmL_congr {f a b c f' a' b' c':Int} (h:∀ v ∈ vts,wt f a b c v=wt f' a' b' c' v):∀ (l:List Int),(∀ n ∈ l,0≤n∧n < 20)→(∃ n ∈ l,onV f a b c n=true)→nrmL f a b c l=nrmL f' a' b' c' l
 | [],_,he=>by obtain ⟨n,hn,_⟩:=he; cases hn
 | n::l,hl,he=>by
  have hn:=hl n (List.mem_cons_self ..)
  obtain ⟨h0,h1,h2⟩:=onW_congr hn h
  have hv:=onV_congr hn h
  simp only [nrmL]
  rw [← hv,← h0,← h1,← h2]
  by_cases ho:onV f a b c n=true
  ·rw [if_pos ho,if_pos ho]
  ·rw [if_neg ho,if_neg ho]
   refine nrmL_congr h l (fun m hm=>hl m (List.mem_cons_of_mem _ hm)) ?_
   obtain ⟨m,hm,hmo⟩:=he
   rcases List.mem_cons.1 hm with rfl | hm
   ·exact absurd hmo ho
   ·exact ⟨m,hm,hmo⟩
theorem fcs_rng {n:Int} (h:n ∈ fcs):0≤n∧n < 20:=by simp only [fcs,List.mem_cons,List.not_mem_nil,or_false] at h; omega
theorem nrm_congr {f a b c f' a' b' c':Int} (hv:Vld f a b c) (hv':Vld f' a' b' c') (h:∀ v ∈ vts,wt f a b c v=wt f' a' b' c' v):nrm f a b c=nrm f' a' b' c':=by
 unfold nrm
 rw [if_pos (vld_t hv),if_pos (vld_t hv')]
 exact nrmL_congr h fcs (fun n hn=>fcs_rng hn) ⟨f,mem_fcs hv.face,(own_row hv).2.2.2⟩
theorem nrmL_row {f a b c:Int}:∀ (l:List Int),(∃ n ∈ l,onV f a b c n=true)→∃ n ∈ l,onV f a b c n=true∧nrmL f a b c l=(n,onW f a b c n 0,onW f a b c n 1,onW f a b c n 2)
 | [],he=>by obtain ⟨n,hn,_⟩:=he; cases hn
 | n::l,he=>by
  simp only [nrmL]
  by_cases ho:onV f a b c n=true
  ·exact ⟨n,List.mem_cons_self ..,ho,by rw [if_pos ho]⟩
  ·rw [if_neg ho]
   obtain ⟨m,hm,hmo⟩:=he
   rcases List.mem_cons.1 hm with rfl | hm
   ·exact absurd hmo ho
   ·obtain ⟨k,hk,h1,h2⟩:=nrmL_row l ⟨m,hm,hmo⟩
    exact ⟨k,List.mem_cons_of_mem _ hk,h1,h2⟩
theorem nrm_row {f a b c:Int} (hv:Vld f a b c):∃ n,(0≤n∧n < 20)∧onV f a b c n=true∧nrm f a b c=(n,onW f a b c n 0,onW f a b c n 1,onW f a b c n 2):=by
 unfold nrm
 rw [if_pos (vld_t hv)]
 obtain ⟨n,hn,h1,h2⟩:=nrmL_row (f:=f) (a:=a) (b:=b) (c:=c) fcs ⟨f,mem_fcs hv.face,(own_row hv).2.2.2⟩
 exact ⟨n,fcs_rng hn,h1,h2⟩
theorem sameW_iff (f a b c f' a' b' c':Int):sameW f a b c f' a' b' c'=true↔∀ v ∈ vts,wt f a b c v=wt f' a' b' c' v:=by
 unfold sameW wts vts
 rw [decide_eq_true_eq]
 simp only [List.cons.injEq,and_true,List.mem_cons,List.not_mem_nil,or_false,forall_eq_or_imp,forall_eq]
structure RowOf (f a b c n x y z:Int):Prop where
 vld:Vld n x y z
 nrm:nrm n x y z=nrm f a b c
 same:sameW n x y z f a b c=true
theorem row_of {f a b c n:Int} (hv:Vld f a b c) (hn:0≤n∧n < 20) (ho:onV f a b c n=true):RowOf f a b c n (onW f a b c n 0) (onW f a b c n 1) (onW f a b c n 2) :=
 have hV:Vld n (onW f a b c n 0) (onW f a b c n 1) (onW f a b c n 2):=of_decide_eq_true ho
 ⟨hV,nrm_congr hV hv fun v h=>row_wt hv hn ho h,(sameW_iff ..).2 fun v h=>row_wt hv hn ho h⟩
theorem adrR_eq (f a b c:Int):∀ k:Nat,k≤20→adrR f a b c k=((fcs.take k).filter (onV f a b c)).map (onRow f a b c)
 | 0,_=>rfl
 | k+1,h=>by
  have hk:k < 20:=by omega
  have e:fcs.take (k+1)=fcs.take k++[(k:Int)]:=by
   have:(List.range 20).all (fun k=>decide (fcs.take (k+1)=fcs.take k++[(k:Int)]))=true:=by decide +kernel
   rw [List.all_eq_true] at this
   simpa using this k (List.mem_range.2 hk)
  simp only [adrR]
  rw [adrR_eq f a b c k (by omega),e,List.filter_append]
  split
  ·next ho=>simp [ho]
  ·next ho=>simp [ho]
def fcsOf (f a b c:Int):List Int:=fcs.filter (onV f a b c)
theorem adr_map {f a b c:Int} (hv:Vld f a b c):adr f a b c=(fcsOf f a b c).map (onRow f a b c):=by
 unfold adr
 rw [if_pos (vld_t hv),adrR_eq f a b c 20 (by decide)]
 rfl
theorem fcs_sorted:fcs.Pairwise (· < ·):=by decide
theorem fcsOf_sorted (f a b c:Int):(fcsOf f a b c).Pairwise (· < ·):=fcs_sorted.filter _
theorem fcsOf_mem {f a b c n:Int}:n ∈ fcsOf f a b c↔(0≤n∧n < 20)∧onV f a b c n=true:=by
 unfold fcsOf
 rw [List.mem_filter]
 exact ⟨fun h=>⟨fcs_rng h.1,h.2⟩,fun h=>⟨mem_fcs h.1,h.2⟩⟩
def zc (a:Int):Int:=if a=0 then 1 else 0
def encP (r:Int × Int × Int × Int):List AV:=[.int .i64 r.1,.int .i64 r.2.1,.int .i64 r.2.2.1,.int .i64 r.2.2.2]
theorem nrmL_head {f a b c:Int}:∀ (l:List Int),nrmL f a b c l=((l.filter (onV f a b c)).map fun n=>(n,onW f a b c n 0,onW f a b c n 1,onW f a b c n 2)).headD (f,a,b,c)
 | []=>rfl
 | n::l=>by
  simp only [nrmL]
  by_cases h:onV f a b c n=true
  ·rw [if_pos h,List.filter_cons_of_pos h]; rfl
  ·rw [if_neg h,List.filter_cons_of_neg h]; exact nrmL_head l
structure Rows (f a b c:Int) (l:List (Int × Int × Int × Int)):Prop where
 adr:adr f a b c=l.map encP
 row:∀ r ∈ l,RowOf f a b c r.1 r.2.1 r.2.2.1 r.2.2.2
 asc:l.Pairwise fun r s=>r.1 < s.1
 own:(f,a,b,c) ∈ l
 head:l[0]?=some (nrm f a b c)
theorem adr_rows {f a b c:Int} (hv:Vld f a b c):∃ l,Rows f a b c l:=by
 refine ⟨(fcsOf f a b c).map fun n=>(n,onW f a b c n 0,onW f a b c n 1,onW f a b c n 2),?_,?_,?_,?_,?_⟩
 ·rw [adr_map hv,List.map_map]; rfl
 ·intro r hr
  obtain ⟨n,hn,rfl⟩:=List.mem_map.1 hr
  obtain ⟨h1,h2⟩:=fcsOf_mem.1 hn
  exact row_of hv h1 h2
 ·exact List.pairwise_map.2 (fcsOf_sorted f a b c)
 ·obtain ⟨e0,e1,e2,e3⟩:=own_row hv
  exact List.mem_map.2 ⟨f,fcsOf_mem.2 ⟨hv.face,e3⟩,by rw [e0,e1,e2]⟩
 ·have h1:nrm f a b c=nrmL f a b c fcs:=by unfold nrm; rw [if_pos (vld_t hv)]
  rw [h1,nrmL_head]
  have h2:f ∈ fcsOf f a b c:=fcsOf_mem.2 ⟨hv.face,(own_row hv).2.2.2⟩
  unfold fcsOf at h2 ⊢
  cases hf:fcs.filter (onV f a b c) with
  | nil=>rw [hf] at h2; cases h2
  | cons n l=>rfl
end Go.Proofs.YtldiagnbagpliaaDoor
